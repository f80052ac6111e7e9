import Derived.Shelf.Sort.Plain
import Derived.Shelf.Slices.In.SortNone
import Derived.Test.YteindpciaceeeaaGreatZSh29
set_option linter.all false
set_option maxHeartbeats 8000000
namespace Go.Sh
open Go Go.Proofs
variable [Con]
def wlS:aI Ob:=fun args h=>match args,h with
 | [.ptr 0 0],[some (.abs (.worker x) [])]=>some (.pre True (.ret (.I (W ((x.tk.length:Int) - x.en))) [some (.abs (.worker x) [])]))
 | _,_=>none
abbrev w31(x:WKS):Option (aH Ob):=cE' [.ptr 1 0,.tslice 2 0 x.tk.length 3,.I x.en,.raw (.pointer none),.slice 3 0 x.tl.length 1,.slice 4 0 x.sl.length 1]
theorem aFN(x:WKS)(K:AVal→aC Ob→Prop)(hK:K (.I (W ((x.tk.length:Int) - x.en))) [w31 x,some (.abs (.store x.t x.n x.st) []),some (.tab cK3 x.tk),iI' x.tl,iI' x.sl]):cT' 91 [.ptr 0 0] [w31 x,some (.abs (.store x.t x.n x.st) []),some (.tab cK3 x.tk),iI' x.tl,iI' x.sl] K:=by
 refine aGK (cM' (E:=EN1) (q:=K (.I (W ((↑x.4.length:Int) - x.5))) [cE' [.ptr 1 0,.tslice 2 0 x.4.length 3,.I x.5,.N,.slice 3 0 x.8.length 1,.slice 4 0 x.9.length 1],some (.abs (.store x.1 x.2 x.3) []),some (.tab cK3 x.4),iI' x.8,iI' x.9]) (by kernel_rfl) ?_)
 exact hK
abbrev w32(x:WKS):Option (aH Ob):=cE' [.ptr 1 0,.tslice 2 0 x.tk.length 3,.I x.en,.ptr 3 0,.slice 4 0 x.tl.length 1,.slice 5 0 x.sl.length 1]
theorem aFO(x:WKS)(K:AVal→aC Ob→Prop)(hK:K (.I (W ((x.tk.length:Int) - x.en))) [w32 x,some (.abs (.store x.t x.n x.st) []),some (.tab cK3 x.tk),some (.abs (.doer x.t x.n x.d) [1]),iI' x.tl,iI' x.sl]):cT' 91 [.ptr 0 0] [w32 x,some (.abs (.store x.t x.n x.st) []),some (.tab cK3 x.tk),some (.abs (.doer x.t x.n x.d) [1]),iI' x.tl,iI' x.sl] K:=by
 refine aGK (cM' (E:=EN1) (q:=K (.I (W ((↑x.4.length:Int) - x.5))) [cE' [.ptr 1 0,.tslice 2 0 x.4.length 3,.I x.5,.ptr 3 0,.slice 4 0 x.8.length 1,.slice 5 0 x.9.length 1],some (.abs (.store x.1 x.2 x.3) []),some (.tab cK3 x.4),some (.abs (.doer x.1 x.2 x.7) [1]),iI' x.8,iI' x.9]) (by kernel_rfl) ?_)
 exact hK
theorem aEM:sT' 91 wlS:=by
 intro args h o ho K hK;unfold wlS at ho;split at ho<;>cases ho
 rename_i x;obtain⟨ok,hK⟩:=hK;have hK:K (.I (W ((x.tk.length:Int) - x.en))) [some (.abs (.worker x) [])]:=hK;refine aGZ ?_;cases e:x.b with
 | false=>
   refine aGU (h2:=nV x) (aS.unpack (.worker x) 0 0 (nV x) [] rfl (congrArg (Prod.mk 0) (qX e)) rfl rfl) ?_;refine aFN x _ ⟨⟨_,_,aF.pack [some (.abs (.worker x) [])] (.worker x) 0 0 (nV x) [] (by kernel_rfl) rfl (congrArg (Prod.mk 0) (qX e)) (by kernel_rfl),hK⟩⟩
 | true=>
   refine aGU (h2:=sA x) (aS.unpack (.worker x) 0 0 (sA x) [] rfl (congrArg (Prod.mk 0) (xK e)) rfl rfl) ?_;refine aFO x _ ⟨⟨_,_,aF.pack [some (.abs (.worker x) [])] (.worker x) 0 0 (sA x) [] (by kernel_rfl) rfl (congrArg (Prod.mk 0) (xK e)) (by kernel_rfl),hK⟩⟩
noncomputable def EW1:=EN1.addS 91 wlS aEM
structure WK1 where
 t:Int
 n:Int
 st:STS
 tk:List (List Int)
 en:Int
 d:DOS
 tl:List Int
 sl:List Int
instance:Inhabited WK1:=⟨⟨0,0,⟨0,0,[]⟩,[],0,eB,[],[]⟩⟩
abbrev HO(x:WK1):aC Ob:=[cE' [.ptr 1 0,.tslice 2 0 x.tk.length 3,.I x.en,.ptr 3 0,.slice 4 0 x.tl.length 1,.slice 5 0 x.sl.length 1],some (.abs (.store x.t x.n x.st) []),some (.tab tkK x.tk),some (.abs (.doer x.t x.n x.d) [1]),iI' x.tl,iI' x.sl]
def aEL(x:WKS):WK1:=⟨x.t,x.n,x.st,x.tk,x.en,x.d,x.tl,x.sl⟩
def wbP(v:AVal)(g:aC Ob):Option (Prop×WK1):=match v,g with
 | .bool true,[some (.cells [.ptr 1 0,.tslice 2 0 k 3,.int .i64 en,.ptr 3 0,.slice 4 0 a 1,.slice 5 0 b 1]),some (.abs (.store t n st) []),some (.tab [some .i64,some .i64,some .i64] tk),some (.abs (.doer t1 n1 d) [1]),some (.ints (some .i64) tl),some (.ints (some .i64) sl)]=>some (k=tk.length∧a=tl.length∧b=sl.length∧t1=t∧n1=n,⟨t,n,st,tk,en,d,tl,sl⟩)
 | _,_=>none
theorem aCs:bV (obI tbl) 1 wbP (fun y=>.ret (.bool true) (HO y)):=by
 intro v g p x hp hq K hK;unfold wbP at hp;split at hp
 case h_2=>cases hp
 simp only [sI',pI']at hp;obtain⟨rfl,rfl⟩:=hp;obtain⟨rfl,rfl,rfl,rfl,rfl⟩:=hq;exact⟨⟨_,_,aGW _ _ _,hK⟩⟩
abbrev w33(x:WKS):=List.getD x.4 (0+Int.toNat x.5) []
def KZ(tr:Int)(x:WKS):Tr WK1:=.pre ((0:Int)≤x.5∧x.5<(↑x.4.length:Int)) (.pre (0+Int.toNat x.5<x.4.length) (.pre (MA x.1 x.2 (List.headD (w33 x) 0) (List.headD (List.tail (w33 x)) 0) (List.headD (List.tail (List.tail (w33 x))) 0) tr x.3∧True) (.pre (0=0∧lE' x.8∧1=1∧x.8.length+(1:Nat)≤(4294967296:Nat)) (.pre (lE' x.4∧x.8.length+(1:Nat)=List.length (x.8++ [0])∧lE' x.9∧x.1=x.1∧x.2=x.2) (.ret {x with st:=(dqNF x.1 x.2 (List.headD (w33 x) 0) (List.headD (List.tail (w33 x)) 0) (List.headD (List.tail (List.tail (w33 x))) 0) tr x.3).2,d:=(dqNF x.1 x.2 (List.headD (w33 x) 0) (List.headD (List.tail (w33 x)) 0) (List.headD (List.tail (List.tail (w33 x))) 0) tr x.3).1,tl:=x.8++ [0],sl:=x.9})))))
theorem W6(tr:Int)(x:WKS)(K:WK1→Prop)(h:(KZ tr x).run K):cT' 95 [.ptr 0 0,.I tr] [cE' [.ptr 1 0,.tslice 2 0 x.tk.length 3,.I x.en,.raw (.pointer none),.slice 3 0 x.tl.length 1,.slice 4 0 x.sl.length 1],some (.abs (.store x.t x.n x.st) []),some (.tab cK3 x.tk),iI' x.tl,iI' x.sl] (bP 1 0 [] [] wbP K):=by
 exact cM' (E:=EW1) (by kernel_rfl) h
theorem aFM(tr:Int)(x:WKS)(K:AVal→aC Ob→Prop)(hK:K (.bool false) (sA x)):cT' 95 [.ptr 0 0,.I tr] [cE' [.ptr 1 0,.tslice 2 0 x.tk.length 3,.I x.en,.ptr 3 0,.slice 4 0 x.tl.length 1,.slice 5 0 x.sl.length 1],some (.abs (.store x.t x.n x.st) []),some (.tab cK3 x.tk),some (.abs (.doer x.t x.n x.d) [1]),iI' x.tl,iI' x.sl] K:=by
 refine aGK (cM' (E:=EW1) (q:=K (.bool false) [cE' [.ptr 1 0,.tslice 2 0 x.4.length 3,.I x.5,.ptr 3 0,.slice 4 0 x.8.length 1,.slice 5 0 x.9.length 1],some (.abs (.store x.1 x.2 x.3) []),some (.tab cK3 x.4),some (.abs (.doer x.1 x.2 x.7) [1]),iI' x.8,iI' x.9]) (by kernel_rfl) ?_)
 exact hK
def wbF(tr:Int)(x:WKS):WK1:=bif x.b then aEL x else(KZ tr x).val
def QK(tr:Int)(x:WKS):Prop:=bif x.b then True else(KZ tr x).ok
def wbS:aI Ob:=fun args h=>match args,h with
 | [.ptr 0 0,.int .i64 tr],[some (.abs (.worker x) [])]=>some (.pre (QK tr x) (.ret (.bool (!x.b)) (HO (wbF tr x))))
 | _,_=>none
theorem aEG:sT' 95 wbS:=by
 intro args h o ho K hK;unfold wbS at ho;split at ho<;>cases ho
 rename_i tr x;obtain⟨ok,hK⟩:=hK;have hK:K (.bool (!x.b)) (HO (wbF tr x)):=hK;unfold wbF at hK;unfold QK at ok;cases e:x.b with
 | false=>
   rw [e]at ok hK;exact aGL (root:=0) (pos:=[]) (cs:=[]) (parse:=wbP) (fin:=fun y=>.ret (.bool true) (HO y)) aCs (aS.unpack (.worker x) 0 0 (nV x) [] rfl (congrArg (Prod.mk 0) (qX e)) rfl rfl) (W6 tr x _ (aGR ok hK))
 | true=>
   rw [e]at hK;exact aGU (h2:=sA x) (aS.unpack (.worker x) 0 0 (sA x) [] rfl (congrArg (Prod.mk 0) (xK e)) rfl rfl) (aFM tr x K hK)
noncomputable def EW2:=EW1.addS 95 wbS aEG
structure WkO where
 code:Int
 okk:Bool
 val:Int
 d:Bool
 x:WKS
 s:MS
instance:Inhabited WkO:=⟨⟨0,false,0,false,default,⟨0,0,[],0,0,0,0,0,false⟩⟩⟩
abbrev LB(y:WkO):aC Ob:=[some (.abs (.worker y.x) []),none,none,none,none,none,bE 7 y.s,bF y.s]
abbrev W8(y:WkO):AVal:=.tup [.agg [.I y.code,.bool y.okk,.I y.val],.bool y.d]
def aCx(v:AVal)(g:aC Ob):Option (Prop×WkO):=match v,g with
 | .tup [.agg [.int .i64 code,.bool okk,.int .i64 val],.bool dn],[some (.cells [.ptr 1 0,.tslice 2 0 k 3,.int .i64 en,.ptr 3 0,.slice 4 0 a 1,.slice 5 0 b 1]),some (.abs (.store t n st) []),some (.tab [some .i64,some .i64,some .i64] tk),some (.abs (.doer t1 n1 d) [1]),some (.ints (some .i64) tl),some (.ints (some .i64) sl),e1,e2]=>(match cO 7 [e1,e2]with
   | some (l,s)=>some (k=tk.length∧a=tl.length∧b=sl.length∧t1=t∧n1=n∧l=s.xs.length,⟨code,okk,val,dn,⟨t,n,st,tk,en,true,d,tl,sl⟩,s⟩)
   | none=>none)
 | _,_=>none
def aCw(v:AVal)(g:aC Ob):Option (Prop×WkO):=match v,g with
 | .tup [.agg [.int .i64 code,.bool okk,.int .i64 val],.bool dn],[some (.cells [.ptr 1 0,.tslice 2 0 k 3,.int .i64 en,.raw (.pointer none),.slice 4 0 a 1,.slice 5 0 b 1]),some (.abs (.store t n st) []),some (.tab [some .i64,some .i64,some .i64] tk),_,some (.ints (some .i64) tl),some (.ints (some .i64) sl),e1,e2]=>(match cO 7 [e1,e2]with
   | some (l,s)=>some (k=tk.length∧a=tl.length∧b=sl.length∧l=s.xs.length,⟨code,okk,val,dn,⟨t,n,st,tk,en,false,eB,tl,sl⟩,s⟩)
   | none=>none)
 | _,_=>none
def aCy(v:AVal)(g:aC Ob):Option (Prop×WkO):=match v,g with
 | .tup [.agg [.int .i64 code,.bool okk,.int .i64 val],.bool dn],[some (.cells [.ptr 1 0,.tslice 2 0 k 3,.int .i64 en,.raw (.pointer none),.slice 4 0 a 1,.slice 8 0 b 1]),some (.abs (.store t n st) []),some (.tab [some .i64,some .i64,some .i64] tk),_,some (.ints (some .i64) tl),_,e1,e2,some (.ints (some .i64) sl)]=>(match cO 7 [e1,e2]with
   | some (l,s)=>some (k=tk.length∧a=tl.length∧b=sl.length∧l=s.xs.length,⟨code,okk,val,dn,⟨t,n,st,tk,en,false,eB,tl,sl⟩,s⟩)
   | none=>none)
 | _,_=>none
def wsP(v:AVal)(g:aC Ob):Option (Prop×WkO):=match aCx v g with
 | some r=>some r
 | none=>(match aCw v g with
   | some r=>some r
   | none=>aCy v g)
theorem XC:bV (obI tbl) 8 aCx (fun y=>.ret (W8 y) (LB y)):=by
 intro v g p x hp hq K hK;unfold aCx at hp;split at hp
 case h_2=>cases hp
 rename_i code okk val dn k en a b t n st tk t1 n1 d tl sl e1 e2;split at hp
 case h_2=>cases hp
 rename_i l s hm;simp only [sI',pI']at hp;obtain⟨rfl,rfl⟩:=hp;obtain⟨rfl,rfl,rfl,rfl,rfl,hl⟩:=hq;have hh:=bD hm hl;cases hh;exact⟨⟨_,_,((aF.move 1 (of_decide_eq_true rfl)).trans ((aF.move 2 (of_decide_eq_true rfl)).trans ((aF.move 3 (of_decide_eq_true rfl)).trans ((aF.move 4 (of_decide_eq_true rfl)).trans ((aF.move 5 (of_decide_eq_true rfl)).trans ((aGQ (v2:=W8 ⟨code,okk,val,dn,⟨t1,n1,st,tk,en,true,d,tl,sl⟩,s⟩) (g2:=aM (LB ⟨code,okk,val,dn,⟨t1,n1,st,tk,en,true,d,tl,sl⟩,s⟩) 0 0 (sA ⟨t1,n1,st,tk,en,true,d,tl,sl⟩) []) (by kernel_rfl) (by kernel_rfl)).trans (aF.pack (LB ⟨code,okk,val,dn,⟨t1,n1,st,tk,en,true,d,tl,sl⟩,s⟩) (.worker ⟨t1,n1,st,tk,en,true,d,tl,sl⟩) 0 0 (sA ⟨t1,n1,st,tk,en,true,d,tl,sl⟩) [] rfl rfl (congrArg (Prod.mk 0) (xK rfl)) (by kernel_rfl)))))))),hK⟩⟩
theorem XB:bV (obI tbl) 8 aCw (fun y=>.ret (W8 y) (LB y)):=by
 intro v g p x hp hq K hK;unfold aCw at hp;split at hp
 case h_2=>cases hp
 rename_i code okk val dn k en a b t n st tk e3 tl sl e1 e2;split at hp
 case h_2=>cases hp
 rename_i l s hm;simp only [sI',pI']at hp;obtain⟨rfl,rfl⟩:=hp;obtain⟨rfl,rfl,rfl,hl⟩:=hq;have hh:=bD hm hl;cases hh;exact⟨⟨_,_,((aF.weak (jS _ 3 none trivial)).trans ((aF.move 1 (of_decide_eq_true rfl)).trans ((aF.move 2 (of_decide_eq_true rfl)).trans ((aF.move 4 (of_decide_eq_true rfl)).trans ((aF.move 5 (of_decide_eq_true rfl)).trans ((aGQ (v2:=W8 ⟨code,okk,val,dn,⟨t,n,st,tk,en,false,eB,tl,sl⟩,s⟩) (g2:=aM (LB ⟨code,okk,val,dn,⟨t,n,st,tk,en,false,eB,tl,sl⟩,s⟩) 0 0 (nV ⟨t,n,st,tk,en,false,eB,tl,sl⟩) []) (by kernel_rfl) (by kernel_rfl)).trans (aF.pack (LB ⟨code,okk,val,dn,⟨t,n,st,tk,en,false,eB,tl,sl⟩,s⟩) (.worker ⟨t,n,st,tk,en,false,eB,tl,sl⟩) 0 0 (nV ⟨t,n,st,tk,en,false,eB,tl,sl⟩) [] rfl rfl (congrArg (Prod.mk 0) (qX rfl)) (by kernel_rfl)))))))),hK⟩⟩
theorem XD:bV (obI tbl) 8 aCy (fun y=>.ret (W8 y) (LB y)):=by
 intro v g p x hp hq K hK;unfold aCy at hp;split at hp
 case h_2=>cases hp
 rename_i code okk val dn k en a b t n st tk e3 tl e4 e1 e2 sl;split at hp
 case h_2=>cases hp
 rename_i l s hm;simp only [sI',pI']at hp;obtain⟨rfl,rfl⟩:=hp;obtain⟨rfl,rfl,rfl,hl⟩:=hq;have hh:=bD hm hl;cases hh;exact⟨⟨_,_,((aF.weak (jS _ 3 none trivial)).trans ((aF.weak (jS _ 5 none trivial)).trans ((aF.move 1 (of_decide_eq_true rfl)).trans ((aF.move 2 (of_decide_eq_true rfl)).trans ((aF.move 4 (of_decide_eq_true rfl)).trans ((aF.move 8 (of_decide_eq_true rfl)).trans ((aF.pick [0,1,2,3,4,5,6,7,9,10,11,12] rfl).trans ((aGQ (v2:=W8 ⟨code,okk,val,dn,⟨t,n,st,tk,en,false,eB,tl,sl⟩,s⟩) (g2:=aM (LB ⟨code,okk,val,dn,⟨t,n,st,tk,en,false,eB,tl,sl⟩,s⟩) 0 0 (nV ⟨t,n,st,tk,en,false,eB,tl,sl⟩) []) (by kernel_rfl) (by kernel_rfl)).trans (aF.pack (LB ⟨code,okk,val,dn,⟨t,n,st,tk,en,false,eB,tl,sl⟩,s⟩) (.worker ⟨t,n,st,tk,en,false,eB,tl,sl⟩) 0 0 (nV ⟨t,n,st,tk,en,false,eB,tl,sl⟩) [] rfl rfl (congrArg (Prod.mk 0) (qX rfl)) (by kernel_rfl)))))))))),hK⟩⟩
theorem aCz:bV (obI tbl) 8 wsP (fun y=>.ret (W8 y) (LB y)):=by
 intro v g p x hp hq K hK;unfold wsP at hp;split at hp
 ·rename_i r hr;cases hp;exact XC v g p x hr hq K hK
 split at hp
 ·rename_i r hr;cases hp;exact XB v g p x hr hq K hK
 exact XD v g p x hp hq K hK
abbrev w34(s:MS)(x:WK1):=s5 x.1 x.2 x.6 x.3 s
abbrev w35(x:WK1):=W (List.getD x.7 (0+Int.toNat x.5*1) 0+1)
def wsT(x:WK1)(s:MS):Tr WkO:=.pre ((0:Int)≤x.5∧x.5<(↑x.7.length:Int)) (.pre (0+Int.toNat x.5*(1:Nat)<x.7.length) (.pre ((0:Int)≤x.5∧x.5<(↑x.7.length:Int)) (.pre (0+Int.toNat x.5*(1:Nat)<x.7.length) (.pre ((lE' s.3∧x.1=x.1∧x.2=x.2)∧SS x.1 x.2 x.6 x.3 s) (.ite (w34 s x).1 (.ite (DqO.x (w34 s x)).4 (.pre (0=0∧lE' x.8∧1=1∧x.8.length+(1:Nat)≤(4294967296:Nat)) (.pre (lE' x.4∧x.7.length=List.length (List.set x.7 (0+Int.toNat x.5*1) (w35 x))∧x.8.length+(1:Nat)=List.length (x.8++ [x.5])∧lE' (DqO.s (w34 s x)).3) (.ret {code:=(DqO.x (w34 s x)).1,okk:=(DqO.x (w34 s x)).2,val:=(DqO.x (w34 s x)).3,d:=true,x:= {x with st:=(w34 s x).3,en:=W (x.5+1),b:=false,d:=eB,tl:=List.set x.7 (0+Int.toNat x.5*1) (w35 x),sl:=x.8++ [x.5] },s:=(w34 s x).4}))) (.pre (lE' x.4∧x.7.length=List.length (List.set x.7 (0+Int.toNat x.5*1) (w35 x))∧lE' x.8∧lE' (DqO.s (w34 s x)).3) (.ret {code:=(DqO.x (w34 s x)).1,okk:=(DqO.x (w34 s x)).2,val:=(DqO.x (w34 s x)).3,d:=true,x:= {x with st:=(w34 s x).3,en:=W (x.5+1),b:=false,d:=eB,tl:=List.set x.7 (0+Int.toNat x.5*1) (w35 x),sl:=x.8},s:=(w34 s x).4}))) (.pre (lE' x.4∧x.7.length=List.length (List.set x.7 (0+Int.toNat x.5*1) (w35 x))∧lE' x.8∧x.1=x.1∧x.2=x.2∧lE' (DqO.s (w34 s x)).3) (.ret {code:=0,okk:=false,val:=0,d:=false,x:= {x with st:=(w34 s x).3,b:=true,d:=(w34 s x).2,tl:=List.set x.7 (0+Int.toNat x.5*1) (w35 x),sl:=x.8},s:=(w34 s x).4})))))))
theorem aCA(x:WK1)(s:MS)(K:WkO→Prop)(h:(wsT x s).run K):cT' 97 [.ptr 0 0,.ptr 6 0] [cE' [.ptr 1 0,.tslice 2 0 x.tk.length 3,.I x.en,.ptr 3 0,.slice 4 0 x.tl.length 1,.slice 5 0 x.sl.length 1],some (.abs (.store x.t x.n x.st) []),some (.tab cK3 x.tk),some (.abs (.doer x.t x.n x.d) [1]),iI' x.tl,iI' x.sl,bE 7 s,bF s] (bP 8 0 [] [] wsP K):=by
 exact cM' (E:=EW2) (by kernel_rfl) h
def wsF(x:WK1)(s:MS):WkO:=(wsT x s).val
def XA(x:WK1)(s:MS):Prop:=(wsT x s).ok
def wsS:aI Ob:=fun args h=>match args,h with
 | [.ptr 0 0,.ptr 6 0],[some (.cells [.ptr 1 0,.tslice 2 0 k 3,.int .i64 en,.ptr 3 0,.slice 4 0 a 1,.slice 5 0 b 1]),some (.abs (.store t n st) []),some (.tab [some .i64,some .i64,some .i64] tk),some (.abs (.doer t1 n1 d) [1]),some (.ints (some .i64) tl),some (.ints (some .i64) sl),e1,e2]=>(match cO 7 [e1,e2]with
   | some (l,s)=>some (.pre ((k=tk.length∧a=tl.length∧b=sl.length∧t1=t∧n1=n∧l=s.xs.length)∧XA ⟨t,n,st,tk,en,d,tl,sl⟩ s) (.ret (W8 (wsF ⟨t,n,st,tk,en,d,tl,sl⟩ s)) (LB (wsF ⟨t,n,st,tk,en,d,tl,sl⟩ s))))
   | none=>none)
 | _,_=>none
theorem aEP:sT' 97 wsS:=by
 intro args h o ho K hK;unfold wsS at ho;split at ho
 case h_2=>cases ho
 rename_i k en a b t n st tk t1 n1 d tl sl e1 e2;split at ho<;>cases ho
 rename_i l s hm;obtain⟨⟨⟨rfl,rfl,rfl,rfl,rfl,hl⟩,ok⟩,hK⟩:=hK;have hh:=bD hm hl;cases hh;refine aGX (root:=0) (pos:=[]) (cs:=[]) (parse:=wsP) (fin:=fun y=>.ret (W8 y) (LB y)) aCz ?_;exact aCA ⟨t1,n1,st,tk,en,d,tl,sl⟩ s _ (aGR ok hK)
noncomputable def EW3:=EW2.addS 97 wsS aEP
def dtS:aI Ob:=fun args h=>match args,h with
 | [.ptr 0 0],[some (.abs (.doer t n x) [1]),some (.abs (.store t2 n2 st) [])]=>some (.pre True (.ret (.agg [.I x.sh,.I x.kd,.I x.ky]) [some (.abs (.doer t n x) [1]),some (.abs (.store t2 n2 st) [])]))
 | _,_=>none
abbrev w36(n n2:Int)(st:STS)(t t2:Int)(x:DOS):aC Ob:=[some (.abs (.doer t n x) [1]),some (.abs (.store t2 n2 st) [])]
abbrev w37(x:DOS):List AVal:=[.I x.sh,.I x.kd,.I x.ky]
theorem aDl(t n t2 n2:Int)(x:DOS)(st:STS)(K:AVal→aC Ob→Prop)(hK:K (.agg (w37 x)) (aM (w36 n n2 st t t2 x) 0 1 (fN t n x) [1])):cT' 96 [.ptr 0 0] (aM (w36 n n2 st t t2 x) 0 1 (fN t n x) [1]) K:=by
 refine aGK ?_;exact cM' (E:=EW3) (by kernel_rfl) hK
theorem aDm(t n t2 n2:Int)(x:DOS)(st:STS)(K:AVal→aC Ob→Prop)(hK:K (.agg (w37 x)) (aM (w36 n n2 st t t2 x) 0 1 (fO t n x) [1])):cT' 96 [.ptr 0 0] (aM (w36 n n2 st t t2 x) 0 1 (fO t n x) [1]) K:=by
 refine aGK ?_;exact cM' (E:=EW3) (by kernel_rfl) hK
theorem aDn(t n t2 n2:Int)(x:DOS)(st:STS)(K:AVal→aC Ob→Prop)(hK:K (.agg (w37 x)) (aM (w36 n n2 st t t2 x) 0 1 (fP t n x) [1])):cT' 96 [.ptr 0 0] (aM (w36 n n2 st t t2 x) 0 1 (fP t n x) [1]) K:=by
 refine aGK ?_;exact cM' (E:=EW3) (by kernel_rfl) hK
theorem aDo(t n t2 n2:Int)(x:DOS)(st:STS)(K:AVal→aC Ob→Prop)(hK:K (.agg (w37 x)) (aM (w36 n n2 st t t2 x) 0 1 (fQ t n x) [1])):cT' 96 [.ptr 0 0] (aM (w36 n n2 st t t2 x) 0 1 (fQ t n x) [1]) K:=by
 refine aGK ?_;exact cM' (E:=EW3) (by kernel_rfl) hK
theorem aDp(t n t2 n2:Int)(x:DOS)(st:STS)(K:AVal→aC Ob→Prop)(hK:K (.agg (w37 x)) (aM (w36 n n2 st t t2 x) 0 1 (fR t n x) [1])):cT' 96 [.ptr 0 0] (aM (w36 n n2 st t t2 x) 0 1 (fR t n x) [1]) K:=by
 refine aGK ?_;exact cM' (E:=EW3) (by kernel_rfl) hK
theorem aDq(t n t2 n2:Int)(x:DOS)(st:STS)(K:AVal→aC Ob→Prop)(hK:K (.agg (w37 x)) (aM (w36 n n2 st t t2 x) 0 1 (fS t n x) [1])):cT' 96 [.ptr 0 0] (aM (w36 n n2 st t t2 x) 0 1 (fS t n x) [1]) K:=by
 refine aGK ?_;exact cM' (E:=EW3) (by kernel_rfl) hK
theorem aDr(t n t2 n2:Int)(x:DOS)(st:STS)(K:AVal→aC Ob→Prop)(hK:K (.agg (w37 x)) (aM (w36 n n2 st t t2 x) 0 1 (eQ t n x) [1])):cT' 96 [.ptr 0 0] (aM (w36 n n2 st t t2 x) 0 1 (eQ t n x) [1]) K:=by
 refine aGK ?_;exact cM' (E:=EW3) (by kernel_rfl) hK
theorem XS(t n t2 n2:Int)(x:DOS)(st:STS)(K:AVal→aC Ob→Prop)(hK:K (.agg (w37 x)) (aM (w36 n n2 st t t2 x) 0 1 (dJ t n x) [1])):cT' 96 [.ptr 0 0] (aM (w36 n n2 st t t2 x) 0 1 (dJ t n x) [1]) K:=by
 refine aGK ?_;exact cM' (E:=EW3) (by kernel_rfl) hK
theorem aDt(t n t2 n2:Int)(x:DOS)(st:STS)(K:AVal→aC Ob→Prop)(hK:K (.agg (w37 x)) (aM (w36 n n2 st t t2 x) 0 1 (fT t n x) [1])):cT' 96 [.ptr 0 0] (aM (w36 n n2 st t t2 x) 0 1 (fT t n x) [1]) K:=by
 refine aGK ?_;exact cM' (E:=EW3) (by kernel_rfl) hK
theorem aFj(t n t2 n2:Int)(x:DOS)(st:STS)(K:AVal→aC Ob→Prop)(hK:K (.agg (w37 x)) (aM (w36 n n2 st t t2 x) 0 1 (l4 t n x) [1])):cT' 96 [.ptr 0 0] (aM (w36 n n2 st t t2 x) 0 1 (l4 t n x) [1]) K:=by
 refine aGK ?_;exact cM' (E:=EW3) (by kernel_rfl) hK
theorem aDs:sT' 96 dtS:=by
 intro args h o ho K hK;unfold dtS at ho;split at ho<;>cases ho
 rename_i t n x t2 n2 st;obtain⟨_,hK⟩:=hK;have hK:K (.agg [.I x.sh,.I x.kd,.I x.ky]) [some (.abs (.doer t n x) [1]),some (.abs (.store t2 n2 st) [])]:=hK;refine aGZ ?_
 by_cases e0:x.at'=0
 ·refine aGU (aS.unpack (.doer t n x) 0 1 (eQ t n x) [1] rfl (congrArg (Prod.mk 1) (pX e0)) (by kernel_rfl) rfl) ?_
  exact aDr t n t2 n2 x st _ ⟨⟨_,_,aF.pack [some (.abs (.doer t n x) [1]),some (.abs (.store t2 n2 st) [])] (.doer t n x) 0 1 (eQ t n x) [1] rfl rfl (congrArg (Prod.mk 1) (pX e0)) (by kernel_rfl),hK⟩⟩
 by_cases e1:x.at'=1
 ·refine aGU (aS.unpack (.doer t n x) 0 1 (dJ t n x) [1] rfl (congrArg (Prod.mk 1) (tD e1)) (by kernel_rfl) rfl) ?_
  exact XS t n t2 n2 x st _ ⟨⟨_,_,aF.pack [some (.abs (.doer t n x) [1]),some (.abs (.store t2 n2 st) [])] (.doer t n x) 0 1 (dJ t n x) [1] rfl rfl (congrArg (Prod.mk 1) (tD e1)) (by kernel_rfl),hK⟩⟩
 by_cases e5:x.at'=5
 ·refine aGU (aS.unpack (.doer t n x) 0 1 (dJ t n x) [1] rfl (congrArg (Prod.mk 1) (tH e5)) (by kernel_rfl) rfl) ?_
  exact XS t n t2 n2 x st _ ⟨⟨_,_,aF.pack [some (.abs (.doer t n x) [1]),some (.abs (.store t2 n2 st) [])] (.doer t n x) 0 1 (dJ t n x) [1] rfl rfl (congrArg (Prod.mk 1) (tH e5)) (by kernel_rfl),hK⟩⟩
 by_cases e2:x.at'=2
 ·refine aGU (aS.unpack (.doer t n x) 0 1 (fQ t n x) [1] rfl (congrArg (Prod.mk 1) (tE e2)) (by kernel_rfl) rfl) ?_
  exact aDo t n t2 n2 x st _ ⟨⟨_,_,aF.pack [some (.abs (.doer t n x) [1]),some (.abs (.store t2 n2 st) [])] (.doer t n x) 0 1 (fQ t n x) [1] rfl rfl (congrArg (Prod.mk 1) (tE e2)) (by kernel_rfl),hK⟩⟩
 by_cases e3:x.at'=3
 ·refine aGU (aS.unpack (.doer t n x) 0 1 (fS t n x) [1] rfl (congrArg (Prod.mk 1) (tF e3)) (by kernel_rfl) rfl) ?_
  exact aDq t n t2 n2 x st _ ⟨⟨_,_,aF.pack [some (.abs (.doer t n x) [1]),some (.abs (.store t2 n2 st) [])] (.doer t n x) 0 1 (fS t n x) [1] rfl rfl (congrArg (Prod.mk 1) (tF e3)) (by kernel_rfl),hK⟩⟩
 by_cases e4:x.at'=4
 ·refine aGU (aS.unpack (.doer t n x) 0 1 (fN t n x) [1] rfl (congrArg (Prod.mk 1) (tG e4)) (by kernel_rfl) rfl) ?_
  exact aDl t n t2 n2 x st _ ⟨⟨_,_,aF.pack [some (.abs (.doer t n x) [1]),some (.abs (.store t2 n2 st) [])] (.doer t n x) 0 1 (fN t n x) [1] rfl rfl (congrArg (Prod.mk 1) (tG e4)) (by kernel_rfl),hK⟩⟩
 by_cases e6:x.at'=6
 ·refine aGU (aS.unpack (.doer t n x) 0 1 (fO t n x) [1] rfl (congrArg (Prod.mk 1) (tI e6)) (by kernel_rfl) rfl) ?_
  exact aDm t n t2 n2 x st _ ⟨⟨_,_,aF.pack [some (.abs (.doer t n x) [1]),some (.abs (.store t2 n2 st) [])] (.doer t n x) 0 1 (fO t n x) [1] rfl rfl (congrArg (Prod.mk 1) (tI e6)) (by kernel_rfl),hK⟩⟩
 by_cases e7:x.at'=7
 ·refine aGU (aS.unpack (.doer t n x) 0 1 (fR t n x) [1] rfl (congrArg (Prod.mk 1) (tJ e7)) (by kernel_rfl) rfl) ?_
  exact aDp t n t2 n2 x st _ ⟨⟨_,_,aF.pack [some (.abs (.doer t n x) [1]),some (.abs (.store t2 n2 st) [])] (.doer t n x) 0 1 (fR t n x) [1] rfl rfl (congrArg (Prod.mk 1) (tJ e7)) (by kernel_rfl),hK⟩⟩
 by_cases e8:x.at'=8
 ·refine aGU (aS.unpack (.doer t n x) 0 1 (fP t n x) [1] rfl (congrArg (Prod.mk 1) (tK e8)) (by kernel_rfl) rfl) ?_
  exact aDn t n t2 n2 x st _ ⟨⟨_,_,aF.pack [some (.abs (.doer t n x) [1]),some (.abs (.store t2 n2 st) [])] (.doer t n x) 0 1 (fP t n x) [1] rfl rfl (congrArg (Prod.mk 1) (tK e8)) (by kernel_rfl),hK⟩⟩
 by_cases e9:x.at'=9
 ·refine aGU (aS.unpack (.doer t n x) 0 1 (fT t n x) [1] rfl (congrArg (Prod.mk 1) (tL e9)) (by kernel_rfl) rfl) ?_
  exact aDt t n t2 n2 x st _ ⟨⟨_,_,aF.pack [some (.abs (.doer t n x) [1]),some (.abs (.store t2 n2 st) [])] (.doer t n x) 0 1 (fT t n x) [1] rfl rfl (congrArg (Prod.mk 1) (tL e9)) (by kernel_rfl),hK⟩⟩
 refine aGU (aS.unpack (.doer t n x) 0 1 (l4 t n x) [1] rfl (congrArg (Prod.mk 1) (uG ⟨e0,e1,e5,e2,e3,e4,e6,e7,e8,e9⟩)) (by kernel_rfl) rfl) ?_
 exact aFj t n t2 n2 x st _ ⟨⟨_,_,aF.pack [some (.abs (.doer t n x) [1]),some (.abs (.store t2 n2 st) [])] (.doer t n x) 0 1 (l4 t n x) [1] rfl rfl (congrArg (Prod.mk 1) (uG ⟨e0,e1,e5,e2,e3,e4,e6,e7,e8,e9⟩)) (by kernel_rfl),hK⟩⟩
noncomputable def EW4:=EW3.addS 96 dtS aDs
abbrev egH(x:EGS):aC Ob:=[some (.abs (.engine x) [])]
theorem eK(n:Nat)(hn:n≤1)(v:AVal)(hv:v.within (upto 0 1)=true)(x:EGS):aF (obI tbl) n v (egG x) v (egH x):=by
 refine aF.pack (egH x) (.engine x) 0 0 (egG x) [] (by kernel_rfl) rfl rfl ?_
 have h1:obOk 0 (egG x)=true:=by kernel_rfl
 have h2:rQ (egH x) 0 []=true:=by kernel_rfl
 have h3:Nat.ble n (egH x).length =true:=Nat.ble_eq_true_of_le hn;have h4:v.within (upto 0 (egH x).length)=true:=hv;rw [h1,h2,h3,h4];rfl
def aDz(g:aC Ob):Option (Prop×EGS):=match g with
 | [some (.cells [.int .i64 sh,.int .i64 th,.int .i64 nd,.int .i64 tr,.ptr 1 0,.ptr 3 0,.slice 4 0 len 1,.int .i64 k]),e1,e2,some (.abs (.hist h) []),some (.abs (.whole ws i) [5]),some (.abs (.worker w) [])]=>(match cO 2 [e1,e2]with
   | some (l,s)=>some (len=ws.length∧i<ws.length∧l=s.xs.length,⟨sh,th,nd,tr,s,h,cQ ws i w,k⟩)
   | none=>none)
 | _=>none
def aDy(g:aC Ob):Option (Prop×EGS):=match g with
 | [some (.cells [.int .i64 sh,.int .i64 th,.int .i64 nd,.int .i64 tr,.ptr 1 0,.ptr 3 0,.slice 4 0 len 1,.int .i64 k]),e1,e2,some (.abs (.hist h) []),some (.abs (.wrow ws) [])]=>(match cO 2 [e1,e2]with
   | some (l,s)=>some (len=ws.length∧l=s.xs.length,⟨sh,th,nd,tr,s,h,ws,k⟩)
   | none=>none)
 | _=>none
def egP(g:aC Ob):Option (Prop×EGS):=match aDz g with
 | some r=>some r
 | none=>aDy g
theorem AR(v:AVal)(hv:v.within (upto 0 1)=true)(hv5:kX (upto 0 5) v=v)(n:Nat)(hn:n≤1){g:aC Ob}{p:Prop}{x:EGS}(hp:egP g=some (p,x))(hq:p):aF (obI tbl) n v g v (egH x):=by
 unfold egP at hp;split at hp
 ·rename_i r hr;cases hp;unfold aDz at hr;split at hr
  case h_2=>cases hr
  rename_i sh th nd tr len k e1 e2 h ws i w;split at hr
  case h_2=>cases hr
  rename_i l s hm;simp only [sI',pI']at hr;obtain⟨rfl,rfl⟩:=hr;obtain⟨rfl,hi,hl⟩:=hq;have hh:=bD hm hl;cases hh;refine(aF.back (l:=4) (k:=5) (i:=i) (ws:=ws) (w:=w) rfl rfl (by decide) hi).trans ?_
  have hlen:ws.length=(cQ ws i w).length :=by simp [cQ]
  have t1:=aF.pick (I:=obI tbl) (n:=n) (v:=v) (g:=([cE' [.I sh,.I th,.I nd,.I tr,.ptr 1 0,.ptr 3 0,.slice 4 0 ws.length 1,.I k],bE 2 s,bF s,some (.abs (.hist h) []),some (.abs (.wrow (cQ ws i w)) []),none]:aC Ob)) (upto 0 5) (by
   have h1:dZ (upto 0 5) 6=true:=by decide
   have h2:i9 (upto 0 5) 0 n=true:=by
    match n,hn with
    | 0,_=>rfl
    | 1,_=>rfl
   show(dZ (upto 0 5) 6&&i9 (upto 0 5) 0 n)=true;rw [h1,h2];rfl)
  rw [hv5]at t1;refine t1.trans ?_;have t2:=eK n hn v hv ⟨sh,th,nd,tr,s,h,cQ ws i w,k⟩;refine aF.trans (aGQ rfl ?_) t2;show _=[some (aH.cells [.I sh,.I th,.I nd,.I tr,.ptr 1 0,.ptr 3 0,.slice 4 0 (cQ ws i w).length 1,.I k]),_,_,_,_];rw [←hlen];rfl
 ·unfold aDy at hp;split at hp
  case h_2=>cases hp
  rename_i sh th nd tr len k e1 e2 h ws hno;split at hp
  case h_2=>cases hp
  rename_i l s hm;simp only [sI',pI']at hp;obtain⟨rfl,rfl⟩:=hp;obtain⟨rfl,hl⟩:=hq;have hh:=bD hm hl;cases hh;exact eK n hn v hv ⟨sh,th,nd,tr,s,h,ws,k⟩
def pkP(v:AVal)(g:aC Ob):Option (Prop×(Bool×EGS)):=match v with
 | .bool d=>(match egP g with
   | some (p,x)=>some (p,(d,x))
   | none=>none)
 | _=>none
theorem aBS:bV (obI tbl) 1 pkP (fun y=>.ret (.bool y.1) (egH y.2)):=by
 intro v g p x hp hq K hK;unfold pkP at hp;split at hp
 case h_2=>cases hp
 rename_i d;split at hp
 case h_2=>cases hp
 rename_i p' x' hx;simp only [sI',pI']at hp;obtain⟨rfl,rfl⟩:=hp;exact⟨⟨_,_,AR (.bool d) rfl rfl 1 (Nat.le_refl 1) hx hq,hK⟩⟩
instance:Inhabited EGS:=⟨⟨0,0,0,0,⟨0,0,[],0,0,0,0,0,false⟩,default,[],0⟩⟩
abbrev w39(th:Int)(x:EGS):=a8 x.7 (0+Int.toNat th*1)
abbrev w38(th:Int)(x:EGS):=wbF x.4 (w39 th x)
def pkT(th:Int)(x:EGS):Tr (Bool×EGS):=.ite (ilt th 0) (.pre (lE' x.7∧lE' (EGS.s x).3) (.ret (false,x))) (.ite (ile (↑x.7.length:Int) th) (.pre (lE' x.7∧lE' (EGS.s x).3) (.ret (false,x))) (.pre ((0:Int)≤th∧th<(↑x.7.length:Int)) (.pre (0+Int.toNat th*(1:Nat)<x.7.length) (.pre True (.ite (ieq (W ((↑(List.length (w39 th x).4):Int) - (w39 th x).5)) 0) (.pre (lE' x.7∧0+Int.toNat th*(1:Nat)<x.7.length∧lE' (EGS.s x).3) (.ret (false,{x with ws:=cQ x.7 (0+Int.toNat th*1) (w39 th x)}))) (.ite (ile 60000 x.8) (.pre (lE' x.7∧0+Int.toNat th*(1:Nat)<x.7.length∧lE' (EGS.s x).3) (.ret (false,{x with ws:=cQ x.7 (0+Int.toNat th*1) (w39 th x)}))) (.pre (QK x.4 (w39 th x)) (.ite (!(w39 th x).6) (.pre (True∧True) (.pre (hbOk th x.6 (WK1.d (w38 th x)).6 (WK1.d (w38 th x)).7∧True) (.pre ((lE' (w38 th x).4∧lE' (w38 th x).7∧lE' (w38 th x).8∧(w38 th x).1=(w38 th x).1∧(w38 th x).2=(w38 th x).2∧lE' (EGS.s x).3)∧XA (w38 th x) x.5) (.ite (wsF (w38 th x) x.5).4 (.pre (heOk th (hbF th x.6 (WK1.d (w38 th x)).6 (WK1.d (w38 th x)).7).2 (wsF (w38 th x) x.5).1 (wsF (w38 th x) x.5).2 (wsF (w38 th x) x.5).3∧True) (.pre (lE' x.7∧0+Int.toNat th*(1:Nat)<x.7.length∧lE' (WkO.s (wsF (w38 th x) x.5)).3) (.ret (true,{x with s:=(wsF (w38 th x) x.5).6,h:=(heF th (hbF th x.6 (WK1.d (w38 th x)).6 (WK1.d (w38 th x)).7).2 (wsF (w38 th x) x.5).1 (wsF (w38 th x) x.5).2 (wsF (w38 th x) x.5).3).2,ws:=cQ x.7 (0+Int.toNat th*1) (wsF (w38 th x) x.5).5,k:=W (x.8+1) })))) (.pre (lE' x.7∧0+Int.toNat th*(1:Nat)<x.7.length∧lE' (WkO.s (wsF (w38 th x) x.5)).3) (.ret (true,{x with s:=(wsF (w38 th x) x.5).6,h:=(hbF th x.6 (WK1.d (w38 th x)).6 (WK1.d (w38 th x)).7).2,ws:=cQ x.7 (0+Int.toNat th*1) (wsF (w38 th x) x.5).5,k:=W (x.8+1) }))))))) (.pre ((lE' (w38 th x).4∧lE' (w38 th x).7∧lE' (w38 th x).8∧(w38 th x).1=(w38 th x).1∧(w38 th x).2=(w38 th x).2∧lE' (EGS.s x).3)∧XA (w38 th x) x.5) (.ite (wsF (w38 th x) x.5).4 (.pre (heOk th x.6 (wsF (w38 th x) x.5).1 (wsF (w38 th x) x.5).2 (wsF (w38 th x) x.5).3∧True) (.pre (lE' x.7∧0+Int.toNat th*(1:Nat)<x.7.length∧lE' (WkO.s (wsF (w38 th x) x.5)).3) (.ret (true,{x with s:=(wsF (w38 th x) x.5).6,h:=(heF th x.6 (wsF (w38 th x) x.5).1 (wsF (w38 th x) x.5).2 (wsF (w38 th x) x.5).3).2,ws:=cQ x.7 (0+Int.toNat th*1) (wsF (w38 th x) x.5).5,k:=W (x.8+1) })))) (.pre (lE' x.7∧0+Int.toNat th*(1:Nat)<x.7.length∧lE' (WkO.s (wsF (w38 th x) x.5)).3) (.ret (true,{x with s:=(wsF (w38 th x) x.5).6,ws:=cQ x.7 (0+Int.toNat th*1) (wsF (w38 th x) x.5).5,k:=W (x.8+1) })))))))))))))
theorem aBT(th:Int)(x:EGS)(K:Bool×EGS→Prop)(h:(pkT th x).run K):cT' 41 [.ptr 0 0,.I th] [cE' [.I x.sh,.I x.th,.I x.nd,.I x.tr,.ptr 1 0,.ptr 3 0,.slice 4 0 x.ws.length 1,.I x.k],bE 2 x.s,bF x.s,some (.abs (.hist x.h) []),some (.abs (.wrow x.ws) [])] (bP 1 0 [] [] pkP K):=by
 exact cM' (E:=EW4) (by kernel_rfl) h
def pkF(th:Int)(x:EGS):Bool×EGS:=(pkT th x).val
def VU(th:Int)(x:EGS):Prop:=(pkT th x).ok
def pkS:aI Ob:=fun args h=>match args,h with
 | [.ptr 0 0,.int .i64 th],[some (.abs (.engine x) [])]=>some (.pre (VU th x) (.ret (.bool (pkF th x).1) (egH (pkF th x).2)))
 | _,_=>none
theorem aEy:sT' 41 pkS:=by
 intro args h o ho K hK;unfold pkS at ho;split at ho<;>cases ho
 rename_i th x;obtain⟨ok,hK⟩:=hK;exact aGL (root:=0) (pos:=[]) (cs:=[]) (parse:=pkP) (fin:=fun y=>.ret (.bool y.1) (egH y.2)) aBS (aS.unpack (.engine x) 0 0 (egG x) [] rfl rfl rfl rfl) (aBT th x _ (aGR ok hK))
noncomputable def EP1:=EW4.addS 41 pkS aEy
def rI:AVal→Int
 | .int _ n=>n
 | _=>0
def rK(row:Nat→List AVal)(i:Nat):Int:=rI ((row i).getD 0 .O)
def rY(row:Nat→List AVal)(i:Nat):Int:=rI ((row i).getD 1 .O)
structure lJ (row:Nat→List AVal):Prop where
 h:row=fun i=>[.I (rK row i),.I (rY row i)]
def fB(sh:Int)(m:Nat)(f g:Nat→Int):List (List Int):=(List.range m).map fun j=>[sh,f j,g j]
def d3(sh:Int)(m:Nat)(f g:Nat→Int):Bool:=(List.range m).all fun j=>b9 sh (f j) (g j)
theorem P9(sh:Int)(m:Nat)(f g:Nat→Int):fB sh (m+1) f g=fB sh m f g++ [[sh,f m,g m]]:=by
 unfold fB;rw [List.range_succ];simp
theorem hJ(sh:Int)(m:Nat)(f g:Nat→Int):(fB sh m f g).length =m:=by unfold fB;simp
theorem oI{k:Int}{m:Nat}{f g:Nat→Int} :d3 k m f g=true↔ ∀j,j<m→b9 k (f j) (g j)=true:=by
 unfold d3;simp
def QV(sh:Int)(m:Nat)(f g:Nat→Int):Hint Ob:= {X:=Nat,st:=fun x=>([.I sh,.O,.O,.O,.O,.I 0,.tslice 0 0 x 3,.O,.O,.view m 2 (fun i=>[.I (f i),.I (g i)]),.I (m:Int),.I (x:Int)]++List.replicate 15 .O,[some (.tab cK3 (fB sh x f g))]),ok:=fun x=>x≤m∧ ∀j,j<x→b9 sh (f j) (g j)=true,mu:=fun x=>m - x,keep:=[0,5,6,9,10,11],casts:=[(.slot 6,.tab cK3)] }
def aBP(sh:Int)(m:Nat)(f g:Nat→Int)(K:AVal→aC Ob→Prop):Prop:=okSt (QV sh m f g) (Hint.ok (QV sh m f g)) (.I sh::.O::.O::.O::.O::.I 0::.tslice 0 0 0 3::.O::.O::(.view m 2 fun i=>[.I (f i),.I (g i)])::.I (↑m:Int)::.I 0::(tO' 15 [])) [some (.tab cK3 [])]∧ ∀(x:Nat),(x≤m∧ ∀(j:Nat),j<x→b9 sh (f j) (g j)=true)→bif ilt (↑x:Int) (↑m:Int)then((0:Int)≤(↑x:Int)∧(↑x:Int)<(↑m:Int))∧True∧bif !b9 sh (f (Int.toNat (↑x:Int))) (g (Int.toNat (↑x:Int)))then K (.tup [.raw (Value.slice none 0 0),.I 1]) []else(0=0∧x=List.length (fB sh x f g)∧x+(1:Nat)≤(4294967296:Nat))∧okSt (QV sh m f g) (fun x'=>Hint.ok (QV sh m f g) x'∧Hint.mu (QV sh m f g) x'<Hint.mu (QV sh m f g) x) (.I sh::.O::.O::.O::.O::.I 0::.tslice 0 0 (x+1) 3::.O::.O::(.view m 2 fun i=>[.I (f i),.I (g i)])::.I (↑m:Int)::.I (W ((↑x:Int)+1))::(tO' 15 [])) [some (.tab cK3 (fB sh x f g++ [[sh,f (Int.toNat (↑x:Int)),g (Int.toNat (↑x:Int))]]))]else K (.tup [.tslice 0 0 x 3,.I 0]) [some (.tab cK3 (fB sh x f g))]
theorem OW(sh:Int)(m:Nat)(f g:Nat→Int)(K:AVal→aC Ob→Prop)(h:aBP sh m f g K):cT' 82 [.I sh,.view m 2 (fun i=>[.I (f i),.I (g i)])] [] K:=by
 refine aGK (aD (E:=EP1) Tryz.checked.mixed (L:=fun _ _=>some (.states (QV sh m f g))) (n:=10) (aJ (by kernel_rfl) h))
def lgB(th:Int)(m:Nat)(ln:Nat→Nat):Bool:=(List.range m).any (fun i=>decide (40<ln i))||ilt th (m:Int)
theorem OM{th:Int}{m:Nat}{ln:Nat→Nat} :lgB th m ln=false↔(∀i,i<m→ln i≤40)∧(m:Int)≤th:=by
 unfold lgB;rw [aV];simp
theorem HA{th:Int}{m:Nat}{ln:Nat→Nat}(h:(∃i,i<m∧40<ln i)∨th<(m:Int)):lgB th m ln=true:=by
 unfold lgB;rw [aV];simp;exact h
def RG(sh th nd tr:Int)(m:Nat)(ln:Nat→Nat)(f g:Nat→Nat→Int):Hint Ob:= {X:=Nat,st:=fun x=>([.O,.view m 1 (fun i=>[.view (ln i) 2 (fun j=>[.I (f i j),.I (g i j)])]),.ptr 0 0,.O,.O,.O,.O,.view m 1 (fun i=>[.view (ln i) 2 (fun j=>[.I (f i j),.I (g i j)])]),.I (m:Int),.I (x:Int)]++List.replicate 12 .O,[cE' [.I sh,.I th,.I nd,.I tr]]),ok:=fun x=>x≤m∧ ∀j,j<x→ln j≤40,mu:=fun x=>m - x,keep:=[1,2,7,8,9] }
def aBF(sh th nd tr:Int)(m:Nat)(ln:Nat→Nat)(f g:Nat→Nat→Int)(K:AVal→aC Ob→Prop):Prop:=okSt (RG sh th nd tr m ln f g) (Hint.ok (RG sh th nd tr m ln f g)) [.O,.view m 1 fun i=>[.view (ln i) 2 fun j=>[.I (f i j),.I (g i j)]],.ptr 0 0,.O,.O,.O,.O,.view m 1 fun i=>[.view (ln i) 2 fun j=>[.I (f i j),.I (g i j)]],.I (↑m:Int),.I 0,.O,.O,.O,.O,.O,.O,.O,.O,.O,.O,.O,.O] [cE' [.I sh,.I th,.I nd,.I tr]]∧ ∀(x:Nat),(x≤m∧ ∀(j:Nat),j<x→ln j≤(40:Nat))→bif ilt (↑x:Int) (↑m:Int)then((0:Int)≤(↑x:Int)∧(↑x:Int)<(↑m:Int))∧bif ilt 40 (↑(ln (Int.toNat (↑x:Int))):Int)then K (.bool true) []else okSt (RG sh th nd tr m ln f g) (fun x'=>Hint.ok (RG sh th nd tr m ln f g) x'∧Hint.mu (RG sh th nd tr m ln f g) x'<Hint.mu (RG sh th nd tr m ln f g) x) [.O,.view m 1 fun i=>[.view (ln i) 2 fun j=>[.I (f i j),.I (g i j)]],.ptr 0 0,.O,.O,.O,.O,.view m 1 fun i=>[.view (ln i) 2 fun j=>[.I (f i j),.I (g i j)]],.I (↑m:Int),.I (W ((↑x:Int)+1)),.O,.O,.O,.O,.O,.O,.O,.O,.O,.O,.O,.O] [cE' [.I sh,.I th,.I nd,.I tr]]else K (.bool (ilt th (↑m:Int))) []
theorem ON(sh th nd tr:Int)(m:Nat)(ln:Nat→Nat)(f g:Nat→Nat→Int)(K:AVal→aC Ob→Prop)(h:aBF sh th nd tr m ln f g K):cT' 80 [.agg [.I sh,.I th,.I nd,.I tr],.view m 1 (fun i=>[.view (ln i) 2 (fun j=>[.I (f i j),.I (g i j)])])] [] K:=by
 refine aGK (aD (E:=EP1) Tryz.checked.mixed (L:=fun _ _=>some (.states (RG sh th nd tr m ln f g))) (n:=10) (aJ (by kernel_rfl) h))
def wrO(sh th nd tr:Int):Out Ob:=.ite (ilt sh 1) (.ret (.I 1) []) (.ite (ilt 4 sh) (.ret (.I 1) []) (.pre True (.ite (!dM th nd) (.ret (.I 2) []) (.ite (ilt tr 0) (.ret (.I 2) []) (.ite (ilt 50 tr) (.ret (.I 2) []) (.ret (.I 0) []))))))
theorem aF.castTup{I:Itp Ob}{n:Nat}{K:gT}{a a' b:AVal}{g g':aC Ob}(hc:zW K a g=some (a',g')):aF I n (.tup [a,b]) g (.tup [a',b]) g':=by
 intro V hR w x h1 h2 h3 h4;obtain⟨cs,rfl,va,vs,e,ra,vb,vs2,e2,rb,r3⟩:=h4;obtain⟨V',⟨c1,c2,c3,c4⟩,r⟩:=uC hc h1 h2 ra;exact⟨V',fun l y _ hy=>c1 l y hy,c2,by omega,⟨cs,rfl,va,vs,e,r,vb,vs2,e2,Rep.mono c1 _ _ rb,r3⟩,c4⟩
def ofR(sh:Int)(m:Nat)(f g:Nat→Int):List (List Int):=bif d3 sh m f g then fB sh m f g else []
def ofC(sh:Int)(m:Nat)(f g:Nat→Int):Int:=bif d3 sh m f g then 0 else 1
theorem aEt(sh:Int)(m:Nat)(f g:Nat→Int)(K:AVal→aC Ob→Prop)(hm:m≤1000000)(hK:K (.tup [.tslice 0 0 (ofR sh m f g).length 3,.I (ofC sh m f g)]) [some (.tab cK3 (ofR sh m f g))]):aBP sh m f g (eH (obI tbl) 0 K):=by
 refine⟨aP (H:=QV sh m f g) (0:Nat) rfl ⟨Nat.zero_le _,fun j hj=>by omega⟩,?_⟩
 rintro x ⟨hx,hj⟩;refine aL (fun e=>?_) (fun e=>?_)
 ·rw [aV,dT']at e;refine⟨⟨by omega,by omega⟩,trivial,aL (fun e2=>?_) (fun e2=>?_)⟩
  ·have hf:d3 sh m f g=false:=by
    cases h:d3 sh m f g with
    | false=>rfl
    | true=>
      have:=oI.1 h x (by omega)
      rw [Int.toNat_natCast]at e2;rw [this]at e2;cases e2
   unfold ofR ofC at hK;rw [hf]at hK;exact⟨⟨_,_,aF.castTup (K:=.tab cK3) rfl,hK⟩⟩
  ·have e4:W ((x:Int)+1)=((x+1:Nat):Int):=by rw [W,dB (by omega)];rfl
   refine⟨⟨rfl,(hJ sh x f g).symm,by omega⟩,aP (H:=QV sh m f g) (x+1:Nat) ?_ ⟨⟨by show x+1≤m;omega,?_⟩,by show m - (x+1)<m - x;omega⟩⟩
   ·simp only [QV,P9,e4,Int.toNat_natCast]<;>rfl
   intro j hj2
   by_cases hjx:j=x
   ·subst hjx;rw [Int.toNat_natCast]at e2
    simpa using e2
   ·exact hj j (by omega)
 ·rw [aV,dF']at e;have ht:d3 sh m f g=true:=oI.2 fun j hj3=>hj j (by omega)
  have hxm:x=m:=by omega
  subst hxm;unfold ofR ofC at hK;rw [ht]at hK;have hl:=hJ sh x f g;simp only [cond_true]at hK;rw [hl]at hK;exact⟨⟨_,_,aGW _ _ _,hK⟩⟩
def ofS:aI Ob:=fun args h=>match args,h with
 | [.int .i64 sh,.view m 2 row],[]=>some (.pre (m≤1000000∧lJ row) (.ret (.tup [.tslice 0 0 (ofR sh m (rK row) (rY row)).length 3,.I (ofC sh m (rK row) (rY row))]) [some (.tab cK3 (ofR sh m (rK row) (rY row)))]))
 | _,_=>none
theorem aEs:sT' 82 ofS:=by
 intro args h o ho K hK;unfold ofS at ho;split at ho<;>cases ho
 rename_i sh m row;obtain⟨⟨hm,⟨hr⟩⟩,hK⟩:=hK;rw [hr];refine aGZ ?_;exact OW sh m (rK row) (rY row) _ (aEt sh m (rK row) (rY row) K hm hK)
def vL(vr:Nat→List AVal)(i:Nat):Nat:=match vr i with
 | [.view n _ _]=>n
 | _=>0
def vR(vr:Nat→List AVal)(i:Nat):Nat→List AVal:=match vr i with
 | [.view _ _ r]=>r
 | _=>fun _=>[]
def vK(vr:Nat→List AVal)(i j:Nat):Int:=rK (vR vr i) j
def vY(vr:Nat→List AVal)(i j:Nat):Int:=rY (vR vr i) j
structure iX (vr:Nat→List AVal):Prop where
 h:vr=fun i=>[.view (vL vr i) 2 (fun j=>[.I (vK vr i j),.I (vY vr i j)])]
theorem aEm(sh th nd tr:Int)(m:Nat)(ln:Nat→Nat)(f g:Nat→Nat→Int)(K:AVal→aC Ob→Prop)(hm:m≤1000000)(hK:K (.bool (lgB th m ln)) []):aBF sh th nd tr m ln f g K:=by
 refine⟨aP (H:=RG sh th nd tr m ln f g) (0:Nat) rfl ⟨Nat.zero_le _,fun j hj=>by omega⟩,?_⟩
 rintro x ⟨hx,hj⟩;refine aL (fun e=>?_) (fun e=>?_)
 ·rw [aV,dT']at e;refine⟨⟨by omega,by omega⟩,aL (fun e2=>?_) (fun e2=>?_)⟩
  ·rw [aV,dT',Int.toNat_natCast]at e2;rw [HA (.inl ⟨x,by omega,by omega⟩)]at hK
   exact hK
  ·rw [aV,dF',Int.toNat_natCast]at e2;have e4:W ((x:Int)+1)=((x+1:Nat):Int):=by rw [W,dB (by omega)];rfl
   refine aP (H:=RG sh th nd tr m ln f g) (x+1:Nat) (by simp only [e4]<;>rfl) ⟨⟨by show x+1≤m;omega,?_⟩,by show m - (x+1)<m - x;omega⟩
   intro j hj2
   by_cases hjx:j=x
   ·subst hjx;omega
   ·exact hj j (by omega)
 ·rw [aV,dF']at e
  have e2:lgB th m ln=ilt th (m:Int):=by
   cases h:ilt th (m:Int)with
   | true=>rw [aV,dT']at h;exact HA (.inr h)
   | false=>rw [aV,dF']at h;exact OM.2 ⟨fun j hj3=>hj j (by omega),by omega⟩
  rw [e2]at hK;exact hK
def lgS:aI Ob:=fun args h=>match args,h with
 | [.agg [.int .i64 sh,.int .i64 th,.int .i64 nd,.int .i64 tr],.view m 1 vr],[]=>some (.pre (m≤1000000∧iX vr) (.ret (.bool (lgB th m (vL vr))) []))
 | _,_=>none
theorem aEl:sT' 80 lgS:=by
 intro args h o ho K hK;unfold lgS at ho;split at ho<;>cases ho
 rename_i sh th nd tr m vr;obtain⟨⟨hm,⟨hr⟩⟩,hK⟩:=hK;rw [hr];exact ON sh th nd tr m (vL vr) (vK vr) (vY vr) K (aEm sh th nd tr m (vL vr) (vK vr) (vY vr) K hm hK)
def wrE(sh th nd tr:Int):Int:=bif ilt sh 1 then 1 else bif ilt 4 sh then 1 else bif !dM th nd then 2 else bif ilt tr 0 then 2 else bif ilt 50 tr then 2 else 0
def wrS:aI Ob:=fun args h=>match args,h with
 | [.agg [.int .i64 sh,.int .i64 th,.int .i64 nd,.int .i64 tr]],[]=>some (.pre True (.ret (.I (wrE sh th nd tr)) []))
 | _,_=>none
theorem aEN:sT' 79 wrS:=by
 intro args h o ho K hK;unfold wrS at ho;split at ho<;>cases ho
 rename_i sh th nd tr;obtain⟨_,hK⟩:=hK;have hK:K (.I (wrE sh th nd tr)) []:=hK;refine aGK (cM' (E:=EP1) (q:=(wrO sh th nd tr).run K) (by kernel_rfl) ?_)
 unfold wrE at hK
 refine aL (fun e1=>?_) (fun e1=>aL (fun e2=>?_) (fun e2=>⟨trivial,aL (fun e3=>?_) (fun e3=>aL (fun e4=>?_) (fun e4=>aL (fun e5=>?_) (fun e5=>?_)))⟩))<;>
  (simp only [*,cond_true,cond_false]at hK;exact hK)
def nwP(t n u:Int)(v:AVal)(g:aC Ob):Option (Prop×WKS):=match v,g with
 | .ptr 1 0,[some (.tab [some .i64,some .i64,some .i64] tk),some (.cells [.ptr 2 0,.tslice 0 0 k 3,.int .i64 en,.raw (.pointer none),.slice 4 0 a 1,.slice 5 0 b 1]),some (.cells [.int .i64 t1,.int .i64 n1,.int .i64 me,.int .i64 sp,.slice 3 0 c 1]),some (.ints (some .i64) R),some (.ints (some .i64) tl),some (.ints (some .i64) sl)]=>
   some (k=tk.length∧a=tl.length∧b=sl.length∧c=R.length,⟨t1,n1,⟨me,sp,R⟩,tk,en,false,eB,tl,sl⟩)
 | _,_=>none
theorem aBN(t n u:Int):bV (obI tbl) 1 (nwP t n u) (fun y=>.ret (.ptr 1 0) [none,some (.abs (.worker y) [])]):=by
 intro v g p x hp hq K hK;unfold nwP at hp;split at hp
 case h_2=>cases hp
 rename_i tk k en a b t1 n1 me sp c R tl sl;simp only [sI',pI']at hp;obtain⟨rfl,rfl⟩:=hp;obtain⟨rfl,rfl,rfl,rfl⟩:=hq;have hK:K (.ptr 1 0) [none,some (.abs (.worker (⟨t1,n1,⟨me,sp,R⟩,tk,en,false,eB,tl,sl⟩:WKS)) [])]:=hK
 exact⟨⟨_,_,(aF.move 3 (of_decide_eq_true rfl)).trans ((aGQ (v2:=.ptr 1 0) (g2:=aM [some (.tab cK3 tk),cE' [.ptr 2 0,.tslice 0 0 tk.length 3,.I en,.raw (.pointer none),.slice 4 0 tl.length 1,.slice 5 0 sl.length 1],some (.abs (.store t1 n1 ⟨me,sp,R⟩) []),none,iI' tl,iI' sl] 2 0 (dL t1 n1 ⟨me,sp,R⟩) []) (by kernel_rfl) (by kernel_rfl)).trans
  ((aF.pack [some (.tab cK3 tk),cE' [.ptr 2 0,.tslice 0 0 tk.length 3,.I en,.raw (.pointer none),.slice 4 0 tl.length 1,.slice 5 0 sl.length 1],some (.abs (.store t1 n1 ⟨me,sp,R⟩) []),none,iI' tl,iI' sl] (.store t1 n1 ⟨me,sp,R⟩) 2 0 (dL t1 n1 ⟨me,sp,R⟩) [] rfl rfl rfl (by kernel_rfl)).trans
  ((aF.move 0 (of_decide_eq_true rfl)).trans ((aF.move 4 (of_decide_eq_true rfl)).trans ((aF.move 5 (of_decide_eq_true rfl)).trans ((aF.pick [0,1,2,6,7,8] rfl).trans
  ((aGQ (v2:=.ptr 1 0) (g2:=aM [none,some (.abs (.worker (⟨t1,n1,⟨me,sp,R⟩,tk,en,false,eB,tl,sl⟩:WKS)) [])] 1 0 (nV (⟨t1,n1,⟨me,sp,R⟩,tk,en,false,eB,tl,sl⟩:WKS)) []) (by kernel_rfl) (by kernel_rfl)).trans
  (aF.pack [none,some (.abs (.worker (⟨t1,n1,⟨me,sp,R⟩,tk,en,false,eB,tl,sl⟩:WKS)) [])] (.worker (⟨t1,n1,⟨me,sp,R⟩,tk,en,false,eB,tl,sl⟩:WKS)) 1 0 (nV (⟨t1,n1,⟨me,sp,R⟩,tk,en,false,eB,tl,sl⟩:WKS)) [] rfl rfl (congrArg (Prod.mk 0) (qX rfl)) (by kernel_rfl))))))))),hK⟩⟩
def nvP(t n u:Int)(v:AVal)(g:aC Ob):Option (Prop×WKS):=match v,g with
 | .ptr 0 0,[some (.cells [.ptr 1 0,.tslice 3 0 k 3,.int .i64 en,.raw (.pointer none),.slice 4 0 a 1,.slice 5 0 b 1]),some (.cells [.int .i64 t1,.int .i64 n1,.int .i64 me,.int .i64 sp,.slice 2 0 c 1]),some (.ints (some .i64) R),some (.tab [some .i64,some .i64,some .i64] tk),some (.ints (some .i64) tl),some (.ints (some .i64) sl)]=>
   some (k=tk.length∧a=tl.length∧b=sl.length∧c=R.length,⟨t1,n1,⟨me,sp,R⟩,tk,en,false,eB,tl,sl⟩)
 | _,_=>none
theorem aBL(t n u:Int):bV (obI tbl) 0 (nvP t n u) (fun y=>.ret (.ptr 0 0) [some (.abs (.worker y) [])]):=by
 intro v g p x hp hq K hK;unfold nvP at hp;split at hp
 case h_2=>cases hp
 rename_i k en a b t1 n1 me sp c R tk tl sl;simp only [sI',pI']at hp;obtain⟨rfl,rfl⟩:=hp;obtain⟨rfl,rfl,rfl,rfl⟩:=hq;have hK:K (.ptr 0 0) [some (.abs (.worker (⟨t1,n1,⟨me,sp,R⟩,tk,en,false,eB,tl,sl⟩:WKS)) [])]:=hK
 exact⟨⟨_,_,(aF.move 2 (of_decide_eq_true rfl)).trans ((aGQ (v2:=.ptr 0 0) (g2:=aM [cE' [.ptr 1 0,.tslice 3 0 tk.length 3,.I en,.raw (.pointer none),.slice 4 0 tl.length 1,.slice 5 0 sl.length 1],some (.abs (.store t1 n1 ⟨me,sp,R⟩) []),none,some (.tab cK3 tk),iI' tl,iI' sl] 1 0 (dL t1 n1 ⟨me,sp,R⟩) []) (by kernel_rfl) (by kernel_rfl)).trans
  ((aF.pack [cE' [.ptr 1 0,.tslice 3 0 tk.length 3,.I en,.raw (.pointer none),.slice 4 0 tl.length 1,.slice 5 0 sl.length 1],some (.abs (.store t1 n1 ⟨me,sp,R⟩) []),none,some (.tab cK3 tk),iI' tl,iI' sl] (.store t1 n1 ⟨me,sp,R⟩) 1 0 (dL t1 n1 ⟨me,sp,R⟩) [] rfl rfl rfl (by kernel_rfl)).trans
  ((aF.pick [0,1,3,4,5] rfl).trans
  ((aGQ (v2:=.ptr 0 0) (g2:=aM [some (.abs (.worker (⟨t1,n1,⟨me,sp,R⟩,tk,en,false,eB,tl,sl⟩:WKS)) [])] 0 0 (nV (⟨t1,n1,⟨me,sp,R⟩,tk,en,false,eB,tl,sl⟩:WKS)) []) (by kernel_rfl) (by kernel_rfl)).trans
  (aF.pack [some (.abs (.worker (⟨t1,n1,⟨me,sp,R⟩,tk,en,false,eB,tl,sl⟩:WKS)) [])] (.worker (⟨t1,n1,⟨me,sp,R⟩,tk,en,false,eB,tl,sl⟩:WKS)) 0 0 (nV (⟨t1,n1,⟨me,sp,R⟩,tk,en,false,eB,tl,sl⟩:WKS)) [] rfl rfl (congrArg (Prod.mk 0) (qX rfl)) (by kernel_rfl)))))),hK⟩⟩
def nwT(t n u:Int)(tk:List (List Int)):Tr WKS:=.pre (lE' tk∧0=0∧0=0∧0=0) (.ret {t:=t,n:=n,st:= {me:=u,sp:=0,R:=[] },tk:=tk,en:=0,b:=false,d:=eB,tl:=[],sl:=[] })
theorem aBO(t n u:Int)(tk:List (List Int))(K:AVal→aC Ob→Prop)(h:(nwT t n u tk).run (fun y=>(Out.ret (.ptr 1 0) [none,some (.abs (.worker y) [])]).run K)):cT' 83 [.agg [.I t,.I n],.I u,.tslice 0 0 tk.length 3] [some (.tab cK3 tk)] K:=by
 refine aGX (root:=1) (pos:=[]) (cs:=[(.cell 1 4,.ints (some .i64)),(.cell 1 5,.ints (some .i64)),(.cell 2 4,.ints (some .i64))]) (parse:=nwP t n u) (aBN t n u) ?_;exact cM' (E:=EP1) (by kernel_rfl) h
def nvT(t n u:Int):Tr WKS:=.pre (0=0∧0=0∧0=0∧0=0) (.ret {t:=t,n:=n,st:= {me:=u,sp:=0,R:=[] },tk:=[],en:=0,b:=false,d:=eB,tl:=[],sl:=[] })
theorem aBM(t n u:Int)(K:AVal→aC Ob→Prop)(h:(nvT t n u).run (fun y=>(Out.ret (.ptr 0 0) [some (.abs (.worker y) [])]).run K)):cT' 83 [.agg [.I t,.I n],.I u,.raw (.slice none 0 0)] [] K:=by
 refine aGX (root:=0) (pos:=[]) (cs:=[(.cell 0 1,.tab cK3),(.cell 0 4,.ints (some .i64)),(.cell 0 5,.ints (some .i64)),(.cell 1 4,.ints (some .i64))]) (parse:=nvP t n u) (aBL t n u) ?_;exact cM' (E:=EP1) (by kernel_rfl) h
def v7(t n u:Int)(tk:List (List Int)):WKS:=(nwT t n u tk).val
def nwS:aI Ob:=fun args h=>match args,h with
 | [.agg [.int .i64 t,.int .i64 n],.int .i64 u,.tslice 0 0 k 3],[some (.tab [some .i64,some .i64,some .i64] tk)]=>some (.pre (k=tk.length) (.ret (.ptr 1 0) [none,some (.abs (.worker (v7 t n u tk)) [])]))
 | _,_=>none
theorem aEr:sT' 83 nwS:=by
 intro args h o ho K hK;unfold nwS at ho;split at ho<;>cases ho
 rename_i t n u k tk;obtain⟨rfl,hK⟩:=hK;exact aBO t n u tk K (aGR ⟨⟨rfl,rfl,rfl,rfl⟩,trivial⟩ hK)
def nvS:aI Ob:=fun args h=>match args,h with
 | [.agg [.int .i64 t,.int .i64 n],.int .i64 u,.raw (.slice none 0 0)],[]=>some (.pre True (.ret (.ptr 0 0) [some (.abs (.worker (v7 t n u [])) [])]))
 | _,_=>none
theorem aEq:sT' 83 nvS:=by
 intro args h o ho K hK;unfold nvS at ho;split at ho<;>cases ho
 rename_i t n u;obtain⟨_,hK⟩:=hK;exact aBM t n u K (aGR ⟨⟨rfl,rfl,rfl,rfl⟩,trivial⟩ hK)
noncomputable def EU1:=(((EP1.addS 82 ofS aEs).addS 80 lgS aEl).addS 79 wrS aEN).addS 83 (aI.or nwS nvS) (aG9 aEr aEq)
structure eI (sh th:Int) (m:Nat) (ln:Nat→Nat) (f g:Nat→Nat→Int) (u:Int):Prop where
 hu:u≤th
 hg: ∀j:Nat,(j:Int)<u→j<m→d3 sh (ln j) (f j) (g j)=true
abbrev w3a:Option (aH Ob):=some (.abs (.hist ⟨[],[],0,0,0,0,0,0,0,0⟩) [])
abbrev w3b(nd sh th tr:Int):Option (aH Ob):=some (.cells [.int .i64 sh,.int .i64 th,.int .i64 nd,.int .i64 tr])
abbrev w3c(nd th:Int):List AVal:=[.int .i64 th,.int .i64 nd]
def HN0(sh th nd tr:Int)(m:Nat)(ln:Nat→Nat)(f g:Nat→Nat→Int)(wf:Nat→WKS):Hint Ob:= {X:=Unit,st:=fun _=>((.O::(.view m 1 (fun i=>[.view (ln i) 2 (fun j=>[.int .i64 (f i j),.int .i64 (g i j)])]))::.ptr 0 0::.O::.O::.O::.O::.ptr 1 0::.ptr 2 0::(tO' 24 [.int .i64 th,.int .i64 0]))++List.replicate 45 .O,[w3b nd sh th tr,some (.cells (w3c nd th)),some (.cells [.int .i64 sh,.int .i64 th,.int .i64 nd,.int .i64 tr,.raw (.pointer none),.ptr 3 0,.raw (.slice none 0 0),.int .i64 0]),w3a]),ok:=fun _=>eI sh th m ln f g 0,mu:=fun _=>9,keep:=[1,2,7,8,33,34],sel:=fun tm _=>match tm.getD 34 .O with
 | .int _ n=>Nat.beq n.toNat 0
 | _=>false}
def HN1(sh th nd tr:Int)(m:Nat)(ln:Nat→Nat)(f g:Nat→Nat→Int)(wf:Nat→WKS):Hint Ob:= {X:=Unit,st:=fun _=>((.O::(.view m 1 (fun i=>[.view (ln i) 2 (fun j=>[.int .i64 (f i j),.int .i64 (g i j)])]))::.ptr 0 0::.O::.O::.O::.O::.ptr 1 0::.ptr 2 0::(tO' 24 [.int .i64 th,.int .i64 1]))++List.replicate 45 .O,[w3b nd sh th tr,some (.cells (w3c nd th)),some (.cells [.int .i64 sh,.int .i64 th,.int .i64 nd,.int .i64 tr,.raw (.pointer none),.ptr 3 0,.slice 4 0 1 1,.int .i64 0]),w3a,some (.cells [.ptr 5 0]),some (.abs (.worker (wf 0)) [])]),ok:=fun _=>eI sh th m ln f g 1,mu:=fun _=>8,keep:=[1,2,7,8,33,34],sel:=fun tm _=>match tm.getD 34 .O with
 | .int _ n=>Nat.beq n.toNat 1
 | _=>false}
def HN2(sh th nd tr:Int)(m:Nat)(ln:Nat→Nat)(f g:Nat→Nat→Int)(wf:Nat→WKS):Hint Ob:= {X:=Unit,st:=fun _=>((.O::(.view m 1 (fun i=>[.view (ln i) 2 (fun j=>[.int .i64 (f i j),.int .i64 (g i j)])]))::.ptr 0 0::.O::.O::.O::.O::.ptr 1 0::.ptr 2 0::(tO' 24 [.int .i64 th,.int .i64 2]))++List.replicate 45 .O,[w3b nd sh th tr,some (.cells (w3c nd th)),some (.cells [.int .i64 sh,.int .i64 th,.int .i64 nd,.int .i64 tr,.raw (.pointer none),.ptr 3 0,.slice 4 0 2 1,.int .i64 0]),w3a,some (.cells [.ptr 5 0,.ptr 6 0]),some (.abs (.worker (wf 0)) []),some (.abs (.worker (wf 1)) [])]),ok:=fun _=>eI sh th m ln f g 2,mu:=fun _=>7,keep:=[1,2,7,8,33,34],sel:=fun tm _=>match tm.getD 34 .O with
 | .int _ n=>Nat.beq n.toNat 2
 | _=>false}
def HN3(sh th nd tr:Int)(m:Nat)(ln:Nat→Nat)(f g:Nat→Nat→Int)(wf:Nat→WKS):Hint Ob:= {X:=Unit,st:=fun _=>((.O::(.view m 1 (fun i=>[.view (ln i) 2 (fun j=>[.int .i64 (f i j),.int .i64 (g i j)])]))::.ptr 0 0::.O::.O::.O::.O::.ptr 1 0::.ptr 2 0::(tO' 24 [.int .i64 th,.int .i64 3]))++List.replicate 45 .O,[w3b nd sh th tr,some (.cells (w3c nd th)),some (.cells [.int .i64 sh,.int .i64 th,.int .i64 nd,.int .i64 tr,.raw (.pointer none),.ptr 3 0,.slice 4 0 3 1,.int .i64 0]),w3a,some (.cells [.ptr 5 0,.ptr 6 0,.ptr 7 0]),some (.abs (.worker (wf 0)) []),some (.abs (.worker (wf 1)) []),some (.abs (.worker (wf 2)) [])]),ok:=fun _=>eI sh th m ln f g 3,mu:=fun _=>6,keep:=[1,2,7,8,33,34],sel:=fun tm _=>match tm.getD 34 .O with
 | .int _ n=>Nat.beq n.toNat 3
 | _=>false}
def HN4(sh th nd tr:Int)(m:Nat)(ln:Nat→Nat)(f g:Nat→Nat→Int)(wf:Nat→WKS):Hint Ob:= {X:=Unit,st:=fun _=>((.O::(.view m 1 (fun i=>[.view (ln i) 2 (fun j=>[.int .i64 (f i j),.int .i64 (g i j)])]))::.ptr 0 0::.O::.O::.O::.O::.ptr 1 0::.ptr 2 0::(tO' 24 [.int .i64 th,.int .i64 4]))++List.replicate 45 .O,[w3b nd sh th tr,some (.cells (w3c nd th)),some (.cells [.int .i64 sh,.int .i64 th,.int .i64 nd,.int .i64 tr,.raw (.pointer none),.ptr 3 0,.slice 4 0 4 1,.int .i64 0]),w3a,some (.cells [.ptr 5 0,.ptr 6 0,.ptr 7 0,.ptr 8 0]),some (.abs (.worker (wf 0)) []),some (.abs (.worker (wf 1)) []),some (.abs (.worker (wf 2)) []),some (.abs (.worker (wf 3)) [])]),ok:=fun _=>eI sh th m ln f g 4,mu:=fun _=>5,keep:=[1,2,7,8,33,34],sel:=fun tm _=>match tm.getD 34 .O with
 | .int _ n=>Nat.beq n.toNat 4
 | _=>false}
def HN5(sh th nd tr:Int)(m:Nat)(ln:Nat→Nat)(f g:Nat→Nat→Int)(wf:Nat→WKS):Hint Ob:= {X:=Unit,st:=fun _=>((.O::(.view m 1 (fun i=>[.view (ln i) 2 (fun j=>[.int .i64 (f i j),.int .i64 (g i j)])]))::.ptr 0 0::.O::.O::.O::.O::.ptr 1 0::.ptr 2 0::(tO' 24 [.int .i64 th,.int .i64 5]))++List.replicate 45 .O,[w3b nd sh th tr,some (.cells (w3c nd th)),some (.cells [.int .i64 sh,.int .i64 th,.int .i64 nd,.int .i64 tr,.raw (.pointer none),.ptr 3 0,.slice 4 0 5 1,.int .i64 0]),w3a,some (.cells [.ptr 5 0,.ptr 6 0,.ptr 7 0,.ptr 8 0,.ptr 9 0]),some (.abs (.worker (wf 0)) []),some (.abs (.worker (wf 1)) []),some (.abs (.worker (wf 2)) []),some (.abs (.worker (wf 3)) []),some (.abs (.worker (wf 4)) [])]),ok:=fun _=>eI sh th m ln f g 5,mu:=fun _=>4,keep:=[1,2,7,8,33,34],sel:=fun tm _=>match tm.getD 34 .O with
 | .int _ n=>Nat.beq n.toNat 5
 | _=>false}
def HN6(sh th nd tr:Int)(m:Nat)(ln:Nat→Nat)(f g:Nat→Nat→Int)(wf:Nat→WKS):Hint Ob:= {X:=Unit,st:=fun _=>((.O::(.view m 1 (fun i=>[.view (ln i) 2 (fun j=>[.int .i64 (f i j),.int .i64 (g i j)])]))::.ptr 0 0::.O::.O::.O::.O::.ptr 1 0::.ptr 2 0::(tO' 24 [.int .i64 th,.int .i64 6]))++List.replicate 45 .O,[w3b nd sh th tr,some (.cells (w3c nd th)),some (.cells [.int .i64 sh,.int .i64 th,.int .i64 nd,.int .i64 tr,.raw (.pointer none),.ptr 3 0,.slice 4 0 6 1,.int .i64 0]),w3a,some (.cells [.ptr 5 0,.ptr 6 0,.ptr 7 0,.ptr 8 0,.ptr 9 0,.ptr 10 0]),some (.abs (.worker (wf 0)) []),some (.abs (.worker (wf 1)) []),some (.abs (.worker (wf 2)) []),some (.abs (.worker (wf 3)) []),some (.abs (.worker (wf 4)) []),some (.abs (.worker (wf 5)) [])]),ok:=fun _=>eI sh th m ln f g 6,mu:=fun _=>3,keep:=[1,2,7,8,33,34],sel:=fun tm _=>match tm.getD 34 .O with
 | .int _ n=>Nat.beq n.toNat 6
 | _=>false}
def HN7(sh th nd tr:Int)(m:Nat)(ln:Nat→Nat)(f g:Nat→Nat→Int)(wf:Nat→WKS):Hint Ob:= {X:=Unit,st:=fun _=>((.O::(.view m 1 (fun i=>[.view (ln i) 2 (fun j=>[.int .i64 (f i j),.int .i64 (g i j)])]))::.ptr 0 0::.O::.O::.O::.O::.ptr 1 0::.ptr 2 0::(tO' 24 [.int .i64 th,.int .i64 7]))++List.replicate 45 .O,[w3b nd sh th tr,some (.cells (w3c nd th)),some (.cells [.int .i64 sh,.int .i64 th,.int .i64 nd,.int .i64 tr,.raw (.pointer none),.ptr 3 0,.slice 4 0 7 1,.int .i64 0]),w3a,some (.cells [.ptr 5 0,.ptr 6 0,.ptr 7 0,.ptr 8 0,.ptr 9 0,.ptr 10 0,.ptr 11 0]),some (.abs (.worker (wf 0)) []),some (.abs (.worker (wf 1)) []),some (.abs (.worker (wf 2)) []),some (.abs (.worker (wf 3)) []),some (.abs (.worker (wf 4)) []),some (.abs (.worker (wf 5)) []),some (.abs (.worker (wf 6)) [])]),ok:=fun _=>eI sh th m ln f g 7,mu:=fun _=>2,keep:=[1,2,7,8,33,34],sel:=fun tm _=>match tm.getD 34 .O with
 | .int _ n=>Nat.beq n.toNat 7
 | _=>false}
def HN8(sh th nd tr:Int)(m:Nat)(ln:Nat→Nat)(f g:Nat→Nat→Int)(wf:Nat→WKS):Hint Ob:= {X:=Unit,st:=fun _=>((.O::(.view m 1 (fun i=>[.view (ln i) 2 (fun j=>[.int .i64 (f i j),.int .i64 (g i j)])]))::.ptr 0 0::.O::.O::.O::.O::.ptr 1 0::.ptr 2 0::(tO' 24 [.int .i64 th,.int .i64 8]))++List.replicate 45 .O,[w3b nd sh th tr,some (.cells (w3c nd th)),some (.cells [.int .i64 sh,.int .i64 th,.int .i64 nd,.int .i64 tr,.raw (.pointer none),.ptr 3 0,.slice 4 0 8 1,.int .i64 0]),w3a,some (.cells [.ptr 5 0,.ptr 6 0,.ptr 7 0,.ptr 8 0,.ptr 9 0,.ptr 10 0,.ptr 11 0,.ptr 12 0]),some (.abs (.worker (wf 0)) []),some (.abs (.worker (wf 1)) []),some (.abs (.worker (wf 2)) []),some (.abs (.worker (wf 3)) []),some (.abs (.worker (wf 4)) []),some (.abs (.worker (wf 5)) []),some (.abs (.worker (wf 6)) []),some (.abs (.worker (wf 7)) [])]),ok:=fun _=>eI sh th m ln f g 8,mu:=fun _=>1,keep:=[1,2,7,8,33,34],sel:=fun tm _=>match tm.getD 34 .O with
 | .int _ n=>Nat.beq n.toNat 8
 | _=>false}
abbrev w3d:Option (aH Ob):=some (.abs (.hist {ev:=[],cl:=[],n0:=0,n1:=0,n2:=0,n3:=0,n4:=0,n5:=0,n6:=0,n7:=0}) [])
abbrev w3e(nd th:Int):=((0:Int)≤th∧th≤(100000:Int))∧(0:Int)≤nd∧nd≤(100000:Int)
abbrev w3f(wf:Nat→WKS):Option (aH Ob):=some (.abs (.worker (wf 0)) [])
abbrev w3g(wf:Nat→WKS):Option (aH Ob):=some (.abs (.worker (wf 1)) [])
abbrev w3h(nd th:Int):Option (aH Ob):=cE' [.I th,.I nd,.slice 2 0 (Int.toNat (2*nd+5*th+6)) 1,.I 0,.I 0,.I 0,.int .u64 0,.int .u64 0,.bool false]
abbrev w3i(nd th:Int):=(0:Int)≤(2:Int)*nd+5*th+6∧2*nd+5*th+(6:Int)=(2:Int)*nd+5*th+6∧2*nd+5*th+(6:Int)≤(4294967296:Int)
abbrev w3j(wf:Nat→WKS):Option (aH Ob):=some (.abs (.worker (wf 2)) [])
abbrev w3k(wf:Nat→WKS):Option (aH Ob):=some (.abs (.worker (wf 3)) [])
abbrev w3l(nd th:Int):Option (aH Ob):=some (.ints (some .u64) (List.replicate (Int.toNat (2*nd+5*th+6)) 0))
abbrev w3m(wf:Nat→WKS):Option (aH Ob):=some (.abs (.worker (wf 4)) [])
abbrev w3n(wf:Nat→WKS):Option (aH Ob):=some (.abs (.worker (wf 5)) [])
abbrev w3o(nd sh th tr:Int):Option (aH Ob):=cE' [.I sh,.I th,.I nd,.I tr]
abbrev w3p:List AVal:=[.ptr 5 0,.ptr 6 0,.ptr 7 0,.ptr 8 0,.ptr 9 0,.ptr 10 0,.ptr 11 0,.ptr 12 0]
abbrev w3q:List AVal:=[.ptr 5 0,.ptr 6 0,.ptr 7 0,.ptr 8 0,.ptr 9 0,.ptr 10 0,.ptr 11 0]
abbrev w3r:List AVal:=[.ptr 5 0,.ptr 6 0,.ptr 7 0,.ptr 8 0,.ptr 9 0,.ptr 10 0]
abbrev w3s(wf:Nat→WKS):Option (aH Ob):=some (.abs (.worker (wf 6)) [])
abbrev w3t:List AVal:=[.ptr 5 0,.ptr 6 0,.ptr 7 0,.ptr 8 0,.ptr 9 0]
abbrev w3u:List AVal:=[.ptr 3 0,.ptr 4 0,.ptr 5 0,.ptr 6 0,.ptr 7 0,.ptr 8 0,.ptr 9 0,.ptr 10 0]
abbrev w3v:List AVal:=[.ptr 5 0,.ptr 6 0,.ptr 7 0,.ptr 8 0]
abbrev w3w:=Value.slice none 0 0
abbrev w3x:List AVal:=[.ptr 3 0,.ptr 4 0,.ptr 5 0,.ptr 6 0,.ptr 7 0,.ptr 8 0,.ptr 9 0]
abbrev w3y:List AVal:=[.ptr 3 0,.ptr 4 0,.ptr 5 0,.ptr 6 0,.ptr 7 0,.ptr 8 0]
abbrev w3z:List AVal:=[.ptr 5 0,.ptr 6 0,.ptr 7 0]
def aA7(sh th nd tr:Int)(m:Nat)(ln:Nat→Nat)(f g:Nat→Nat→Int)(wf:Nat→WKS)(K:AVal→aC Ob→Prop):Prop:=True∧bif !ieq (wrE sh th nd tr) 0 then K (.tup [.N,.I (wrE sh th nd tr)]) []else(m≤(1000000:Nat)∧iX fun i=>[.view (ln i) 2 fun j=>[.I (f i j),.I (g i j)]])∧bif lgB th m (vL fun i=>[.view (ln i) 2 fun j=>[.I (f i j),.I (g i j)]])then K (.tup [.N,.I 6]) []else(True∧True)∧okSt (HN0 sh th nd tr m ln f g wf) (fun x=>Hint.ok (HN0 sh th nd tr m ln f g wf) x∧gU none (Hint.mu (HN0 sh th nd tr m ln f g wf) x)) (.O::(.view m 1 fun i=>[.view (ln i) 2 fun j=>[.I (f i j),.I (g i j)]])::.ptr 0 0::.O::.O::.O::.O::.ptr 1 0::.ptr 2 0::(tO' 24 (.I th::.I 0::(tO' 45 [])))) [w3o nd sh th tr,cE' [.I th,.I nd],cE' [.I sh,.I th,.I nd,.I tr,.N,.ptr 3 0,.raw w3w,.I 0],w3d]∧(∀(x:Hint.X (HN0 sh th nd tr m ln f g wf)),eI sh th m ln f g 0→bif ilt 0 th then bif ilt 0 (↑m:Int)then((0:Int)≤(0:Int)∧(0:Int)<(↑m:Int))∧((ln (Int.toNat 0)≤(1000000:Nat)∧lJ fun j=>[.I (f (Int.toNat 0) j),.I (g (Int.toNat 0) j)])∧True)∧bif !ieq (ofC sh (ln (Int.toNat 0)) (rK fun j=>[.I (f (Int.toNat 0) j),.I (g (Int.toNat 0) j)]) (rY fun j=>[.I (f (Int.toNat 0) j),.I (g (Int.toNat 0) j)])) 0 then K (.tup [.N,.I (ofC sh (ln (Int.toNat 0)) (rK fun j=>[.I (f (Int.toNat 0) j),.I (g (Int.toNat 0) j)]) (rY fun j=>[.I (f (Int.toNat 0) j),.I (g (Int.toNat 0) j)]))]) []else(lE' (ofR sh (ln (Int.toNat 0)) (rK fun j=>[.I (f (Int.toNat 0) j),.I (g (Int.toNat 0) j)]) (rY fun j=>[.I (f (Int.toNat 0) j),.I (g (Int.toNat 0) j)]))∧True)∧(1:Nat)≤(4294967296:Nat)∧okSt (HN1 sh th nd tr m ln f g wf) (fun x_1=>Hint.ok (HN1 sh th nd tr m ln f g wf) x_1∧gU (some (Hint.mu (HN0 sh th nd tr m ln f g wf) x)) (Hint.mu (HN1 sh th nd tr m ln f g wf) x_1)) (.O::(.view m 1 fun i=>[.view (ln i) 2 fun j=>[.I (f i j),.I (g i j)]])::.ptr 0 0::.O::.O::.O::.O::.ptr 1 0::.ptr 2 0::(tO' 24 (.I th::.I (W (0+1))::(tO' 45 [])))) [w3o nd sh th tr,cE' [.I th,.I nd],cE' [.I sh,.I th,.I nd,.I tr,.N,.ptr 3 0,.slice 4 0 1 1,.I 0],w3d,cE' [.ptr 5 0],some (.abs (.worker (v7 th nd 0 (ofR sh (ln (Int.toNat 0)) (rK fun j=>[.I (f (Int.toNat 0) j),.I (g (Int.toNat 0) j)]) (rY fun j=>[.I (f (Int.toNat 0) j),.I (g (Int.toNat 0) j)])))) [])]else(True∧True)∧(1:Nat)≤(4294967296:Nat)∧okSt (HN1 sh th nd tr m ln f g wf) (fun x_1=>Hint.ok (HN1 sh th nd tr m ln f g wf) x_1∧gU (some (Hint.mu (HN0 sh th nd tr m ln f g wf) x)) (Hint.mu (HN1 sh th nd tr m ln f g wf) x_1)) (.O::(.view m 1 fun i=>[.view (ln i) 2 fun j=>[.I (f i j),.I (g i j)]])::.ptr 0 0::.O::.O::.O::.O::.ptr 1 0::.ptr 2 0::(tO' 24 (.I th::.I (W (0+1))::(tO' 45 [])))) [w3o nd sh th tr,cE' [.I th,.I nd],cE' [.I sh,.I th,.I nd,.I tr,.N,.ptr 3 0,.slice 4 0 1 1,.I 0],w3d,cE' [.ptr 5 0],some (.abs (.worker (v7 th nd 0 [])) [])]else True∧bif !dM th nd then K (.tup [.ptr 0 0,.I 1]) [cE' [.I sh,.I th,.I nd,.I tr,.N,.ptr 1 0,.raw w3w,.I 0],w3d]else(w3e nd th)∧bif ilt (2*nd+5*th+6) (↑0:Int)then K (.tup [.ptr 0 0,.I 6]) [cE' [.I sh,.I th,.I nd,.I tr,.N,.ptr 1 0,.raw w3w,.I 0],w3d]else((w3e nd th)∧True)∧(w3i nd th)∧K (.tup [.ptr 0 0,.I 0]) [cE' [.I sh,.I th,.I nd,.I tr,.ptr 1 0,.ptr 3 0,.raw w3w,.I 0],w3h nd th,w3l nd th,w3d])∧(∀(x:Hint.X (HN1 sh th nd tr m ln f g wf)),eI sh th m ln f g 1→bif ilt 1 th then bif ilt 1 (↑m:Int)then((0:Int)≤(1:Int)∧(1:Int)<(↑m:Int))∧((ln (Int.toNat 1)≤(1000000:Nat)∧lJ fun j=>[.I (f (Int.toNat 1) j),.I (g (Int.toNat 1) j)])∧True)∧bif !ieq (ofC sh (ln (Int.toNat 1)) (rK fun j=>[.I (f (Int.toNat 1) j),.I (g (Int.toNat 1) j)]) (rY fun j=>[.I (f (Int.toNat 1) j),.I (g (Int.toNat 1) j)])) 0 then K (.tup [.N,.I (ofC sh (ln (Int.toNat 1)) (rK fun j=>[.I (f (Int.toNat 1) j),.I (g (Int.toNat 1) j)]) (rY fun j=>[.I (f (Int.toNat 1) j),.I (g (Int.toNat 1) j)]))]) []else(lE' (ofR sh (ln (Int.toNat 1)) (rK fun j=>[.I (f (Int.toNat 1) j),.I (g (Int.toNat 1) j)]) (rY fun j=>[.I (f (Int.toNat 1) j),.I (g (Int.toNat 1) j)]))∧True)∧1+(1:Nat)≤(4294967296:Nat)∧okSt (HN2 sh th nd tr m ln f g wf) (fun x_1=>Hint.ok (HN2 sh th nd tr m ln f g wf) x_1∧gU (some (Hint.mu (HN1 sh th nd tr m ln f g wf) x)) (Hint.mu (HN2 sh th nd tr m ln f g wf) x_1)) (.O::(.view m 1 fun i=>[.view (ln i) 2 fun j=>[.I (f i j),.I (g i j)]])::.ptr 0 0::.O::.O::.O::.O::.ptr 1 0::.ptr 2 0::(tO' 24 (.I th::.I (W (1+1))::(tO' 45 [])))) [w3o nd sh th tr,cE' [.I th,.I nd],cE' [.I sh,.I th,.I nd,.I tr,.N,.ptr 3 0,.slice 4 0 2 1,.I 0],w3d,cE' [.ptr 5 0,.ptr 6 0],w3f wf,some (.abs (.worker (v7 th nd 1 (ofR sh (ln (Int.toNat 1)) (rK fun j=>[.I (f (Int.toNat 1) j),.I (g (Int.toNat 1) j)]) (rY fun j=>[.I (f (Int.toNat 1) j),.I (g (Int.toNat 1) j)])))) [])]else(True∧True)∧1+(1:Nat)≤(4294967296:Nat)∧okSt (HN2 sh th nd tr m ln f g wf) (fun x_1=>Hint.ok (HN2 sh th nd tr m ln f g wf) x_1∧gU (some (Hint.mu (HN1 sh th nd tr m ln f g wf) x)) (Hint.mu (HN2 sh th nd tr m ln f g wf) x_1)) (.O::(.view m 1 fun i=>[.view (ln i) 2 fun j=>[.I (f i j),.I (g i j)]])::.ptr 0 0::.O::.O::.O::.O::.ptr 1 0::.ptr 2 0::(tO' 24 (.I th::.I (W (1+1))::(tO' 45 [])))) [w3o nd sh th tr,cE' [.I th,.I nd],cE' [.I sh,.I th,.I nd,.I tr,.N,.ptr 3 0,.slice 4 0 2 1,.I 0],w3d,cE' [.ptr 5 0,.ptr 6 0],w3f wf,some (.abs (.worker (v7 th nd 1 [])) [])]else True∧bif !dM th nd then K (.tup [.ptr 0 0,.I 1]) [cE' [.I sh,.I th,.I nd,.I tr,.N,.ptr 1 0,.slice 2 0 1 1,.I 0],w3d,cE' [.ptr 3 0],w3f wf]else(w3e nd th)∧bif ilt (2*nd+5*th+6) (↑0:Int)then K (.tup [.ptr 0 0,.I 6]) [cE' [.I sh,.I th,.I nd,.I tr,.N,.ptr 1 0,.slice 2 0 1 1,.I 0],w3d,cE' [.ptr 3 0],w3f wf]else((w3e nd th)∧True)∧(w3i nd th)∧K (.tup [.ptr 0 0,.I 0]) [cE' [.I sh,.I th,.I nd,.I tr,.ptr 1 0,.ptr 3 0,.slice 4 0 1 1,.I 0],w3h nd th,w3l nd th,w3d,cE' [.ptr 5 0],w3f wf])∧(∀(x:Hint.X (HN2 sh th nd tr m ln f g wf)),eI sh th m ln f g 2→bif ilt 2 th then bif ilt 2 (↑m:Int)then((0:Int)≤(2:Int)∧(2:Int)<(↑m:Int))∧((ln (Int.toNat 2)≤(1000000:Nat)∧lJ fun j=>[.I (f (Int.toNat 2) j),.I (g (Int.toNat 2) j)])∧True)∧bif !ieq (ofC sh (ln (Int.toNat 2)) (rK fun j=>[.I (f (Int.toNat 2) j),.I (g (Int.toNat 2) j)]) (rY fun j=>[.I (f (Int.toNat 2) j),.I (g (Int.toNat 2) j)])) 0 then K (.tup [.N,.I (ofC sh (ln (Int.toNat 2)) (rK fun j=>[.I (f (Int.toNat 2) j),.I (g (Int.toNat 2) j)]) (rY fun j=>[.I (f (Int.toNat 2) j),.I (g (Int.toNat 2) j)]))]) []else(lE' (ofR sh (ln (Int.toNat 2)) (rK fun j=>[.I (f (Int.toNat 2) j),.I (g (Int.toNat 2) j)]) (rY fun j=>[.I (f (Int.toNat 2) j),.I (g (Int.toNat 2) j)]))∧True)∧2+(1:Nat)≤(4294967296:Nat)∧okSt (HN3 sh th nd tr m ln f g wf) (fun x_1=>Hint.ok (HN3 sh th nd tr m ln f g wf) x_1∧gU (some (Hint.mu (HN2 sh th nd tr m ln f g wf) x)) (Hint.mu (HN3 sh th nd tr m ln f g wf) x_1)) (.O::(.view m 1 fun i=>[.view (ln i) 2 fun j=>[.I (f i j),.I (g i j)]])::.ptr 0 0::.O::.O::.O::.O::.ptr 1 0::.ptr 2 0::(tO' 24 (.I th::.I (W (2+1))::(tO' 45 [])))) [w3o nd sh th tr,cE' [.I th,.I nd],cE' [.I sh,.I th,.I nd,.I tr,.N,.ptr 3 0,.slice 4 0 3 1,.I 0],w3d,cE' w3z,w3f wf,w3g wf,some (.abs (.worker (v7 th nd 2 (ofR sh (ln (Int.toNat 2)) (rK fun j=>[.I (f (Int.toNat 2) j),.I (g (Int.toNat 2) j)]) (rY fun j=>[.I (f (Int.toNat 2) j),.I (g (Int.toNat 2) j)])))) [])]else(True∧True)∧2+(1:Nat)≤(4294967296:Nat)∧okSt (HN3 sh th nd tr m ln f g wf) (fun x_1=>Hint.ok (HN3 sh th nd tr m ln f g wf) x_1∧gU (some (Hint.mu (HN2 sh th nd tr m ln f g wf) x)) (Hint.mu (HN3 sh th nd tr m ln f g wf) x_1)) (.O::(.view m 1 fun i=>[.view (ln i) 2 fun j=>[.I (f i j),.I (g i j)]])::.ptr 0 0::.O::.O::.O::.O::.ptr 1 0::.ptr 2 0::(tO' 24 (.I th::.I (W (2+1))::(tO' 45 [])))) [w3o nd sh th tr,cE' [.I th,.I nd],cE' [.I sh,.I th,.I nd,.I tr,.N,.ptr 3 0,.slice 4 0 3 1,.I 0],w3d,cE' w3z,w3f wf,w3g wf,some (.abs (.worker (v7 th nd 2 [])) [])]else True∧bif !dM th nd then K (.tup [.ptr 0 0,.I 1]) [cE' [.I sh,.I th,.I nd,.I tr,.N,.ptr 1 0,.slice 2 0 2 1,.I 0],w3d,cE' [.ptr 3 0,.ptr 4 0],w3f wf,w3g wf]else(w3e nd th)∧bif ilt (2*nd+5*th+6) (↑0:Int)then K (.tup [.ptr 0 0,.I 6]) [cE' [.I sh,.I th,.I nd,.I tr,.N,.ptr 1 0,.slice 2 0 2 1,.I 0],w3d,cE' [.ptr 3 0,.ptr 4 0],w3f wf,w3g wf]else((w3e nd th)∧True)∧(w3i nd th)∧K (.tup [.ptr 0 0,.I 0]) [cE' [.I sh,.I th,.I nd,.I tr,.ptr 1 0,.ptr 3 0,.slice 4 0 2 1,.I 0],w3h nd th,w3l nd th,w3d,cE' [.ptr 5 0,.ptr 6 0],w3f wf,w3g wf])∧(∀(x:Hint.X (HN3 sh th nd tr m ln f g wf)),eI sh th m ln f g 3→bif ilt 3 th then bif ilt 3 (↑m:Int)then((0:Int)≤(3:Int)∧(3:Int)<(↑m:Int))∧((ln (Int.toNat 3)≤(1000000:Nat)∧lJ fun j=>[.I (f (Int.toNat 3) j),.I (g (Int.toNat 3) j)])∧True)∧bif !ieq (ofC sh (ln (Int.toNat 3)) (rK fun j=>[.I (f (Int.toNat 3) j),.I (g (Int.toNat 3) j)]) (rY fun j=>[.I (f (Int.toNat 3) j),.I (g (Int.toNat 3) j)])) 0 then K (.tup [.N,.I (ofC sh (ln (Int.toNat 3)) (rK fun j=>[.I (f (Int.toNat 3) j),.I (g (Int.toNat 3) j)]) (rY fun j=>[.I (f (Int.toNat 3) j),.I (g (Int.toNat 3) j)]))]) []else(lE' (ofR sh (ln (Int.toNat 3)) (rK fun j=>[.I (f (Int.toNat 3) j),.I (g (Int.toNat 3) j)]) (rY fun j=>[.I (f (Int.toNat 3) j),.I (g (Int.toNat 3) j)]))∧True)∧3+(1:Nat)≤(4294967296:Nat)∧okSt (HN4 sh th nd tr m ln f g wf) (fun x_1=>Hint.ok (HN4 sh th nd tr m ln f g wf) x_1∧gU (some (Hint.mu (HN3 sh th nd tr m ln f g wf) x)) (Hint.mu (HN4 sh th nd tr m ln f g wf) x_1)) (.O::(.view m 1 fun i=>[.view (ln i) 2 fun j=>[.I (f i j),.I (g i j)]])::.ptr 0 0::.O::.O::.O::.O::.ptr 1 0::.ptr 2 0::(tO' 24 (.I th::.I (W (3+1))::(tO' 45 [])))) [w3o nd sh th tr,cE' [.I th,.I nd],cE' [.I sh,.I th,.I nd,.I tr,.N,.ptr 3 0,.slice 4 0 4 1,.I 0],w3d,cE' w3v,w3f wf,w3g wf,w3j wf,some (.abs (.worker (v7 th nd 3 (ofR sh (ln (Int.toNat 3)) (rK fun j=>[.I (f (Int.toNat 3) j),.I (g (Int.toNat 3) j)]) (rY fun j=>[.I (f (Int.toNat 3) j),.I (g (Int.toNat 3) j)])))) [])]else(True∧True)∧3+(1:Nat)≤(4294967296:Nat)∧okSt (HN4 sh th nd tr m ln f g wf) (fun x_1=>Hint.ok (HN4 sh th nd tr m ln f g wf) x_1∧gU (some (Hint.mu (HN3 sh th nd tr m ln f g wf) x)) (Hint.mu (HN4 sh th nd tr m ln f g wf) x_1)) (.O::(.view m 1 fun i=>[.view (ln i) 2 fun j=>[.I (f i j),.I (g i j)]])::.ptr 0 0::.O::.O::.O::.O::.ptr 1 0::.ptr 2 0::(tO' 24 (.I th::.I (W (3+1))::(tO' 45 [])))) [w3o nd sh th tr,cE' [.I th,.I nd],cE' [.I sh,.I th,.I nd,.I tr,.N,.ptr 3 0,.slice 4 0 4 1,.I 0],w3d,cE' w3v,w3f wf,w3g wf,w3j wf,some (.abs (.worker (v7 th nd 3 [])) [])]else True∧bif !dM th nd then K (.tup [.ptr 0 0,.I 1]) [cE' [.I sh,.I th,.I nd,.I tr,.N,.ptr 1 0,.slice 2 0 3 1,.I 0],w3d,cE' [.ptr 3 0,.ptr 4 0,.ptr 5 0],w3f wf,w3g wf,w3j wf]else(w3e nd th)∧bif ilt (2*nd+5*th+6) (↑0:Int)then K (.tup [.ptr 0 0,.I 6]) [cE' [.I sh,.I th,.I nd,.I tr,.N,.ptr 1 0,.slice 2 0 3 1,.I 0],w3d,cE' [.ptr 3 0,.ptr 4 0,.ptr 5 0],w3f wf,w3g wf,w3j wf]else((w3e nd th)∧True)∧(w3i nd th)∧K (.tup [.ptr 0 0,.I 0]) [cE' [.I sh,.I th,.I nd,.I tr,.ptr 1 0,.ptr 3 0,.slice 4 0 3 1,.I 0],w3h nd th,w3l nd th,w3d,cE' w3z,w3f wf,w3g wf,w3j wf])∧(∀(x:Hint.X (HN4 sh th nd tr m ln f g wf)),eI sh th m ln f g 4→bif ilt 4 th then bif ilt 4 (↑m:Int)then((0:Int)≤(4:Int)∧(4:Int)<(↑m:Int))∧((ln (Int.toNat 4)≤(1000000:Nat)∧lJ fun j=>[.I (f (Int.toNat 4) j),.I (g (Int.toNat 4) j)])∧True)∧bif !ieq (ofC sh (ln (Int.toNat 4)) (rK fun j=>[.I (f (Int.toNat 4) j),.I (g (Int.toNat 4) j)]) (rY fun j=>[.I (f (Int.toNat 4) j),.I (g (Int.toNat 4) j)])) 0 then K (.tup [.N,.I (ofC sh (ln (Int.toNat 4)) (rK fun j=>[.I (f (Int.toNat 4) j),.I (g (Int.toNat 4) j)]) (rY fun j=>[.I (f (Int.toNat 4) j),.I (g (Int.toNat 4) j)]))]) []else(lE' (ofR sh (ln (Int.toNat 4)) (rK fun j=>[.I (f (Int.toNat 4) j),.I (g (Int.toNat 4) j)]) (rY fun j=>[.I (f (Int.toNat 4) j),.I (g (Int.toNat 4) j)]))∧True)∧4+(1:Nat)≤(4294967296:Nat)∧okSt (HN5 sh th nd tr m ln f g wf) (fun x_1=>Hint.ok (HN5 sh th nd tr m ln f g wf) x_1∧gU (some (Hint.mu (HN4 sh th nd tr m ln f g wf) x)) (Hint.mu (HN5 sh th nd tr m ln f g wf) x_1)) (.O::(.view m 1 fun i=>[.view (ln i) 2 fun j=>[.I (f i j),.I (g i j)]])::.ptr 0 0::.O::.O::.O::.O::.ptr 1 0::.ptr 2 0::(tO' 24 (.I th::.I (W (4+1))::(tO' 45 [])))) [w3o nd sh th tr,cE' [.I th,.I nd],cE' [.I sh,.I th,.I nd,.I tr,.N,.ptr 3 0,.slice 4 0 5 1,.I 0],w3d,cE' w3t,w3f wf,w3g wf,w3j wf,w3k wf,some (.abs (.worker (v7 th nd 4 (ofR sh (ln (Int.toNat 4)) (rK fun j=>[.I (f (Int.toNat 4) j),.I (g (Int.toNat 4) j)]) (rY fun j=>[.I (f (Int.toNat 4) j),.I (g (Int.toNat 4) j)])))) [])]else(True∧True)∧4+(1:Nat)≤(4294967296:Nat)∧okSt (HN5 sh th nd tr m ln f g wf) (fun x_1=>Hint.ok (HN5 sh th nd tr m ln f g wf) x_1∧gU (some (Hint.mu (HN4 sh th nd tr m ln f g wf) x)) (Hint.mu (HN5 sh th nd tr m ln f g wf) x_1)) (.O::(.view m 1 fun i=>[.view (ln i) 2 fun j=>[.I (f i j),.I (g i j)]])::.ptr 0 0::.O::.O::.O::.O::.ptr 1 0::.ptr 2 0::(tO' 24 (.I th::.I (W (4+1))::(tO' 45 [])))) [w3o nd sh th tr,cE' [.I th,.I nd],cE' [.I sh,.I th,.I nd,.I tr,.N,.ptr 3 0,.slice 4 0 5 1,.I 0],w3d,cE' w3t,w3f wf,w3g wf,w3j wf,w3k wf,some (.abs (.worker (v7 th nd 4 [])) [])]else True∧bif !dM th nd then K (.tup [.ptr 0 0,.I 1]) [cE' [.I sh,.I th,.I nd,.I tr,.N,.ptr 1 0,.slice 2 0 4 1,.I 0],w3d,cE' [.ptr 3 0,.ptr 4 0,.ptr 5 0,.ptr 6 0],w3f wf,w3g wf,w3j wf,w3k wf]else(w3e nd th)∧bif ilt (2*nd+5*th+6) (↑0:Int)then K (.tup [.ptr 0 0,.I 6]) [cE' [.I sh,.I th,.I nd,.I tr,.N,.ptr 1 0,.slice 2 0 4 1,.I 0],w3d,cE' [.ptr 3 0,.ptr 4 0,.ptr 5 0,.ptr 6 0],w3f wf,w3g wf,w3j wf,w3k wf]else((w3e nd th)∧True)∧(w3i nd th)∧K (.tup [.ptr 0 0,.I 0]) [cE' [.I sh,.I th,.I nd,.I tr,.ptr 1 0,.ptr 3 0,.slice 4 0 4 1,.I 0],w3h nd th,w3l nd th,w3d,cE' w3v,w3f wf,w3g wf,w3j wf,w3k wf])∧(∀(x:Hint.X (HN5 sh th nd tr m ln f g wf)),eI sh th m ln f g 5→bif ilt 5 th then bif ilt 5 (↑m:Int)then((0:Int)≤(5:Int)∧(5:Int)<(↑m:Int))∧((ln (Int.toNat 5)≤(1000000:Nat)∧lJ fun j=>[.I (f (Int.toNat 5) j),.I (g (Int.toNat 5) j)])∧True)∧bif !ieq (ofC sh (ln (Int.toNat 5)) (rK fun j=>[.I (f (Int.toNat 5) j),.I (g (Int.toNat 5) j)]) (rY fun j=>[.I (f (Int.toNat 5) j),.I (g (Int.toNat 5) j)])) 0 then K (.tup [.N,.I (ofC sh (ln (Int.toNat 5)) (rK fun j=>[.I (f (Int.toNat 5) j),.I (g (Int.toNat 5) j)]) (rY fun j=>[.I (f (Int.toNat 5) j),.I (g (Int.toNat 5) j)]))]) []else(lE' (ofR sh (ln (Int.toNat 5)) (rK fun j=>[.I (f (Int.toNat 5) j),.I (g (Int.toNat 5) j)]) (rY fun j=>[.I (f (Int.toNat 5) j),.I (g (Int.toNat 5) j)]))∧True)∧5+(1:Nat)≤(4294967296:Nat)∧okSt (HN6 sh th nd tr m ln f g wf) (fun x_1=>Hint.ok (HN6 sh th nd tr m ln f g wf) x_1∧gU (some (Hint.mu (HN5 sh th nd tr m ln f g wf) x)) (Hint.mu (HN6 sh th nd tr m ln f g wf) x_1)) (.O::(.view m 1 fun i=>[.view (ln i) 2 fun j=>[.I (f i j),.I (g i j)]])::.ptr 0 0::.O::.O::.O::.O::.ptr 1 0::.ptr 2 0::(tO' 24 (.I th::.I (W (5+1))::(tO' 45 [])))) [w3o nd sh th tr,cE' [.I th,.I nd],cE' [.I sh,.I th,.I nd,.I tr,.N,.ptr 3 0,.slice 4 0 6 1,.I 0],w3d,cE' w3r,w3f wf,w3g wf,w3j wf,w3k wf,w3m wf,some (.abs (.worker (v7 th nd 5 (ofR sh (ln (Int.toNat 5)) (rK fun j=>[.I (f (Int.toNat 5) j),.I (g (Int.toNat 5) j)]) (rY fun j=>[.I (f (Int.toNat 5) j),.I (g (Int.toNat 5) j)])))) [])]else(True∧True)∧5+(1:Nat)≤(4294967296:Nat)∧okSt (HN6 sh th nd tr m ln f g wf) (fun x_1=>Hint.ok (HN6 sh th nd tr m ln f g wf) x_1∧gU (some (Hint.mu (HN5 sh th nd tr m ln f g wf) x)) (Hint.mu (HN6 sh th nd tr m ln f g wf) x_1)) (.O::(.view m 1 fun i=>[.view (ln i) 2 fun j=>[.I (f i j),.I (g i j)]])::.ptr 0 0::.O::.O::.O::.O::.ptr 1 0::.ptr 2 0::(tO' 24 (.I th::.I (W (5+1))::(tO' 45 [])))) [w3o nd sh th tr,cE' [.I th,.I nd],cE' [.I sh,.I th,.I nd,.I tr,.N,.ptr 3 0,.slice 4 0 6 1,.I 0],w3d,cE' w3r,w3f wf,w3g wf,w3j wf,w3k wf,w3m wf,some (.abs (.worker (v7 th nd 5 [])) [])]else True∧bif !dM th nd then K (.tup [.ptr 0 0,.I 1]) [cE' [.I sh,.I th,.I nd,.I tr,.N,.ptr 1 0,.slice 2 0 5 1,.I 0],w3d,cE' [.ptr 3 0,.ptr 4 0,.ptr 5 0,.ptr 6 0,.ptr 7 0],w3f wf,w3g wf,w3j wf,w3k wf,w3m wf]else(w3e nd th)∧bif ilt (2*nd+5*th+6) (↑0:Int)then K (.tup [.ptr 0 0,.I 6]) [cE' [.I sh,.I th,.I nd,.I tr,.N,.ptr 1 0,.slice 2 0 5 1,.I 0],w3d,cE' [.ptr 3 0,.ptr 4 0,.ptr 5 0,.ptr 6 0,.ptr 7 0],w3f wf,w3g wf,w3j wf,w3k wf,w3m wf]else((w3e nd th)∧True)∧(w3i nd th)∧K (.tup [.ptr 0 0,.I 0]) [cE' [.I sh,.I th,.I nd,.I tr,.ptr 1 0,.ptr 3 0,.slice 4 0 5 1,.I 0],w3h nd th,w3l nd th,w3d,cE' w3t,w3f wf,w3g wf,w3j wf,w3k wf,w3m wf])∧(∀(x:Hint.X (HN6 sh th nd tr m ln f g wf)),eI sh th m ln f g 6→bif ilt 6 th then bif ilt 6 (↑m:Int)then((0:Int)≤(6:Int)∧(6:Int)<(↑m:Int))∧((ln (Int.toNat 6)≤(1000000:Nat)∧lJ fun j=>[.I (f (Int.toNat 6) j),.I (g (Int.toNat 6) j)])∧True)∧bif !ieq (ofC sh (ln (Int.toNat 6)) (rK fun j=>[.I (f (Int.toNat 6) j),.I (g (Int.toNat 6) j)]) (rY fun j=>[.I (f (Int.toNat 6) j),.I (g (Int.toNat 6) j)])) 0 then K (.tup [.N,.I (ofC sh (ln (Int.toNat 6)) (rK fun j=>[.I (f (Int.toNat 6) j),.I (g (Int.toNat 6) j)]) (rY fun j=>[.I (f (Int.toNat 6) j),.I (g (Int.toNat 6) j)]))]) []else(lE' (ofR sh (ln (Int.toNat 6)) (rK fun j=>[.I (f (Int.toNat 6) j),.I (g (Int.toNat 6) j)]) (rY fun j=>[.I (f (Int.toNat 6) j),.I (g (Int.toNat 6) j)]))∧True)∧6+(1:Nat)≤(4294967296:Nat)∧okSt (HN7 sh th nd tr m ln f g wf) (fun x_1=>Hint.ok (HN7 sh th nd tr m ln f g wf) x_1∧gU (some (Hint.mu (HN6 sh th nd tr m ln f g wf) x)) (Hint.mu (HN7 sh th nd tr m ln f g wf) x_1)) (.O::(.view m 1 fun i=>[.view (ln i) 2 fun j=>[.I (f i j),.I (g i j)]])::.ptr 0 0::.O::.O::.O::.O::.ptr 1 0::.ptr 2 0::(tO' 24 (.I th::.I (W (6+1))::(tO' 45 [])))) [w3o nd sh th tr,cE' [.I th,.I nd],cE' [.I sh,.I th,.I nd,.I tr,.N,.ptr 3 0,.slice 4 0 7 1,.I 0],w3d,cE' w3q,w3f wf,w3g wf,w3j wf,w3k wf,w3m wf,w3n wf,some (.abs (.worker (v7 th nd 6 (ofR sh (ln (Int.toNat 6)) (rK fun j=>[.I (f (Int.toNat 6) j),.I (g (Int.toNat 6) j)]) (rY fun j=>[.I (f (Int.toNat 6) j),.I (g (Int.toNat 6) j)])))) [])]else(True∧True)∧6+(1:Nat)≤(4294967296:Nat)∧okSt (HN7 sh th nd tr m ln f g wf) (fun x_1=>Hint.ok (HN7 sh th nd tr m ln f g wf) x_1∧gU (some (Hint.mu (HN6 sh th nd tr m ln f g wf) x)) (Hint.mu (HN7 sh th nd tr m ln f g wf) x_1)) (.O::(.view m 1 fun i=>[.view (ln i) 2 fun j=>[.I (f i j),.I (g i j)]])::.ptr 0 0::.O::.O::.O::.O::.ptr 1 0::.ptr 2 0::(tO' 24 (.I th::.I (W (6+1))::(tO' 45 [])))) [w3o nd sh th tr,cE' [.I th,.I nd],cE' [.I sh,.I th,.I nd,.I tr,.N,.ptr 3 0,.slice 4 0 7 1,.I 0],w3d,cE' w3q,w3f wf,w3g wf,w3j wf,w3k wf,w3m wf,w3n wf,some (.abs (.worker (v7 th nd 6 [])) [])]else True∧bif !dM th nd then K (.tup [.ptr 0 0,.I 1]) [cE' [.I sh,.I th,.I nd,.I tr,.N,.ptr 1 0,.slice 2 0 6 1,.I 0],w3d,cE' w3y,w3f wf,w3g wf,w3j wf,w3k wf,w3m wf,w3n wf]else(w3e nd th)∧bif ilt (2*nd+5*th+6) (↑0:Int)then K (.tup [.ptr 0 0,.I 6]) [cE' [.I sh,.I th,.I nd,.I tr,.N,.ptr 1 0,.slice 2 0 6 1,.I 0],w3d,cE' w3y,w3f wf,w3g wf,w3j wf,w3k wf,w3m wf,w3n wf]else((w3e nd th)∧True)∧(w3i nd th)∧K (.tup [.ptr 0 0,.I 0]) [cE' [.I sh,.I th,.I nd,.I tr,.ptr 1 0,.ptr 3 0,.slice 4 0 6 1,.I 0],w3h nd th,w3l nd th,w3d,cE' w3r,w3f wf,w3g wf,w3j wf,w3k wf,w3m wf,w3n wf])∧(∀(x:Hint.X (HN7 sh th nd tr m ln f g wf)),eI sh th m ln f g 7→bif ilt 7 th then bif ilt 7 (↑m:Int)then((0:Int)≤(7:Int)∧(7:Int)<(↑m:Int))∧((ln (Int.toNat 7)≤(1000000:Nat)∧lJ fun j=>[.I (f (Int.toNat 7) j),.I (g (Int.toNat 7) j)])∧True)∧bif !ieq (ofC sh (ln (Int.toNat 7)) (rK fun j=>[.I (f (Int.toNat 7) j),.I (g (Int.toNat 7) j)]) (rY fun j=>[.I (f (Int.toNat 7) j),.I (g (Int.toNat 7) j)])) 0 then K (.tup [.N,.I (ofC sh (ln (Int.toNat 7)) (rK fun j=>[.I (f (Int.toNat 7) j),.I (g (Int.toNat 7) j)]) (rY fun j=>[.I (f (Int.toNat 7) j),.I (g (Int.toNat 7) j)]))]) []else(lE' (ofR sh (ln (Int.toNat 7)) (rK fun j=>[.I (f (Int.toNat 7) j),.I (g (Int.toNat 7) j)]) (rY fun j=>[.I (f (Int.toNat 7) j),.I (g (Int.toNat 7) j)]))∧True)∧7+(1:Nat)≤(4294967296:Nat)∧okSt (HN8 sh th nd tr m ln f g wf) (fun x_1=>Hint.ok (HN8 sh th nd tr m ln f g wf) x_1∧gU (some (Hint.mu (HN7 sh th nd tr m ln f g wf) x)) (Hint.mu (HN8 sh th nd tr m ln f g wf) x_1)) (.O::(.view m 1 fun i=>[.view (ln i) 2 fun j=>[.I (f i j),.I (g i j)]])::.ptr 0 0::.O::.O::.O::.O::.ptr 1 0::.ptr 2 0::(tO' 24 (.I th::.I (W (7+1))::(tO' 45 [])))) [w3o nd sh th tr,cE' [.I th,.I nd],cE' [.I sh,.I th,.I nd,.I tr,.N,.ptr 3 0,.slice 4 0 8 1,.I 0],w3d,cE' w3p,w3f wf,w3g wf,w3j wf,w3k wf,w3m wf,w3n wf,w3s wf,some (.abs (.worker (v7 th nd 7 (ofR sh (ln (Int.toNat 7)) (rK fun j=>[.I (f (Int.toNat 7) j),.I (g (Int.toNat 7) j)]) (rY fun j=>[.I (f (Int.toNat 7) j),.I (g (Int.toNat 7) j)])))) [])]else(True∧True)∧7+(1:Nat)≤(4294967296:Nat)∧okSt (HN8 sh th nd tr m ln f g wf) (fun x_1=>Hint.ok (HN8 sh th nd tr m ln f g wf) x_1∧gU (some (Hint.mu (HN7 sh th nd tr m ln f g wf) x)) (Hint.mu (HN8 sh th nd tr m ln f g wf) x_1)) (.O::(.view m 1 fun i=>[.view (ln i) 2 fun j=>[.I (f i j),.I (g i j)]])::.ptr 0 0::.O::.O::.O::.O::.ptr 1 0::.ptr 2 0::(tO' 24 (.I th::.I (W (7+1))::(tO' 45 [])))) [w3o nd sh th tr,cE' [.I th,.I nd],cE' [.I sh,.I th,.I nd,.I tr,.N,.ptr 3 0,.slice 4 0 8 1,.I 0],w3d,cE' w3p,w3f wf,w3g wf,w3j wf,w3k wf,w3m wf,w3n wf,w3s wf,some (.abs (.worker (v7 th nd 7 [])) [])]else True∧bif !dM th nd then K (.tup [.ptr 0 0,.I 1]) [cE' [.I sh,.I th,.I nd,.I tr,.N,.ptr 1 0,.slice 2 0 7 1,.I 0],w3d,cE' w3x,w3f wf,w3g wf,w3j wf,w3k wf,w3m wf,w3n wf,w3s wf]else(w3e nd th)∧bif ilt (2*nd+5*th+6) (↑0:Int)then K (.tup [.ptr 0 0,.I 6]) [cE' [.I sh,.I th,.I nd,.I tr,.N,.ptr 1 0,.slice 2 0 7 1,.I 0],w3d,cE' w3x,w3f wf,w3g wf,w3j wf,w3k wf,w3m wf,w3n wf,w3s wf]else((w3e nd th)∧True)∧(w3i nd th)∧K (.tup [.ptr 0 0,.I 0]) [cE' [.I sh,.I th,.I nd,.I tr,.ptr 1 0,.ptr 3 0,.slice 4 0 7 1,.I 0],w3h nd th,w3l nd th,w3d,cE' w3q,w3f wf,w3g wf,w3j wf,w3k wf,w3m wf,w3n wf,w3s wf])∧(∀(x:Hint.X (HN8 sh th nd tr m ln f g wf)),eI sh th m ln f g 8→bif ilt 8 th then bif ilt 8 (↑m:Int)then((0:Int)≤(8:Int)∧(8:Int)<(↑m:Int))∧((ln (Int.toNat 8)≤(1000000:Nat)∧lJ fun j=>[.I (f (Int.toNat 8) j),.I (g (Int.toNat 8) j)])∧True)∧bif !ieq (ofC sh (ln (Int.toNat 8)) (rK fun j=>[.I (f (Int.toNat 8) j),.I (g (Int.toNat 8) j)]) (rY fun j=>[.I (f (Int.toNat 8) j),.I (g (Int.toNat 8) j)])) 0 then K (.tup [.N,.I (ofC sh (ln (Int.toNat 8)) (rK fun j=>[.I (f (Int.toNat 8) j),.I (g (Int.toNat 8) j)]) (rY fun j=>[.I (f (Int.toNat 8) j),.I (g (Int.toNat 8) j)]))]) []else(lE' (ofR sh (ln (Int.toNat 8)) (rK fun j=>[.I (f (Int.toNat 8) j),.I (g (Int.toNat 8) j)]) (rY fun j=>[.I (f (Int.toNat 8) j),.I (g (Int.toNat 8) j)]))∧True)∧8+(1:Nat)≤(4294967296:Nat)∧False else(True∧True)∧8+(1:Nat)≤(4294967296:Nat)∧False else True∧bif !dM th nd then K (.tup [.ptr 0 0,.I 1]) [cE' [.I sh,.I th,.I nd,.I tr,.N,.ptr 1 0,.slice 2 0 8 1,.I 0],w3d,cE' w3u,w3f wf,w3g wf,w3j wf,w3k wf,w3m wf,w3n wf,w3s wf,some (.abs (.worker (wf 7)) [])]else(w3e nd th)∧bif ilt (2*nd+5*th+6) (↑0:Int)then K (.tup [.ptr 0 0,.I 6]) [cE' [.I sh,.I th,.I nd,.I tr,.N,.ptr 1 0,.slice 2 0 8 1,.I 0],w3d,cE' w3u,w3f wf,w3g wf,w3j wf,w3k wf,w3m wf,w3n wf,w3s wf,some (.abs (.worker (wf 7)) [])]else((w3e nd th)∧True)∧(w3i nd th)∧K (.tup [.ptr 0 0,.I 0]) [cE' [.I sh,.I th,.I nd,.I tr,.ptr 1 0,.ptr 3 0,.slice 4 0 8 1,.I 0],w3h nd th,w3l nd th,w3d,cE' w3p,w3f wf,w3g wf,w3j wf,w3k wf,w3m wf,w3n wf,w3s wf,some (.abs (.worker (wf 7)) [])])∧True
theorem NV(sh th nd tr:Int)(m:Nat)(ln:Nat→Nat)(f g:Nat→Nat→Int)(wf:Nat→WKS)(K:AVal→aC Ob→Prop)(h:aA7 sh th nd tr m ln f g wf K):cT' 25 [.agg [.I sh,.I th,.I nd,.I tr],.view m 1 (fun i=>[.view (ln i) 2 (fun j=>[.I (f i j),.I (g i j)])])] [] K:=by
 refine aGK (aD (E:=EU1) Tryz.checked.mixed (L:=(fun _ _=>some (.cases [HN0 sh th nd tr m ln f g wf,HN1 sh th nd tr m ln f g wf,HN2 sh th nd tr m ln f g wf,HN3 sh th nd tr m ln f g wf,HN4 sh th nd tr m ln f g wf,HN5 sh th nd tr m ln f g wf,HN6 sh th nd tr m ln f g wf,HN7 sh th nd tr m ln f g wf,HN8 sh th nd tr m ln f g wf]))) (n:=10) (aJ (by kernel_rfl) h))
theorem vC{t n:Int} :dM t n=true↔1≤t∧t≤8∧1≤n∧n≤200:=by
 unfold dM;simp only [cC,Bool.and_eq_true,dT',and_assoc]
theorem YP{sh th nd tr:Int}(h:ieq (wrE sh th nd tr) 0=true):1≤sh∧sh≤4∧(1≤th∧th≤8∧1≤nd∧nd≤200)∧0≤tr∧tr≤50:=by
 unfold wrE at h;cases h1:ilt sh 1<;>rw [h1]at h<;>simp only [cond_true,cond_false]at h
 case true=>exact absurd h (by decide)
 cases h2:ilt 4 sh<;>rw [h2]at h<;>simp only [cond_true,cond_false]at h
 case true=>exact absurd h (by decide)
 cases h3:dM th nd<;>rw [h3]at h<;>simp only [Bool.not_false,Bool.not_true,cond_true,cond_false]at h
 case false=>exact absurd h (by decide)
 cases h4:ilt tr 0<;>rw [h4]at h<;>simp only [cond_true,cond_false]at h
 case true=>exact absurd h (by decide)
 cases h5:ilt 50 tr<;>rw [h5]at h<;>simp only [cond_true,cond_false]at h
 case true=>exact absurd h (by decide)
 rw [aV,dF']at h1 h2 h4 h5;exact⟨by omega,by omega,vC.1 h3,by omega,by omega⟩
def iV(t n:Int):MS:= {t:=t,n:=n,xs:=List.replicate (2*n+5*t+6).toNat 0,c:=0,k:=0,a:=0,o:=0,w:=0,ok:=false}
def cP(sh th nd:Int)(m:Nat)(ln:Nat→Nat)(f g:Nat→Nat→Int)(j:Nat):WKS:=v7 th nd (j:Int) (bif ilt (j:Int) (m:Int)then ofR sh (ln j) (f j) (g j)else [])
def dC(sh th nd tr:Int)(m:Nat)(ln:Nat→Nat)(f g:Nat→Nat→Int):EGS:=⟨sh,th,nd,tr,iV th nd,⟨[],[],0,0,0,0,0,0,0,0⟩,(List.range th.toNat).map (cP sh th nd m ln f g),0⟩
def gnC(sh th nd tr:Int)(m:Nat)(ln:Nat→Nat)(f g:Nat→Nat→Int):Int:=bif !ieq (wrE sh th nd tr) 0 then wrE sh th nd tr else bif lgB th m ln then 6 else bif (List.range m).all (fun j=>d3 sh (ln j) (f j) (g j))then 0 else 1
abbrev qD(sh th nd tr:Int)(m:Nat)(ln:Nat→Nat)(f g:Nat→Nat→Int):Out Ob:=.ite (ieq (gnC sh th nd tr m ln f g) 0) (.ret (.tup [.ptr 0 0,.I 0]) (egH (dC sh th nd tr m ln f g))) (.ret (.tup [.raw (.pointer none),.I (gnC sh th nd tr m ln f g)]) [])
theorem sV{sh:Int}{m:Nat}{f g:Nat→Int}(h:ieq (ofC sh m f g) 0=false):d3 sh m f g=false∧ofC sh m f g=1:=by
 unfold ofC at h⊢;cases e:d3 sh m f g with
 | true=>rw [e]at h;exact absurd h (by decide)
 | false=>exact⟨rfl,rfl⟩
theorem sU{sh:Int}{m:Nat}{f g:Nat→Int}(h:ieq (ofC sh m f g) 0=true):d3 sh m f g=true:=by
 unfold ofC at h;cases e:d3 sh m f g with
 | true=>rfl
 | false=>rw [e]at h;exact absurd h (by decide)
theorem lF(sh th nd tr:Int)(m:Nat)(ln:Nat→Nat)(f g:Nat→Nat→Int)(K:AVal→aC Ob→Prop)(hK:(qD sh th nd tr m ln f g).run K)(c:Int)(hc:gnC sh th nd tr m ln f g=c)(h0:ieq c 0=false):K (.tup [.raw (.pointer none),.I c]) []:=by
 have hK:(Out.ite (ieq (gnC sh th nd tr m ln f g) 0) _ _).run K:=hK;rw [hc,h0]at hK;exact hK
theorem kQ(sh th nd tr:Int)(m:Nat)(ln:Nat→Nat)(f g:Nat→Nat→Int)(K:AVal→aC Ob→Prop)(hK:(qD sh th nd tr m ln f g).run K)(hc:gnC sh th nd tr m ln f g=0):K (.tup [.ptr 0 0,.I 0]) (egH (dC sh th nd tr m ln f g)):=by
 have hK:(Out.ite (ieq (gnC sh th nd tr m ln f g) 0) _ _).run K:=hK;rw [hc]at hK;exact hK
abbrev w40:Option (aH Ob):=some (.abs (.hist ⟨[],[],0,0,0,0,0,0,0,0⟩) [])
abbrev w41(wf:Nat→WKS):Option (aH Ob):=some (.abs (.worker (wf 0)) [])
abbrev w44(nd:Int):Option (aH Ob):=cE' [.I 1,.I nd,.slice 2 0 (Int.toNat (2*nd+5*1+6)) 1,.I 0,.I 0,.I 0,.int .u64 0,.int .u64 0,.bool false]
theorem aDP(sh nd tr:Int)(wf:Nat→WKS):aF (obI tbl) 0 (.tup [.ptr 0 0,.I 0]) [cE' [.I sh,.I 1,.I nd,.I tr,.ptr 1 0,.ptr 3 0,.slice 4 0 1 1,.I 0],w44 nd,some (.ints (some .u64) (List.replicate (Int.toNat (2*nd+5*1+6)) 0)),w40,cE' [.ptr 5 0],w41 wf] (.tup [.ptr 0 0,.I 0]) (egH ⟨sh,1,nd,tr,iV 1 nd,⟨[],[],0,0,0,0,0,0,0,0⟩,[wf 0],0⟩):=by
 refine(aF.pack [cE' [.I sh,.I 1,.I nd,.I tr,.ptr 1 0,.ptr 3 0,.slice 4 0 1 1,.I 0],w44 nd,some (.ints (some .u64) (List.replicate (Int.toNat (2*nd+5*1+6)) 0)),w40,some (.abs (.wrow [wf 0]) [])] (.wrow [wf 0]) 4 0 (rowE (List.map (fun w=>some (Mc.worker w)) [wf 0])) [] (by kernel_rfl) rfl rfl (by kernel_rfl)).trans ?_
 refine aF.trans (aGQ rfl ?_) (eK 0 (Nat.zero_le _) _ rfl ⟨sh,1,nd,tr,iV 1 nd,⟨[],[],0,0,0,0,0,0,0,0⟩,[wf 0],0⟩);simp only [egG,iV,List.length_replicate];rfl
abbrev w42(wf:Nat→WKS):Option (aH Ob):=some (.abs (.worker (wf 1)) [])
abbrev w45(nd:Int):Option (aH Ob):=cE' [.I 2,.I nd,.slice 2 0 (Int.toNat (2*nd+5*2+6)) 1,.I 0,.I 0,.I 0,.int .u64 0,.int .u64 0,.bool false]
theorem aDQ(sh nd tr:Int)(wf:Nat→WKS):aF (obI tbl) 0 (.tup [.ptr 0 0,.I 0]) [cE' [.I sh,.I 2,.I nd,.I tr,.ptr 1 0,.ptr 3 0,.slice 4 0 2 1,.I 0],w45 nd,some (.ints (some .u64) (List.replicate (Int.toNat (2*nd+5*2+6)) 0)),w40,cE' [.ptr 5 0,.ptr 6 0],w41 wf,w42 wf] (.tup [.ptr 0 0,.I 0]) (egH ⟨sh,2,nd,tr,iV 2 nd,⟨[],[],0,0,0,0,0,0,0,0⟩,[wf 0,wf 1],0⟩):=by
 refine(aF.pack [cE' [.I sh,.I 2,.I nd,.I tr,.ptr 1 0,.ptr 3 0,.slice 4 0 2 1,.I 0],w45 nd,some (.ints (some .u64) (List.replicate (Int.toNat (2*nd+5*2+6)) 0)),w40,some (.abs (.wrow [wf 0,wf 1]) [])] (.wrow [wf 0,wf 1]) 4 0 (rowE (List.map (fun w=>some (Mc.worker w)) [wf 0,wf 1])) [] (by kernel_rfl) rfl rfl (by kernel_rfl)).trans ?_
 refine aF.trans (aGQ rfl ?_) (eK 0 (Nat.zero_le _) _ rfl ⟨sh,2,nd,tr,iV 2 nd,⟨[],[],0,0,0,0,0,0,0,0⟩,[wf 0,wf 1],0⟩);simp only [egG,iV,List.length_replicate];rfl
abbrev w43(wf:Nat→WKS):Option (aH Ob):=some (.abs (.worker (wf 2)) [])
abbrev w46(nd:Int):Option (aH Ob):=cE' [.I 3,.I nd,.slice 2 0 (Int.toNat (2*nd+5*3+6)) 1,.I 0,.I 0,.I 0,.int .u64 0,.int .u64 0,.bool false]
theorem aDR(sh nd tr:Int)(wf:Nat→WKS):aF (obI tbl) 0 (.tup [.ptr 0 0,.I 0]) [cE' [.I sh,.I 3,.I nd,.I tr,.ptr 1 0,.ptr 3 0,.slice 4 0 3 1,.I 0],w46 nd,some (.ints (some .u64) (List.replicate (Int.toNat (2*nd+5*3+6)) 0)),w40,cE' [.ptr 5 0,.ptr 6 0,.ptr 7 0],w41 wf,w42 wf,w43 wf] (.tup [.ptr 0 0,.I 0]) (egH ⟨sh,3,nd,tr,iV 3 nd,⟨[],[],0,0,0,0,0,0,0,0⟩,[wf 0,wf 1,wf 2],0⟩):=by
 refine(aF.pack [cE' [.I sh,.I 3,.I nd,.I tr,.ptr 1 0,.ptr 3 0,.slice 4 0 3 1,.I 0],w46 nd,some (.ints (some .u64) (List.replicate (Int.toNat (2*nd+5*3+6)) 0)),w40,some (.abs (.wrow [wf 0,wf 1,wf 2]) [])] (.wrow [wf 0,wf 1,wf 2]) 4 0 (rowE (List.map (fun w=>some (Mc.worker w)) [wf 0,wf 1,wf 2])) [] (by kernel_rfl) rfl rfl (by kernel_rfl)).trans ?_
 refine aF.trans (aGQ rfl ?_) (eK 0 (Nat.zero_le _) _ rfl ⟨sh,3,nd,tr,iV 3 nd,⟨[],[],0,0,0,0,0,0,0,0⟩,[wf 0,wf 1,wf 2],0⟩);simp only [egG,iV,List.length_replicate];rfl
abbrev w47(nd:Int):Option (aH Ob):=cE' [.I 4,.I nd,.slice 2 0 (Int.toNat (2*nd+5*4+6)) 1,.I 0,.I 0,.I 0,.int .u64 0,.int .u64 0,.bool false]
abbrev w4c(wf:Nat→WKS):Option (aH Ob):=some (.abs (.worker (wf 3)) [])
theorem aDS(sh nd tr:Int)(wf:Nat→WKS):aF (obI tbl) 0 (.tup [.ptr 0 0,.I 0]) [cE' [.I sh,.I 4,.I nd,.I tr,.ptr 1 0,.ptr 3 0,.slice 4 0 4 1,.I 0],w47 nd,some (.ints (some .u64) (List.replicate (Int.toNat (2*nd+5*4+6)) 0)),w40,cE' [.ptr 5 0,.ptr 6 0,.ptr 7 0,.ptr 8 0],w41 wf,w42 wf,w43 wf,w4c wf] (.tup [.ptr 0 0,.I 0]) (egH ⟨sh,4,nd,tr,iV 4 nd,⟨[],[],0,0,0,0,0,0,0,0⟩,[wf 0,wf 1,wf 2,wf 3],0⟩):=by
 refine(aF.pack [cE' [.I sh,.I 4,.I nd,.I tr,.ptr 1 0,.ptr 3 0,.slice 4 0 4 1,.I 0],w47 nd,some (.ints (some .u64) (List.replicate (Int.toNat (2*nd+5*4+6)) 0)),w40,some (.abs (.wrow [wf 0,wf 1,wf 2,wf 3]) [])] (.wrow [wf 0,wf 1,wf 2,wf 3]) 4 0 (rowE (List.map (fun w=>some (Mc.worker w)) [wf 0,wf 1,wf 2,wf 3])) [] (by kernel_rfl) rfl rfl (by kernel_rfl)).trans ?_
 refine aF.trans (aGQ rfl ?_) (eK 0 (Nat.zero_le _) _ rfl ⟨sh,4,nd,tr,iV 4 nd,⟨[],[],0,0,0,0,0,0,0,0⟩,[wf 0,wf 1,wf 2,wf 3],0⟩);simp only [egG,iV,List.length_replicate];rfl
abbrev w48(nd:Int):Option (aH Ob):=cE' [.I 5,.I nd,.slice 2 0 (Int.toNat (2*nd+5*5+6)) 1,.I 0,.I 0,.I 0,.int .u64 0,.int .u64 0,.bool false]
abbrev w4d(wf:Nat→WKS):Option (aH Ob):=some (.abs (.worker (wf 4)) [])
theorem aDT(sh nd tr:Int)(wf:Nat→WKS):aF (obI tbl) 0 (.tup [.ptr 0 0,.I 0]) [cE' [.I sh,.I 5,.I nd,.I tr,.ptr 1 0,.ptr 3 0,.slice 4 0 5 1,.I 0],w48 nd,some (.ints (some .u64) (List.replicate (Int.toNat (2*nd+5*5+6)) 0)),w40,cE' [.ptr 5 0,.ptr 6 0,.ptr 7 0,.ptr 8 0,.ptr 9 0],w41 wf,w42 wf,w43 wf,w4c wf,w4d wf] (.tup [.ptr 0 0,.I 0]) (egH ⟨sh,5,nd,tr,iV 5 nd,⟨[],[],0,0,0,0,0,0,0,0⟩,[wf 0,wf 1,wf 2,wf 3,wf 4],0⟩):=by
 refine(aF.pack [cE' [.I sh,.I 5,.I nd,.I tr,.ptr 1 0,.ptr 3 0,.slice 4 0 5 1,.I 0],w48 nd,some (.ints (some .u64) (List.replicate (Int.toNat (2*nd+5*5+6)) 0)),w40,some (.abs (.wrow [wf 0,wf 1,wf 2,wf 3,wf 4]) [])] (.wrow [wf 0,wf 1,wf 2,wf 3,wf 4]) 4 0 (rowE (List.map (fun w=>some (Mc.worker w)) [wf 0,wf 1,wf 2,wf 3,wf 4])) [] (by kernel_rfl) rfl rfl (by kernel_rfl)).trans ?_
 refine aF.trans (aGQ rfl ?_) (eK 0 (Nat.zero_le _) _ rfl ⟨sh,5,nd,tr,iV 5 nd,⟨[],[],0,0,0,0,0,0,0,0⟩,[wf 0,wf 1,wf 2,wf 3,wf 4],0⟩);simp only [egG,iV,List.length_replicate];rfl
abbrev w49(nd:Int):Option (aH Ob):=cE' [.I 6,.I nd,.slice 2 0 (Int.toNat (2*nd+5*6+6)) 1,.I 0,.I 0,.I 0,.int .u64 0,.int .u64 0,.bool false]
theorem aDU(sh nd tr:Int)(wf:Nat→WKS):aF (obI tbl) 0 (.tup [.ptr 0 0,.I 0]) [cE' [.I sh,.I 6,.I nd,.I tr,.ptr 1 0,.ptr 3 0,.slice 4 0 6 1,.I 0],w49 nd,some (.ints (some .u64) (List.replicate (Int.toNat (2*nd+5*6+6)) 0)),w40,cE' [.ptr 5 0,.ptr 6 0,.ptr 7 0,.ptr 8 0,.ptr 9 0,.ptr 10 0],w41 wf,w42 wf,w43 wf,w4c wf,w4d wf,some (.abs (.worker (wf 5)) [])] (.tup [.ptr 0 0,.I 0]) (egH ⟨sh,6,nd,tr,iV 6 nd,⟨[],[],0,0,0,0,0,0,0,0⟩,[wf 0,wf 1,wf 2,wf 3,wf 4,wf 5],0⟩):=by
 refine(aF.pack [cE' [.I sh,.I 6,.I nd,.I tr,.ptr 1 0,.ptr 3 0,.slice 4 0 6 1,.I 0],w49 nd,some (.ints (some .u64) (List.replicate (Int.toNat (2*nd+5*6+6)) 0)),w40,some (.abs (.wrow [wf 0,wf 1,wf 2,wf 3,wf 4,wf 5]) [])] (.wrow [wf 0,wf 1,wf 2,wf 3,wf 4,wf 5]) 4 0 (rowE (List.map (fun w=>some (Mc.worker w)) [wf 0,wf 1,wf 2,wf 3,wf 4,wf 5])) [] (by kernel_rfl) rfl rfl (by kernel_rfl)).trans ?_
 refine aF.trans (aGQ rfl ?_) (eK 0 (Nat.zero_le _) _ rfl ⟨sh,6,nd,tr,iV 6 nd,⟨[],[],0,0,0,0,0,0,0,0⟩,[wf 0,wf 1,wf 2,wf 3,wf 4,wf 5],0⟩);simp only [egG,iV,List.length_replicate];rfl
abbrev w4a(nd:Int):Option (aH Ob):=cE' [.I 7,.I nd,.slice 2 0 (Int.toNat (2*nd+5*7+6)) 1,.I 0,.I 0,.I 0,.int .u64 0,.int .u64 0,.bool false]
theorem aDV(sh nd tr:Int)(wf:Nat→WKS):aF (obI tbl) 0 (.tup [.ptr 0 0,.I 0]) [cE' [.I sh,.I 7,.I nd,.I tr,.ptr 1 0,.ptr 3 0,.slice 4 0 7 1,.I 0],w4a nd,some (.ints (some .u64) (List.replicate (Int.toNat (2*nd+5*7+6)) 0)),w40,cE' [.ptr 5 0,.ptr 6 0,.ptr 7 0,.ptr 8 0,.ptr 9 0,.ptr 10 0,.ptr 11 0],w41 wf,w42 wf,w43 wf,w4c wf,w4d wf,some (.abs (.worker (wf 5)) []),some (.abs (.worker (wf 6)) [])] (.tup [.ptr 0 0,.I 0]) (egH ⟨sh,7,nd,tr,iV 7 nd,⟨[],[],0,0,0,0,0,0,0,0⟩,[wf 0,wf 1,wf 2,wf 3,wf 4,wf 5,wf 6],0⟩):=by
 refine(aF.pack [cE' [.I sh,.I 7,.I nd,.I tr,.ptr 1 0,.ptr 3 0,.slice 4 0 7 1,.I 0],w4a nd,some (.ints (some .u64) (List.replicate (Int.toNat (2*nd+5*7+6)) 0)),w40,some (.abs (.wrow [wf 0,wf 1,wf 2,wf 3,wf 4,wf 5,wf 6]) [])] (.wrow [wf 0,wf 1,wf 2,wf 3,wf 4,wf 5,wf 6]) 4 0 (rowE (List.map (fun w=>some (Mc.worker w)) [wf 0,wf 1,wf 2,wf 3,wf 4,wf 5,wf 6])) [] (by kernel_rfl) rfl rfl (by kernel_rfl)).trans ?_
 refine aF.trans (aGQ rfl ?_) (eK 0 (Nat.zero_le _) _ rfl ⟨sh,7,nd,tr,iV 7 nd,⟨[],[],0,0,0,0,0,0,0,0⟩,[wf 0,wf 1,wf 2,wf 3,wf 4,wf 5,wf 6],0⟩);simp only [egG,iV,List.length_replicate];rfl
abbrev w4b(nd:Int):Option (aH Ob):=cE' [.I 8,.I nd,.slice 2 0 (Int.toNat (2*nd+5*8+6)) 1,.I 0,.I 0,.I 0,.int .u64 0,.int .u64 0,.bool false]
theorem aDW(sh nd tr:Int)(wf:Nat→WKS):aF (obI tbl) 0 (.tup [.ptr 0 0,.I 0]) [cE' [.I sh,.I 8,.I nd,.I tr,.ptr 1 0,.ptr 3 0,.slice 4 0 8 1,.I 0],w4b nd,some (.ints (some .u64) (List.replicate (Int.toNat (2*nd+5*8+6)) 0)),w40,cE' [.ptr 5 0,.ptr 6 0,.ptr 7 0,.ptr 8 0,.ptr 9 0,.ptr 10 0,.ptr 11 0,.ptr 12 0],w41 wf,w42 wf,w43 wf,w4c wf,w4d wf,some (.abs (.worker (wf 5)) []),some (.abs (.worker (wf 6)) []),some (.abs (.worker (wf 7)) [])] (.tup [.ptr 0 0,.I 0]) (egH ⟨sh,8,nd,tr,iV 8 nd,⟨[],[],0,0,0,0,0,0,0,0⟩,[wf 0,wf 1,wf 2,wf 3,wf 4,wf 5,wf 6,wf 7],0⟩):=by
 refine(aF.pack [cE' [.I sh,.I 8,.I nd,.I tr,.ptr 1 0,.ptr 3 0,.slice 4 0 8 1,.I 0],w4b nd,some (.ints (some .u64) (List.replicate (Int.toNat (2*nd+5*8+6)) 0)),w40,some (.abs (.wrow [wf 0,wf 1,wf 2,wf 3,wf 4,wf 5,wf 6,wf 7]) [])] (.wrow [wf 0,wf 1,wf 2,wf 3,wf 4,wf 5,wf 6,wf 7]) 4 0 (rowE (List.map (fun w=>some (Mc.worker w)) [wf 0,wf 1,wf 2,wf 3,wf 4,wf 5,wf 6,wf 7])) [] (by kernel_rfl) rfl rfl (by kernel_rfl)).trans ?_
 refine aF.trans (aGQ rfl ?_) (eK 0 (Nat.zero_le _) _ rfl ⟨sh,8,nd,tr,iV 8 nd,⟨[],[],0,0,0,0,0,0,0,0⟩,[wf 0,wf 1,wf 2,wf 3,wf 4,wf 5,wf 6,wf 7],0⟩);simp only [egG,iV,List.length_replicate];rfl
theorem aDX(sh th nd tr:Int)(m:Nat)(ln:Nat→Nat)(f g:Nat→Nat→Int)(K:AVal→aC Ob→Prop)(hm:m≤1000000)(hK:(qD sh th nd tr m ln f g).run K):aA7 sh th nd tr m ln f g (cP sh th nd m ln f g) (eH (obI tbl) 0 K):=by
 refine⟨trivial,aL (fun e0=>?_) fun e0=>⟨⟨hm,⟨rfl⟩⟩,aL (fun e1=>?_) fun e1=>?_⟩⟩
 ·have hc:gnC sh th nd tr m ln f g=wrE sh th nd tr:=by unfold gnC;rw [e0];rfl
  have e0':ieq (wrE sh th nd tr) 0=false:=by simpa using e0
  exact⟨⟨_,_,aGW _ _ _,lF sh th nd tr m ln f g K hK _ hc e0'⟩⟩
 ·have hc:gnC sh th nd tr m ln f g=6:=by
   have e1:lgB th m ln=true:=e1;unfold gnC;rw [e0,e1];rfl
  exact⟨⟨_,_,aGW _ _ _,lF sh th nd tr m ln f g K hK _ hc rfl⟩⟩
 have e0':ieq (wrE sh th nd tr) 0=true:=by simpa using e0
 have e1:lgB th m ln=false:=e1;obtain⟨hs1,hs2,⟨ht1,ht2,hn1,hn2⟩,hr1,hr2⟩:=YP e0';obtain⟨hln,hmt⟩:=OM.1 e1;have hrb:dM th nd=true:=vC.2 ⟨ht1,ht2,hn1,hn2⟩
 have hbad: ∀j:Nat,j<m→d3 sh (ln j) (f j) (g j)=false→gnC sh th nd tr m ln f g=1:=by
  intro j hj hf
  have:(List.range m).all (fun j=>d3 sh (ln j) (f j) (g j))=false:=by
   cases h:(List.range m).all (fun j=>d3 sh (ln j) (f j) (g j))with
   | false=>rfl
   | true=>
     have:=List.all_eq_true.1 h j (List.mem_range.2 hj);rw [hf]at this;cases this
  unfold gnC;rw [e0,e1,this];rfl
 have hgood:(∀j:Nat,j<m→d3 sh (ln j) (f j) (g j)=true)→gnC sh th nd tr m ln f g=0:=by
  intro h;have:(List.range m).all (fun j=>d3 sh (ln j) (f j) (g j))=true:=List.all_eq_true.2 fun j hj=>h j (List.mem_range.1 hj);unfold gnC;rw [e0,e1,this];rfl
 have hwt: ∀u:Nat,ilt (u:Int) (m:Int)=true→cP sh th nd m ln f g u=v7 th nd (u:Int) (ofR sh (ln u) (f u) (g u)):=fun u h=>by unfold cP;rw [h];rfl
 have hwf: ∀u:Nat,ilt (u:Int) (m:Int)=false→cP sh th nd m ln f g u=v7 th nd (u:Int) []:=fun u h=>by unfold cP;rw [h];rfl
 refine⟨⟨trivial,trivial⟩,aP (H:=HN0 sh th nd tr m ln f g (cP sh th nd m ln f g)) () rfl ⟨⟨by omega,fun j h1 _=>by omega⟩,trivial⟩,?_,?_,?_,?_,?_,?_,?_,?_,?_,trivial⟩
 ·rintro x ⟨hu,hg⟩;refine aL (fun e=>aL (fun e2=>?_) (fun e2=>?_)) (fun e=>?_)
  ·have e2':=e2;rw [aV,dT']at e e2;have hum:0<m:=by omega
   refine⟨⟨by omega,by omega⟩,⟨⟨by have:=hln 0 hum;show ln 0≤1000000;omega,⟨rfl⟩⟩,trivial⟩,aL (fun e3=>?_) (fun e3=>?_)⟩
   ·have e3:(!ieq (ofC sh (ln 0) (f 0) (g 0)) 0)=true:=e3;obtain⟨q1,q2⟩:=sV (by simpa using e3)
    have:=lF sh th nd tr m ln f g K hK 1 (hbad 0 hum q1) rfl;rw [←q2]at this;exact⟨⟨_,_,aGW _ _ _,this⟩⟩
   ·have e3:(!ieq (ofC sh (ln 0) (f 0) (g 0)) 0)=false:=e3;have q:=sU (sh:=sh) (m:=ln 0) (f:=f 0) (g:=g 0) (by simpa using e3)
    have hw:=hwt 0 e2'
    refine⟨⟨rfl,trivial⟩,by decide,aP (H:=HN1 sh th nd tr m ln f g (cP sh th nd m ln f g)) () (by simp only [HN1,hw]<;>rfl) ⟨⟨by omega,fun j h1 h2=>by
     by_cases hj:j=0
     ·subst hj;exact q
     ·exact hg j (by omega) h2⟩,by show(8:Nat)<9;decide⟩⟩
  ·have hw:=hwf 0 e2;rw [aV,dT']at e;rw [aV,dF']at e2;refine⟨⟨trivial,trivial⟩,by decide,aP (H:=HN1 sh th nd tr m ln f g (cP sh th nd m ln f g)) () (by simp only [HN1,hw]<;>rfl) ⟨⟨by omega,fun j h1 h2=>hg j (by omega) h2⟩,by show(8:Nat)<9;decide⟩⟩
  ·rw [aV,dF']at e;omega
 ·rintro x ⟨hu,hg⟩;refine aL (fun e=>aL (fun e2=>?_) (fun e2=>?_)) (fun e=>?_)
  ·have e2':=e2;rw [aV,dT']at e e2;have hum:1<m:=by omega
   refine⟨⟨by omega,by omega⟩,⟨⟨by have:=hln 1 hum;show ln 1≤1000000;omega,⟨rfl⟩⟩,trivial⟩,aL (fun e3=>?_) (fun e3=>?_)⟩
   ·have e3:(!ieq (ofC sh (ln 1) (f 1) (g 1)) 0)=true:=e3;obtain⟨q1,q2⟩:=sV (by simpa using e3)
    have:=lF sh th nd tr m ln f g K hK 1 (hbad 1 hum q1) rfl;rw [←q2]at this;exact⟨⟨_,_,aGW _ _ _,this⟩⟩
   ·have e3:(!ieq (ofC sh (ln 1) (f 1) (g 1)) 0)=false:=e3;have q:=sU (sh:=sh) (m:=ln 1) (f:=f 1) (g:=g 1) (by simpa using e3)
    have hw:=hwt 1 e2'
    refine⟨⟨rfl,trivial⟩,by decide,aP (H:=HN2 sh th nd tr m ln f g (cP sh th nd m ln f g)) () (by simp only [HN2,hw]<;>rfl) ⟨⟨by omega,fun j h1 h2=>by
     by_cases hj:j=1
     ·subst hj;exact q
     ·exact hg j (by omega) h2⟩,by show(7:Nat)<8;decide⟩⟩
  ·have hw:=hwf 1 e2;rw [aV,dT']at e;rw [aV,dF']at e2;refine⟨⟨trivial,trivial⟩,by decide,aP (H:=HN2 sh th nd tr m ln f g (cP sh th nd m ln f g)) () (by simp only [HN2,hw]<;>rfl) ⟨⟨by omega,fun j h1 h2=>hg j (by omega) h2⟩,by show(7:Nat)<8;decide⟩⟩
  ·rw [aV,dF']at e;have hth:th=1:=by omega
   subst hth;rw [hrb];refine⟨trivial,aL (fun e3=>by cases e3) (fun _=>⟨⟨⟨by omega,by omega⟩,by omega,by omega⟩,aL (fun e4=>?_) (fun _=>⟨⟨⟨⟨by omega,by omega⟩,by omega,by omega⟩,trivial⟩,⟨by omega,rfl,by omega⟩,?_⟩)⟩)⟩
   ·rw [aV,dT']at e4;have e4:(2*nd+5*1+6:Int)<0:=e4;omega
   ·have:=kQ sh 1 nd tr m ln f g K hK (hgood fun j hj=>hg j (by omega) hj)
    exact⟨⟨_,_,aDP sh nd tr (cP sh 1 nd m ln f g),this⟩⟩
 ·rintro x ⟨hu,hg⟩;refine aL (fun e=>aL (fun e2=>?_) (fun e2=>?_)) (fun e=>?_)
  ·have e2':=e2;rw [aV,dT']at e e2;have hum:2<m:=by omega
   refine⟨⟨by omega,by omega⟩,⟨⟨by have:=hln 2 hum;show ln 2≤1000000;omega,⟨rfl⟩⟩,trivial⟩,aL (fun e3=>?_) (fun e3=>?_)⟩
   ·have e3:(!ieq (ofC sh (ln 2) (f 2) (g 2)) 0)=true:=e3;obtain⟨q1,q2⟩:=sV (by simpa using e3)
    have:=lF sh th nd tr m ln f g K hK 1 (hbad 2 hum q1) rfl;rw [←q2]at this;exact⟨⟨_,_,aGW _ _ _,this⟩⟩
   ·have e3:(!ieq (ofC sh (ln 2) (f 2) (g 2)) 0)=false:=e3;have q:=sU (sh:=sh) (m:=ln 2) (f:=f 2) (g:=g 2) (by simpa using e3)
    have hw:=hwt 2 e2'
    refine⟨⟨rfl,trivial⟩,by decide,aP (H:=HN3 sh th nd tr m ln f g (cP sh th nd m ln f g)) () (by simp only [HN3,hw]<;>rfl) ⟨⟨by omega,fun j h1 h2=>by
     by_cases hj:j=2
     ·subst hj;exact q
     ·exact hg j (by omega) h2⟩,by show(6:Nat)<7;decide⟩⟩
  ·have hw:=hwf 2 e2;rw [aV,dT']at e;rw [aV,dF']at e2;refine⟨⟨trivial,trivial⟩,by decide,aP (H:=HN3 sh th nd tr m ln f g (cP sh th nd m ln f g)) () (by simp only [HN3,hw]<;>rfl) ⟨⟨by omega,fun j h1 h2=>hg j (by omega) h2⟩,by show(6:Nat)<7;decide⟩⟩
  ·rw [aV,dF']at e;have hth:th=2:=by omega
   subst hth;rw [hrb];refine⟨trivial,aL (fun e3=>by cases e3) (fun _=>⟨⟨⟨by omega,by omega⟩,by omega,by omega⟩,aL (fun e4=>?_) (fun _=>⟨⟨⟨⟨by omega,by omega⟩,by omega,by omega⟩,trivial⟩,⟨by omega,rfl,by omega⟩,?_⟩)⟩)⟩
   ·rw [aV,dT']at e4;have e4:(2*nd+5*2+6:Int)<0:=e4;omega
   ·have:=kQ sh 2 nd tr m ln f g K hK (hgood fun j hj=>hg j (by omega) hj)
    exact⟨⟨_,_,aDQ sh nd tr (cP sh 2 nd m ln f g),this⟩⟩
 ·rintro x ⟨hu,hg⟩;refine aL (fun e=>aL (fun e2=>?_) (fun e2=>?_)) (fun e=>?_)
  ·have e2':=e2;rw [aV,dT']at e e2;have hum:3<m:=by omega
   refine⟨⟨by omega,by omega⟩,⟨⟨by have:=hln 3 hum;show ln 3≤1000000;omega,⟨rfl⟩⟩,trivial⟩,aL (fun e3=>?_) (fun e3=>?_)⟩
   ·have e3:(!ieq (ofC sh (ln 3) (f 3) (g 3)) 0)=true:=e3;obtain⟨q1,q2⟩:=sV (by simpa using e3)
    have:=lF sh th nd tr m ln f g K hK 1 (hbad 3 hum q1) rfl;rw [←q2]at this;exact⟨⟨_,_,aGW _ _ _,this⟩⟩
   ·have e3:(!ieq (ofC sh (ln 3) (f 3) (g 3)) 0)=false:=e3;have q:=sU (sh:=sh) (m:=ln 3) (f:=f 3) (g:=g 3) (by simpa using e3)
    have hw:=hwt 3 e2'
    refine⟨⟨rfl,trivial⟩,by decide,aP (H:=HN4 sh th nd tr m ln f g (cP sh th nd m ln f g)) () (by simp only [HN4,hw]<;>rfl) ⟨⟨by omega,fun j h1 h2=>by
     by_cases hj:j=3
     ·subst hj;exact q
     ·exact hg j (by omega) h2⟩,by show(5:Nat)<6;decide⟩⟩
  ·have hw:=hwf 3 e2;rw [aV,dT']at e;rw [aV,dF']at e2;refine⟨⟨trivial,trivial⟩,by decide,aP (H:=HN4 sh th nd tr m ln f g (cP sh th nd m ln f g)) () (by simp only [HN4,hw]<;>rfl) ⟨⟨by omega,fun j h1 h2=>hg j (by omega) h2⟩,by show(5:Nat)<6;decide⟩⟩
  ·rw [aV,dF']at e;have hth:th=3:=by omega
   subst hth;rw [hrb];refine⟨trivial,aL (fun e3=>by cases e3) (fun _=>⟨⟨⟨by omega,by omega⟩,by omega,by omega⟩,aL (fun e4=>?_) (fun _=>⟨⟨⟨⟨by omega,by omega⟩,by omega,by omega⟩,trivial⟩,⟨by omega,rfl,by omega⟩,?_⟩)⟩)⟩
   ·rw [aV,dT']at e4;have e4:(2*nd+5*3+6:Int)<0:=e4;omega
   ·have:=kQ sh 3 nd tr m ln f g K hK (hgood fun j hj=>hg j (by omega) hj)
    exact⟨⟨_,_,aDR sh nd tr (cP sh 3 nd m ln f g),this⟩⟩
 ·rintro x ⟨hu,hg⟩;refine aL (fun e=>aL (fun e2=>?_) (fun e2=>?_)) (fun e=>?_)
  ·have e2':=e2;rw [aV,dT']at e e2;have hum:4<m:=by omega
   refine⟨⟨by omega,by omega⟩,⟨⟨by have:=hln 4 hum;show ln 4≤1000000;omega,⟨rfl⟩⟩,trivial⟩,aL (fun e3=>?_) (fun e3=>?_)⟩
   ·have e3:(!ieq (ofC sh (ln 4) (f 4) (g 4)) 0)=true:=e3;obtain⟨q1,q2⟩:=sV (by simpa using e3)
    have:=lF sh th nd tr m ln f g K hK 1 (hbad 4 hum q1) rfl;rw [←q2]at this;exact⟨⟨_,_,aGW _ _ _,this⟩⟩
   ·have e3:(!ieq (ofC sh (ln 4) (f 4) (g 4)) 0)=false:=e3;have q:=sU (sh:=sh) (m:=ln 4) (f:=f 4) (g:=g 4) (by simpa using e3)
    have hw:=hwt 4 e2'
    refine⟨⟨rfl,trivial⟩,by decide,aP (H:=HN5 sh th nd tr m ln f g (cP sh th nd m ln f g)) () (by simp only [HN5,hw]<;>rfl) ⟨⟨by omega,fun j h1 h2=>by
     by_cases hj:j=4
     ·subst hj;exact q
     ·exact hg j (by omega) h2⟩,by show(4:Nat)<5;decide⟩⟩
  ·have hw:=hwf 4 e2;rw [aV,dT']at e;rw [aV,dF']at e2;refine⟨⟨trivial,trivial⟩,by decide,aP (H:=HN5 sh th nd tr m ln f g (cP sh th nd m ln f g)) () (by simp only [HN5,hw]<;>rfl) ⟨⟨by omega,fun j h1 h2=>hg j (by omega) h2⟩,by show(4:Nat)<5;decide⟩⟩
  ·rw [aV,dF']at e;have hth:th=4:=by omega
   subst hth;rw [hrb];refine⟨trivial,aL (fun e3=>by cases e3) (fun _=>⟨⟨⟨by omega,by omega⟩,by omega,by omega⟩,aL (fun e4=>?_) (fun _=>⟨⟨⟨⟨by omega,by omega⟩,by omega,by omega⟩,trivial⟩,⟨by omega,rfl,by omega⟩,?_⟩)⟩)⟩
   ·rw [aV,dT']at e4;have e4:(2*nd+5*4+6:Int)<0:=e4;omega
   ·have:=kQ sh 4 nd tr m ln f g K hK (hgood fun j hj=>hg j (by omega) hj)
    exact⟨⟨_,_,aDS sh nd tr (cP sh 4 nd m ln f g),this⟩⟩
 ·rintro x ⟨hu,hg⟩;refine aL (fun e=>aL (fun e2=>?_) (fun e2=>?_)) (fun e=>?_)
  ·have e2':=e2;rw [aV,dT']at e e2;have hum:5<m:=by omega
   refine⟨⟨by omega,by omega⟩,⟨⟨by have:=hln 5 hum;show ln 5≤1000000;omega,⟨rfl⟩⟩,trivial⟩,aL (fun e3=>?_) (fun e3=>?_)⟩
   ·have e3:(!ieq (ofC sh (ln 5) (f 5) (g 5)) 0)=true:=e3;obtain⟨q1,q2⟩:=sV (by simpa using e3)
    have:=lF sh th nd tr m ln f g K hK 1 (hbad 5 hum q1) rfl;rw [←q2]at this;exact⟨⟨_,_,aGW _ _ _,this⟩⟩
   ·have e3:(!ieq (ofC sh (ln 5) (f 5) (g 5)) 0)=false:=e3;have q:=sU (sh:=sh) (m:=ln 5) (f:=f 5) (g:=g 5) (by simpa using e3)
    have hw:=hwt 5 e2'
    refine⟨⟨rfl,trivial⟩,by decide,aP (H:=HN6 sh th nd tr m ln f g (cP sh th nd m ln f g)) () (by simp only [HN6,hw]<;>rfl) ⟨⟨by omega,fun j h1 h2=>by
     by_cases hj:j=5
     ·subst hj;exact q
     ·exact hg j (by omega) h2⟩,by show(3:Nat)<4;decide⟩⟩
  ·have hw:=hwf 5 e2;rw [aV,dT']at e;rw [aV,dF']at e2;refine⟨⟨trivial,trivial⟩,by decide,aP (H:=HN6 sh th nd tr m ln f g (cP sh th nd m ln f g)) () (by simp only [HN6,hw]<;>rfl) ⟨⟨by omega,fun j h1 h2=>hg j (by omega) h2⟩,by show(3:Nat)<4;decide⟩⟩
  ·rw [aV,dF']at e;have hth:th=5:=by omega
   subst hth;rw [hrb];refine⟨trivial,aL (fun e3=>by cases e3) (fun _=>⟨⟨⟨by omega,by omega⟩,by omega,by omega⟩,aL (fun e4=>?_) (fun _=>⟨⟨⟨⟨by omega,by omega⟩,by omega,by omega⟩,trivial⟩,⟨by omega,rfl,by omega⟩,?_⟩)⟩)⟩
   ·rw [aV,dT']at e4;have e4:(2*nd+5*5+6:Int)<0:=e4;omega
   ·have:=kQ sh 5 nd tr m ln f g K hK (hgood fun j hj=>hg j (by omega) hj)
    exact⟨⟨_,_,aDT sh nd tr (cP sh 5 nd m ln f g),this⟩⟩
 ·rintro x ⟨hu,hg⟩;refine aL (fun e=>aL (fun e2=>?_) (fun e2=>?_)) (fun e=>?_)
  ·have e2':=e2;rw [aV,dT']at e e2;have hum:6<m:=by omega
   refine⟨⟨by omega,by omega⟩,⟨⟨by have:=hln 6 hum;show ln 6≤1000000;omega,⟨rfl⟩⟩,trivial⟩,aL (fun e3=>?_) (fun e3=>?_)⟩
   ·have e3:(!ieq (ofC sh (ln 6) (f 6) (g 6)) 0)=true:=e3;obtain⟨q1,q2⟩:=sV (by simpa using e3)
    have:=lF sh th nd tr m ln f g K hK 1 (hbad 6 hum q1) rfl;rw [←q2]at this;exact⟨⟨_,_,aGW _ _ _,this⟩⟩
   ·have e3:(!ieq (ofC sh (ln 6) (f 6) (g 6)) 0)=false:=e3;have q:=sU (sh:=sh) (m:=ln 6) (f:=f 6) (g:=g 6) (by simpa using e3)
    have hw:=hwt 6 e2'
    refine⟨⟨rfl,trivial⟩,by decide,aP (H:=HN7 sh th nd tr m ln f g (cP sh th nd m ln f g)) () (by simp only [HN7,hw]<;>rfl) ⟨⟨by omega,fun j h1 h2=>by
     by_cases hj:j=6
     ·subst hj;exact q
     ·exact hg j (by omega) h2⟩,by show(2:Nat)<3;decide⟩⟩
  ·have hw:=hwf 6 e2;rw [aV,dT']at e;rw [aV,dF']at e2;refine⟨⟨trivial,trivial⟩,by decide,aP (H:=HN7 sh th nd tr m ln f g (cP sh th nd m ln f g)) () (by simp only [HN7,hw]<;>rfl) ⟨⟨by omega,fun j h1 h2=>hg j (by omega) h2⟩,by show(2:Nat)<3;decide⟩⟩
  ·rw [aV,dF']at e;have hth:th=6:=by omega
   subst hth;rw [hrb];refine⟨trivial,aL (fun e3=>by cases e3) (fun _=>⟨⟨⟨by omega,by omega⟩,by omega,by omega⟩,aL (fun e4=>?_) (fun _=>⟨⟨⟨⟨by omega,by omega⟩,by omega,by omega⟩,trivial⟩,⟨by omega,rfl,by omega⟩,?_⟩)⟩)⟩
   ·rw [aV,dT']at e4;have e4:(2*nd+5*6+6:Int)<0:=e4;omega
   ·have:=kQ sh 6 nd tr m ln f g K hK (hgood fun j hj=>hg j (by omega) hj)
    exact⟨⟨_,_,aDU sh nd tr (cP sh 6 nd m ln f g),this⟩⟩
 ·rintro x ⟨hu,hg⟩;refine aL (fun e=>aL (fun e2=>?_) (fun e2=>?_)) (fun e=>?_)
  ·have e2':=e2;rw [aV,dT']at e e2;have hum:7<m:=by omega
   refine⟨⟨by omega,by omega⟩,⟨⟨by have:=hln 7 hum;show ln 7≤1000000;omega,⟨rfl⟩⟩,trivial⟩,aL (fun e3=>?_) (fun e3=>?_)⟩
   ·have e3:(!ieq (ofC sh (ln 7) (f 7) (g 7)) 0)=true:=e3;obtain⟨q1,q2⟩:=sV (by simpa using e3)
    have:=lF sh th nd tr m ln f g K hK 1 (hbad 7 hum q1) rfl;rw [←q2]at this;exact⟨⟨_,_,aGW _ _ _,this⟩⟩
   ·have e3:(!ieq (ofC sh (ln 7) (f 7) (g 7)) 0)=false:=e3;have q:=sU (sh:=sh) (m:=ln 7) (f:=f 7) (g:=g 7) (by simpa using e3)
    have hw:=hwt 7 e2'
    refine⟨⟨rfl,trivial⟩,by decide,aP (H:=HN8 sh th nd tr m ln f g (cP sh th nd m ln f g)) () (by simp only [HN8,hw]<;>rfl) ⟨⟨by omega,fun j h1 h2=>by
     by_cases hj:j=7
     ·subst hj;exact q
     ·exact hg j (by omega) h2⟩,by show(1:Nat)<2;decide⟩⟩
  ·have hw:=hwf 7 e2;rw [aV,dT']at e;rw [aV,dF']at e2;refine⟨⟨trivial,trivial⟩,by decide,aP (H:=HN8 sh th nd tr m ln f g (cP sh th nd m ln f g)) () (by simp only [HN8,hw]<;>rfl) ⟨⟨by omega,fun j h1 h2=>hg j (by omega) h2⟩,by show(1:Nat)<2;decide⟩⟩
  ·rw [aV,dF']at e;have hth:th=7:=by omega
   subst hth;rw [hrb];refine⟨trivial,aL (fun e3=>by cases e3) (fun _=>⟨⟨⟨by omega,by omega⟩,by omega,by omega⟩,aL (fun e4=>?_) (fun _=>⟨⟨⟨⟨by omega,by omega⟩,by omega,by omega⟩,trivial⟩,⟨by omega,rfl,by omega⟩,?_⟩)⟩)⟩
   ·rw [aV,dT']at e4;have e4:(2*nd+5*7+6:Int)<0:=e4;omega
   ·have:=kQ sh 7 nd tr m ln f g K hK (hgood fun j hj=>hg j (by omega) hj)
    exact⟨⟨_,_,aDV sh nd tr (cP sh 7 nd m ln f g),this⟩⟩
 ·rintro x ⟨hu,hg⟩;refine aL (fun e=>?_) (fun e=>?_)
  ·rw [aV,dT']at e;omega
  ·rw [aV,dF']at e;have hth:th=8:=by omega
   subst hth;rw [hrb];refine⟨trivial,aL (fun e3=>by cases e3) (fun _=>⟨⟨⟨by omega,by omega⟩,by omega,by omega⟩,aL (fun e4=>?_) (fun _=>⟨⟨⟨⟨by omega,by omega⟩,by omega,by omega⟩,trivial⟩,⟨by omega,rfl,by omega⟩,?_⟩)⟩)⟩
   ·rw [aV,dT']at e4;have e4:(2*nd+5*8+6:Int)<0:=e4;omega
   ·have:=kQ sh 8 nd tr m ln f g K hK (hgood fun j hj=>hg j (by omega) hj)
    exact⟨⟨_,_,aDW sh nd tr (cP sh 8 nd m ln f g),this⟩⟩
def gnS:aI Ob:=fun args h=>match args,h with
 | [.agg [.int .i64 sh,.int .i64 th,.int .i64 nd,.int .i64 tr],.view m 1 vr],[]=>some (.pre (m≤1000000∧iX vr) (qD sh th nd tr m (vL vr) (vK vr) (vY vr)))
 | _,_=>none
theorem GZ:sT' 25 gnS:=by
 intro args h o ho K hK;unfold gnS at ho;split at ho<;>cases ho
 rename_i sh th nd tr m vr;obtain⟨⟨hm,⟨hr⟩⟩,hK⟩:=hK;rw [hr];refine aGZ ?_;exact NV sh th nd tr m (vL vr) (vK vr) (vY vr) _ _ (aDX sh th nd tr m (vL vr) (vK vr) (vY vr) K hm hK)
noncomputable def EU2:=EU1.addS 25 gnS GZ
theorem aS.lend{h:aC Ob}{l i:Nat}{ws:List WKS}(hl:aO h l=some (.abs (.wrow ws) []))(hi:i<ws.length):aS (obI tbl) h (h.set l (some (.abs (.whole ws i) [h.length]))++ [some (.abs (.worker (a8 ws i)) [])]):=by
 intro V hR w h1 hf;obtain⟨V',x,b,k,cs,T,a1,a2,a3,_⟩:=h1.lend RKW (ws:=ws) hf hl (C9 hi);exact⟨V',a1,by simpa using a2,by simp,a3⟩
theorem kI{ws:List WKS}{i:Nat}(hi:i<ws.length):cQ ws i (a8 ws i)=ws:=by
 unfold cQ a8;apply List.ext_getElem
 ·simp
 ·intro j h1 h2;rw [List.getElem_set];split
  ·rename_i e;subst e;rw [gD',gE' hi];rfl
  ·rfl
abbrev w4e(x:EGS):Option (aH Ob):=cE' [.I x.sh,.I x.th,.I x.nd,.I x.tr,.ptr 1 0,.ptr 3 0,.slice 4 0 x.ws.length 1,.I x.k]
abbrev eg0(x:EGS)(i:Nat)(w:WKS):aC Ob:=[w4e x,bE 2 x.s,bF x.s,some (.abs (.hist x.h) []),some (.abs (.whole x.ws i) [5]),cE' [.ptr 6 0,.tslice 7 0 w.tk.length 3,.I w.en,.raw (.pointer none),.slice 8 0 w.tl.length 1,.slice 9 0 w.sl.length 1],some (.abs (.store w.t w.n w.st) []),some (.tab [some .i64,some .i64,some .i64] w.tk),iI' w.tl,iI' w.sl]
theorem MQ{x:EGS}{i:Nat}(hi:i<x.ws.length)(hb:(a8 x.ws i).b =false):aS (obI tbl) (egH x) (eg0 x i (a8 x.ws i)):=by
 refine(aS.unpack (.engine x) 0 0 (egG x) [] rfl rfl rfl rfl).trans ((aS.lend (l:=4) (i:=i) (ws:=x.ws) rfl hi).trans ((aS.unpack (.worker (a8 x.ws i)) 5 0 (nV (a8 x.ws i)) [] rfl (congrArg (Prod.mk 0) (qX hb)) rfl rfl).trans (aHP ?_)))
 kernel_rfl
abbrev eg1(x:EGS)(i:Nat)(w:WKS):aC Ob:=[w4e x,bE 2 x.s,bF x.s,some (.abs (.hist x.h) []),some (.abs (.whole x.ws i) [5]),cE' [.ptr 6 0,.tslice 7 0 w.tk.length 3,.I w.en,.ptr 8 0,.slice 9 0 w.tl.length 1,.slice 10 0 w.sl.length 1],some (.abs (.store w.t w.n w.st) []),some (.tab [some .i64,some .i64,some .i64] w.tk),some (.abs (.doer w.t w.n w.d) [6]),iI' w.tl,iI' w.sl]
theorem MR{x:EGS}{i:Nat}(hi:i<x.ws.length)(hb:(a8 x.ws i).b =true):aS (obI tbl) (egH x) (eg1 x i (a8 x.ws i)):=by
 refine(aS.unpack (.engine x) 0 0 (egG x) [] rfl rfl rfl rfl).trans ((aS.lend (l:=4) (i:=i) (ws:=x.ws) rfl hi).trans ((aS.unpack (.worker (a8 x.ws i)) 5 0 (sA (a8 x.ws i)) [] rfl (congrArg (Prod.mk 0) (xK hb)) rfl rfl).trans (aHP ?_)))
 kernel_rfl
abbrev w4f(x:EGS):Option (aH Ob):=cE' [.I x.sh,.I x.th,.I x.nd,.I x.tr,.ptr 1 0,.ptr 3 0,.slice 4 0 x.ws.length 1,.I x.k]
abbrev aDu(x:EGS)(i:Nat)(w:WKS)(xs:List Int):aC Ob:=[w4f x,bE 2 x.s,bF x.s,some (.abs (.hist x.h) []),some (.abs (.whole x.ws i) [5]),cE' [.ptr 6 0,.tslice 7 0 w.tk.length 3,.I w.en,.raw (.pointer none),.slice 8 0 w.tl.length 1,.slice 9 0 w.sl.length 1],some (.abs (.store w.t w.n w.st) []),some (.tab [some .i64,some .i64,some .i64] w.tk),iI' w.tl,iI' w.sl,iI' xs]
abbrev w4h(x:EGS):List AVal:=[.I x.sh,.I x.th,.I x.nd,.I x.tr,.ptr 1 0,.ptr 3 0,.slice 4 0 x.ws.length 1,.I x.k]
abbrev w4g(i:Nat)(w:WKS)(x:EGS)(xs:List Int):aC Ob:=[cE' (w4h x),bE 2 x.s,bF x.s,some (.abs (.hist x.h) []),some (.abs (.whole x.ws i) [5]),some (.abs (.worker w) []),none,none,none,none,iI' xs]
theorem aAl(x:EGS)(i:Nat)(w:WKS)(xs:List Int)(hi:i<x.ws.length)(hw:cQ x.ws i w=x.ws)(hb:w.b=false):aF (obI tbl) 1 (.slice 10 0 xs.length 1) (aDu x i w xs) (.slice 1 0 xs.length 1) [some (.abs (.engine x) []),iI' xs]:=by
 exact((aF.move 6 (of_decide_eq_true rfl)).trans ((aF.move 7 (of_decide_eq_true rfl)).trans ((aF.move 8 (of_decide_eq_true rfl)).trans ((aF.move 9 (of_decide_eq_true rfl)).trans ((aGQ (v2:=.slice 10 0 xs.length 1) (g2:=aM (w4g i w x xs) 5 0 (nV w) []) (by kernel_rfl) (by kernel_rfl)).trans ((aF.pack (w4g i w x xs) (.worker w) 5 0 (nV w) [] rfl rfl (congrArg (Prod.mk 0) (qX hb)) (by kernel_rfl)).trans ((aF.back (l:=4) (k:=5) (i:=i) (ws:=x.ws) (w:=w) rfl rfl (by decide) hi).trans ((aGQ (v2:=.slice 10 0 xs.length 1) (g2:=[cE' (w4h x),bE 2 x.s,bF x.s,some (.abs (.hist x.h) []),some (.abs (.wrow x.ws) []),none,none,none,none,none,iI' xs]) rfl (by rw [hw];rfl)).trans ((aF.move 1 (of_decide_eq_true rfl)).trans ((aF.move 2 (of_decide_eq_true rfl)).trans ((aF.move 3 (of_decide_eq_true rfl)).trans ((aF.move 4 (of_decide_eq_true rfl)).trans ((aGQ (v2:=.slice 10 0 xs.length 1) (g2:=aM [some (.abs (.engine x) []),none,none,none,none,none,none,none,none,none,iI' xs] 0 0 (egG x) []) (by kernel_rfl) (by kernel_rfl)).trans ((aF.pack [some (.abs (.engine x) []),none,none,none,none,none,none,none,none,none,iI' xs] (.engine x) 0 0 (egG x) [] rfl rfl rfl (by kernel_rfl)).trans (aF.pick [0,10] rfl)))))))))))))))
abbrev aDv(x:EGS)(i:Nat)(w:WKS)(xs:List Int):aC Ob:=[w4f x,bE 2 x.s,bF x.s,some (.abs (.hist x.h) []),some (.abs (.whole x.ws i) [5]),cE' [.ptr 6 0,.tslice 7 0 w.tk.length 3,.I w.en,.ptr 8 0,.slice 9 0 w.tl.length 1,.slice 10 0 w.sl.length 1],some (.abs (.store w.t w.n w.st) []),some (.tab [some .i64,some .i64,some .i64] w.tk),some (.abs (.doer w.t w.n w.d) [6]),iI' w.tl,iI' w.sl,iI' xs]
abbrev w4j(x:EGS):List AVal:=[.I x.sh,.I x.th,.I x.nd,.I x.tr,.ptr 1 0,.ptr 3 0,.slice 4 0 x.ws.length 1,.I x.k]
abbrev w4i(i:Nat)(w:WKS)(x:EGS)(xs:List Int):aC Ob:=[cE' (w4j x),bE 2 x.s,bF x.s,some (.abs (.hist x.h) []),some (.abs (.whole x.ws i) [5]),some (.abs (.worker w) []),none,none,none,none,none,iI' xs]
abbrev w4k(x:EGS)(xs:List Int):aC Ob:=[some (.abs (.engine x) []),none,none,none,none,none,none,none,none,none,none,iI' xs]
theorem aAm(x:EGS)(i:Nat)(w:WKS)(xs:List Int)(hi:i<x.ws.length)(hw:cQ x.ws i w=x.ws)(hb:w.b=true):aF (obI tbl) 1 (.slice 11 0 xs.length 1) (aDv x i w xs) (.slice 1 0 xs.length 1) [some (.abs (.engine x) []),iI' xs]:=by
 exact((aF.move 6 (of_decide_eq_true rfl)).trans ((aF.move 7 (of_decide_eq_true rfl)).trans ((aF.move 8 (of_decide_eq_true rfl)).trans ((aF.move 9 (of_decide_eq_true rfl)).trans ((aF.move 10 (of_decide_eq_true rfl)).trans ((aGQ (v2:=.slice 11 0 xs.length 1) (g2:=aM (w4i i w x xs) 5 0 (sA w) []) (by kernel_rfl) (by kernel_rfl)).trans ((aF.pack (w4i i w x xs) (.worker w) 5 0 (sA w) [] rfl rfl (congrArg (Prod.mk 0) (xK hb)) (by kernel_rfl)).trans ((aF.back (l:=4) (k:=5) (i:=i) (ws:=x.ws) (w:=w) rfl rfl (by decide) hi).trans ((aGQ (v2:=.slice 11 0 xs.length 1) (g2:=[cE' (w4j x),bE 2 x.s,bF x.s,some (.abs (.hist x.h) []),some (.abs (.wrow x.ws) []),none,none,none,none,none,none,iI' xs]) rfl (by rw [hw];rfl)).trans ((aF.move 1 (of_decide_eq_true rfl)).trans ((aF.move 2 (of_decide_eq_true rfl)).trans ((aF.move 3 (of_decide_eq_true rfl)).trans ((aF.move 4 (of_decide_eq_true rfl)).trans ((aGQ (v2:=.slice 11 0 xs.length 1) (g2:=aM (w4k x xs) 0 0 (egG x) []) (by kernel_rfl) (by kernel_rfl)).trans ((aF.pack (w4k x xs) (.engine x) 0 0 (egG x) [] rfl rfl rfl (by kernel_rfl)).trans (aF.pick [0,11] rfl))))))))))))))))
abbrev w4l(x:EGS):Option (aH Ob):=cE' [.I (EGS.s x).1,.I (EGS.s x).2,.slice 2 0 (List.length (EGS.s x).3) 1,.I (EGS.s x).4,.I (EGS.s x).5,.I (EGS.s x).6,.int .u64 (EGS.s x).7,.int .u64 (EGS.s x).8,.bool (EGS.s x).9]
abbrev w4m(x:EGS):Option (aH Ob):=cE' [.I x.1,.I x.2,.I x.3,.I x.4,.ptr 1 0,.ptr 3 0,.slice 4 0 x.7.length 1,.I x.8]
abbrev w4o(w:WKS):List AVal:=[.ptr 6 0,.tslice 7 0 w.4.length 3,.I w.5,.N,.slice 8 0 w.8.length 1,.slice 9 0 w.9.length 1]
def FT(x:EGS)(i:Nat)(w:WKS)(th:Int)(K:AVal→aC Ob→Prop):Prop:=bif ilt th 0 then K (.raw (Value.slice none 0 0)) [w4m x,w4l x,some (.ints (some .u64) (EGS.s x).3),some (.abs (.hist x.6) []),some (.abs (.whole x.7 i) [5]),cE' (w4o w),some (.abs (.store w.1 w.2 w.3) []),some (.tab cK3 w.4),iI' w.8,iI' w.9]else bif ile (↑x.7.length:Int) th then K (.raw (Value.slice none 0 0)) [w4m x,w4l x,some (.ints (some .u64) (EGS.s x).3),some (.abs (.hist x.6) []),some (.abs (.whole x.7 i) [5]),cE' (w4o w),some (.abs (.store w.1 w.2 w.3) []),some (.tab cK3 w.4),iI' w.8,iI' w.9]else((0:Int)≤th∧th<(↑x.7.length:Int))∧(i<x.7.length∧0+Int.toNat th*(1:Nat)=i)∧(lE' w.8∧w.8.length≤(4294967296:Nat))∧K (.slice 10 0 w.8.length 1) [w4m x,w4l x,some (.ints (some .u64) (EGS.s x).3),some (.abs (.hist x.6) []),some (.abs (.whole x.7 i) [5]),cE' (w4o w),some (.abs (.store w.1 w.2 w.3) []),some (.tab cK3 w.4),iI' w.8,iI' w.9,iI' w.8]
theorem FU(x:EGS)(i:Nat)(w:WKS)(th:Int)(K:AVal→aC Ob→Prop)(h:FT x i w th K):cT' 32 [.ptr 0 0,.I th] (eg0 x i w) (kJ 1 K):=by
 exact cM' (E:=EU2) (by kernel_rfl) h
abbrev w4n(w:WKS):List AVal:=[.ptr 6 0,.tslice 7 0 w.4.length 3,.I w.5,.ptr 8 0,.slice 9 0 w.8.length 1,.slice 10 0 w.9.length 1]
def FV(x:EGS)(i:Nat)(w:WKS)(th:Int)(K:AVal→aC Ob→Prop):Prop:=bif ilt th 0 then K (.raw (Value.slice none 0 0)) [w4m x,w4l x,some (.ints (some .u64) (EGS.s x).3),some (.abs (.hist x.6) []),some (.abs (.whole x.7 i) [5]),cE' (w4n w),some (.abs (.store w.1 w.2 w.3) []),some (.tab cK3 w.4),some (.abs (.doer w.1 w.2 w.7) [6]),iI' w.8,iI' w.9]else bif ile (↑x.7.length:Int) th then K (.raw (Value.slice none 0 0)) [w4m x,w4l x,some (.ints (some .u64) (EGS.s x).3),some (.abs (.hist x.6) []),some (.abs (.whole x.7 i) [5]),cE' (w4n w),some (.abs (.store w.1 w.2 w.3) []),some (.tab cK3 w.4),some (.abs (.doer w.1 w.2 w.7) [6]),iI' w.8,iI' w.9]else((0:Int)≤th∧th<(↑x.7.length:Int))∧(i<x.7.length∧0+Int.toNat th*(1:Nat)=i)∧(lE' w.8∧w.8.length≤(4294967296:Nat))∧K (.slice 11 0 w.8.length 1) [w4m x,w4l x,some (.ints (some .u64) (EGS.s x).3),some (.abs (.hist x.6) []),some (.abs (.whole x.7 i) [5]),cE' (w4n w),some (.abs (.store w.1 w.2 w.3) []),some (.tab cK3 w.4),some (.abs (.doer w.1 w.2 w.7) [6]),iI' w.8,iI' w.9,iI' w.8]
theorem FX(x:EGS)(i:Nat)(w:WKS)(th:Int)(K:AVal→aC Ob→Prop)(h:FV x i w th K):cT' 32 [.ptr 0 0,.I th] (eg1 x i w) (kJ 1 K):=by
 exact cM' (E:=EU2) (by kernel_rfl) h
abbrev w4q(x:EGS):List AVal:=[.I (EGS.s x).1,.I (EGS.s x).2,.slice 2 0 (List.length (EGS.s x).3) 1,.I (EGS.s x).4,.I (EGS.s x).5,.I (EGS.s x).6,.int .u64 (EGS.s x).7,.int .u64 (EGS.s x).8,.bool (EGS.s x).9]
abbrev w4r(x:EGS):List AVal:=[.I x.1,.I x.2,.I x.3,.I x.4,.ptr 1 0,.ptr 3 0,.slice 4 0 x.7.length 1,.I x.8]
abbrev w4p(x:EGS):aC Ob:=[cE' (w4r x),cE' (w4q x),some (.ints (some .u64) (EGS.s x).3),some (.abs (.hist x.6) []),some (.abs (.wrow x.7) [])]
def YJ(x:EGS)(th:Int)(K:AVal→aC Ob→Prop):Prop:=bif ilt th 0 then K (.I 0) (w4p x)else bif ile (↑x.7.length:Int) th then K (.I 0) (w4p x)else((0:Int)≤th∧th<(↑x.7.length:Int))∧0+Int.toNat th*(1:Nat)<x.7.length∧True∧K (.I (W ((↑(List.length (a8 x.7 (0+Int.toNat th*1)).4):Int) - (a8 x.7 (0+Int.toNat th*1)).5))) [cE' (w4r x),cE' (w4q x),some (.ints (some .u64) (EGS.s x).3),some (.abs (.hist x.6) []),some (.abs (.whole x.7 (0+Int.toNat th*1)) [5]),some (.abs (.worker (a8 x.7 (0+Int.toNat th*1))) [])]
theorem KL(x:EGS)(th:Int)(K:AVal→aC Ob→Prop)(h:YJ x th K):cT' 33 [.ptr 0 0,.I th] (egG x) (kJ 1 K):=by
 exact cM' (E:=EU2) (by kernel_rfl) h
abbrev w4s(x:EGS):aC Ob:=[cE' [.I x.1,.I x.2,.I x.3,.I x.4,.ptr 1 0,.ptr 3 0,.slice 4 0 x.7.length 1,.I x.8],cE' [.I (EGS.s x).1,.I (EGS.s x).2,.slice 2 0 (List.length (EGS.s x).3) 1,.I (EGS.s x).4,.I (EGS.s x).5,.I (EGS.s x).6,.int .u64 (EGS.s x).7,.int .u64 (EGS.s x).8,.bool (EGS.s x).9],some (.ints (some .u64) (EGS.s x).3),some (.abs (.hist x.6) []),some (.abs (.wrow x.7) [])]
def YL(x:EGS)(K:AVal→aC Ob→Prop):Prop:=K (.I x.8) (w4s x)
theorem KO(x:EGS)(K:AVal→aC Ob→Prop)(h:YL x K):cT' 34 [.ptr 0 0] (egG x) (kJ 1 K):=by
 exact cM' (E:=EU2) (by kernel_rfl) h
def YK(x:EGS)(K:AVal→aC Ob→Prop):Prop:=K (.agg [.I (EGS.s x).1,.I (EGS.s x).2]) (w4s x)
theorem KM(x:EGS)(K:AVal→aC Ob→Prop)(h:YK x K):cT' 38 [.ptr 0 0] (egG x) (kJ 1 K):=by
 exact cM' (E:=EU2) (by kernel_rfl) h
theorem aB.keep{P:Program}{f:FuncId}{args:List AVal}{h:aC Ob}{n:Nat}{K:AVal→aC Ob→Prop}(h0:aB (obI tbl) P f args h (kJ n (eH (obI tbl) n K))):aB (obI tbl) P f args h (eH (obI tbl) n K):=by
 intro V hR w args' hi hf hr;refine(h0 V hR w args' hi hf hr).mono ?_;rintro e w' ⟨v,v',V',h',ht,rest⟩;obtain⟨g0,hK⟩:=bO.1 ht;obtain⟨v2,g2,t,k⟩:=hK.ex;exact⟨v,v',V',h',⟨⟨v2,g2,(aF.pick _ g0).trans t,k⟩⟩,rest⟩
def gV(th:Int)(x:EGS):Int:=bif ilt th 0 then 0 else bif ile (x.ws.length:Int) th then 0 else W (((a8 x.ws th.toNat).tk.length :Int) - (a8 x.ws th.toNat).en)
def bM(th:Int)(x:EGS):List Int:=bif ilt th 0 then []else bif ile (x.ws.length:Int) th then []else(a8 x.ws th.toNat).tl
structure GJ (x:EGS):Prop where
 h0:0<x.ws.length
 ht: ∀i,i<x.ws.length→(a8 x.ws i).tl.length ≤1000000
 hs: ∀i,i<x.ws.length→(a8 x.ws i).sl.length ≤1000000
 hr: ∀i,i<x.ws.length→(a8 x.ws i).st.R.length ≤1000000
theorem aDA(x:EGS)(i:Nat)(hi:i<x.ws.length):({x with ws:=cQ x.ws i (a8 x.ws i) } :EGS)=x:=by
 rw [kI hi]
def rlfS:aI Ob:=fun args h=>match args,h with
 | [.ptr 0 0,.int .i64 th],[some (.abs (.engine x) [])]=>some (.pre True (.ret (.I (gV th x)) (egH x)))
 | _,_=>none
theorem PO:sT' 33 rlfS:=by
 intro args h o ho K hK;unfold rlfS at ho;split at ho<;>cases ho
 rename_i th x;obtain⟨_,hK⟩:=hK;have hK:K (.I (gV th x)) (egH x):=hK;refine aGZ ?_;refine aGU (h2:=egG x) (aS.unpack (.engine x) 0 0 (egG x) [] rfl rfl rfl rfl) ?_;refine aB.keep (KL x th _ ?_);refine aL (fun e1=>?_) (fun e1=>aL (fun e2=>?_) (fun e2=>?_))
 ·have hv:gV th x=0:=by unfold gV;rw [e1];rfl
  rw [hv]at hK;exact⟨⟨_,_,eK 1 (Nat.le_refl 1) _ rfl x,hK⟩⟩
 ·have hv:gV th x=0:=by unfold gV;rw [e1,e2];rfl
  rw [hv]at hK;exact⟨⟨_,_,eK 1 (Nat.le_refl 1) _ rfl x,hK⟩⟩
 ·have hv:gV th x=W (((a8 x.ws th.toNat).tk.length :Int) - (a8 x.ws th.toNat).en):=by unfold gV;rw [e1,e2];rfl
  rw [aV,dF']at e1;rw [cC,dF']at e2;have hi:0+th.toNat*1<x.ws.length:=by omega
  have ht:0+th.toNat*1=th.toNat:=by omega
  refine⟨⟨by omega,by omega⟩,hi,trivial,?_⟩
  rw [hv]at hK;refine⟨⟨_,_,AR (x:= {x with ws:=cQ x.ws (0+th.toNat*1) (a8 x.ws (0+th.toNat*1)) }) _ rfl rfl 1 (Nat.le_refl 1) rfl ⟨rfl,hi,rfl⟩,?_⟩⟩
  rw [aDA x _ hi,ht];exact hK
theorem QD(x:EGS)(i:Nat)(th:Int)(hi:i<x.ws.length)(K:AVal→aC Ob→Prop)(h0:(a8 x.ws i).b =false→FT x i (a8 x.ws i) th (eH (obI tbl) 1 K))(h1:(a8 x.ws i).b =true→FV x i (a8 x.ws i) th (eH (obI tbl) 1 K)):
 cT' 32 [.ptr 0 0,.I th] (egH x) K:=by
 refine aGZ ?_;cases hb:(a8 x.ws i).b with
 | false=>exact aGU (MQ hi hb) (aB.keep (FU x i _ th _ (h0 hb)))
 | true=>exact aGU (MR hi hb) (aB.keep (FX x i _ th _ (h1 hb)))
def rtkS:aI Ob:=fun args h=>match args,h with
 | [.ptr 0 0,.int .i64 th],[some (.abs (.engine x) [])]=>some (.pre (GJ x) (.ret (.slice 1 0 (bM th x).length 1) [some (.abs (.engine x) []),iI' (bM th x)]))
 | _,_=>none
theorem PS:sT' 32 rtkS:=by
 intro args h o ho K hK;unfold rtkS at ho;split at ho<;>cases ho
 rename_i th x;obtain⟨⟨hl,ht,hs,hr⟩,hK⟩:=hK;have hK:K (.slice 1 0 (bM th x).length 1) [some (.abs (.engine x) []),iI' (bM th x)]:=hK
 have nilt: ∀(b:Bool) (g g2:aC Ob) (e1:ilt th 0=true∨(ilt th 0=false∧ile (x.ws.length:Int) th=true)),bM th x=[]:=by
  intro b g g2 e;unfold bM;rcases e with e | ⟨e,e2⟩
  ·rw [e];rfl
  ·rw [e,e2];rfl
 cases e1:ilt th 0 with
 | true=>
   have hv:=nilt true [] [] (.inl e1);rw [hv]at hK;refine QD x 0 th hl K (fun hb=>?_) (fun hb=>?_)
   ·exact aL (fun _=>⟨⟨_,_,(aHa (cs:=[(.slot 0,.ints (some .i64))]) rfl).trans (aAl x 0 _ [] hl (kI hl) hb),hK⟩⟩) (fun e=>by rw [e1]at e;cases e)
   ·exact aL (fun _=>⟨⟨_,_,(aHa (cs:=[(.slot 0,.ints (some .i64))]) rfl).trans (aAm x 0 _ [] hl (kI hl) hb),hK⟩⟩) (fun e=>by rw [e1]at e;cases e)
 | false=>
   cases e2:ile (x.ws.length:Int) th with
   | true=>
     have hv:=nilt true [] [] (.inr ⟨e1,e2⟩);rw [hv]at hK;refine QD x 0 th hl K (fun hb=>?_) (fun hb=>?_)
     ·exact aL (fun e=>by rw [e1]at e;cases e) (fun _=>aL (fun _=>⟨⟨_,_,(aHa (cs:=[(.slot 0,.ints (some .i64))]) rfl).trans (aAl x 0 _ [] hl (kI hl) hb),hK⟩⟩) (fun e=>by rw [e2]at e;cases e))
     ·exact aL (fun e=>by rw [e1]at e;cases e) (fun _=>aL (fun _=>⟨⟨_,_,(aHa (cs:=[(.slot 0,.ints (some .i64))]) rfl).trans (aAm x 0 _ [] hl (kI hl) hb),hK⟩⟩) (fun e=>by rw [e2]at e;cases e))
   | false=>
     have hv:bM th x=(a8 x.ws th.toNat).tl :=by unfold bM;rw [e1,e2];rfl
     have e1':=e1;have e2':=e2;rw [aV,dF']at e1';rw [cC,dF']at e2';have hi:th.toNat<x.ws.length:=by omega
     have hf:=ht _ hi;rw [hv]at hK;refine QD x th.toNat th hi K (fun hb=>?_) (fun hb=>?_)
     ·exact aL (fun e=>by rw [e1]at e;cases e) (fun _=>aL (fun e=>by rw [e2]at e;cases e) (fun _=>⟨⟨by omega,by omega⟩,⟨hi,by omega⟩,⟨rfl,by omega⟩,⟨⟨_,_,aAl x th.toNat _ _ hi (kI hi) hb,hK⟩⟩⟩))
     ·exact aL (fun e=>by rw [e1]at e;cases e) (fun _=>aL (fun e=>by rw [e2]at e;cases e) (fun _=>⟨⟨by omega,by omega⟩,⟨hi,by omega⟩,⟨rfl,by omega⟩,⟨⟨_,_,aAm x th.toNat _ _ hi (kI hi) hb,hK⟩⟩⟩))
def estS:aI Ob:=fun args h=>match args,h with
 | [.ptr 0 0],[some (.abs (.engine x) [])]=>some (.pre True (.ret (.I x.k) (egH x)))
 | _,_=>none
theorem NC:sT' 34 estS:=by
 intro args h o ho K hK;unfold estS at ho;split at ho<;>cases ho
 rename_i x;obtain⟨_,hK⟩:=hK;have hK:K (.I x.k) (egH x):=hK;refine aGZ ?_;refine aGU (h2:=egG x) (aS.unpack (.engine x) 0 0 (egG x) [] rfl rfl rfl rfl) ?_;refine aB.keep (KO x _ ?_);exact⟨⟨_,_,eK 1 (Nat.le_refl 1) _ rfl x,hK⟩⟩
def elyS:aI Ob:=fun args h=>match args,h with
 | [.ptr 0 0],[some (.abs (.engine x) [])]=>some (.pre True (.ret (.agg [.I x.s.t,.I x.s.n]) (egH x)))
 | _,_=>none
theorem MY:sT' 38 elyS:=by
 intro args h o ho K hK;unfold elyS at ho;split at ho<;>cases ho
 rename_i x;obtain⟨_,hK⟩:=hK;have hK:K (.agg [.I x.s.t,.I x.s.n]) (egH x):=hK;refine aGZ ?_;refine aGU (h2:=egG x) (aS.unpack (.engine x) 0 0 (egG x) [] rfl rfl rfl rfl) ?_;refine aB.keep (KM x _ ?_);exact⟨⟨_,_,eK 1 (Nat.le_refl 1) _ rfl x,hK⟩⟩
noncomputable def EU3:=((((((((EU2.addS 33 rlfS PO).addS 32 rtkS PS))).addS 34 estS NC).addS 38 elyS MY)))
def yD(xs:List Int)(nd:Int):Nat→Int→List Int→List Int
 | 0,_,out=>out
 | k+1,n,out=>bif bW nd n then bif !hasB out n then yD xs nd k (aA (aE xs n) 10 9) (out++ [n])else out else out
def ndF(xs:List Int)(nd hd:Int):List Int:=yD xs nd (nd.toNat+1) (aA (aE xs (nd+1+hd)) 10 9) []
def iW(nd:Int)(out:List Int):Nat:=((List.range nd.toNat).filter (fun(j:Nat)=>!hasB out ((j:Int)+1))).length
theorem FC{p q:Nat→Bool}(hpq: ∀j,p j=true→q j=true)(l:List Nat):(l.filter p).length ≤(l.filter q).length :=by
 induction l with
 | nil=>exact Nat.le_refl _
 | cons b l ih=>
   simp only [List.filter_cons];cases hp:p b with
   | true=>rw [hpq b hp];simp;exact ih
   | false=>cases hq:q b<;>simp<;>omega
theorem FD{p q:Nat→Bool}(l:List Nat)(hpq: ∀j,p j=true→q j=true)(h: ∃j,j∈l∧q j=true∧p j=false):(l.filter p).length <(l.filter q).length :=by
 induction l with
 | nil=>obtain⟨j,hj,_⟩:=h;cases hj
 | cons a l ih=>
   have hle:=FC hpq l;simp only [List.filter_cons];obtain⟨j,hj,hq,hp⟩:=h;rcases List.mem_cons.1 hj with rfl | hj
   ·rw [hp,hq];simp;omega
   ·have:=ih ⟨j,hj,hq,hp⟩;cases hp2:p a with
    | true=>rw [hpq a hp2];simp;exact this
    | false=>cases hq2:q a<;>simp<;>omega
theorem JY{nd n:Int}{out:List Int}(h1:bW nd n=true)(h2:hasB out n=false):iW nd (out++ [n])<iW nd out:=by
 have h1:=uU.1 h1;have h2:n∉out:=by intro hm;rw [jM.2 hm]at h2;cases h2
 unfold iW;refine FD _ (fun j hj=>?_) ⟨(n - 1).toNat,?_,?_,?_⟩
 ·cases e:hasB out ((j:Int)+1)with
  | false=>rfl
  | true=>
    have:hasB (out++ [n]) ((j:Int)+1)=true:=jM.2 (List.mem_append_left _ (jM.1 e));rw [this]at hj;cases hj
 ·rw [List.mem_range];omega
 ·have e:(((n - 1).toNat :Nat):Int)+1=n:=by omega
  rw [e];cases e2:hasB out n with
  | false=>rfl
  | true=>exact absurd (jM.1 e2) h2
 ·have e:(((n - 1).toNat :Nat):Int)+1=n:=by omega
  rw [e,jM.2 (List.mem_append_right _ (List.mem_singleton.2 rfl))];rfl
theorem CJ(nd:Int):iW nd []≤nd.toNat:=by
 unfold iW;exact Nat.le_trans (List.length_filter_le _ _) (by simp)
structure aEn (xs:List Int) (nd:Int) (R:List Int) (x:Int×List Int):Prop where
 hb:(x.2.length:Int)≤nd.toNat
 ex: ∃k,iW nd x.2<k∧yD xs nd k x.1 x.2=R
 hc:x.2.length+iW nd x.2≤nd.toNat
def QU(s:MS)(lt ln:Int)(R:List Int):Hint Ob:= {X:=Int×List Int,st:=fun x=>([.ptr 0 0,.O,.O,.O,.ptr 2 0,.O,.O,.slice 3 0 x.2.length 1,.I x.1]++List.replicate 26 .O,[bE 1 s,bF s,cE' [.I lt,.I ln],iI' x.2]),ok:=aEn s.xs ln R,mu:=fun x=>iW ln x.2,keep:=[0,4,7,8],casts:=[(.slot 7,.ints (some .i64))] }
abbrev w4t(s:MS):Option (aH Ob):=cE' [.I s.1,.I s.2,.slice 1 0 s.3.length 1,.I s.4,.I s.5,.I s.6,.int .u64 s.7,.int .u64 s.8,.bool s.9]
def aBI(s:MS)(lt ln hd:Int)(R:List Int)(K:AVal→aC Ob→Prop):Prop:=(((0:Int)≤ln∧ln≤(100000:Int))∧(-1000000:Int)≤hd∧hd≤(1000000:Int))∧(lE' s.3∧True)∧True∧okSt (QU s lt ln R) (Hint.ok (QU s lt ln R)) (.ptr 0 0::.O::.O::.O::.ptr 2 0::.O::.O::.slice 3 0 0 1::.I (aA (aE s.3 (ln+1+hd)) 10 9)::(tO' 26 [])) [w4t s,some (.ints (some .u64) s.3),cE' [.I lt,.I ln],some (.ints (some .i64) [])]∧ ∀(x:(Int×List Int)),aEn s.3 ln R x→True∧bif bW ln x.1 then(lE' x.2∧x.2.length≤(4294967296:Nat))∧bif !hasB x.2 x.1 then(0=0∧lE' x.2∧1=1∧x.2.length+(1:Nat)≤(4294967296:Nat))∧(lE' s.3∧True)∧True∧okSt (QU s lt ln R) (fun x'=>Hint.ok (QU s lt ln R) x'∧Hint.mu (QU s lt ln R) x'<Hint.mu (QU s lt ln R) x) (.ptr 0 0::.O::.O::.O::.ptr 2 0::.O::.O::.slice 3 0 (x.2.length+1) 1::.I (aA (aE s.3 x.1) 10 9)::(tO' 26 [])) [w4t s,some (.ints (some .u64) s.3),cE' [.I lt,.I ln],iI' (x.2++ [x.1])]else K (.slice 2 0 x.2.length 1) [w4t s,some (.ints (some .u64) s.3),iI' x.2]else K (.slice 2 0 x.2.length 1) [w4t s,some (.ints (some .u64) s.3),iI' x.2]
theorem OR(s:MS)(lt ln hd:Int)(R:List Int)(K:AVal→aC Ob→Prop)(h:aBI s lt ln hd R K):cT' 132 [.ptr 0 0,.agg [.I lt,.I ln],.I hd] [bE 1 s,bF s] K:=by
 exact aGK (aD (E:=EU3) Tryz.checked.mixed (L:=fun _ _=>some (.states (QU s lt ln R))) (n:=10) (aJ (by kernel_rfl) h))
theorem aEp(s:MS)(lt ln hd:Int)(K:AVal→aC Ob→Prop)(h1:0≤ln∧ln≤100000)(h2: -1000000≤hd∧hd≤1000000)(hK:K (.slice 2 0 (ndF s.xs ln hd).length 1) [bE 1 s,bF s,iI' (ndF s.xs ln hd)]):aBI s lt ln hd (ndF s.xs ln hd) K:=by
 refine⟨⟨h1,h2⟩,⟨rfl,trivial⟩,trivial,aP (H:=QU s lt ln (ndF s.xs ln hd)) (aA (aE s.xs (ln+1+hd)) 10 9,[]) rfl ⟨by show((0:Nat):Int)≤_;omega,⟨ln.toNat+1,by have:=CJ ln;show iW ln []<ln.toNat+1;omega,rfl⟩,by have:=CJ ln;show 0+iW ln []≤ln.toNat;omega⟩,?_⟩
 rintro⟨n,out⟩ ⟨hb,⟨k,hk,hR⟩,hc⟩;dsimp only at hb hk hR hc⊢;have stop: ∀(h:bif bW ln n then !hasB out n else false),True:=fun _=>trivial;refine⟨trivial,aL (fun e1=>⟨⟨rfl,by omega⟩,aL (fun e2=>?_) (fun e2=>?_)⟩) (fun e1=>?_)⟩
 ·have e2':hasB out n=false:=by simpa using e2
  have hlt:=JY (nd:=ln) e1 e2';cases k with
  | zero=>omega
  | succ k=>
    unfold yD at hR;rw [e1,e2]at hR;simp only [cond_true]at hR;refine⟨⟨rfl,rfl,rfl,by omega⟩,⟨rfl,trivial⟩,trivial,aP (H:=QU s lt ln (ndF s.xs ln hd)) (aA (aE s.xs n) 10 9,out++ [n]) (by simp only [QU,List.length_append,List.length_singleton]<;>rfl) ⟨⟨?_,⟨k,by show iW ln (out++ [n])<k;omega,hR⟩,?_⟩,hlt⟩⟩
    ·show((out++ [n]).length :Int)≤_;rw [List.length_append,List.length_singleton];omega
    ·show(out++ [n]).length +iW ln (out++ [n])≤_;rw [List.length_append,List.length_singleton];omega
 ·have hR2:out=ndF s.xs ln hd:=by
   cases k with
   | zero=>omega
   | succ k=>
     unfold yD at hR;rw [e1,e2]at hR;exact hR
  rw [←hR2]at hK;exact hK
 ·have hR2:out=ndF s.xs ln hd:=by
   cases k with
   | zero=>omega
   | succ k=>
     unfold yD at hR;rw [e1]at hR;exact hR
  rw [←hR2]at hK;exact hK
theorem OQ(xs:List Int)(nd:Int)(k:Nat): ∀(n:Int) (out:List Int),(yD xs nd k n out).length ≤out.length+k:=by
 induction k with
 | zero=>intro n out;unfold yD;omega
 | succ k ih=>
   intro n out;unfold yD;cases bW nd n<;>cases hasB out n<;>simp only [cond_true,cond_false,Bool.not_true,Bool.not_false]<;>try omega
   have:=ih (aA (aE xs n) 10 9) (out++ [n]);rw [List.length_append,List.length_singleton]at this;omega
theorem HD(xs:List Int)(nd hd:Int):(ndF xs nd hd).length ≤nd.toNat+1:=by
 have:=OQ xs nd (nd.toNat+1) (aA (aE xs (nd+1+hd)) 10 9) [];unfold ndF
 simpa using this
def ndS:aI Ob:=fun args h=>match args,h with
 | [.ptr 0 0,.agg [.int .i64 lt,.int .i64 ln],.int .i64 hd],[e1,e2]=>(match cO 1 [e1,e2]with
   | some (l,s)=>some (.pre (l=s.xs.length∧(0≤ln∧ln≤100000)∧(-1000000≤hd∧hd≤1000000)) (.ret (.slice 2 0 (ndF s.xs ln hd).length 1) [bE 1 s,bF s,iI' (ndF s.xs ln hd)]))
   | none=>none)
 | _,_=>none
theorem aEo:sT' 132 ndS:=by
 intro args h o ho K hK;unfold ndS at ho;split at ho
 case h_2=>cases ho
 rename_i lt ln hd e1 e2;split at ho<;>cases ho
 rename_i l s hm;obtain⟨⟨hl,h1,h2⟩,hK⟩:=hK;have hh:=bD hm hl;cases hh;exact OR s lt ln hd _ K (aEp s lt ln hd K h1 h2 hK)
noncomputable def EU4:=EU3.addS 132 ndS aEo
def kyL(xs ns:List Int):List Int:=(ns.filter fun a=>!ieq (aA (aE xs a) 19 1) 1).map fun a=>aA (aE xs a) 0 10
structure aEi (xs ns:List Int) (x:Nat×List Int):Prop where
 hi:x.1≤ns.length
 eq:x.2=kyL xs (ns.take x.1)
def HKY(s:MS)(ns:List Int):Hint Ob:= {X:=Nat×List Int,st:=fun x=>([.ptr 0 0,.O,.O,.O,.O,.O,.O,.slice 2 0 x.2.length 1,.O,.O,.O,.O,.O,.O,.slice 3 0 ns.length 1,.I (ns.length:Int),.I (x.1:Int)]++List.replicate 17 .O,[bE 1 s,bF s,iI' x.2,iI' ns]),ok:=aEi s.xs ns,mu:=fun x=>ns.length - x.1,keep:=[0,7,14,15,16],casts:=[(.slot 7,.ints (some .i64))] }
abbrev w4u(s:MS):Option (aH Ob):=cE' [.I s.1,.I s.2,.slice 1 0 s.3.length 1,.I s.4,.I s.5,.I s.6,.int .u64 s.7,.int .u64 s.8,.bool s.9]
def aBE(s:MS)(lt ln hd:Int)(K:AVal→aC Ob→Prop):Prop:=(lE' s.3∧((0:Int)≤ln∧ln≤(100000:Int))∧(-1000000:Int)≤hd∧hd≤(1000000:Int))∧okSt (HKY s (ndF (MS.xs s) ln hd)) (Hint.ok (HKY s (ndF (MS.xs s) ln hd))) (.ptr 0 0::.O::.O::.O::.O::.O::.O::.slice 2 0 0 1::.O::.O::.O::.O::.O::.O::.slice 3 0 (List.length (ndF s.3 ln hd)) 1::.I (↑(List.length (ndF s.3 ln hd)):Int)::.I 0::(tO' 17 [])) [w4u s,some (.ints (some .u64) s.3),some (.ints (some .i64) []),iI' (ndF s.3 ln hd)]∧ ∀(x:Hint.X (HKY s (ndF (MS.xs s) ln hd))),aEi s.3 (ndF s.3 ln hd) x→bif ilt (↑x.1:Int) (↑(List.length (ndF s.3 ln hd)):Int)then((0:Int)≤(↑x.1:Int)∧(↑x.1:Int)<(↑(List.length (ndF s.3 ln hd)):Int))∧0+Int.toNat (↑x.1:Int)*(1:Nat)<List.length (ndF s.3 ln hd)∧(lE' s.3∧True)∧True∧bif !ieq (aA (aE s.3 (List.getD (ndF s.3 ln hd) (0+Int.toNat (↑x.1:Int)*1) 0)) 19 1) 1 then(0=0∧lE' x.2∧1=1∧x.2.length+(1:Nat)≤(4294967296:Nat))∧okSt (HKY s (ndF (MS.xs s) ln hd)) (fun x'=>Hint.ok (HKY s (ndF (MS.xs s) ln hd)) x'∧Hint.mu (HKY s (ndF (MS.xs s) ln hd)) x'<Hint.mu (HKY s (ndF (MS.xs s) ln hd)) x) (.ptr 0 0::.O::.O::.O::.O::.O::.O::.slice 2 0 (x.2.length+1) 1::.O::.O::.O::.O::.O::.O::.slice 3 0 (List.length (ndF s.3 ln hd)) 1::.I (↑(List.length (ndF s.3 ln hd)):Int)::.I (W ((↑x.1:Int)+1))::(tO' 17 [])) [w4u s,some (.ints (some .u64) s.3),iI' (x.2++ [aA (aE s.3 (List.getD (ndF s.3 ln hd) (0+Int.toNat (↑x.1:Int)*1) 0)) 0 10]),iI' (ndF s.3 ln hd)]else okSt (HKY s (ndF (MS.xs s) ln hd)) (fun x'=>Hint.ok (HKY s (ndF (MS.xs s) ln hd)) x'∧Hint.mu (HKY s (ndF (MS.xs s) ln hd)) x'<Hint.mu (HKY s (ndF (MS.xs s) ln hd)) x) (.ptr 0 0::.O::.O::.O::.O::.O::.O::.slice 2 0 x.2.length 1::.O::.O::.O::.O::.O::.O::.slice 3 0 (List.length (ndF s.3 ln hd)) 1::.I (↑(List.length (ndF s.3 ln hd)):Int)::.I (W ((↑x.1:Int)+1))::(tO' 17 [])) [w4u s,some (.ints (some .u64) s.3),iI' x.2,iI' (ndF s.3 ln hd)]else K (.slice 2 0 x.2.length 1) [w4u s,some (.ints (some .u64) s.3),iI' x.2]
theorem OK(s:MS)(lt ln hd:Int)(K:AVal→aC Ob→Prop)(h:aBE s lt ln hd K):cT' 110 [.ptr 0 0,.agg [.I lt,.I ln],.I hd] [bE 1 s,bF s] K:=by
 exact aGK (aD (E:=EU4) Tryz.checked.mixed (L:=fun _ _=>some (.states (HKY s (ndF s.xs ln hd)))) (n:=10) (aJ (by kernel_rfl) h))
theorem P7{ns:List Int}{i:Nat}(hi:i<ns.length):ns.take (i+1)=ns.take i++ [ns.getD i 0]:=by
 rw [List.take_succ,gD',gE' hi];rfl
theorem X7{xs ns:List Int}{i:Nat}(hi:i<ns.length)(h:(!ieq (aA (aE xs (ns.getD i 0)) 19 1) 1)=true):kyL xs (ns.take (i+1))=kyL xs (ns.take i)++ [aA (aE xs (ns.getD i 0)) 0 10]:=by
 unfold kyL;rw [P7 hi,List.filter_append,List.map_append];simp only [List.filter_cons,List.filter_nil,h,if_true,List.map_cons,List.map_nil]
theorem aEj{xs ns:List Int}{i:Nat}(hi:i<ns.length)(h:(!ieq (aA (aE xs (ns.getD i 0)) 19 1) 1)=false):kyL xs (ns.take (i+1))=kyL xs (ns.take i):=by
 unfold kyL;rw [P7 hi,List.filter_append,List.map_append];simp only [List.filter_cons,List.filter_nil,h,Bool.false_eq_true,if_false,List.map_nil,List.append_nil]
theorem G9(xs ns:List Int):(kyL xs ns).length ≤ns.length:=by
 unfold kyL;rw [List.length_map];exact List.length_filter_le _ _
def keyF(xs:List Int)(nd hd:Int):List Int:=kyL xs (ndF xs nd hd)
theorem qI(xs:List Int)(nd hd:Int):(keyF xs nd hd).length ≤nd.toNat+1:=Nat.le_trans (G9 _ _) (HD _ _ _)
theorem aEk(s:MS)(lt ln hd:Int)(K:AVal→aC Ob→Prop)(h1:0≤ln∧ln≤100000)(h2: -1000000≤hd∧hd≤1000000)(hK:K (.slice 2 0 (keyF s.xs ln hd).length 1) [bE 1 s,bF s,iI' (keyF s.xs ln hd)]):aBE s lt ln hd K:=by
 have hlen:=HD s.xs ln hd;unfold keyF at hK;refine⟨⟨rfl,h1,h2⟩,aP (H:=HKY s (ndF s.xs ln hd)) ((0:Nat),[]) rfl ⟨Nat.zero_le _,rfl⟩,?_⟩;have hlen':(ndF s.3 ln hd).length ≤ln.toNat+1:=hlen;generalize ndF s.xs ln hd=ns at hK hlen⊢;rintro⟨i,out⟩ ⟨hi,heq⟩;dsimp only at hi heq;subst heq;have hkl:(kyL s.xs (ns.take i)).length ≤i:=Nat.le_trans (G9 _ _) (List.length_take_le _ _);refine aL (fun e=>?_) (fun e=>?_)
 ·rw [aV,dT']at e;have e:(i:Int)<(ns.length:Int):=e;have hil:i<ns.length:=by omega
  have e4:W ((i:Int)+1)=((i+1:Nat):Int):=by rw [W,dB (by omega)];rfl
  have e0:0+Int.toNat (i:Int)*1=i:=by omega
  have hk1:(kyL s.xs (ns.take i)).length +1≤4294967296:=by omega
  refine⟨⟨by show(0:Int)≤(i:Int);omega,e⟩,by show 0+Int.toNat (i:Int)*1<ns.length;omega,⟨rfl,trivial⟩,trivial,aL (fun e2=>⟨⟨rfl,rfl,rfl,hk1⟩,?_⟩) (fun e2=>?_)⟩
  ·have e2:(!ieq (aA (aE s.xs (ns.getD (0+Int.toNat (i:Int)*1) 0)) 19 1) 1)=true:=e2;rw [e0]at e2;refine aP (H:=HKY s ns) (i+1,kyL s.xs (ns.take (i+1))) ?_ ⟨⟨hil,rfl⟩,by show ns.length - (i+1)<ns.length - i;omega⟩
   show((HKY s ns).st (i+1,kyL s.xs (ns.take (i+1))))=_;have hl:(kyL s.xs (ns.take (i+1))).length =(kyL s.xs (ns.take i)).length +1:=by rw [X7 hil e2];simp
   simp only [HKY,hl];rw [X7 hil e2];simp only [e4,e0];rfl
  ·have e2:(!ieq (aA (aE s.xs (ns.getD (0+Int.toNat (i:Int)*1) 0)) 19 1) 1)=false:=e2;rw [e0]at e2;refine aP (H:=HKY s ns) (i+1,kyL s.xs (ns.take (i+1))) ?_ ⟨⟨hil,rfl⟩,by show ns.length - (i+1)<ns.length - i;omega⟩
   rw [aEj hil e2];simp only [HKY,e4];rfl
 ·rw [aV,dF']at e;have e: ¬(i:Int)<(ns.length:Int):=e;have hil:i=ns.length:=by omega
  subst hil;rw [List.take_length];exact hK
def kyS:aI Ob:=fun args h=>match args,h with
 | [.ptr 0 0,.agg [.int .i64 lt,.int .i64 ln],.int .i64 hd],[e1,e2]=>(match cO 1 [e1,e2]with
   | some (l,s)=>some (.pre (l=s.xs.length∧(0≤ln∧ln≤100000)∧(-1000000≤hd∧hd≤1000000)) (.ret (.slice 2 0 (keyF s.xs ln hd).length 1) [bE 1 s,bF s,iI' (keyF s.xs ln hd)]))
   | none=>none)
 | _,_=>none
theorem X8:sT' 110 kyS:=by
 intro args h o ho K hK;unfold kyS at ho;split at ho
 case h_2=>cases ho
 rename_i lt ln hd e1 e2;split at ho<;>cases ho
 rename_i l s hm;obtain⟨⟨hl,h1,h2⟩,hK⟩:=hK;have hh:=bD hm hl;cases hh;exact OK s lt ln hd K (aEk s lt ln hd K h1 h2 hK)
noncomputable def EU5:=EU4.addS 110 kyS X8
end Go.Sh
namespace Go.Proofs
open Go.Shelf
def Tryz.lays189_ren:Go.Shelf.Ren:=⟨fun | 189=>111 | 125=>135 | 257=>134 | 128=>180 | 129=>181 | 294=>172 | 295=>173 | 296=>174 | 297=>175 | 298=>176 | 299=>177 | 216=>140 | 300=>178 | 301=>179 | 328=>236 | 329=>237 | 330=>238 | 331=>239 | 332=>240 | 215=>186 | 343=>276 | n=>n,fun | 28=>67 | 3=>3 | 46=>212 | 0=>0 | 51=>250 | 53=>72 | 4=>4 | 183=>244 | 182=>243 | 131=>195 | 5=>5 | 9=>9 | 218=>306 | 222=>309 | 228=>336 | 229=>337 | n=>n,fun | n=>n⟩
theorem Tryz.lays189:Go.Proofs.Lays.n189 Tryz.prog Tryz.lays189_ren:= {
 mixed:=by kernel_rfl,
 f125:=Tryz.func135.trans (congrArg some (by kernel_rfl)),
 f128:=Tryz.func180.trans (congrArg some (by kernel_rfl)),
 f129:=Tryz.func181.trans (congrArg some (by kernel_rfl)),
 f189:=Tryz.func111.trans (congrArg some (by kernel_rfl)),
 f215:=Tryz.func186.trans (congrArg some (by kernel_rfl)),
 f216:=Tryz.func140.trans (congrArg some (by kernel_rfl)),
 f257:=Tryz.func134.trans (congrArg some (by kernel_rfl)),
 f294:=Tryz.func172.trans (congrArg some (by kernel_rfl)),
 f295:=Tryz.func173.trans (congrArg some (by kernel_rfl)),
 f296:=Tryz.func174.trans (congrArg some (by kernel_rfl)),
 f297:=Tryz.func175.trans (congrArg some (by kernel_rfl)),
 f298:=Tryz.func176.trans (congrArg some (by kernel_rfl)),
 f299:=Tryz.func177.trans (congrArg some (by kernel_rfl)),
 f300:=Tryz.func178.trans (congrArg some (by kernel_rfl)),
 f301:=Tryz.func179.trans (congrArg some (by kernel_rfl)),
 f328:=Tryz.func236.trans (congrArg some (by kernel_rfl)),
 f329:=Tryz.func237.trans (congrArg some (by kernel_rfl)),
 f330:=Tryz.func238.trans (congrArg some (by kernel_rfl)),
 f331:=Tryz.func239.trans (congrArg some (by kernel_rfl)),
 f332:=Tryz.func240.trans (congrArg some (by kernel_rfl)),
 f343:=Tryz.func276.trans (congrArg some (by kernel_rfl)),
 t0:=Tryz.underlying0,
 a0:=Tryz.isAgg0,
 z0:=Tryz.sizeOf0,
 v0:=Tryz.zeroValue0,
 t3:=Tryz.underlying3,
 a3:=Tryz.isAgg3,
 z3:=Tryz.sizeOf3,
 v3:=Tryz.zeroValue3,
 t4:=Tryz.underlying4,
 a4:=Tryz.isAgg4,
 z4:=Tryz.sizeOf4,
 v4:=Tryz.zeroValue4,
 t5:=Tryz.underlying5,
 a5:=Tryz.isAgg5,
 z5:=Tryz.sizeOf5,
 v5:=Tryz.zeroValue5,
 t9:=Tryz.underlying9,
 a9:=Tryz.isAgg9,
 z9:=Tryz.sizeOf9,
 v9:=Tryz.zeroValue9,
 t28:=Tryz.underlying67,
 a28:=Tryz.isAgg67,
 z28:=Tryz.sizeOf67,
 v28:=Tryz.zeroValue67,
 t46:=Tryz.underlying212,
 a46:=Tryz.isAgg212,
 z46:=Tryz.sizeOf212,
 v46:=Tryz.zeroValue212,
 t51:=Tryz.underlying250,
 a51:=Tryz.isAgg250,
 z51:=Tryz.sizeOf250,
 v51:=Tryz.zeroValue250,
 t53:=Tryz.underlying72,
 a53:=Tryz.isAgg72,
 z53:=Tryz.sizeOf72,
 v53:=Tryz.zeroValue72,
 t131:=Tryz.underlying195,
 a131:=Tryz.isAgg195,
 z131:=Tryz.sizeOf195,
 v131:=Tryz.zeroValue195,
 t182:=Tryz.underlying243,
 a182:=Tryz.isAgg243,
 z182:=Tryz.sizeOf243,
 v182:=Tryz.zeroValue243,
 t183:=Tryz.underlying244,
 a183:=Tryz.isAgg244,
 z183:=Tryz.sizeOf244,
 v183:=Tryz.zeroValue244,
 t218:=Tryz.underlying306,
 a218:=Tryz.isAgg306,
 z218:=Tryz.sizeOf306,
 v218:=Tryz.zeroValue306,
 t222:=Tryz.underlying309,
 a222:=Tryz.isAgg309,
 z222:=Tryz.sizeOf309,
 v222:=Tryz.zeroValue309,
 t228:=Tryz.underlying336,
 a228:=Tryz.isAgg336,
 z228:=Tryz.sizeOf336,
 v228:=Tryz.zeroValue336,
 t229:=Tryz.underlying337,
 a229:=Tryz.isAgg337,
 z229:=Tryz.sizeOf337,
 v229:=Tryz.zeroValue337}
end Go.Proofs
namespace Go.Sh
open Go Go.Proofs
variable [Con]
def mK(xs:List Int):List Int:=xs.mergeSort fun x y=>decide (x≤y)
theorem rV(xs:List Int):(mK xs).length =xs.length:=by unfold mK;exact List.length_mergeSort xs
theorem v8(ys:List Int)(cs:Array Value)(tail:List Value)(xs:List Int)(hl:ys.length=xs.length)(hcs:cs.toList=xs.map (Code1.val (some .i64))++tail):
 (Go.Sort.putCells (Value.int .i64) 0 ys.toArray cs).toList =ys.map (Code1.val (some .i64))++tail:=by
 apply List.ext_getElem?;intro k;rw [Array.getElem?_toList];unfold Go.Sort.putCells;rw [Array.getElem?_mapIdx];have hk:cs[k]? =(xs.map (Code1.val (some .i64))++tail)[k]? :=by rw [←hcs,Array.getElem?_toList]
 rw [hk]
 by_cases hlt:k<xs.length
 ·rw [List.getElem?_append_left (by rw [List.length_map];exact hlt),List.getElem?_append_left (by rw [List.length_map];omega),List.getElem?_map,List.getElem?_map,gE' hlt,gE' (by omega:k<ys.length)]
  have hc:0≤k∧k<0+ys.toArray.size:=by simp;omega
  simp only [Option.map_some];rw [if_pos hc]
  have:ys.toArray[k - 0]! =ys[k]'(by omega):=by
   rw [getElem!_pos ys.toArray (k - 0) (by simp;omega)];simp
  rw [this];rfl
 ·rw [List.getElem?_append_right (by rw [List.length_map];omega),List.getElem?_append_right (by rw [List.length_map];omega),List.length_map,List.length_map,hl]
  cases tail[k - xs.length]? with
  | none=>rfl
  | some y=>
    have hc: ¬(0≤k∧k<0+ys.toArray.size):=by simp;omega
    simp only [Option.map_some];rw [if_neg hc]
def srS:aI Ob:=fun args h=>match args,h with
 | [.slice 0 0 k 1],[some (.ints (some .i64) xs)]=>some (.pre (k=xs.length∧k≤1000000) (.ret (.tup []) [some (.ints (some .i64) (mK xs))]))
 | _,_=>none
theorem YN:sT' 111 srS:=by
 intro args h o ho K hK;unfold srS at ho;split at ho<;>cases ho
 rename_i k xs;obtain⟨⟨rfl,hk⟩,hK⟩:=hK;have hK:K (.tup []) [some (.ints (some .i64) (mK xs))]:=hK;intro V hR w args' hi hf hr;obtain⟨v,vs,e,⟨base,cap,rfl,hcap,hb⟩,e2⟩:=hr;have e2:vs=[]:=e2;subst e2;have ha:args'= #[.slice base xs.length cap]:=by apply Array.ext';simpa using e
 subst ha
 by_cases hx:xs=[]
 ·subst hx;refine(Go.Proofs.Any.slices_Sort_int_none Go.Proofs.Tryz.lays189 base cap w).mono ?_;rintro e w' ⟨rfl,rfl⟩;exact⟨.tup [],.tuple #[],V,_,hK,rfl,⟨#[],rfl,rfl⟩,V.le_refl,hf,Nat.le_refl _,(by rw [show mK []=[]from by simp [mK]];exact hi),aG6 _⟩
 ·have hpos:0<xs.length:=List.length_pos_iff.2 hx;obtain⟨hs,h1,h2,h3,h4,h5,h6,h7⟩:=hi;rcases h1 0 _ rfl with⟨q,_⟩ | ⟨b,k,hV,cs,T,tail,hone,hsz,hcs⟩
  ·exact absurd q hx
  rcases hb with⟨b',k',hV',rfl,hle⟩ | ⟨hn,_⟩
  case inr=>omega
  rw [hV]at hV';simp only [sI',pI']at hV';obtain⟨rfl,rfl⟩:=hV';have hwb:w.heap[b]? =some (.cells cs T):=h5 0 b _ (by rw [hone];simp [PHeap.one])
  have hbl:b<w.heap.size:=(Array.getElem?_eq_some_iff.1 hwb).1
  have hH:Go.Sort.Holds (Value.int .i64) w b 0 xs.toArray:=by
   intro j hj;have hj:j<xs.length:=by simpa using hj
   constructor
   ·have:cs[j]? =some (.int .i64 xs[j]):=by
     rw [←Array.getElem?_toList,hcs,List.getElem?_append_left (by rw [List.length_map];exact hj),List.getElem?_map,gE' hj];rfl
    have h0:xs.toArray[j]! =xs[j]:=by rw [getElem!_pos xs.toArray j (by simpa using hj)];simp
    simp only [World.cell?,hwb,Nat.zero_add,h0];exact this
   ·simp [World.frozen?,hwb]
  have hwe:w.heap.size=w.heap.size:=rfl;have hcall:=Go.Proofs.Any.slices_Sort_int Go.Proofs.Tryz.lays189 b 0 cap xs w hH hbl (by omega)
  refine hcall.mono ?_;rintro e w' ⟨rfl,n,os,rfl⟩;have hys:(xs.mergeSort fun x y=>decide (x≤y))=mK xs:=rfl;rw [hys];have hyl:=rV xs;generalize hyg:mK xs=ys at hK hyl;have hcl:=v8 ys cs tail xs hyl hcs;generalize hcg:Go.Sort.putCells (Value.int .i64) 0 ys.toArray cs=cs2 at hcl
  have hw2b:(Go.Sort.putRow (Value.int .i64) (Go.Sort.ahead w n) b 0 ys.toArray).heap[b]? =some (.cells cs2 T):=by
   unfold Go.Sort.putRow Go.Sort.mapBlock;show(w.heap.modify b _)[b]? =_;rw [Array.getElem?_modify,if_pos rfl,hwb,←hcg];rfl
  have hw2o: ∀c,c≠b→(Go.Sort.putRow (Value.int .i64) (Go.Sort.ahead w n) b 0 ys.toArray).heap[c]? =w.heap[c]? :=by
   intro c hc;unfold Go.Sort.putRow Go.Sort.mapBlock;show(w.heap.modify b _)[c]? =_;rw [Array.getElem?_modify,if_neg (fun e=>hc e.symm)]
  have hsz2:(Go.Sort.putRow (Value.int .i64) (Go.Sort.ahead w n) b 0 ys.toArray).heap.size =w.heap.size:=by
   unfold Go.Sort.putRow Go.Sort.mapBlock;show(w.heap.modify b _).size =_;exact Array.size_modify
  have hos:(Go.Sort.putRow (Value.int .i64) (Go.Sort.ahead w n) b 0 ys.toArray).os =w.os:=rfl;have hout:(Go.Sort.putRow (Value.int .i64) (Go.Sort.ahead w n) b 0 ys.toArray).output =w.output:=rfl;generalize Go.Sort.putRow (Value.int .i64) (Go.Sort.ahead w n) b 0 ys.toArray=w2 at hw2b hw2o hsz2 hos hout;have hg: ∀c,c<w.heap.size→(Go.Sort.grow w2 os).heap[c]? =w2.heap[c]? :=fun c hc=>Go.Sort.heap_grow_old w2 os (by omega)
  have hlt: ∀(c:Nat) (o:Obj),w.heap[c]? =some o→c<w.heap.size:=fun c o h=>(Array.getElem?_eq_some_iff.1 h).1
  have hRb:hR b=none:=by
   rcases h4 0 b with q | q
   ·rw [hone]at q;simp [PHeap.one]at q
   ·exact q
  have hemp: ∀l,l≠0→hs l=.emp :=by
   intro l hl;refine h2 l ?_;cases l with
   | zero=>exact absurd rfl hl
   | succ l=>simp [toF,aO]
  refine⟨.tup [],.tuple #[],V,_,hK,rfl,⟨#[],rfl,rfl⟩,V.le_refl,hf,Nat.le_refl _,⟨fun l=>if l=0 then .one b (.cells cs2 T)else .emp,?_,?_,?_,?_,?_,?_,h7⟩,⟨hos,hout,by simp;omega,?_⟩⟩
  ·intro l e he;cases l with
   | zero=>
     have he:some (aH.ints (some .i64) ys)=some e:=he;cases he;refine .inr ⟨b,k,hV,cs2,T,tail,by simp,?_,hcl⟩
     rw [←hsz,←Array.length_toList,←Array.length_toList,hcl,hcs];simp [hyl]
   | succ l=>simp [toF,aO]at he
  ·intro l hl;cases l with
   | zero=>exact absurd hl (by simp [toF,aO])
   | succ l=>simp
  ·intro l m hlm c
   by_cases hl:l=0
   ·subst hl;right;simp [Ne.symm hlm,PHeap.emp]
   ·left;simp [hl,PHeap.emp]
  ·intro l c
   by_cases hl:l=0
   ·subst hl
    by_cases hc:c=b
    ·right;rw [hc];exact hRb
    ·left;simp [PHeap.one,hc]
   ·left;simp [hl,PHeap.emp]
  ·intro l c o hc
   by_cases hl:l=0
   ·subst hl;have hc:PHeap.one b (.cells cs2 T) c=some o:=hc
    by_cases hcb:c=b
    ·subst hcb;rw [hg c hbl,hw2b]
     simpa [PHeap.one]using hc
    ·simp [PHeap.one,hcb]at hc
   ·simp [hl,PHeap.emp]at hc
  ·intro c o hc;have hw:=h6 c o hc;have hcb:c≠b:=by intro e;rw [e,hRb]at hc;cases hc
   rw [hg c (hlt c o hw),hw2o c hcb];exact hw
  ·intro a ha;have h1:(Go.Sort.grow w2 os).frozen? a=w2.frozen? a:=Go.Sort.frozen?_grow w2 os a (by omega)
   rw [h1];unfold World.frozen?
   by_cases hab:a.block=b
   ·rw [hab,hw2b,hwb]
   ·rw [hw2o _ hab]
noncomputable def EU6:=EU5.addS 111 srS YN
end Go.Sh
