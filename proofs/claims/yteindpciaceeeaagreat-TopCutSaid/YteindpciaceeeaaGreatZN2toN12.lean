import Derived.Test.YteindpciaceeeaaGreatZSh29
set_option linter.all false
set_option maxHeartbeats 8000000
namespace Go.Sh
open Go Go.Proofs
variable [Con]
def wlS:aH Ob:=fun args h=>match args,h with
 | [.ptr 0 0],[some (.abs (.worker x) [])]=>some (.pre True (.ret (.I (W ((x.tk.length:Int) - x.en))) [some (.abs (.worker x) [])]))
 | _,_=>none
abbrev w31(x:WKS):Option (aJ Ob):=cE' [.ptr 1 0,.tslice 2 0 x.tk.length 3,.I x.en,.raw (.pointer none),.slice 3 0 x.tl.length 1,.slice 4 0 x.sl.length 1]
theorem aGz(x:WKS)(K:AVal→aC Ob→Prop)(hK:K (.I (W ((x.tk.length:Int) - x.en))) [w31 x,some (.abs (.store x.t x.n x.st) []),some (.tab cK3 x.tk),iI' x.tl,iI' x.sl]):cT' 91 [.ptr 0 0] [w31 x,some (.abs (.store x.t x.n x.st) []),some (.tab cK3 x.tk),iI' x.tl,iI' x.sl] K:=by
 refine aHp (cM' (E:=EN1) (q:=K (.I (W ((↑x.4.length:Int) - x.5))) [cE' [.ptr 1 0,.tslice 2 0 x.4.length 3,.I x.5,.N,.slice 3 0 x.8.length 1,.slice 4 0 x.9.length 1],some (.abs (.store x.1 x.2 x.3) []),some (.tab cK3 x.4),iI' x.8,iI' x.9]) (by kernel_rfl) ?_)
 exact hK
abbrev w32(x:WKS):Option (aJ Ob):=cE' [.ptr 1 0,.tslice 2 0 x.tk.length 3,.I x.en,.ptr 3 0,.slice 4 0 x.tl.length 1,.slice 5 0 x.sl.length 1]
theorem aGA(x:WKS)(K:AVal→aC Ob→Prop)(hK:K (.I (W ((x.tk.length:Int) - x.en))) [w32 x,some (.abs (.store x.t x.n x.st) []),some (.tab cK3 x.tk),some (.abs (.doer x.t x.n x.d) [1]),iI' x.tl,iI' x.sl]):cT' 91 [.ptr 0 0] [w32 x,some (.abs (.store x.t x.n x.st) []),some (.tab cK3 x.tk),some (.abs (.doer x.t x.n x.d) [1]),iI' x.tl,iI' x.sl] K:=by
 refine aHp (cM' (E:=EN1) (q:=K (.I (W ((↑x.4.length:Int) - x.5))) [cE' [.ptr 1 0,.tslice 2 0 x.4.length 3,.I x.5,.ptr 3 0,.slice 4 0 x.8.length 1,.slice 5 0 x.9.length 1],some (.abs (.store x.1 x.2 x.3) []),some (.tab cK3 x.4),some (.abs (.doer x.1 x.2 x.7) [1]),iI' x.8,iI' x.9]) (by kernel_rfl) ?_)
 exact hK
theorem aFA:sT' 91 wlS:=by
 intro args h o ho K hK;unfold wlS at ho;split at ho<;>cases ho
 rename_i x;obtain⟨ok,hK⟩:=hK;have hK:K (.I (W ((x.tk.length:Int) - x.en))) [some (.abs (.worker x) [])]:=hK;refine aHD ?_;cases e:x.b with
 | false=>
   refine aHy (h2:=mI x) (aR.unpack (.worker x) 0 0 (mI x) [] rfl (congrArg (Prod.mk 0) (o9 e)) rfl rfl) ?_;refine aGz x _ ⟨⟨_,_,aE.pack [some (.abs (.worker x) [])] (.worker x) 0 0 (mI x) [] (by kernel_rfl) rfl (congrArg (Prod.mk 0) (o9 e)) (by kernel_rfl),hK⟩⟩
 | true=>
   refine aHy (h2:=pT x) (aR.unpack (.worker x) 0 0 (pT x) [] rfl (congrArg (Prod.mk 0) (vO e)) rfl rfl) ?_;refine aGA x _ ⟨⟨_,_,aE.pack [some (.abs (.worker x) [])] (.worker x) 0 0 (pT x) [] (by kernel_rfl) rfl (congrArg (Prod.mk 0) (vO e)) (by kernel_rfl),hK⟩⟩
noncomputable def EW1:=EN1.addS 91 wlS aFA
structure WK1 where
 t:Int
 n:Int
 st:STS
 tk:List (List Int)
 en:Int
 d:DOS
 tl:List Int
 sl:List Int
instance:Inhabited WK1:=⟨⟨0,0,⟨0,0,[]⟩,[],0,eL,[],[]⟩⟩
abbrev H7(x:WK1):aC Ob:=[cE' [.ptr 1 0,.tslice 2 0 x.tk.length 3,.I x.en,.ptr 3 0,.slice 4 0 x.tl.length 1,.slice 5 0 x.sl.length 1],some (.abs (.store x.t x.n x.st) []),some (.tab tkK x.tk),some (.abs (.doer x.t x.n x.d) [1]),iI' x.tl,iI' x.sl]
def aFz(x:WKS):WK1:=⟨x.t,x.n,x.st,x.tk,x.en,x.d,x.tl,x.sl⟩
def wbP(v:AVal)(g:aC Ob):Option (Prop×WK1):=match v,g with
 | .bool true,[some (.cells [.ptr 1 0,.tslice 2 0 k 3,.int .i64 en,.ptr 3 0,.slice 4 0 a 1,.slice 5 0 b 1]),some (.abs (.store t n st) []),some (.tab [some .i64,some .i64,some .i64] tk),some (.abs (.doer t1 n1 d) [1]),some (.ints (some .i64) tl),some (.ints (some .i64) sl)]=>some (k=tk.length∧a=tl.length∧b=sl.length∧t1=t∧n1=n,⟨t,n,st,tk,en,d,tl,sl⟩)
 | _,_=>none
theorem aC7:bX (obI tbl) 1 wbP (fun y=>.ret (.bool true) (H7 y)):=by
 intro v g p x hp hq K hK;unfold wbP at hp;split at hp
 case h_2=>cases hp
 simp only [sI',pI']at hp;obtain⟨rfl,rfl⟩:=hp;obtain⟨rfl,rfl,rfl,rfl,rfl⟩:=hq;exact⟨⟨_,_,aHA _ _ _,hK⟩⟩
abbrev w33(x:WKS):=List.getD x.4 (0+Int.toNat x.5) []
def LS(tr:Int)(x:WKS):Tr WK1:=.pre ((0:Int)≤x.5∧x.5<(↑x.4.length:Int)) (.pre (0+Int.toNat x.5<x.4.length) (.pre (ND x.1 x.2 (List.headD (w33 x) 0) (List.headD (List.tail (w33 x)) 0) (List.headD (List.tail (List.tail (w33 x))) 0) tr x.3∧True) (.pre (0=0∧lE' x.8∧1=1∧x.8.length+(1:Nat)≤(4294967296:Nat)) (.pre (lE' x.4∧x.8.length+(1:Nat)=List.length (x.8++ [0])∧lE' x.9∧x.1=x.1∧x.2=x.2) (.ret {x with st:=(dqNF x.1 x.2 (List.headD (w33 x) 0) (List.headD (List.tail (w33 x)) 0) (List.headD (List.tail (List.tail (w33 x))) 0) tr x.3).2,d:=(dqNF x.1 x.2 (List.headD (w33 x) 0) (List.headD (List.tail (w33 x)) 0) (List.headD (List.tail (List.tail (w33 x))) 0) tr x.3).1,tl:=x.8++ [0],sl:=x.9})))))
theorem YH(tr:Int)(x:WKS)(K:WK1→Prop)(h:(LS tr x).run K):cT' 95 [.ptr 0 0,.I tr] [cE' [.ptr 1 0,.tslice 2 0 x.tk.length 3,.I x.en,.raw (.pointer none),.slice 3 0 x.tl.length 1,.slice 4 0 x.sl.length 1],some (.abs (.store x.t x.n x.st) []),some (.tab cK3 x.tk),iI' x.tl,iI' x.sl] (bP 1 0 [] [] wbP K):=by
 exact cM' (E:=EW1) (by kernel_rfl) h
theorem aGy(tr:Int)(x:WKS)(K:AVal→aC Ob→Prop)(hK:K (.bool false) (pT x)):cT' 95 [.ptr 0 0,.I tr] [cE' [.ptr 1 0,.tslice 2 0 x.tk.length 3,.I x.en,.ptr 3 0,.slice 4 0 x.tl.length 1,.slice 5 0 x.sl.length 1],some (.abs (.store x.t x.n x.st) []),some (.tab cK3 x.tk),some (.abs (.doer x.t x.n x.d) [1]),iI' x.tl,iI' x.sl] K:=by
 refine aHp (cM' (E:=EW1) (q:=K (.bool false) [cE' [.ptr 1 0,.tslice 2 0 x.4.length 3,.I x.5,.ptr 3 0,.slice 4 0 x.8.length 1,.slice 5 0 x.9.length 1],some (.abs (.store x.1 x.2 x.3) []),some (.tab cK3 x.4),some (.abs (.doer x.1 x.2 x.7) [1]),iI' x.8,iI' x.9]) (by kernel_rfl) ?_)
 exact hK
def wbF(tr:Int)(x:WKS):WK1:=bif x.b then aFz x else(LS tr x).val
def RP(tr:Int)(x:WKS):Prop:=bif x.b then True else(LS tr x).ok
def wbS:aH Ob:=fun args h=>match args,h with
 | [.ptr 0 0,.int .i64 tr],[some (.abs (.worker x) [])]=>some (.pre (RP tr x) (.ret (.bool (!x.b)) (H7 (wbF tr x))))
 | _,_=>none
theorem aFx:sT' 95 wbS:=by
 intro args h o ho K hK;unfold wbS at ho;split at ho<;>cases ho
 rename_i tr x;obtain⟨ok,hK⟩:=hK;have hK:K (.bool (!x.b)) (H7 (wbF tr x)):=hK;unfold wbF at hK;unfold RP at ok;cases e:x.b with
 | false=>
   rw [e]at ok hK;exact aHq (root:=0) (pos:=[]) (cs:=[]) (parse:=wbP) (fin:=fun y=>.ret (.bool true) (H7 y)) aC7 (aR.unpack (.worker x) 0 0 (mI x) [] rfl (congrArg (Prod.mk 0) (o9 e)) rfl rfl) (YH tr x _ (aHw ok hK))
 | true=>
   rw [e]at hK;exact aHy (h2:=pT x) (aR.unpack (.worker x) 0 0 (pT x) [] rfl (congrArg (Prod.mk 0) (vO e)) rfl rfl) (aGy tr x K hK)
noncomputable def EW2:=EW1.addS 95 wbS aFx
structure WkO where
 code:Int
 okk:Bool
 val:Int
 d:Bool
 x:WKS
 s:MS
instance:Inhabited WkO:=⟨⟨0,false,0,false,default,⟨0,0,[],0,0,0,0,0,false⟩⟩⟩
abbrev L0(y:WkO):aC Ob:=[some (.abs (.worker y.x) []),none,none,none,none,none,bD 7 y.s,bE y.s]
abbrev YJ(y:WkO):AVal:=.tup [.agg [.I y.code,.bool y.okk,.I y.val],.bool y.d]
def aDc(v:AVal)(g:aC Ob):Option (Prop×WkO):=match v,g with
 | .tup [.agg [.int .i64 code,.bool okk,.int .i64 val],.bool dn],[some (.cells [.ptr 1 0,.tslice 2 0 k 3,.int .i64 en,.ptr 3 0,.slice 4 0 a 1,.slice 5 0 b 1]),some (.abs (.store t n st) []),some (.tab [some .i64,some .i64,some .i64] tk),some (.abs (.doer t1 n1 d) [1]),some (.ints (some .i64) tl),some (.ints (some .i64) sl),e1,e2]=>(match cO 7 [e1,e2]with
   | some (l,s)=>some (k=tk.length∧a=tl.length∧b=sl.length∧t1=t∧n1=n∧l=s.xs.length,⟨code,okk,val,dn,⟨t,n,st,tk,en,true,d,tl,sl⟩,s⟩)
   | none=>none)
 | _,_=>none
def aDb(v:AVal)(g:aC Ob):Option (Prop×WkO):=match v,g with
 | .tup [.agg [.int .i64 code,.bool okk,.int .i64 val],.bool dn],[some (.cells [.ptr 1 0,.tslice 2 0 k 3,.int .i64 en,.raw (.pointer none),.slice 4 0 a 1,.slice 5 0 b 1]),some (.abs (.store t n st) []),some (.tab [some .i64,some .i64,some .i64] tk),_,some (.ints (some .i64) tl),some (.ints (some .i64) sl),e1,e2]=>(match cO 7 [e1,e2]with
   | some (l,s)=>some (k=tk.length∧a=tl.length∧b=sl.length∧l=s.xs.length,⟨code,okk,val,dn,⟨t,n,st,tk,en,false,eL,tl,sl⟩,s⟩)
   | none=>none)
 | _,_=>none
def aDd(v:AVal)(g:aC Ob):Option (Prop×WkO):=match v,g with
 | .tup [.agg [.int .i64 code,.bool okk,.int .i64 val],.bool dn],[some (.cells [.ptr 1 0,.tslice 2 0 k 3,.int .i64 en,.raw (.pointer none),.slice 4 0 a 1,.slice 8 0 b 1]),some (.abs (.store t n st) []),some (.tab [some .i64,some .i64,some .i64] tk),_,some (.ints (some .i64) tl),_,e1,e2,some (.ints (some .i64) sl)]=>(match cO 7 [e1,e2]with
   | some (l,s)=>some (k=tk.length∧a=tl.length∧b=sl.length∧l=s.xs.length,⟨code,okk,val,dn,⟨t,n,st,tk,en,false,eL,tl,sl⟩,s⟩)
   | none=>none)
 | _,_=>none
def wsP(v:AVal)(g:aC Ob):Option (Prop×WkO):=match aDc v g with
 | some r=>some r
 | none=>(match aDb v g with
   | some r=>some r
   | none=>aDd v g)
theorem YN:bX (obI tbl) 8 aDc (fun y=>.ret (YJ y) (L0 y)):=by
 intro v g p x hp hq K hK;unfold aDc at hp;split at hp
 case h_2=>cases hp
 rename_i code okk val dn k en a b t n st tk t1 n1 d tl sl e1 e2;split at hp
 case h_2=>cases hp
 rename_i l s hm;simp only [sI',pI']at hp;obtain⟨rfl,rfl⟩:=hp;obtain⟨rfl,rfl,rfl,rfl,rfl,hl⟩:=hq;have hh:=bF hm hl;cases hh;exact⟨⟨_,_,((aE.move 1 (of_decide_eq_true rfl)).trans ((aE.move 2 (of_decide_eq_true rfl)).trans ((aE.move 3 (of_decide_eq_true rfl)).trans ((aE.move 4 (of_decide_eq_true rfl)).trans ((aE.move 5 (of_decide_eq_true rfl)).trans ((aHv (v2:=YJ ⟨code,okk,val,dn,⟨t1,n1,st,tk,en,true,d,tl,sl⟩,s⟩) (g2:=aL (L0 ⟨code,okk,val,dn,⟨t1,n1,st,tk,en,true,d,tl,sl⟩,s⟩) 0 0 (pT ⟨t1,n1,st,tk,en,true,d,tl,sl⟩) []) (by kernel_rfl) (by kernel_rfl)).trans (aE.pack (L0 ⟨code,okk,val,dn,⟨t1,n1,st,tk,en,true,d,tl,sl⟩,s⟩) (.worker ⟨t1,n1,st,tk,en,true,d,tl,sl⟩) 0 0 (pT ⟨t1,n1,st,tk,en,true,d,tl,sl⟩) [] rfl rfl (congrArg (Prod.mk 0) (vO rfl)) (by kernel_rfl)))))))),hK⟩⟩
theorem YM:bX (obI tbl) 8 aDb (fun y=>.ret (YJ y) (L0 y)):=by
 intro v g p x hp hq K hK;unfold aDb at hp;split at hp
 case h_2=>cases hp
 rename_i code okk val dn k en a b t n st tk e3 tl sl e1 e2;split at hp
 case h_2=>cases hp
 rename_i l s hm;simp only [sI',pI']at hp;obtain⟨rfl,rfl⟩:=hp;obtain⟨rfl,rfl,rfl,hl⟩:=hq;have hh:=bF hm hl;cases hh;exact⟨⟨_,_,((aE.weak (jU _ 3 none trivial)).trans ((aE.move 1 (of_decide_eq_true rfl)).trans ((aE.move 2 (of_decide_eq_true rfl)).trans ((aE.move 4 (of_decide_eq_true rfl)).trans ((aE.move 5 (of_decide_eq_true rfl)).trans ((aHv (v2:=YJ ⟨code,okk,val,dn,⟨t,n,st,tk,en,false,eL,tl,sl⟩,s⟩) (g2:=aL (L0 ⟨code,okk,val,dn,⟨t,n,st,tk,en,false,eL,tl,sl⟩,s⟩) 0 0 (mI ⟨t,n,st,tk,en,false,eL,tl,sl⟩) []) (by kernel_rfl) (by kernel_rfl)).trans (aE.pack (L0 ⟨code,okk,val,dn,⟨t,n,st,tk,en,false,eL,tl,sl⟩,s⟩) (.worker ⟨t,n,st,tk,en,false,eL,tl,sl⟩) 0 0 (mI ⟨t,n,st,tk,en,false,eL,tl,sl⟩) [] rfl rfl (congrArg (Prod.mk 0) (o9 rfl)) (by kernel_rfl)))))))),hK⟩⟩
theorem YO:bX (obI tbl) 8 aDd (fun y=>.ret (YJ y) (L0 y)):=by
 intro v g p x hp hq K hK;unfold aDd at hp;split at hp
 case h_2=>cases hp
 rename_i code okk val dn k en a b t n st tk e3 tl e4 e1 e2 sl;split at hp
 case h_2=>cases hp
 rename_i l s hm;simp only [sI',pI']at hp;obtain⟨rfl,rfl⟩:=hp;obtain⟨rfl,rfl,rfl,hl⟩:=hq;have hh:=bF hm hl;cases hh;exact⟨⟨_,_,((aE.weak (jU _ 3 none trivial)).trans ((aE.weak (jU _ 5 none trivial)).trans ((aE.move 1 (of_decide_eq_true rfl)).trans ((aE.move 2 (of_decide_eq_true rfl)).trans ((aE.move 4 (of_decide_eq_true rfl)).trans ((aE.move 8 (of_decide_eq_true rfl)).trans ((aE.pick [0,1,2,3,4,5,6,7,9,10,11,12] rfl).trans ((aHv (v2:=YJ ⟨code,okk,val,dn,⟨t,n,st,tk,en,false,eL,tl,sl⟩,s⟩) (g2:=aL (L0 ⟨code,okk,val,dn,⟨t,n,st,tk,en,false,eL,tl,sl⟩,s⟩) 0 0 (mI ⟨t,n,st,tk,en,false,eL,tl,sl⟩) []) (by kernel_rfl) (by kernel_rfl)).trans (aE.pack (L0 ⟨code,okk,val,dn,⟨t,n,st,tk,en,false,eL,tl,sl⟩,s⟩) (.worker ⟨t,n,st,tk,en,false,eL,tl,sl⟩) 0 0 (mI ⟨t,n,st,tk,en,false,eL,tl,sl⟩) [] rfl rfl (congrArg (Prod.mk 0) (o9 rfl)) (by kernel_rfl)))))))))),hK⟩⟩
theorem aDe:bX (obI tbl) 8 wsP (fun y=>.ret (YJ y) (L0 y)):=by
 intro v g p x hp hq K hK;unfold wsP at hp;split at hp
 ·rename_i r hr;cases hp;exact YN v g p x hr hq K hK
 split at hp
 ·rename_i r hr;cases hp;exact YM v g p x hr hq K hK
 exact YO v g p x hp hq K hK
abbrev w34(s:MS)(x:WK1):=tJ x.1 x.2 x.6 x.3 s
abbrev w35(x:WK1):=W (List.getD x.7 (0+Int.toNat x.5*1) 0+1)
def wsT(x:WK1)(s:MS):Tr WkO:=.pre ((0:Int)≤x.5∧x.5<(↑x.7.length:Int)) (.pre (0+Int.toNat x.5*(1:Nat)<x.7.length) (.pre ((0:Int)≤x.5∧x.5<(↑x.7.length:Int)) (.pre (0+Int.toNat x.5*(1:Nat)<x.7.length) (.pre ((lE' s.3∧x.1=x.1∧x.2=x.2)∧TN x.1 x.2 x.6 x.3 s) (.ite (w34 s x).1 (.ite (DqO.x (w34 s x)).4 (.pre (0=0∧lE' x.8∧1=1∧x.8.length+(1:Nat)≤(4294967296:Nat)) (.pre (lE' x.4∧x.7.length=List.length (List.set x.7 (0+Int.toNat x.5*1) (w35 x))∧x.8.length+(1:Nat)=List.length (x.8++ [x.5])∧lE' (DqO.s (w34 s x)).3) (.ret {code:=(DqO.x (w34 s x)).1,okk:=(DqO.x (w34 s x)).2,val:=(DqO.x (w34 s x)).3,d:=true,x:= {x with st:=(w34 s x).3,en:=W (x.5+1),b:=false,d:=eL,tl:=List.set x.7 (0+Int.toNat x.5*1) (w35 x),sl:=x.8++ [x.5] },s:=(w34 s x).4}))) (.pre (lE' x.4∧x.7.length=List.length (List.set x.7 (0+Int.toNat x.5*1) (w35 x))∧lE' x.8∧lE' (DqO.s (w34 s x)).3) (.ret {code:=(DqO.x (w34 s x)).1,okk:=(DqO.x (w34 s x)).2,val:=(DqO.x (w34 s x)).3,d:=true,x:= {x with st:=(w34 s x).3,en:=W (x.5+1),b:=false,d:=eL,tl:=List.set x.7 (0+Int.toNat x.5*1) (w35 x),sl:=x.8},s:=(w34 s x).4}))) (.pre (lE' x.4∧x.7.length=List.length (List.set x.7 (0+Int.toNat x.5*1) (w35 x))∧lE' x.8∧x.1=x.1∧x.2=x.2∧lE' (DqO.s (w34 s x)).3) (.ret {code:=0,okk:=false,val:=0,d:=false,x:= {x with st:=(w34 s x).3,b:=true,d:=(w34 s x).2,tl:=List.set x.7 (0+Int.toNat x.5*1) (w35 x),sl:=x.8},s:=(w34 s x).4})))))))
theorem aDf(x:WK1)(s:MS)(K:WkO→Prop)(h:(wsT x s).run K):cT' 97 [.ptr 0 0,.ptr 6 0] [cE' [.ptr 1 0,.tslice 2 0 x.tk.length 3,.I x.en,.ptr 3 0,.slice 4 0 x.tl.length 1,.slice 5 0 x.sl.length 1],some (.abs (.store x.t x.n x.st) []),some (.tab cK3 x.tk),some (.abs (.doer x.t x.n x.d) [1]),iI' x.tl,iI' x.sl,bD 7 s,bE s] (bP 8 0 [] [] wsP K):=by
 exact cM' (E:=EW2) (by kernel_rfl) h
def wsF(x:WK1)(s:MS):WkO:=(wsT x s).val
def YL(x:WK1)(s:MS):Prop:=(wsT x s).ok
def wsS:aH Ob:=fun args h=>match args,h with
 | [.ptr 0 0,.ptr 6 0],[some (.cells [.ptr 1 0,.tslice 2 0 k 3,.int .i64 en,.ptr 3 0,.slice 4 0 a 1,.slice 5 0 b 1]),some (.abs (.store t n st) []),some (.tab [some .i64,some .i64,some .i64] tk),some (.abs (.doer t1 n1 d) [1]),some (.ints (some .i64) tl),some (.ints (some .i64) sl),e1,e2]=>(match cO 7 [e1,e2]with
   | some (l,s)=>some (.pre ((k=tk.length∧a=tl.length∧b=sl.length∧t1=t∧n1=n∧l=s.xs.length)∧YL ⟨t,n,st,tk,en,d,tl,sl⟩ s) (.ret (YJ (wsF ⟨t,n,st,tk,en,d,tl,sl⟩ s)) (L0 (wsF ⟨t,n,st,tk,en,d,tl,sl⟩ s))))
   | none=>none)
 | _,_=>none
theorem aFD:sT' 97 wsS:=by
 intro args h o ho K hK;unfold wsS at ho;split at ho
 case h_2=>cases ho
 rename_i k en a b t n st tk t1 n1 d tl sl e1 e2;split at ho<;>cases ho
 rename_i l s hm;obtain⟨⟨⟨rfl,rfl,rfl,rfl,rfl,hl⟩,ok⟩,hK⟩:=hK;have hh:=bF hm hl;cases hh;refine aHC (root:=0) (pos:=[]) (cs:=[]) (parse:=wsP) (fin:=fun y=>.ret (YJ y) (L0 y)) aDe ?_;exact aDf ⟨t1,n1,st,tk,en,d,tl,sl⟩ s _ (aHw ok hK)
noncomputable def EW3:=EW2.addS 97 wsS aFD
def dtS:aH Ob:=fun args h=>match args,h with
 | [.ptr 0 0],[some (.abs (.doer t n x) [1]),some (.abs (.store t2 n2 st) [])]=>some (.pre True (.ret (.agg [.I x.sh,.I x.kd,.I x.ky]) [some (.abs (.doer t n x) [1]),some (.abs (.store t2 n2 st) [])]))
 | _,_=>none
abbrev w36(n n2:Int)(st:STS)(t t2:Int)(x:DOS):aC Ob:=[some (.abs (.doer t n x) [1]),some (.abs (.store t2 n2 st) [])]
abbrev w37(x:DOS):List AVal:=[.I x.sh,.I x.kd,.I x.ky]
theorem aDZ(t n t2 n2:Int)(x:DOS)(st:STS)(K:AVal→aC Ob→Prop)(hK:K (.agg (w37 x)) (aL (w36 n n2 st t t2 x) 0 1 (fN t n x) [1])):cT' 96 [.ptr 0 0] (aL (w36 n n2 st t t2 x) 0 1 (fN t n x) [1]) K:=by
 refine aHp ?_;exact cM' (E:=EW3) (by kernel_rfl) hK
theorem aD0(t n t2 n2:Int)(x:DOS)(st:STS)(K:AVal→aC Ob→Prop)(hK:K (.agg (w37 x)) (aL (w36 n n2 st t t2 x) 0 1 (fO t n x) [1])):cT' 96 [.ptr 0 0] (aL (w36 n n2 st t t2 x) 0 1 (fO t n x) [1]) K:=by
 refine aHp ?_;exact cM' (E:=EW3) (by kernel_rfl) hK
theorem aD1(t n t2 n2:Int)(x:DOS)(st:STS)(K:AVal→aC Ob→Prop)(hK:K (.agg (w37 x)) (aL (w36 n n2 st t t2 x) 0 1 (fP t n x) [1])):cT' 96 [.ptr 0 0] (aL (w36 n n2 st t t2 x) 0 1 (fP t n x) [1]) K:=by
 refine aHp ?_;exact cM' (E:=EW3) (by kernel_rfl) hK
theorem aD2(t n t2 n2:Int)(x:DOS)(st:STS)(K:AVal→aC Ob→Prop)(hK:K (.agg (w37 x)) (aL (w36 n n2 st t t2 x) 0 1 (fQ t n x) [1])):cT' 96 [.ptr 0 0] (aL (w36 n n2 st t t2 x) 0 1 (fQ t n x) [1]) K:=by
 refine aHp ?_;exact cM' (E:=EW3) (by kernel_rfl) hK
theorem aD3(t n t2 n2:Int)(x:DOS)(st:STS)(K:AVal→aC Ob→Prop)(hK:K (.agg (w37 x)) (aL (w36 n n2 st t t2 x) 0 1 (fR t n x) [1])):cT' 96 [.ptr 0 0] (aL (w36 n n2 st t t2 x) 0 1 (fR t n x) [1]) K:=by
 refine aHp ?_;exact cM' (E:=EW3) (by kernel_rfl) hK
theorem aD4(t n t2 n2:Int)(x:DOS)(st:STS)(K:AVal→aC Ob→Prop)(hK:K (.agg (w37 x)) (aL (w36 n n2 st t t2 x) 0 1 (fS t n x) [1])):cT' 96 [.ptr 0 0] (aL (w36 n n2 st t t2 x) 0 1 (fS t n x) [1]) K:=by
 refine aHp ?_;exact cM' (E:=EW3) (by kernel_rfl) hK
theorem aD5(t n t2 n2:Int)(x:DOS)(st:STS)(K:AVal→aC Ob→Prop)(hK:K (.agg (w37 x)) (aL (w36 n n2 st t t2 x) 0 1 (eP t n x) [1])):cT' 96 [.ptr 0 0] (aL (w36 n n2 st t t2 x) 0 1 (eP t n x) [1]) K:=by
 refine aHp ?_;exact cM' (E:=EW3) (by kernel_rfl) hK
theorem Y3(t n t2 n2:Int)(x:DOS)(st:STS)(K:AVal→aC Ob→Prop)(hK:K (.agg (w37 x)) (aL (w36 n n2 st t t2 x) 0 1 (dJ t n x) [1])):cT' 96 [.ptr 0 0] (aL (w36 n n2 st t t2 x) 0 1 (dJ t n x) [1]) K:=by
 refine aHp ?_;exact cM' (E:=EW3) (by kernel_rfl) hK
theorem aD7(t n t2 n2:Int)(x:DOS)(st:STS)(K:AVal→aC Ob→Prop)(hK:K (.agg (w37 x)) (aL (w36 n n2 st t t2 x) 0 1 (fT t n x) [1])):cT' 96 [.ptr 0 0] (aL (w36 n n2 st t t2 x) 0 1 (fT t n x) [1]) K:=by
 refine aHp ?_;exact cM' (E:=EW3) (by kernel_rfl) hK
theorem aF5(t n t2 n2:Int)(x:DOS)(st:STS)(K:AVal→aC Ob→Prop)(hK:K (.agg (w37 x)) (aL (w36 n n2 st t t2 x) 0 1 (l6 t n x) [1])):cT' 96 [.ptr 0 0] (aL (w36 n n2 st t t2 x) 0 1 (l6 t n x) [1]) K:=by
 refine aHp ?_;exact cM' (E:=EW3) (by kernel_rfl) hK
theorem aD6:sT' 96 dtS:=by
 intro args h o ho K hK;unfold dtS at ho;split at ho<;>cases ho
 rename_i t n x t2 n2 st;obtain⟨_,hK⟩:=hK;have hK:K (.agg [.I x.sh,.I x.kd,.I x.ky]) [some (.abs (.doer t n x) [1]),some (.abs (.store t2 n2 st) [])]:=hK;refine aHD ?_
 by_cases e0:x.at'=0
 ·refine aHy (aR.unpack (.doer t n x) 0 1 (eP t n x) [1] rfl (congrArg (Prod.mk 1) (qC e0)) (by kernel_rfl) rfl) ?_
  exact aD5 t n t2 n2 x st _ ⟨⟨_,_,aE.pack [some (.abs (.doer t n x) [1]),some (.abs (.store t2 n2 st) [])] (.doer t n x) 0 1 (eP t n x) [1] rfl rfl (congrArg (Prod.mk 1) (qC e0)) (by kernel_rfl),hK⟩⟩
 by_cases e1:x.at'=1
 ·refine aHy (aR.unpack (.doer t n x) 0 1 (dJ t n x) [1] rfl (congrArg (Prod.mk 1) (tA e1)) (by kernel_rfl) rfl) ?_
  exact Y3 t n t2 n2 x st _ ⟨⟨_,_,aE.pack [some (.abs (.doer t n x) [1]),some (.abs (.store t2 n2 st) [])] (.doer t n x) 0 1 (dJ t n x) [1] rfl rfl (congrArg (Prod.mk 1) (tA e1)) (by kernel_rfl),hK⟩⟩
 by_cases e5:x.at'=5
 ·refine aHy (aR.unpack (.doer t n x) 0 1 (dJ t n x) [1] rfl (congrArg (Prod.mk 1) (tE e5)) (by kernel_rfl) rfl) ?_
  exact Y3 t n t2 n2 x st _ ⟨⟨_,_,aE.pack [some (.abs (.doer t n x) [1]),some (.abs (.store t2 n2 st) [])] (.doer t n x) 0 1 (dJ t n x) [1] rfl rfl (congrArg (Prod.mk 1) (tE e5)) (by kernel_rfl),hK⟩⟩
 by_cases e2:x.at'=2
 ·refine aHy (aR.unpack (.doer t n x) 0 1 (fQ t n x) [1] rfl (congrArg (Prod.mk 1) (tB e2)) (by kernel_rfl) rfl) ?_
  exact aD2 t n t2 n2 x st _ ⟨⟨_,_,aE.pack [some (.abs (.doer t n x) [1]),some (.abs (.store t2 n2 st) [])] (.doer t n x) 0 1 (fQ t n x) [1] rfl rfl (congrArg (Prod.mk 1) (tB e2)) (by kernel_rfl),hK⟩⟩
 by_cases e3:x.at'=3
 ·refine aHy (aR.unpack (.doer t n x) 0 1 (fS t n x) [1] rfl (congrArg (Prod.mk 1) (tC e3)) (by kernel_rfl) rfl) ?_
  exact aD4 t n t2 n2 x st _ ⟨⟨_,_,aE.pack [some (.abs (.doer t n x) [1]),some (.abs (.store t2 n2 st) [])] (.doer t n x) 0 1 (fS t n x) [1] rfl rfl (congrArg (Prod.mk 1) (tC e3)) (by kernel_rfl),hK⟩⟩
 by_cases e4:x.at'=4
 ·refine aHy (aR.unpack (.doer t n x) 0 1 (fN t n x) [1] rfl (congrArg (Prod.mk 1) (tD e4)) (by kernel_rfl) rfl) ?_
  exact aDZ t n t2 n2 x st _ ⟨⟨_,_,aE.pack [some (.abs (.doer t n x) [1]),some (.abs (.store t2 n2 st) [])] (.doer t n x) 0 1 (fN t n x) [1] rfl rfl (congrArg (Prod.mk 1) (tD e4)) (by kernel_rfl),hK⟩⟩
 by_cases e6:x.at'=6
 ·refine aHy (aR.unpack (.doer t n x) 0 1 (fO t n x) [1] rfl (congrArg (Prod.mk 1) (tF e6)) (by kernel_rfl) rfl) ?_
  exact aD0 t n t2 n2 x st _ ⟨⟨_,_,aE.pack [some (.abs (.doer t n x) [1]),some (.abs (.store t2 n2 st) [])] (.doer t n x) 0 1 (fO t n x) [1] rfl rfl (congrArg (Prod.mk 1) (tF e6)) (by kernel_rfl),hK⟩⟩
 by_cases e7:x.at'=7
 ·refine aHy (aR.unpack (.doer t n x) 0 1 (fR t n x) [1] rfl (congrArg (Prod.mk 1) (tG e7)) (by kernel_rfl) rfl) ?_
  exact aD3 t n t2 n2 x st _ ⟨⟨_,_,aE.pack [some (.abs (.doer t n x) [1]),some (.abs (.store t2 n2 st) [])] (.doer t n x) 0 1 (fR t n x) [1] rfl rfl (congrArg (Prod.mk 1) (tG e7)) (by kernel_rfl),hK⟩⟩
 by_cases e8:x.at'=8
 ·refine aHy (aR.unpack (.doer t n x) 0 1 (fP t n x) [1] rfl (congrArg (Prod.mk 1) (tH e8)) (by kernel_rfl) rfl) ?_
  exact aD1 t n t2 n2 x st _ ⟨⟨_,_,aE.pack [some (.abs (.doer t n x) [1]),some (.abs (.store t2 n2 st) [])] (.doer t n x) 0 1 (fP t n x) [1] rfl rfl (congrArg (Prod.mk 1) (tH e8)) (by kernel_rfl),hK⟩⟩
 by_cases e9:x.at'=9
 ·refine aHy (aR.unpack (.doer t n x) 0 1 (fT t n x) [1] rfl (congrArg (Prod.mk 1) (tI e9)) (by kernel_rfl) rfl) ?_
  exact aD7 t n t2 n2 x st _ ⟨⟨_,_,aE.pack [some (.abs (.doer t n x) [1]),some (.abs (.store t2 n2 st) [])] (.doer t n x) 0 1 (fT t n x) [1] rfl rfl (congrArg (Prod.mk 1) (tI e9)) (by kernel_rfl),hK⟩⟩
 refine aHy (aR.unpack (.doer t n x) 0 1 (l6 t n x) [1] rfl (congrArg (Prod.mk 1) (uE ⟨e0,e1,e5,e2,e3,e4,e6,e7,e8,e9⟩)) (by kernel_rfl) rfl) ?_
 exact aF5 t n t2 n2 x st _ ⟨⟨_,_,aE.pack [some (.abs (.doer t n x) [1]),some (.abs (.store t2 n2 st) [])] (.doer t n x) 0 1 (l6 t n x) [1] rfl rfl (congrArg (Prod.mk 1) (uE ⟨e0,e1,e5,e2,e3,e4,e6,e7,e8,e9⟩)) (by kernel_rfl),hK⟩⟩
noncomputable def EW4:=EW3.addS 96 dtS aD6
abbrev egH(x:EGS):aC Ob:=[some (.abs (.engine x) [])]
theorem d7(n:Nat)(hn:n≤1)(v:AVal)(hv:v.within (upto 0 1)=true)(x:EGS):aE (obI tbl) n v (egG x) v (egH x):=by
 refine aE.pack (egH x) (.engine x) 0 0 (egG x) [] (by kernel_rfl) rfl rfl ?_
 have h1:obOk 0 (egG x)=true:=by kernel_rfl
 have h2:rR (egH x) 0 []=true:=by kernel_rfl
 have h3:Nat.ble n (egH x).length =true:=Nat.ble_eq_true_of_le hn;have h4:v.within (upto 0 (egH x).length)=true:=hv;rw [h1,h2,h3,h4];rfl
def aEf(g:aC Ob):Option (Prop×EGS):=match g with
 | [some (.cells [.int .i64 sh,.int .i64 th,.int .i64 nd,.int .i64 tr,.ptr 1 0,.ptr 3 0,.slice 4 0 len 1,.int .i64 k]),e1,e2,some (.abs (.hist h) []),some (.abs (.whole ws i) [5]),some (.abs (.worker w) [])]=>(match cO 2 [e1,e2]with
   | some (l,s)=>some (len=ws.length∧i<ws.length∧l=s.xs.length,⟨sh,th,nd,tr,s,h,cU ws i w,k⟩)
   | none=>none)
 | _=>none
def aEe(g:aC Ob):Option (Prop×EGS):=match g with
 | [some (.cells [.int .i64 sh,.int .i64 th,.int .i64 nd,.int .i64 tr,.ptr 1 0,.ptr 3 0,.slice 4 0 len 1,.int .i64 k]),e1,e2,some (.abs (.hist h) []),some (.abs (.wrow ws) [])]=>(match cO 2 [e1,e2]with
   | some (l,s)=>some (len=ws.length∧l=s.xs.length,⟨sh,th,nd,tr,s,h,ws,k⟩)
   | none=>none)
 | _=>none
def egP(g:aC Ob):Option (Prop×EGS):=match aEf g with
 | some r=>some r
 | none=>aEe g
theorem A0(v:AVal)(hv:v.within (upto 0 1)=true)(hv5:k9 (upto 0 5) v=v)(n:Nat)(hn:n≤1){g:aC Ob}{p:Prop}{x:EGS}(hp:egP g=some (p,x))(hq:p):aE (obI tbl) n v g v (egH x):=by
 unfold egP at hp;split at hp
 ·rename_i r hr;cases hp;unfold aEf at hr;split at hr
  case h_2=>cases hr
  rename_i sh th nd tr len k e1 e2 h ws i w;split at hr
  case h_2=>cases hr
  rename_i l s hm;simp only [sI',pI']at hr;obtain⟨rfl,rfl⟩:=hr;obtain⟨rfl,hi,hl⟩:=hq;have hh:=bF hm hl;cases hh;refine(aE.back (l:=4) (k:=5) (i:=i) (ws:=ws) (w:=w) rfl rfl (by decide) hi).trans ?_
  have hlen:ws.length=(cU ws i w).length :=by simp [cU]
  have t1:=aE.pick (I:=obI tbl) (n:=n) (v:=v) (g:=([cE' [.I sh,.I th,.I nd,.I tr,.ptr 1 0,.ptr 3 0,.slice 4 0 ws.length 1,.I k],bD 2 s,bE s,some (.abs (.hist h) []),some (.abs (.wrow (cU ws i w)) []),none]:aC Ob)) (upto 0 5) (by
   have h1:d0 (upto 0 5) 6=true:=by decide
   have h2:jB (upto 0 5) 0 n=true:=by
    match n,hn with
    | 0,_=>rfl
    | 1,_=>rfl
   show(d0 (upto 0 5) 6&&jB (upto 0 5) 0 n)=true;rw [h1,h2];rfl)
  rw [hv5]at t1;refine t1.trans ?_;have t2:=d7 n hn v hv ⟨sh,th,nd,tr,s,h,cU ws i w,k⟩;refine aE.trans (aHv rfl ?_) t2;show _=[some (aJ.cells [.I sh,.I th,.I nd,.I tr,.ptr 1 0,.ptr 3 0,.slice 4 0 (cU ws i w).length 1,.I k]),_,_,_,_];rw [←hlen];rfl
 ·unfold aEe at hp;split at hp
  case h_2=>cases hp
  rename_i sh th nd tr len k e1 e2 h ws hno;split at hp
  case h_2=>cases hp
  rename_i l s hm;simp only [sI',pI']at hp;obtain⟨rfl,rfl⟩:=hp;obtain⟨rfl,hl⟩:=hq;have hh:=bF hm hl;cases hh;exact d7 n hn v hv ⟨sh,th,nd,tr,s,h,ws,k⟩
def pkP(v:AVal)(g:aC Ob):Option (Prop×(Bool×EGS)):=match v with
 | .bool d=>(match egP g with
   | some (p,x)=>some (p,(d,x))
   | none=>none)
 | _=>none
theorem aCx:bX (obI tbl) 1 pkP (fun y=>.ret (.bool y.1) (egH y.2)):=by
 intro v g p x hp hq K hK;unfold pkP at hp;split at hp
 case h_2=>cases hp
 rename_i d;split at hp
 case h_2=>cases hp
 rename_i p' x' hx;simp only [sI',pI']at hp;obtain⟨rfl,rfl⟩:=hp;exact⟨⟨_,_,A0 (.bool d) rfl rfl 1 (Nat.le_refl 1) hx hq,hK⟩⟩
instance:Inhabited EGS:=⟨⟨0,0,0,0,⟨0,0,[],0,0,0,0,0,false⟩,default,[],0⟩⟩
abbrev w39(th:Int)(x:EGS):=bB x.7 (0+Int.toNat th*1)
abbrev w38(th:Int)(x:EGS):=wbF x.4 (w39 th x)
def pkT(th:Int)(x:EGS):Tr (Bool×EGS):=.ite (ilt th 0) (.pre (lE' x.7∧lE' (EGS.s x).3) (.ret (false,x))) (.ite (ile (↑x.7.length:Int) th) (.pre (lE' x.7∧lE' (EGS.s x).3) (.ret (false,x))) (.pre ((0:Int)≤th∧th<(↑x.7.length:Int)) (.pre (0+Int.toNat th*(1:Nat)<x.7.length) (.pre True (.ite (ieq (W ((↑(List.length (w39 th x).4):Int) - (w39 th x).5)) 0) (.pre (lE' x.7∧0+Int.toNat th*(1:Nat)<x.7.length∧lE' (EGS.s x).3) (.ret (false,{x with ws:=cU x.7 (0+Int.toNat th*1) (w39 th x)}))) (.ite (ile 60000 x.8) (.pre (lE' x.7∧0+Int.toNat th*(1:Nat)<x.7.length∧lE' (EGS.s x).3) (.ret (false,{x with ws:=cU x.7 (0+Int.toNat th*1) (w39 th x)}))) (.pre (RP x.4 (w39 th x)) (.ite (!(w39 th x).6) (.pre (True∧True) (.pre (hbOk th x.6 (WK1.d (w38 th x)).6 (WK1.d (w38 th x)).7∧True) (.pre ((lE' (w38 th x).4∧lE' (w38 th x).7∧lE' (w38 th x).8∧(w38 th x).1=(w38 th x).1∧(w38 th x).2=(w38 th x).2∧lE' (EGS.s x).3)∧YL (w38 th x) x.5) (.ite (wsF (w38 th x) x.5).4 (.pre (heOk th (hbF th x.6 (WK1.d (w38 th x)).6 (WK1.d (w38 th x)).7).2 (wsF (w38 th x) x.5).1 (wsF (w38 th x) x.5).2 (wsF (w38 th x) x.5).3∧True) (.pre (lE' x.7∧0+Int.toNat th*(1:Nat)<x.7.length∧lE' (WkO.s (wsF (w38 th x) x.5)).3) (.ret (true,{x with s:=(wsF (w38 th x) x.5).6,h:=(heF th (hbF th x.6 (WK1.d (w38 th x)).6 (WK1.d (w38 th x)).7).2 (wsF (w38 th x) x.5).1 (wsF (w38 th x) x.5).2 (wsF (w38 th x) x.5).3).2,ws:=cU x.7 (0+Int.toNat th*1) (wsF (w38 th x) x.5).5,k:=W (x.8+1) })))) (.pre (lE' x.7∧0+Int.toNat th*(1:Nat)<x.7.length∧lE' (WkO.s (wsF (w38 th x) x.5)).3) (.ret (true,{x with s:=(wsF (w38 th x) x.5).6,h:=(hbF th x.6 (WK1.d (w38 th x)).6 (WK1.d (w38 th x)).7).2,ws:=cU x.7 (0+Int.toNat th*1) (wsF (w38 th x) x.5).5,k:=W (x.8+1) }))))))) (.pre ((lE' (w38 th x).4∧lE' (w38 th x).7∧lE' (w38 th x).8∧(w38 th x).1=(w38 th x).1∧(w38 th x).2=(w38 th x).2∧lE' (EGS.s x).3)∧YL (w38 th x) x.5) (.ite (wsF (w38 th x) x.5).4 (.pre (heOk th x.6 (wsF (w38 th x) x.5).1 (wsF (w38 th x) x.5).2 (wsF (w38 th x) x.5).3∧True) (.pre (lE' x.7∧0+Int.toNat th*(1:Nat)<x.7.length∧lE' (WkO.s (wsF (w38 th x) x.5)).3) (.ret (true,{x with s:=(wsF (w38 th x) x.5).6,h:=(heF th x.6 (wsF (w38 th x) x.5).1 (wsF (w38 th x) x.5).2 (wsF (w38 th x) x.5).3).2,ws:=cU x.7 (0+Int.toNat th*1) (wsF (w38 th x) x.5).5,k:=W (x.8+1) })))) (.pre (lE' x.7∧0+Int.toNat th*(1:Nat)<x.7.length∧lE' (WkO.s (wsF (w38 th x) x.5)).3) (.ret (true,{x with s:=(wsF (w38 th x) x.5).6,ws:=cU x.7 (0+Int.toNat th*1) (wsF (w38 th x) x.5).5,k:=W (x.8+1) })))))))))))))
theorem aCy(th:Int)(x:EGS)(K:Bool×EGS→Prop)(h:(pkT th x).run K):cT' 41 [.ptr 0 0,.I th] [cE' [.I x.sh,.I x.th,.I x.nd,.I x.tr,.ptr 1 0,.ptr 3 0,.slice 4 0 x.ws.length 1,.I x.k],bD 2 x.s,bE x.s,some (.abs (.hist x.h) []),some (.abs (.wrow x.ws) [])] (bP 1 0 [] [] pkP K):=by
 exact cM' (E:=EW4) (by kernel_rfl) h
def pkF(th:Int)(x:EGS):Bool×EGS:=(pkT th x).val
def PP(th:Int)(x:EGS):Prop:=(pkT th x).ok
def pkS:aH Ob:=fun args h=>match args,h with
 | [.ptr 0 0,.int .i64 th],[some (.abs (.engine x) [])]=>some (.pre (PP th x) (.ret (.bool (pkF th x).1) (egH (pkF th x).2)))
 | _,_=>none
theorem aFk:sT' 41 pkS:=by
 intro args h o ho K hK;unfold pkS at ho;split at ho<;>cases ho
 rename_i th x;obtain⟨ok,hK⟩:=hK;exact aHq (root:=0) (pos:=[]) (cs:=[]) (parse:=pkP) (fin:=fun y=>.ret (.bool y.1) (egH y.2)) aCx (aR.unpack (.engine x) 0 0 (egG x) [] rfl rfl rfl rfl) (aCy th x _ (aHw ok hK))
noncomputable def EP1:=EW4.addS 41 pkS aFk
def rI:AVal→Int
 | .int _ n=>n
 | _=>0
def rK(row:Nat→List AVal)(i:Nat):Int:=rI ((row i).getD 0 .O)
def rY(row:Nat→List AVal)(i:Nat):Int:=rI ((row i).getD 1 .O)
structure lK (row:Nat→List AVal):Prop where
 h:row=fun i=>[.I (rK row i),.I (rY row i)]
def kK(sh:Int)(m:Nat)(f g:Nat→Int):List (List Int):=(List.range m).map fun j=>[sh,f j,g j]
def eK(sh:Int)(m:Nat)(f g:Nat→Int):Bool:=(List.range m).all fun j=>cA sh (f j) (g j)
theorem RD(sh:Int)(m:Nat)(f g:Nat→Int):kK sh (m+1) f g=kK sh m f g++ [[sh,f m,g m]]:=by
 unfold kK;rw [List.range_succ];simp
theorem pR(sh:Int)(m:Nat)(f g:Nat→Int):(kK sh m f g).length =m:=by unfold kK;simp
theorem oL{k:Int}{m:Nat}{f g:Nat→Int} :eK k m f g=true↔ ∀j,j<m→cA k (f j) (g j)=true:=by
 unfold eK;simp
def RZ(sh:Int)(m:Nat)(f g:Nat→Int):Hint Ob:= {X:=Nat,st:=fun x=>([.I sh,.O,.O,.O,.O,.I 0,.tslice 0 0 x 3,.O,.O,.view m 2 (fun i=>[.I (f i),.I (g i)]),.I (m:Int),.I (x:Int)]++List.replicate 15 .O,[some (.tab cK3 (kK sh x f g))]),ok:=fun x=>x≤m∧ ∀j,j<x→cA sh (f j) (g j)=true,mu:=fun x=>m - x,keep:=[0,5,6,9,10,11],casts:=[(.slot 6,.tab cK3)] }
def aCw(sh:Int)(m:Nat)(f g:Nat→Int)(K:AVal→aC Ob→Prop):Prop:=cW (RZ sh m f g) (Hint.ok (RZ sh m f g)) (.I sh::.O::.O::.O::.O::.I 0::.tslice 0 0 0 3::.O::.O::(.view m 2 fun i=>[.I (f i),.I (g i)])::.I (↑m:Int)::.I 0::(tO' 15 [])) [some (.tab cK3 [])]∧ ∀(x:Nat),(x≤m∧ ∀(j:Nat),j<x→cA sh (f j) (g j)=true)→bif ilt (↑x:Int) (↑m:Int)then((0:Int)≤(↑x:Int)∧(↑x:Int)<(↑m:Int))∧True∧bif !cA sh (f (Int.toNat (↑x:Int))) (g (Int.toNat (↑x:Int)))then K (.tup [.raw (Value.slice none 0 0),.I 1]) []else(0=0∧x=List.length (kK sh x f g)∧x+(1:Nat)≤(4294967296:Nat))∧cW (RZ sh m f g) (fun x'=>Hint.ok (RZ sh m f g) x'∧Hint.mu (RZ sh m f g) x'<Hint.mu (RZ sh m f g) x) (.I sh::.O::.O::.O::.O::.I 0::.tslice 0 0 (x+1) 3::.O::.O::(.view m 2 fun i=>[.I (f i),.I (g i)])::.I (↑m:Int)::.I (W ((↑x:Int)+1))::(tO' 15 [])) [some (.tab cK3 (kK sh x f g++ [[sh,f (Int.toNat (↑x:Int)),g (Int.toNat (↑x:Int))]]))]else K (.tup [.tslice 0 0 x 3,.I 0]) [some (.tab cK3 (kK sh x f g))]
theorem PJ(sh:Int)(m:Nat)(f g:Nat→Int)(K:AVal→aC Ob→Prop)(h:aCw sh m f g K):cT' 82 [.I sh,.view m 2 (fun i=>[.I (f i),.I (g i)])] [] K:=by
 refine aHp (aD (E:=EP1) Tryz.checked.mixed (L:=fun _ _=>some (.states (RZ sh m f g))) (n:=10) (aK (by kernel_rfl) h))
def lgB(th:Int)(m:Nat)(ln:Nat→Nat):Bool:=(List.range m).any (fun i=>decide (40<ln i))||ilt th (m:Int)
theorem O9{th:Int}{m:Nat}{ln:Nat→Nat} :lgB th m ln=false↔(∀i,i<m→ln i≤40)∧(m:Int)≤th:=by
 unfold lgB;rw [aU];simp
theorem HS{th:Int}{m:Nat}{ln:Nat→Nat}(h:(∃i,i<m∧40<ln i)∨th<(m:Int)):lgB th m ln=true:=by
 unfold lgB;rw [aU];simp;exact h
def SF(sh th nd tr:Int)(m:Nat)(ln:Nat→Nat)(f g:Nat→Nat→Int):Hint Ob:= {X:=Nat,st:=fun x=>([.O,.view m 1 (fun i=>[.view (ln i) 2 (fun j=>[.I (f i j),.I (g i j)])]),.ptr 0 0,.O,.O,.O,.O,.view m 1 (fun i=>[.view (ln i) 2 (fun j=>[.I (f i j),.I (g i j)])]),.I (m:Int),.I (x:Int)]++List.replicate 12 .O,[cE' [.I sh,.I th,.I nd,.I tr]]),ok:=fun x=>x≤m∧ ∀j,j<x→ln j≤40,mu:=fun x=>m - x,keep:=[1,2,7,8,9] }
def aCm(sh th nd tr:Int)(m:Nat)(ln:Nat→Nat)(f g:Nat→Nat→Int)(K:AVal→aC Ob→Prop):Prop:=cW (SF sh th nd tr m ln f g) (Hint.ok (SF sh th nd tr m ln f g)) [.O,.view m 1 fun i=>[.view (ln i) 2 fun j=>[.I (f i j),.I (g i j)]],.ptr 0 0,.O,.O,.O,.O,.view m 1 fun i=>[.view (ln i) 2 fun j=>[.I (f i j),.I (g i j)]],.I (↑m:Int),.I 0,.O,.O,.O,.O,.O,.O,.O,.O,.O,.O,.O,.O] [cE' [.I sh,.I th,.I nd,.I tr]]∧ ∀(x:Nat),(x≤m∧ ∀(j:Nat),j<x→ln j≤(40:Nat))→bif ilt (↑x:Int) (↑m:Int)then((0:Int)≤(↑x:Int)∧(↑x:Int)<(↑m:Int))∧bif ilt 40 (↑(ln (Int.toNat (↑x:Int))):Int)then K (.bool true) []else cW (SF sh th nd tr m ln f g) (fun x'=>Hint.ok (SF sh th nd tr m ln f g) x'∧Hint.mu (SF sh th nd tr m ln f g) x'<Hint.mu (SF sh th nd tr m ln f g) x) [.O,.view m 1 fun i=>[.view (ln i) 2 fun j=>[.I (f i j),.I (g i j)]],.ptr 0 0,.O,.O,.O,.O,.view m 1 fun i=>[.view (ln i) 2 fun j=>[.I (f i j),.I (g i j)]],.I (↑m:Int),.I (W ((↑x:Int)+1)),.O,.O,.O,.O,.O,.O,.O,.O,.O,.O,.O,.O] [cE' [.I sh,.I th,.I nd,.I tr]]else K (.bool (ilt th (↑m:Int))) []
theorem PA(sh th nd tr:Int)(m:Nat)(ln:Nat→Nat)(f g:Nat→Nat→Int)(K:AVal→aC Ob→Prop)(h:aCm sh th nd tr m ln f g K):cT' 80 [.agg [.I sh,.I th,.I nd,.I tr],.view m 1 (fun i=>[.view (ln i) 2 (fun j=>[.I (f i j),.I (g i j)])])] [] K:=by
 refine aHp (aD (E:=EP1) Tryz.checked.mixed (L:=fun _ _=>some (.states (SF sh th nd tr m ln f g))) (n:=10) (aK (by kernel_rfl) h))
def wrO(sh th nd tr:Int):Out Ob:=.ite (ilt sh 1) (.ret (.I 1) []) (.ite (ilt 4 sh) (.ret (.I 1) []) (.pre True (.ite (!dL th nd) (.ret (.I 2) []) (.ite (ilt tr 0) (.ret (.I 2) []) (.ite (ilt 50 tr) (.ret (.I 2) []) (.ret (.I 0) []))))))
theorem aE.castTup{I:Itp Ob}{n:Nat}{K:gW}{a a' b:AVal}{g g':aC Ob}(hc:AC K a g=some (a',g')):aE I n (.tup [a,b]) g (.tup [a',b]) g':=by
 intro V hR w x h1 h2 h3 h4;obtain⟨cs,rfl,va,vs,e,ra,vb,vs2,e2,rb,r3⟩:=h4;obtain⟨V',⟨c1,c2,c3,c4⟩,r⟩:=t8 hc h1 h2 ra;exact⟨V',fun l y _ hy=>c1 l y hy,c2,by omega,⟨cs,rfl,va,vs,e,r,vb,vs2,e2,Rep.mono c1 _ _ rb,r3⟩,c4⟩
def ofR(sh:Int)(m:Nat)(f g:Nat→Int):List (List Int):=bif eK sh m f g then kK sh m f g else []
def ofC(sh:Int)(m:Nat)(f g:Nat→Int):Int:=bif eK sh m f g then 0 else 1
theorem aFc(sh:Int)(m:Nat)(f g:Nat→Int)(K:AVal→aC Ob→Prop)(hm:m≤1000000)(hK:K (.tup [.tslice 0 0 (ofR sh m f g).length 3,.I (ofC sh m f g)]) [some (.tab cK3 (ofR sh m f g))]):aCw sh m f g (dS (obI tbl) 0 K):=by
 refine⟨aQ (H:=RZ sh m f g) (0:Nat) rfl ⟨Nat.zero_le _,fun j hj=>by omega⟩,?_⟩
 rintro x ⟨hx,hj⟩;refine aI (fun e=>?_) (fun e=>?_)
 ·rw [aU,dT']at e;refine⟨⟨by omega,by omega⟩,trivial,aI (fun e2=>?_) (fun e2=>?_)⟩
  ·have hf:eK sh m f g=false:=by
    cases h:eK sh m f g with
    | false=>rfl
    | true=>
      have:=oL.1 h x (by omega)
      rw [Int.toNat_natCast]at e2;rw [this]at e2;cases e2
   unfold ofR ofC at hK;rw [hf]at hK;exact⟨⟨_,_,aE.castTup (K:=.tab cK3) rfl,hK⟩⟩
  ·have e4:W ((x:Int)+1)=((x+1:Nat):Int):=by rw [W,cV (by omega)];rfl
   refine⟨⟨rfl,(pR sh x f g).symm,by omega⟩,aQ (H:=RZ sh m f g) (x+1:Nat) ?_ ⟨⟨by show x+1≤m;omega,?_⟩,by show m - (x+1)<m - x;omega⟩⟩
   ·simp only [RZ,RD,e4,Int.toNat_natCast]<;>rfl
   intro j hj2
   by_cases hjx:j=x
   ·subst hjx;rw [Int.toNat_natCast]at e2
    simpa using e2
   ·exact hj j (by omega)
 ·rw [aU,dF']at e;have ht:eK sh m f g=true:=oL.2 fun j hj3=>hj j (by omega)
  have hxm:x=m:=by omega
  subst hxm;unfold ofR ofC at hK;rw [ht]at hK;have hl:=pR sh x f g;simp only [cond_true]at hK;rw [hl]at hK;exact⟨⟨_,_,aHA _ _ _,hK⟩⟩
def ofS:aH Ob:=fun args h=>match args,h with
 | [.int .i64 sh,.view m 2 row],[]=>some (.pre (m≤1000000∧lK row) (.ret (.tup [.tslice 0 0 (ofR sh m (rK row) (rY row)).length 3,.I (ofC sh m (rK row) (rY row))]) [some (.tab cK3 (ofR sh m (rK row) (rY row)))]))
 | _,_=>none
theorem aFb:sT' 82 ofS:=by
 intro args h o ho K hK;unfold ofS at ho;split at ho<;>cases ho
 rename_i sh m row;obtain⟨⟨hm,⟨hr⟩⟩,hK⟩:=hK;rw [hr];refine aHD ?_;exact PJ sh m (rK row) (rY row) _ (aFc sh m (rK row) (rY row) K hm hK)
def vL(vr:Nat→List AVal)(i:Nat):Nat:=match vr i with
 | [.view n _ _]=>n
 | _=>0
def vR(vr:Nat→List AVal)(i:Nat):Nat→List AVal:=match vr i with
 | [.view _ _ r]=>r
 | _=>fun _=>[]
def vK(vr:Nat→List AVal)(i j:Nat):Int:=rK (vR vr i) j
def vY(vr:Nat→List AVal)(i j:Nat):Int:=rY (vR vr i) j
structure eX (vr:Nat→List AVal):Prop where
 h:vr=fun i=>[.view (vL vr i) 2 (fun j=>[.I (vK vr i j),.I (vY vr i j)])]
theorem aE4(sh th nd tr:Int)(m:Nat)(ln:Nat→Nat)(f g:Nat→Nat→Int)(K:AVal→aC Ob→Prop)(hm:m≤1000000)(hK:K (.bool (lgB th m ln)) []):aCm sh th nd tr m ln f g K:=by
 refine⟨aQ (H:=SF sh th nd tr m ln f g) (0:Nat) rfl ⟨Nat.zero_le _,fun j hj=>by omega⟩,?_⟩
 rintro x ⟨hx,hj⟩;refine aI (fun e=>?_) (fun e=>?_)
 ·rw [aU,dT']at e;refine⟨⟨by omega,by omega⟩,aI (fun e2=>?_) (fun e2=>?_)⟩
  ·rw [aU,dT',Int.toNat_natCast]at e2;rw [HS (.inl ⟨x,by omega,by omega⟩)]at hK
   exact hK
  ·rw [aU,dF',Int.toNat_natCast]at e2;have e4:W ((x:Int)+1)=((x+1:Nat):Int):=by rw [W,cV (by omega)];rfl
   refine aQ (H:=SF sh th nd tr m ln f g) (x+1:Nat) (by simp only [e4]<;>rfl) ⟨⟨by show x+1≤m;omega,?_⟩,by show m - (x+1)<m - x;omega⟩
   intro j hj2
   by_cases hjx:j=x
   ·subst hjx;omega
   ·exact hj j (by omega)
 ·rw [aU,dF']at e
  have e2:lgB th m ln=ilt th (m:Int):=by
   cases h:ilt th (m:Int)with
   | true=>rw [aU,dT']at h;exact HS (.inr h)
   | false=>rw [aU,dF']at h;exact O9.2 ⟨fun j hj3=>hj j (by omega),by omega⟩
  rw [e2]at hK;exact hK
def lgS:aH Ob:=fun args h=>match args,h with
 | [.agg [.int .i64 sh,.int .i64 th,.int .i64 nd,.int .i64 tr],.view m 1 vr],[]=>some (.pre (m≤1000000∧eX vr) (.ret (.bool (lgB th m (vL vr))) []))
 | _,_=>none
theorem aE3:sT' 80 lgS:=by
 intro args h o ho K hK;unfold lgS at ho;split at ho<;>cases ho
 rename_i sh th nd tr m vr;obtain⟨⟨hm,⟨hr⟩⟩,hK⟩:=hK;rw [hr];exact PA sh th nd tr m (vL vr) (vK vr) (vY vr) K (aE4 sh th nd tr m (vL vr) (vK vr) (vY vr) K hm hK)
def wrE(sh th nd tr:Int):Int:=bif ilt sh 1 then 1 else bif ilt 4 sh then 1 else bif !dL th nd then 2 else bif ilt tr 0 then 2 else bif ilt 50 tr then 2 else 0
def wrS:aH Ob:=fun args h=>match args,h with
 | [.agg [.int .i64 sh,.int .i64 th,.int .i64 nd,.int .i64 tr]],[]=>some (.pre True (.ret (.I (wrE sh th nd tr)) []))
 | _,_=>none
theorem aFB:sT' 79 wrS:=by
 intro args h o ho K hK;unfold wrS at ho;split at ho<;>cases ho
 rename_i sh th nd tr;obtain⟨_,hK⟩:=hK;have hK:K (.I (wrE sh th nd tr)) []:=hK;refine aHp (cM' (E:=EP1) (q:=(wrO sh th nd tr).run K) (by kernel_rfl) ?_)
 unfold wrE at hK
 refine aI (fun e1=>?_) (fun e1=>aI (fun e2=>?_) (fun e2=>⟨trivial,aI (fun e3=>?_) (fun e3=>aI (fun e4=>?_) (fun e4=>aI (fun e5=>?_) (fun e5=>?_)))⟩))<;>
  (simp only [*,cond_true,cond_false]at hK;exact hK)
def nwP(t n u:Int)(v:AVal)(g:aC Ob):Option (Prop×WKS):=match v,g with
 | .ptr 1 0,[some (.tab [some .i64,some .i64,some .i64] tk),some (.cells [.ptr 2 0,.tslice 0 0 k 3,.int .i64 en,.raw (.pointer none),.slice 4 0 a 1,.slice 5 0 b 1]),some (.cells [.int .i64 t1,.int .i64 n1,.int .i64 me,.int .i64 sp,.slice 3 0 c 1]),some (.ints (some .i64) R),some (.ints (some .i64) tl),some (.ints (some .i64) sl)]=>
   some (k=tk.length∧a=tl.length∧b=sl.length∧c=R.length,⟨t1,n1,⟨me,sp,R⟩,tk,en,false,eL,tl,sl⟩)
 | _,_=>none
theorem aCu(t n u:Int):bX (obI tbl) 1 (nwP t n u) (fun y=>.ret (.ptr 1 0) [none,some (.abs (.worker y) [])]):=by
 intro v g p x hp hq K hK;unfold nwP at hp;split at hp
 case h_2=>cases hp
 rename_i tk k en a b t1 n1 me sp c R tl sl;simp only [sI',pI']at hp;obtain⟨rfl,rfl⟩:=hp;obtain⟨rfl,rfl,rfl,rfl⟩:=hq;have hK:K (.ptr 1 0) [none,some (.abs (.worker (⟨t1,n1,⟨me,sp,R⟩,tk,en,false,eL,tl,sl⟩:WKS)) [])]:=hK
 exact⟨⟨_,_,(aE.move 3 (of_decide_eq_true rfl)).trans ((aHv (v2:=.ptr 1 0) (g2:=aL [some (.tab cK3 tk),cE' [.ptr 2 0,.tslice 0 0 tk.length 3,.I en,.raw (.pointer none),.slice 4 0 tl.length 1,.slice 5 0 sl.length 1],some (.abs (.store t1 n1 ⟨me,sp,R⟩) []),none,iI' tl,iI' sl] 2 0 (dC t1 n1 ⟨me,sp,R⟩) []) (by kernel_rfl) (by kernel_rfl)).trans
  ((aE.pack [some (.tab cK3 tk),cE' [.ptr 2 0,.tslice 0 0 tk.length 3,.I en,.raw (.pointer none),.slice 4 0 tl.length 1,.slice 5 0 sl.length 1],some (.abs (.store t1 n1 ⟨me,sp,R⟩) []),none,iI' tl,iI' sl] (.store t1 n1 ⟨me,sp,R⟩) 2 0 (dC t1 n1 ⟨me,sp,R⟩) [] rfl rfl rfl (by kernel_rfl)).trans
  ((aE.move 0 (of_decide_eq_true rfl)).trans ((aE.move 4 (of_decide_eq_true rfl)).trans ((aE.move 5 (of_decide_eq_true rfl)).trans ((aE.pick [0,1,2,6,7,8] rfl).trans
  ((aHv (v2:=.ptr 1 0) (g2:=aL [none,some (.abs (.worker (⟨t1,n1,⟨me,sp,R⟩,tk,en,false,eL,tl,sl⟩:WKS)) [])] 1 0 (mI (⟨t1,n1,⟨me,sp,R⟩,tk,en,false,eL,tl,sl⟩:WKS)) []) (by kernel_rfl) (by kernel_rfl)).trans
  (aE.pack [none,some (.abs (.worker (⟨t1,n1,⟨me,sp,R⟩,tk,en,false,eL,tl,sl⟩:WKS)) [])] (.worker (⟨t1,n1,⟨me,sp,R⟩,tk,en,false,eL,tl,sl⟩:WKS)) 1 0 (mI (⟨t1,n1,⟨me,sp,R⟩,tk,en,false,eL,tl,sl⟩:WKS)) [] rfl rfl (congrArg (Prod.mk 0) (o9 rfl)) (by kernel_rfl))))))))),hK⟩⟩
def nvP(t n u:Int)(v:AVal)(g:aC Ob):Option (Prop×WKS):=match v,g with
 | .ptr 0 0,[some (.cells [.ptr 1 0,.tslice 3 0 k 3,.int .i64 en,.raw (.pointer none),.slice 4 0 a 1,.slice 5 0 b 1]),some (.cells [.int .i64 t1,.int .i64 n1,.int .i64 me,.int .i64 sp,.slice 2 0 c 1]),some (.ints (some .i64) R),some (.tab [some .i64,some .i64,some .i64] tk),some (.ints (some .i64) tl),some (.ints (some .i64) sl)]=>
   some (k=tk.length∧a=tl.length∧b=sl.length∧c=R.length,⟨t1,n1,⟨me,sp,R⟩,tk,en,false,eL,tl,sl⟩)
 | _,_=>none
theorem aCs(t n u:Int):bX (obI tbl) 0 (nvP t n u) (fun y=>.ret (.ptr 0 0) [some (.abs (.worker y) [])]):=by
 intro v g p x hp hq K hK;unfold nvP at hp;split at hp
 case h_2=>cases hp
 rename_i k en a b t1 n1 me sp c R tk tl sl;simp only [sI',pI']at hp;obtain⟨rfl,rfl⟩:=hp;obtain⟨rfl,rfl,rfl,rfl⟩:=hq;have hK:K (.ptr 0 0) [some (.abs (.worker (⟨t1,n1,⟨me,sp,R⟩,tk,en,false,eL,tl,sl⟩:WKS)) [])]:=hK
 exact⟨⟨_,_,(aE.move 2 (of_decide_eq_true rfl)).trans ((aHv (v2:=.ptr 0 0) (g2:=aL [cE' [.ptr 1 0,.tslice 3 0 tk.length 3,.I en,.raw (.pointer none),.slice 4 0 tl.length 1,.slice 5 0 sl.length 1],some (.abs (.store t1 n1 ⟨me,sp,R⟩) []),none,some (.tab cK3 tk),iI' tl,iI' sl] 1 0 (dC t1 n1 ⟨me,sp,R⟩) []) (by kernel_rfl) (by kernel_rfl)).trans
  ((aE.pack [cE' [.ptr 1 0,.tslice 3 0 tk.length 3,.I en,.raw (.pointer none),.slice 4 0 tl.length 1,.slice 5 0 sl.length 1],some (.abs (.store t1 n1 ⟨me,sp,R⟩) []),none,some (.tab cK3 tk),iI' tl,iI' sl] (.store t1 n1 ⟨me,sp,R⟩) 1 0 (dC t1 n1 ⟨me,sp,R⟩) [] rfl rfl rfl (by kernel_rfl)).trans
  ((aE.pick [0,1,3,4,5] rfl).trans
  ((aHv (v2:=.ptr 0 0) (g2:=aL [some (.abs (.worker (⟨t1,n1,⟨me,sp,R⟩,tk,en,false,eL,tl,sl⟩:WKS)) [])] 0 0 (mI (⟨t1,n1,⟨me,sp,R⟩,tk,en,false,eL,tl,sl⟩:WKS)) []) (by kernel_rfl) (by kernel_rfl)).trans
  (aE.pack [some (.abs (.worker (⟨t1,n1,⟨me,sp,R⟩,tk,en,false,eL,tl,sl⟩:WKS)) [])] (.worker (⟨t1,n1,⟨me,sp,R⟩,tk,en,false,eL,tl,sl⟩:WKS)) 0 0 (mI (⟨t1,n1,⟨me,sp,R⟩,tk,en,false,eL,tl,sl⟩:WKS)) [] rfl rfl (congrArg (Prod.mk 0) (o9 rfl)) (by kernel_rfl)))))),hK⟩⟩
def nwT(t n u:Int)(tk:List (List Int)):Tr WKS:=.pre (lE' tk∧0=0∧0=0∧0=0) (.ret {t:=t,n:=n,st:= {me:=u,sp:=0,R:=[] },tk:=tk,en:=0,b:=false,d:=eL,tl:=[],sl:=[] })
theorem aCv(t n u:Int)(tk:List (List Int))(K:AVal→aC Ob→Prop)(h:(nwT t n u tk).run (fun y=>(Out.ret (.ptr 1 0) [none,some (.abs (.worker y) [])]).run K)):cT' 83 [.agg [.I t,.I n],.I u,.tslice 0 0 tk.length 3] [some (.tab cK3 tk)] K:=by
 refine aHC (root:=1) (pos:=[]) (cs:=[(.cell 1 4,.ints (some .i64)),(.cell 1 5,.ints (some .i64)),(.cell 2 4,.ints (some .i64))]) (parse:=nwP t n u) (aCu t n u) ?_;exact cM' (E:=EP1) (by kernel_rfl) h
def nvT(t n u:Int):Tr WKS:=.pre (0=0∧0=0∧0=0∧0=0) (.ret {t:=t,n:=n,st:= {me:=u,sp:=0,R:=[] },tk:=[],en:=0,b:=false,d:=eL,tl:=[],sl:=[] })
theorem aCt(t n u:Int)(K:AVal→aC Ob→Prop)(h:(nvT t n u).run (fun y=>(Out.ret (.ptr 0 0) [some (.abs (.worker y) [])]).run K)):cT' 83 [.agg [.I t,.I n],.I u,.raw (.slice none 0 0)] [] K:=by
 refine aHC (root:=0) (pos:=[]) (cs:=[(.cell 0 1,.tab cK3),(.cell 0 4,.ints (some .i64)),(.cell 0 5,.ints (some .i64)),(.cell 1 4,.ints (some .i64))]) (parse:=nvP t n u) (aCs t n u) ?_;exact cM' (E:=EP1) (by kernel_rfl) h
def v8(t n u:Int)(tk:List (List Int)):WKS:=(nwT t n u tk).val
def nwS:aH Ob:=fun args h=>match args,h with
 | [.agg [.int .i64 t,.int .i64 n],.int .i64 u,.tslice 0 0 k 3],[some (.tab [some .i64,some .i64,some .i64] tk)]=>some (.pre (k=tk.length) (.ret (.ptr 1 0) [none,some (.abs (.worker (v8 t n u tk)) [])]))
 | _,_=>none
theorem aFa:sT' 83 nwS:=by
 intro args h o ho K hK;unfold nwS at ho;split at ho<;>cases ho
 rename_i t n u k tk;obtain⟨rfl,hK⟩:=hK;exact aCv t n u tk K (aHw ⟨⟨rfl,rfl,rfl,rfl⟩,trivial⟩ hK)
def nvS:aH Ob:=fun args h=>match args,h with
 | [.agg [.int .i64 t,.int .i64 n],.int .i64 u,.raw (.slice none 0 0)],[]=>some (.pre True (.ret (.ptr 0 0) [some (.abs (.worker (v8 t n u [])) [])]))
 | _,_=>none
theorem aE9:sT' 83 nvS:=by
 intro args h o ho K hK;unfold nvS at ho;split at ho<;>cases ho
 rename_i t n u;obtain⟨_,hK⟩:=hK;exact aCt t n u K (aHw ⟨⟨rfl,rfl,rfl,rfl⟩,trivial⟩ hK)
noncomputable def EU1:=(((EP1.addS 82 ofS aFb).addS 80 lgS aE3).addS 79 wrS aFB).addS 83 (aH.or nwS nvS) (aHM aFa aE9)
structure eG (sh th:Int) (m:Nat) (ln:Nat→Nat) (f g:Nat→Nat→Int) (u:Int):Prop where
 hu:u≤th
 hg: ∀j:Nat,(j:Int)<u→j<m→eK sh (ln j) (f j) (g j)=true
abbrev w3a:Option (aJ Ob):=some (.abs (.hist ⟨[],[],0,0,0,0,0,0,0,0⟩) [])
abbrev w3b(nd sh th tr:Int):Option (aJ Ob):=some (.cells [.int .i64 sh,.int .i64 th,.int .i64 nd,.int .i64 tr])
abbrev w3c(nd th:Int):List AVal:=[.int .i64 th,.int .i64 nd]
def HN0(sh th nd tr:Int)(m:Nat)(ln:Nat→Nat)(f g:Nat→Nat→Int)(wf:Nat→WKS):Hint Ob:= {X:=Unit,st:=fun _=>((.O::(.view m 1 (fun i=>[.view (ln i) 2 (fun j=>[.int .i64 (f i j),.int .i64 (g i j)])]))::.ptr 0 0::.O::.O::.O::.O::.ptr 1 0::.ptr 2 0::(tO' 24 [.int .i64 th,.int .i64 0]))++List.replicate 45 .O,[w3b nd sh th tr,some (.cells (w3c nd th)),some (.cells [.int .i64 sh,.int .i64 th,.int .i64 nd,.int .i64 tr,.raw (.pointer none),.ptr 3 0,.raw (.slice none 0 0),.int .i64 0]),w3a]),ok:=fun _=>eG sh th m ln f g 0,mu:=fun _=>9,keep:=[1,2,7,8,33,34],sel:=fun tm _=>match tm.getD 34 .O with
 | .int _ n=>Nat.beq n.toNat 0
 | _=>false}
def HN1(sh th nd tr:Int)(m:Nat)(ln:Nat→Nat)(f g:Nat→Nat→Int)(wf:Nat→WKS):Hint Ob:= {X:=Unit,st:=fun _=>((.O::(.view m 1 (fun i=>[.view (ln i) 2 (fun j=>[.int .i64 (f i j),.int .i64 (g i j)])]))::.ptr 0 0::.O::.O::.O::.O::.ptr 1 0::.ptr 2 0::(tO' 24 [.int .i64 th,.int .i64 1]))++List.replicate 45 .O,[w3b nd sh th tr,some (.cells (w3c nd th)),some (.cells [.int .i64 sh,.int .i64 th,.int .i64 nd,.int .i64 tr,.raw (.pointer none),.ptr 3 0,.slice 4 0 1 1,.int .i64 0]),w3a,some (.cells [.ptr 5 0]),some (.abs (.worker (wf 0)) [])]),ok:=fun _=>eG sh th m ln f g 1,mu:=fun _=>8,keep:=[1,2,7,8,33,34],sel:=fun tm _=>match tm.getD 34 .O with
 | .int _ n=>Nat.beq n.toNat 1
 | _=>false}
def HN2(sh th nd tr:Int)(m:Nat)(ln:Nat→Nat)(f g:Nat→Nat→Int)(wf:Nat→WKS):Hint Ob:= {X:=Unit,st:=fun _=>((.O::(.view m 1 (fun i=>[.view (ln i) 2 (fun j=>[.int .i64 (f i j),.int .i64 (g i j)])]))::.ptr 0 0::.O::.O::.O::.O::.ptr 1 0::.ptr 2 0::(tO' 24 [.int .i64 th,.int .i64 2]))++List.replicate 45 .O,[w3b nd sh th tr,some (.cells (w3c nd th)),some (.cells [.int .i64 sh,.int .i64 th,.int .i64 nd,.int .i64 tr,.raw (.pointer none),.ptr 3 0,.slice 4 0 2 1,.int .i64 0]),w3a,some (.cells [.ptr 5 0,.ptr 6 0]),some (.abs (.worker (wf 0)) []),some (.abs (.worker (wf 1)) [])]),ok:=fun _=>eG sh th m ln f g 2,mu:=fun _=>7,keep:=[1,2,7,8,33,34],sel:=fun tm _=>match tm.getD 34 .O with
 | .int _ n=>Nat.beq n.toNat 2
 | _=>false}
def HN3(sh th nd tr:Int)(m:Nat)(ln:Nat→Nat)(f g:Nat→Nat→Int)(wf:Nat→WKS):Hint Ob:= {X:=Unit,st:=fun _=>((.O::(.view m 1 (fun i=>[.view (ln i) 2 (fun j=>[.int .i64 (f i j),.int .i64 (g i j)])]))::.ptr 0 0::.O::.O::.O::.O::.ptr 1 0::.ptr 2 0::(tO' 24 [.int .i64 th,.int .i64 3]))++List.replicate 45 .O,[w3b nd sh th tr,some (.cells (w3c nd th)),some (.cells [.int .i64 sh,.int .i64 th,.int .i64 nd,.int .i64 tr,.raw (.pointer none),.ptr 3 0,.slice 4 0 3 1,.int .i64 0]),w3a,some (.cells [.ptr 5 0,.ptr 6 0,.ptr 7 0]),some (.abs (.worker (wf 0)) []),some (.abs (.worker (wf 1)) []),some (.abs (.worker (wf 2)) [])]),ok:=fun _=>eG sh th m ln f g 3,mu:=fun _=>6,keep:=[1,2,7,8,33,34],sel:=fun tm _=>match tm.getD 34 .O with
 | .int _ n=>Nat.beq n.toNat 3
 | _=>false}
def HN4(sh th nd tr:Int)(m:Nat)(ln:Nat→Nat)(f g:Nat→Nat→Int)(wf:Nat→WKS):Hint Ob:= {X:=Unit,st:=fun _=>((.O::(.view m 1 (fun i=>[.view (ln i) 2 (fun j=>[.int .i64 (f i j),.int .i64 (g i j)])]))::.ptr 0 0::.O::.O::.O::.O::.ptr 1 0::.ptr 2 0::(tO' 24 [.int .i64 th,.int .i64 4]))++List.replicate 45 .O,[w3b nd sh th tr,some (.cells (w3c nd th)),some (.cells [.int .i64 sh,.int .i64 th,.int .i64 nd,.int .i64 tr,.raw (.pointer none),.ptr 3 0,.slice 4 0 4 1,.int .i64 0]),w3a,some (.cells [.ptr 5 0,.ptr 6 0,.ptr 7 0,.ptr 8 0]),some (.abs (.worker (wf 0)) []),some (.abs (.worker (wf 1)) []),some (.abs (.worker (wf 2)) []),some (.abs (.worker (wf 3)) [])]),ok:=fun _=>eG sh th m ln f g 4,mu:=fun _=>5,keep:=[1,2,7,8,33,34],sel:=fun tm _=>match tm.getD 34 .O with
 | .int _ n=>Nat.beq n.toNat 4
 | _=>false}
def HN5(sh th nd tr:Int)(m:Nat)(ln:Nat→Nat)(f g:Nat→Nat→Int)(wf:Nat→WKS):Hint Ob:= {X:=Unit,st:=fun _=>((.O::(.view m 1 (fun i=>[.view (ln i) 2 (fun j=>[.int .i64 (f i j),.int .i64 (g i j)])]))::.ptr 0 0::.O::.O::.O::.O::.ptr 1 0::.ptr 2 0::(tO' 24 [.int .i64 th,.int .i64 5]))++List.replicate 45 .O,[w3b nd sh th tr,some (.cells (w3c nd th)),some (.cells [.int .i64 sh,.int .i64 th,.int .i64 nd,.int .i64 tr,.raw (.pointer none),.ptr 3 0,.slice 4 0 5 1,.int .i64 0]),w3a,some (.cells [.ptr 5 0,.ptr 6 0,.ptr 7 0,.ptr 8 0,.ptr 9 0]),some (.abs (.worker (wf 0)) []),some (.abs (.worker (wf 1)) []),some (.abs (.worker (wf 2)) []),some (.abs (.worker (wf 3)) []),some (.abs (.worker (wf 4)) [])]),ok:=fun _=>eG sh th m ln f g 5,mu:=fun _=>4,keep:=[1,2,7,8,33,34],sel:=fun tm _=>match tm.getD 34 .O with
 | .int _ n=>Nat.beq n.toNat 5
 | _=>false}
def HN6(sh th nd tr:Int)(m:Nat)(ln:Nat→Nat)(f g:Nat→Nat→Int)(wf:Nat→WKS):Hint Ob:= {X:=Unit,st:=fun _=>((.O::(.view m 1 (fun i=>[.view (ln i) 2 (fun j=>[.int .i64 (f i j),.int .i64 (g i j)])]))::.ptr 0 0::.O::.O::.O::.O::.ptr 1 0::.ptr 2 0::(tO' 24 [.int .i64 th,.int .i64 6]))++List.replicate 45 .O,[w3b nd sh th tr,some (.cells (w3c nd th)),some (.cells [.int .i64 sh,.int .i64 th,.int .i64 nd,.int .i64 tr,.raw (.pointer none),.ptr 3 0,.slice 4 0 6 1,.int .i64 0]),w3a,some (.cells [.ptr 5 0,.ptr 6 0,.ptr 7 0,.ptr 8 0,.ptr 9 0,.ptr 10 0]),some (.abs (.worker (wf 0)) []),some (.abs (.worker (wf 1)) []),some (.abs (.worker (wf 2)) []),some (.abs (.worker (wf 3)) []),some (.abs (.worker (wf 4)) []),some (.abs (.worker (wf 5)) [])]),ok:=fun _=>eG sh th m ln f g 6,mu:=fun _=>3,keep:=[1,2,7,8,33,34],sel:=fun tm _=>match tm.getD 34 .O with
 | .int _ n=>Nat.beq n.toNat 6
 | _=>false}
def HN7(sh th nd tr:Int)(m:Nat)(ln:Nat→Nat)(f g:Nat→Nat→Int)(wf:Nat→WKS):Hint Ob:= {X:=Unit,st:=fun _=>((.O::(.view m 1 (fun i=>[.view (ln i) 2 (fun j=>[.int .i64 (f i j),.int .i64 (g i j)])]))::.ptr 0 0::.O::.O::.O::.O::.ptr 1 0::.ptr 2 0::(tO' 24 [.int .i64 th,.int .i64 7]))++List.replicate 45 .O,[w3b nd sh th tr,some (.cells (w3c nd th)),some (.cells [.int .i64 sh,.int .i64 th,.int .i64 nd,.int .i64 tr,.raw (.pointer none),.ptr 3 0,.slice 4 0 7 1,.int .i64 0]),w3a,some (.cells [.ptr 5 0,.ptr 6 0,.ptr 7 0,.ptr 8 0,.ptr 9 0,.ptr 10 0,.ptr 11 0]),some (.abs (.worker (wf 0)) []),some (.abs (.worker (wf 1)) []),some (.abs (.worker (wf 2)) []),some (.abs (.worker (wf 3)) []),some (.abs (.worker (wf 4)) []),some (.abs (.worker (wf 5)) []),some (.abs (.worker (wf 6)) [])]),ok:=fun _=>eG sh th m ln f g 7,mu:=fun _=>2,keep:=[1,2,7,8,33,34],sel:=fun tm _=>match tm.getD 34 .O with
 | .int _ n=>Nat.beq n.toNat 7
 | _=>false}
def HN8(sh th nd tr:Int)(m:Nat)(ln:Nat→Nat)(f g:Nat→Nat→Int)(wf:Nat→WKS):Hint Ob:= {X:=Unit,st:=fun _=>((.O::(.view m 1 (fun i=>[.view (ln i) 2 (fun j=>[.int .i64 (f i j),.int .i64 (g i j)])]))::.ptr 0 0::.O::.O::.O::.O::.ptr 1 0::.ptr 2 0::(tO' 24 [.int .i64 th,.int .i64 8]))++List.replicate 45 .O,[w3b nd sh th tr,some (.cells (w3c nd th)),some (.cells [.int .i64 sh,.int .i64 th,.int .i64 nd,.int .i64 tr,.raw (.pointer none),.ptr 3 0,.slice 4 0 8 1,.int .i64 0]),w3a,some (.cells [.ptr 5 0,.ptr 6 0,.ptr 7 0,.ptr 8 0,.ptr 9 0,.ptr 10 0,.ptr 11 0,.ptr 12 0]),some (.abs (.worker (wf 0)) []),some (.abs (.worker (wf 1)) []),some (.abs (.worker (wf 2)) []),some (.abs (.worker (wf 3)) []),some (.abs (.worker (wf 4)) []),some (.abs (.worker (wf 5)) []),some (.abs (.worker (wf 6)) []),some (.abs (.worker (wf 7)) [])]),ok:=fun _=>eG sh th m ln f g 8,mu:=fun _=>1,keep:=[1,2,7,8,33,34],sel:=fun tm _=>match tm.getD 34 .O with
 | .int _ n=>Nat.beq n.toNat 8
 | _=>false}
abbrev w3d:Option (aJ Ob):=some (.abs (.hist {ev:=[],cl:=[],n0:=0,n1:=0,n2:=0,n3:=0,n4:=0,n5:=0,n6:=0,n7:=0}) [])
abbrev w3e(nd th:Int):=((0:Int)≤th∧th≤(100000:Int))∧(0:Int)≤nd∧nd≤(100000:Int)
abbrev w3f(wf:Nat→WKS):Option (aJ Ob):=some (.abs (.worker (wf 0)) [])
abbrev w3g(wf:Nat→WKS):Option (aJ Ob):=some (.abs (.worker (wf 1)) [])
abbrev w3h(nd th:Int):Option (aJ Ob):=cE' [.I th,.I nd,.slice 2 0 (Int.toNat (2*nd+5*th+6)) 1,.I 0,.I 0,.I 0,.int .u64 0,.int .u64 0,.bool false]
abbrev w3i(nd th:Int):=(0:Int)≤(2:Int)*nd+5*th+6∧2*nd+5*th+(6:Int)=(2:Int)*nd+5*th+6∧2*nd+5*th+(6:Int)≤(4294967296:Int)
abbrev w3j(wf:Nat→WKS):Option (aJ Ob):=some (.abs (.worker (wf 2)) [])
abbrev w3k(wf:Nat→WKS):Option (aJ Ob):=some (.abs (.worker (wf 3)) [])
abbrev w3l(nd th:Int):Option (aJ Ob):=some (.ints (some .u64) (List.replicate (Int.toNat (2*nd+5*th+6)) 0))
abbrev w3m(wf:Nat→WKS):Option (aJ Ob):=some (.abs (.worker (wf 4)) [])
abbrev w3n(wf:Nat→WKS):Option (aJ Ob):=some (.abs (.worker (wf 5)) [])
abbrev w3o(nd sh th tr:Int):Option (aJ Ob):=cE' [.I sh,.I th,.I nd,.I tr]
abbrev w3p:List AVal:=[.ptr 5 0,.ptr 6 0,.ptr 7 0,.ptr 8 0,.ptr 9 0,.ptr 10 0,.ptr 11 0,.ptr 12 0]
abbrev w3q:List AVal:=[.ptr 5 0,.ptr 6 0,.ptr 7 0,.ptr 8 0,.ptr 9 0,.ptr 10 0,.ptr 11 0]
abbrev w3r:List AVal:=[.ptr 5 0,.ptr 6 0,.ptr 7 0,.ptr 8 0,.ptr 9 0,.ptr 10 0]
abbrev w3s(wf:Nat→WKS):Option (aJ Ob):=some (.abs (.worker (wf 6)) [])
abbrev w3t:List AVal:=[.ptr 5 0,.ptr 6 0,.ptr 7 0,.ptr 8 0,.ptr 9 0]
abbrev w3u:List AVal:=[.ptr 3 0,.ptr 4 0,.ptr 5 0,.ptr 6 0,.ptr 7 0,.ptr 8 0,.ptr 9 0,.ptr 10 0]
abbrev w3v:List AVal:=[.ptr 5 0,.ptr 6 0,.ptr 7 0,.ptr 8 0]
abbrev w3w:=Value.slice none 0 0
abbrev w3x:List AVal:=[.ptr 3 0,.ptr 4 0,.ptr 5 0,.ptr 6 0,.ptr 7 0,.ptr 8 0,.ptr 9 0]
abbrev w3y:List AVal:=[.ptr 3 0,.ptr 4 0,.ptr 5 0,.ptr 6 0,.ptr 7 0,.ptr 8 0]
abbrev w3z:List AVal:=[.ptr 5 0,.ptr 6 0,.ptr 7 0]
def aBO(sh th nd tr:Int)(m:Nat)(ln:Nat→Nat)(f g:Nat→Nat→Int)(wf:Nat→WKS)(K:AVal→aC Ob→Prop):Prop:=True∧bif !ieq (wrE sh th nd tr) 0 then K (.tup [.N,.I (wrE sh th nd tr)]) []else(m≤(1000000:Nat)∧eX fun i=>[.view (ln i) 2 fun j=>[.I (f i j),.I (g i j)]])∧bif lgB th m (vL fun i=>[.view (ln i) 2 fun j=>[.I (f i j),.I (g i j)]])then K (.tup [.N,.I 6]) []else(True∧True)∧cW (HN0 sh th nd tr m ln f g wf) (fun x=>Hint.ok (HN0 sh th nd tr m ln f g wf) x∧gX none (Hint.mu (HN0 sh th nd tr m ln f g wf) x)) (.O::(.view m 1 fun i=>[.view (ln i) 2 fun j=>[.I (f i j),.I (g i j)]])::.ptr 0 0::.O::.O::.O::.O::.ptr 1 0::.ptr 2 0::(tO' 24 (.I th::.I 0::(tO' 45 [])))) [w3o nd sh th tr,cE' [.I th,.I nd],cE' [.I sh,.I th,.I nd,.I tr,.N,.ptr 3 0,.raw w3w,.I 0],w3d]∧(∀(x:Hint.X (HN0 sh th nd tr m ln f g wf)),eG sh th m ln f g 0→bif ilt 0 th then bif ilt 0 (↑m:Int)then((0:Int)≤(0:Int)∧(0:Int)<(↑m:Int))∧((ln (Int.toNat 0)≤(1000000:Nat)∧lK fun j=>[.I (f (Int.toNat 0) j),.I (g (Int.toNat 0) j)])∧True)∧bif !ieq (ofC sh (ln (Int.toNat 0)) (rK fun j=>[.I (f (Int.toNat 0) j),.I (g (Int.toNat 0) j)]) (rY fun j=>[.I (f (Int.toNat 0) j),.I (g (Int.toNat 0) j)])) 0 then K (.tup [.N,.I (ofC sh (ln (Int.toNat 0)) (rK fun j=>[.I (f (Int.toNat 0) j),.I (g (Int.toNat 0) j)]) (rY fun j=>[.I (f (Int.toNat 0) j),.I (g (Int.toNat 0) j)]))]) []else(lE' (ofR sh (ln (Int.toNat 0)) (rK fun j=>[.I (f (Int.toNat 0) j),.I (g (Int.toNat 0) j)]) (rY fun j=>[.I (f (Int.toNat 0) j),.I (g (Int.toNat 0) j)]))∧True)∧(1:Nat)≤(4294967296:Nat)∧cW (HN1 sh th nd tr m ln f g wf) (fun x_1=>Hint.ok (HN1 sh th nd tr m ln f g wf) x_1∧gX (some (Hint.mu (HN0 sh th nd tr m ln f g wf) x)) (Hint.mu (HN1 sh th nd tr m ln f g wf) x_1)) (.O::(.view m 1 fun i=>[.view (ln i) 2 fun j=>[.I (f i j),.I (g i j)]])::.ptr 0 0::.O::.O::.O::.O::.ptr 1 0::.ptr 2 0::(tO' 24 (.I th::.I (W (0+1))::(tO' 45 [])))) [w3o nd sh th tr,cE' [.I th,.I nd],cE' [.I sh,.I th,.I nd,.I tr,.N,.ptr 3 0,.slice 4 0 1 1,.I 0],w3d,cE' [.ptr 5 0],some (.abs (.worker (v8 th nd 0 (ofR sh (ln (Int.toNat 0)) (rK fun j=>[.I (f (Int.toNat 0) j),.I (g (Int.toNat 0) j)]) (rY fun j=>[.I (f (Int.toNat 0) j),.I (g (Int.toNat 0) j)])))) [])]else(True∧True)∧(1:Nat)≤(4294967296:Nat)∧cW (HN1 sh th nd tr m ln f g wf) (fun x_1=>Hint.ok (HN1 sh th nd tr m ln f g wf) x_1∧gX (some (Hint.mu (HN0 sh th nd tr m ln f g wf) x)) (Hint.mu (HN1 sh th nd tr m ln f g wf) x_1)) (.O::(.view m 1 fun i=>[.view (ln i) 2 fun j=>[.I (f i j),.I (g i j)]])::.ptr 0 0::.O::.O::.O::.O::.ptr 1 0::.ptr 2 0::(tO' 24 (.I th::.I (W (0+1))::(tO' 45 [])))) [w3o nd sh th tr,cE' [.I th,.I nd],cE' [.I sh,.I th,.I nd,.I tr,.N,.ptr 3 0,.slice 4 0 1 1,.I 0],w3d,cE' [.ptr 5 0],some (.abs (.worker (v8 th nd 0 [])) [])]else True∧bif !dL th nd then K (.tup [.ptr 0 0,.I 1]) [cE' [.I sh,.I th,.I nd,.I tr,.N,.ptr 1 0,.raw w3w,.I 0],w3d]else(w3e nd th)∧bif ilt (2*nd+5*th+6) (↑0:Int)then K (.tup [.ptr 0 0,.I 6]) [cE' [.I sh,.I th,.I nd,.I tr,.N,.ptr 1 0,.raw w3w,.I 0],w3d]else((w3e nd th)∧True)∧(w3i nd th)∧K (.tup [.ptr 0 0,.I 0]) [cE' [.I sh,.I th,.I nd,.I tr,.ptr 1 0,.ptr 3 0,.raw w3w,.I 0],w3h nd th,w3l nd th,w3d])∧(∀(x:Hint.X (HN1 sh th nd tr m ln f g wf)),eG sh th m ln f g 1→bif ilt 1 th then bif ilt 1 (↑m:Int)then((0:Int)≤(1:Int)∧(1:Int)<(↑m:Int))∧((ln (Int.toNat 1)≤(1000000:Nat)∧lK fun j=>[.I (f (Int.toNat 1) j),.I (g (Int.toNat 1) j)])∧True)∧bif !ieq (ofC sh (ln (Int.toNat 1)) (rK fun j=>[.I (f (Int.toNat 1) j),.I (g (Int.toNat 1) j)]) (rY fun j=>[.I (f (Int.toNat 1) j),.I (g (Int.toNat 1) j)])) 0 then K (.tup [.N,.I (ofC sh (ln (Int.toNat 1)) (rK fun j=>[.I (f (Int.toNat 1) j),.I (g (Int.toNat 1) j)]) (rY fun j=>[.I (f (Int.toNat 1) j),.I (g (Int.toNat 1) j)]))]) []else(lE' (ofR sh (ln (Int.toNat 1)) (rK fun j=>[.I (f (Int.toNat 1) j),.I (g (Int.toNat 1) j)]) (rY fun j=>[.I (f (Int.toNat 1) j),.I (g (Int.toNat 1) j)]))∧True)∧1+(1:Nat)≤(4294967296:Nat)∧cW (HN2 sh th nd tr m ln f g wf) (fun x_1=>Hint.ok (HN2 sh th nd tr m ln f g wf) x_1∧gX (some (Hint.mu (HN1 sh th nd tr m ln f g wf) x)) (Hint.mu (HN2 sh th nd tr m ln f g wf) x_1)) (.O::(.view m 1 fun i=>[.view (ln i) 2 fun j=>[.I (f i j),.I (g i j)]])::.ptr 0 0::.O::.O::.O::.O::.ptr 1 0::.ptr 2 0::(tO' 24 (.I th::.I (W (1+1))::(tO' 45 [])))) [w3o nd sh th tr,cE' [.I th,.I nd],cE' [.I sh,.I th,.I nd,.I tr,.N,.ptr 3 0,.slice 4 0 2 1,.I 0],w3d,cE' [.ptr 5 0,.ptr 6 0],w3f wf,some (.abs (.worker (v8 th nd 1 (ofR sh (ln (Int.toNat 1)) (rK fun j=>[.I (f (Int.toNat 1) j),.I (g (Int.toNat 1) j)]) (rY fun j=>[.I (f (Int.toNat 1) j),.I (g (Int.toNat 1) j)])))) [])]else(True∧True)∧1+(1:Nat)≤(4294967296:Nat)∧cW (HN2 sh th nd tr m ln f g wf) (fun x_1=>Hint.ok (HN2 sh th nd tr m ln f g wf) x_1∧gX (some (Hint.mu (HN1 sh th nd tr m ln f g wf) x)) (Hint.mu (HN2 sh th nd tr m ln f g wf) x_1)) (.O::(.view m 1 fun i=>[.view (ln i) 2 fun j=>[.I (f i j),.I (g i j)]])::.ptr 0 0::.O::.O::.O::.O::.ptr 1 0::.ptr 2 0::(tO' 24 (.I th::.I (W (1+1))::(tO' 45 [])))) [w3o nd sh th tr,cE' [.I th,.I nd],cE' [.I sh,.I th,.I nd,.I tr,.N,.ptr 3 0,.slice 4 0 2 1,.I 0],w3d,cE' [.ptr 5 0,.ptr 6 0],w3f wf,some (.abs (.worker (v8 th nd 1 [])) [])]else True∧bif !dL th nd then K (.tup [.ptr 0 0,.I 1]) [cE' [.I sh,.I th,.I nd,.I tr,.N,.ptr 1 0,.slice 2 0 1 1,.I 0],w3d,cE' [.ptr 3 0],w3f wf]else(w3e nd th)∧bif ilt (2*nd+5*th+6) (↑0:Int)then K (.tup [.ptr 0 0,.I 6]) [cE' [.I sh,.I th,.I nd,.I tr,.N,.ptr 1 0,.slice 2 0 1 1,.I 0],w3d,cE' [.ptr 3 0],w3f wf]else((w3e nd th)∧True)∧(w3i nd th)∧K (.tup [.ptr 0 0,.I 0]) [cE' [.I sh,.I th,.I nd,.I tr,.ptr 1 0,.ptr 3 0,.slice 4 0 1 1,.I 0],w3h nd th,w3l nd th,w3d,cE' [.ptr 5 0],w3f wf])∧(∀(x:Hint.X (HN2 sh th nd tr m ln f g wf)),eG sh th m ln f g 2→bif ilt 2 th then bif ilt 2 (↑m:Int)then((0:Int)≤(2:Int)∧(2:Int)<(↑m:Int))∧((ln (Int.toNat 2)≤(1000000:Nat)∧lK fun j=>[.I (f (Int.toNat 2) j),.I (g (Int.toNat 2) j)])∧True)∧bif !ieq (ofC sh (ln (Int.toNat 2)) (rK fun j=>[.I (f (Int.toNat 2) j),.I (g (Int.toNat 2) j)]) (rY fun j=>[.I (f (Int.toNat 2) j),.I (g (Int.toNat 2) j)])) 0 then K (.tup [.N,.I (ofC sh (ln (Int.toNat 2)) (rK fun j=>[.I (f (Int.toNat 2) j),.I (g (Int.toNat 2) j)]) (rY fun j=>[.I (f (Int.toNat 2) j),.I (g (Int.toNat 2) j)]))]) []else(lE' (ofR sh (ln (Int.toNat 2)) (rK fun j=>[.I (f (Int.toNat 2) j),.I (g (Int.toNat 2) j)]) (rY fun j=>[.I (f (Int.toNat 2) j),.I (g (Int.toNat 2) j)]))∧True)∧2+(1:Nat)≤(4294967296:Nat)∧cW (HN3 sh th nd tr m ln f g wf) (fun x_1=>Hint.ok (HN3 sh th nd tr m ln f g wf) x_1∧gX (some (Hint.mu (HN2 sh th nd tr m ln f g wf) x)) (Hint.mu (HN3 sh th nd tr m ln f g wf) x_1)) (.O::(.view m 1 fun i=>[.view (ln i) 2 fun j=>[.I (f i j),.I (g i j)]])::.ptr 0 0::.O::.O::.O::.O::.ptr 1 0::.ptr 2 0::(tO' 24 (.I th::.I (W (2+1))::(tO' 45 [])))) [w3o nd sh th tr,cE' [.I th,.I nd],cE' [.I sh,.I th,.I nd,.I tr,.N,.ptr 3 0,.slice 4 0 3 1,.I 0],w3d,cE' w3z,w3f wf,w3g wf,some (.abs (.worker (v8 th nd 2 (ofR sh (ln (Int.toNat 2)) (rK fun j=>[.I (f (Int.toNat 2) j),.I (g (Int.toNat 2) j)]) (rY fun j=>[.I (f (Int.toNat 2) j),.I (g (Int.toNat 2) j)])))) [])]else(True∧True)∧2+(1:Nat)≤(4294967296:Nat)∧cW (HN3 sh th nd tr m ln f g wf) (fun x_1=>Hint.ok (HN3 sh th nd tr m ln f g wf) x_1∧gX (some (Hint.mu (HN2 sh th nd tr m ln f g wf) x)) (Hint.mu (HN3 sh th nd tr m ln f g wf) x_1)) (.O::(.view m 1 fun i=>[.view (ln i) 2 fun j=>[.I (f i j),.I (g i j)]])::.ptr 0 0::.O::.O::.O::.O::.ptr 1 0::.ptr 2 0::(tO' 24 (.I th::.I (W (2+1))::(tO' 45 [])))) [w3o nd sh th tr,cE' [.I th,.I nd],cE' [.I sh,.I th,.I nd,.I tr,.N,.ptr 3 0,.slice 4 0 3 1,.I 0],w3d,cE' w3z,w3f wf,w3g wf,some (.abs (.worker (v8 th nd 2 [])) [])]else True∧bif !dL th nd then K (.tup [.ptr 0 0,.I 1]) [cE' [.I sh,.I th,.I nd,.I tr,.N,.ptr 1 0,.slice 2 0 2 1,.I 0],w3d,cE' [.ptr 3 0,.ptr 4 0],w3f wf,w3g wf]else(w3e nd th)∧bif ilt (2*nd+5*th+6) (↑0:Int)then K (.tup [.ptr 0 0,.I 6]) [cE' [.I sh,.I th,.I nd,.I tr,.N,.ptr 1 0,.slice 2 0 2 1,.I 0],w3d,cE' [.ptr 3 0,.ptr 4 0],w3f wf,w3g wf]else((w3e nd th)∧True)∧(w3i nd th)∧K (.tup [.ptr 0 0,.I 0]) [cE' [.I sh,.I th,.I nd,.I tr,.ptr 1 0,.ptr 3 0,.slice 4 0 2 1,.I 0],w3h nd th,w3l nd th,w3d,cE' [.ptr 5 0,.ptr 6 0],w3f wf,w3g wf])∧(∀(x:Hint.X (HN3 sh th nd tr m ln f g wf)),eG sh th m ln f g 3→bif ilt 3 th then bif ilt 3 (↑m:Int)then((0:Int)≤(3:Int)∧(3:Int)<(↑m:Int))∧((ln (Int.toNat 3)≤(1000000:Nat)∧lK fun j=>[.I (f (Int.toNat 3) j),.I (g (Int.toNat 3) j)])∧True)∧bif !ieq (ofC sh (ln (Int.toNat 3)) (rK fun j=>[.I (f (Int.toNat 3) j),.I (g (Int.toNat 3) j)]) (rY fun j=>[.I (f (Int.toNat 3) j),.I (g (Int.toNat 3) j)])) 0 then K (.tup [.N,.I (ofC sh (ln (Int.toNat 3)) (rK fun j=>[.I (f (Int.toNat 3) j),.I (g (Int.toNat 3) j)]) (rY fun j=>[.I (f (Int.toNat 3) j),.I (g (Int.toNat 3) j)]))]) []else(lE' (ofR sh (ln (Int.toNat 3)) (rK fun j=>[.I (f (Int.toNat 3) j),.I (g (Int.toNat 3) j)]) (rY fun j=>[.I (f (Int.toNat 3) j),.I (g (Int.toNat 3) j)]))∧True)∧3+(1:Nat)≤(4294967296:Nat)∧cW (HN4 sh th nd tr m ln f g wf) (fun x_1=>Hint.ok (HN4 sh th nd tr m ln f g wf) x_1∧gX (some (Hint.mu (HN3 sh th nd tr m ln f g wf) x)) (Hint.mu (HN4 sh th nd tr m ln f g wf) x_1)) (.O::(.view m 1 fun i=>[.view (ln i) 2 fun j=>[.I (f i j),.I (g i j)]])::.ptr 0 0::.O::.O::.O::.O::.ptr 1 0::.ptr 2 0::(tO' 24 (.I th::.I (W (3+1))::(tO' 45 [])))) [w3o nd sh th tr,cE' [.I th,.I nd],cE' [.I sh,.I th,.I nd,.I tr,.N,.ptr 3 0,.slice 4 0 4 1,.I 0],w3d,cE' w3v,w3f wf,w3g wf,w3j wf,some (.abs (.worker (v8 th nd 3 (ofR sh (ln (Int.toNat 3)) (rK fun j=>[.I (f (Int.toNat 3) j),.I (g (Int.toNat 3) j)]) (rY fun j=>[.I (f (Int.toNat 3) j),.I (g (Int.toNat 3) j)])))) [])]else(True∧True)∧3+(1:Nat)≤(4294967296:Nat)∧cW (HN4 sh th nd tr m ln f g wf) (fun x_1=>Hint.ok (HN4 sh th nd tr m ln f g wf) x_1∧gX (some (Hint.mu (HN3 sh th nd tr m ln f g wf) x)) (Hint.mu (HN4 sh th nd tr m ln f g wf) x_1)) (.O::(.view m 1 fun i=>[.view (ln i) 2 fun j=>[.I (f i j),.I (g i j)]])::.ptr 0 0::.O::.O::.O::.O::.ptr 1 0::.ptr 2 0::(tO' 24 (.I th::.I (W (3+1))::(tO' 45 [])))) [w3o nd sh th tr,cE' [.I th,.I nd],cE' [.I sh,.I th,.I nd,.I tr,.N,.ptr 3 0,.slice 4 0 4 1,.I 0],w3d,cE' w3v,w3f wf,w3g wf,w3j wf,some (.abs (.worker (v8 th nd 3 [])) [])]else True∧bif !dL th nd then K (.tup [.ptr 0 0,.I 1]) [cE' [.I sh,.I th,.I nd,.I tr,.N,.ptr 1 0,.slice 2 0 3 1,.I 0],w3d,cE' [.ptr 3 0,.ptr 4 0,.ptr 5 0],w3f wf,w3g wf,w3j wf]else(w3e nd th)∧bif ilt (2*nd+5*th+6) (↑0:Int)then K (.tup [.ptr 0 0,.I 6]) [cE' [.I sh,.I th,.I nd,.I tr,.N,.ptr 1 0,.slice 2 0 3 1,.I 0],w3d,cE' [.ptr 3 0,.ptr 4 0,.ptr 5 0],w3f wf,w3g wf,w3j wf]else((w3e nd th)∧True)∧(w3i nd th)∧K (.tup [.ptr 0 0,.I 0]) [cE' [.I sh,.I th,.I nd,.I tr,.ptr 1 0,.ptr 3 0,.slice 4 0 3 1,.I 0],w3h nd th,w3l nd th,w3d,cE' w3z,w3f wf,w3g wf,w3j wf])∧(∀(x:Hint.X (HN4 sh th nd tr m ln f g wf)),eG sh th m ln f g 4→bif ilt 4 th then bif ilt 4 (↑m:Int)then((0:Int)≤(4:Int)∧(4:Int)<(↑m:Int))∧((ln (Int.toNat 4)≤(1000000:Nat)∧lK fun j=>[.I (f (Int.toNat 4) j),.I (g (Int.toNat 4) j)])∧True)∧bif !ieq (ofC sh (ln (Int.toNat 4)) (rK fun j=>[.I (f (Int.toNat 4) j),.I (g (Int.toNat 4) j)]) (rY fun j=>[.I (f (Int.toNat 4) j),.I (g (Int.toNat 4) j)])) 0 then K (.tup [.N,.I (ofC sh (ln (Int.toNat 4)) (rK fun j=>[.I (f (Int.toNat 4) j),.I (g (Int.toNat 4) j)]) (rY fun j=>[.I (f (Int.toNat 4) j),.I (g (Int.toNat 4) j)]))]) []else(lE' (ofR sh (ln (Int.toNat 4)) (rK fun j=>[.I (f (Int.toNat 4) j),.I (g (Int.toNat 4) j)]) (rY fun j=>[.I (f (Int.toNat 4) j),.I (g (Int.toNat 4) j)]))∧True)∧4+(1:Nat)≤(4294967296:Nat)∧cW (HN5 sh th nd tr m ln f g wf) (fun x_1=>Hint.ok (HN5 sh th nd tr m ln f g wf) x_1∧gX (some (Hint.mu (HN4 sh th nd tr m ln f g wf) x)) (Hint.mu (HN5 sh th nd tr m ln f g wf) x_1)) (.O::(.view m 1 fun i=>[.view (ln i) 2 fun j=>[.I (f i j),.I (g i j)]])::.ptr 0 0::.O::.O::.O::.O::.ptr 1 0::.ptr 2 0::(tO' 24 (.I th::.I (W (4+1))::(tO' 45 [])))) [w3o nd sh th tr,cE' [.I th,.I nd],cE' [.I sh,.I th,.I nd,.I tr,.N,.ptr 3 0,.slice 4 0 5 1,.I 0],w3d,cE' w3t,w3f wf,w3g wf,w3j wf,w3k wf,some (.abs (.worker (v8 th nd 4 (ofR sh (ln (Int.toNat 4)) (rK fun j=>[.I (f (Int.toNat 4) j),.I (g (Int.toNat 4) j)]) (rY fun j=>[.I (f (Int.toNat 4) j),.I (g (Int.toNat 4) j)])))) [])]else(True∧True)∧4+(1:Nat)≤(4294967296:Nat)∧cW (HN5 sh th nd tr m ln f g wf) (fun x_1=>Hint.ok (HN5 sh th nd tr m ln f g wf) x_1∧gX (some (Hint.mu (HN4 sh th nd tr m ln f g wf) x)) (Hint.mu (HN5 sh th nd tr m ln f g wf) x_1)) (.O::(.view m 1 fun i=>[.view (ln i) 2 fun j=>[.I (f i j),.I (g i j)]])::.ptr 0 0::.O::.O::.O::.O::.ptr 1 0::.ptr 2 0::(tO' 24 (.I th::.I (W (4+1))::(tO' 45 [])))) [w3o nd sh th tr,cE' [.I th,.I nd],cE' [.I sh,.I th,.I nd,.I tr,.N,.ptr 3 0,.slice 4 0 5 1,.I 0],w3d,cE' w3t,w3f wf,w3g wf,w3j wf,w3k wf,some (.abs (.worker (v8 th nd 4 [])) [])]else True∧bif !dL th nd then K (.tup [.ptr 0 0,.I 1]) [cE' [.I sh,.I th,.I nd,.I tr,.N,.ptr 1 0,.slice 2 0 4 1,.I 0],w3d,cE' [.ptr 3 0,.ptr 4 0,.ptr 5 0,.ptr 6 0],w3f wf,w3g wf,w3j wf,w3k wf]else(w3e nd th)∧bif ilt (2*nd+5*th+6) (↑0:Int)then K (.tup [.ptr 0 0,.I 6]) [cE' [.I sh,.I th,.I nd,.I tr,.N,.ptr 1 0,.slice 2 0 4 1,.I 0],w3d,cE' [.ptr 3 0,.ptr 4 0,.ptr 5 0,.ptr 6 0],w3f wf,w3g wf,w3j wf,w3k wf]else((w3e nd th)∧True)∧(w3i nd th)∧K (.tup [.ptr 0 0,.I 0]) [cE' [.I sh,.I th,.I nd,.I tr,.ptr 1 0,.ptr 3 0,.slice 4 0 4 1,.I 0],w3h nd th,w3l nd th,w3d,cE' w3v,w3f wf,w3g wf,w3j wf,w3k wf])∧(∀(x:Hint.X (HN5 sh th nd tr m ln f g wf)),eG sh th m ln f g 5→bif ilt 5 th then bif ilt 5 (↑m:Int)then((0:Int)≤(5:Int)∧(5:Int)<(↑m:Int))∧((ln (Int.toNat 5)≤(1000000:Nat)∧lK fun j=>[.I (f (Int.toNat 5) j),.I (g (Int.toNat 5) j)])∧True)∧bif !ieq (ofC sh (ln (Int.toNat 5)) (rK fun j=>[.I (f (Int.toNat 5) j),.I (g (Int.toNat 5) j)]) (rY fun j=>[.I (f (Int.toNat 5) j),.I (g (Int.toNat 5) j)])) 0 then K (.tup [.N,.I (ofC sh (ln (Int.toNat 5)) (rK fun j=>[.I (f (Int.toNat 5) j),.I (g (Int.toNat 5) j)]) (rY fun j=>[.I (f (Int.toNat 5) j),.I (g (Int.toNat 5) j)]))]) []else(lE' (ofR sh (ln (Int.toNat 5)) (rK fun j=>[.I (f (Int.toNat 5) j),.I (g (Int.toNat 5) j)]) (rY fun j=>[.I (f (Int.toNat 5) j),.I (g (Int.toNat 5) j)]))∧True)∧5+(1:Nat)≤(4294967296:Nat)∧cW (HN6 sh th nd tr m ln f g wf) (fun x_1=>Hint.ok (HN6 sh th nd tr m ln f g wf) x_1∧gX (some (Hint.mu (HN5 sh th nd tr m ln f g wf) x)) (Hint.mu (HN6 sh th nd tr m ln f g wf) x_1)) (.O::(.view m 1 fun i=>[.view (ln i) 2 fun j=>[.I (f i j),.I (g i j)]])::.ptr 0 0::.O::.O::.O::.O::.ptr 1 0::.ptr 2 0::(tO' 24 (.I th::.I (W (5+1))::(tO' 45 [])))) [w3o nd sh th tr,cE' [.I th,.I nd],cE' [.I sh,.I th,.I nd,.I tr,.N,.ptr 3 0,.slice 4 0 6 1,.I 0],w3d,cE' w3r,w3f wf,w3g wf,w3j wf,w3k wf,w3m wf,some (.abs (.worker (v8 th nd 5 (ofR sh (ln (Int.toNat 5)) (rK fun j=>[.I (f (Int.toNat 5) j),.I (g (Int.toNat 5) j)]) (rY fun j=>[.I (f (Int.toNat 5) j),.I (g (Int.toNat 5) j)])))) [])]else(True∧True)∧5+(1:Nat)≤(4294967296:Nat)∧cW (HN6 sh th nd tr m ln f g wf) (fun x_1=>Hint.ok (HN6 sh th nd tr m ln f g wf) x_1∧gX (some (Hint.mu (HN5 sh th nd tr m ln f g wf) x)) (Hint.mu (HN6 sh th nd tr m ln f g wf) x_1)) (.O::(.view m 1 fun i=>[.view (ln i) 2 fun j=>[.I (f i j),.I (g i j)]])::.ptr 0 0::.O::.O::.O::.O::.ptr 1 0::.ptr 2 0::(tO' 24 (.I th::.I (W (5+1))::(tO' 45 [])))) [w3o nd sh th tr,cE' [.I th,.I nd],cE' [.I sh,.I th,.I nd,.I tr,.N,.ptr 3 0,.slice 4 0 6 1,.I 0],w3d,cE' w3r,w3f wf,w3g wf,w3j wf,w3k wf,w3m wf,some (.abs (.worker (v8 th nd 5 [])) [])]else True∧bif !dL th nd then K (.tup [.ptr 0 0,.I 1]) [cE' [.I sh,.I th,.I nd,.I tr,.N,.ptr 1 0,.slice 2 0 5 1,.I 0],w3d,cE' [.ptr 3 0,.ptr 4 0,.ptr 5 0,.ptr 6 0,.ptr 7 0],w3f wf,w3g wf,w3j wf,w3k wf,w3m wf]else(w3e nd th)∧bif ilt (2*nd+5*th+6) (↑0:Int)then K (.tup [.ptr 0 0,.I 6]) [cE' [.I sh,.I th,.I nd,.I tr,.N,.ptr 1 0,.slice 2 0 5 1,.I 0],w3d,cE' [.ptr 3 0,.ptr 4 0,.ptr 5 0,.ptr 6 0,.ptr 7 0],w3f wf,w3g wf,w3j wf,w3k wf,w3m wf]else((w3e nd th)∧True)∧(w3i nd th)∧K (.tup [.ptr 0 0,.I 0]) [cE' [.I sh,.I th,.I nd,.I tr,.ptr 1 0,.ptr 3 0,.slice 4 0 5 1,.I 0],w3h nd th,w3l nd th,w3d,cE' w3t,w3f wf,w3g wf,w3j wf,w3k wf,w3m wf])∧(∀(x:Hint.X (HN6 sh th nd tr m ln f g wf)),eG sh th m ln f g 6→bif ilt 6 th then bif ilt 6 (↑m:Int)then((0:Int)≤(6:Int)∧(6:Int)<(↑m:Int))∧((ln (Int.toNat 6)≤(1000000:Nat)∧lK fun j=>[.I (f (Int.toNat 6) j),.I (g (Int.toNat 6) j)])∧True)∧bif !ieq (ofC sh (ln (Int.toNat 6)) (rK fun j=>[.I (f (Int.toNat 6) j),.I (g (Int.toNat 6) j)]) (rY fun j=>[.I (f (Int.toNat 6) j),.I (g (Int.toNat 6) j)])) 0 then K (.tup [.N,.I (ofC sh (ln (Int.toNat 6)) (rK fun j=>[.I (f (Int.toNat 6) j),.I (g (Int.toNat 6) j)]) (rY fun j=>[.I (f (Int.toNat 6) j),.I (g (Int.toNat 6) j)]))]) []else(lE' (ofR sh (ln (Int.toNat 6)) (rK fun j=>[.I (f (Int.toNat 6) j),.I (g (Int.toNat 6) j)]) (rY fun j=>[.I (f (Int.toNat 6) j),.I (g (Int.toNat 6) j)]))∧True)∧6+(1:Nat)≤(4294967296:Nat)∧cW (HN7 sh th nd tr m ln f g wf) (fun x_1=>Hint.ok (HN7 sh th nd tr m ln f g wf) x_1∧gX (some (Hint.mu (HN6 sh th nd tr m ln f g wf) x)) (Hint.mu (HN7 sh th nd tr m ln f g wf) x_1)) (.O::(.view m 1 fun i=>[.view (ln i) 2 fun j=>[.I (f i j),.I (g i j)]])::.ptr 0 0::.O::.O::.O::.O::.ptr 1 0::.ptr 2 0::(tO' 24 (.I th::.I (W (6+1))::(tO' 45 [])))) [w3o nd sh th tr,cE' [.I th,.I nd],cE' [.I sh,.I th,.I nd,.I tr,.N,.ptr 3 0,.slice 4 0 7 1,.I 0],w3d,cE' w3q,w3f wf,w3g wf,w3j wf,w3k wf,w3m wf,w3n wf,some (.abs (.worker (v8 th nd 6 (ofR sh (ln (Int.toNat 6)) (rK fun j=>[.I (f (Int.toNat 6) j),.I (g (Int.toNat 6) j)]) (rY fun j=>[.I (f (Int.toNat 6) j),.I (g (Int.toNat 6) j)])))) [])]else(True∧True)∧6+(1:Nat)≤(4294967296:Nat)∧cW (HN7 sh th nd tr m ln f g wf) (fun x_1=>Hint.ok (HN7 sh th nd tr m ln f g wf) x_1∧gX (some (Hint.mu (HN6 sh th nd tr m ln f g wf) x)) (Hint.mu (HN7 sh th nd tr m ln f g wf) x_1)) (.O::(.view m 1 fun i=>[.view (ln i) 2 fun j=>[.I (f i j),.I (g i j)]])::.ptr 0 0::.O::.O::.O::.O::.ptr 1 0::.ptr 2 0::(tO' 24 (.I th::.I (W (6+1))::(tO' 45 [])))) [w3o nd sh th tr,cE' [.I th,.I nd],cE' [.I sh,.I th,.I nd,.I tr,.N,.ptr 3 0,.slice 4 0 7 1,.I 0],w3d,cE' w3q,w3f wf,w3g wf,w3j wf,w3k wf,w3m wf,w3n wf,some (.abs (.worker (v8 th nd 6 [])) [])]else True∧bif !dL th nd then K (.tup [.ptr 0 0,.I 1]) [cE' [.I sh,.I th,.I nd,.I tr,.N,.ptr 1 0,.slice 2 0 6 1,.I 0],w3d,cE' w3y,w3f wf,w3g wf,w3j wf,w3k wf,w3m wf,w3n wf]else(w3e nd th)∧bif ilt (2*nd+5*th+6) (↑0:Int)then K (.tup [.ptr 0 0,.I 6]) [cE' [.I sh,.I th,.I nd,.I tr,.N,.ptr 1 0,.slice 2 0 6 1,.I 0],w3d,cE' w3y,w3f wf,w3g wf,w3j wf,w3k wf,w3m wf,w3n wf]else((w3e nd th)∧True)∧(w3i nd th)∧K (.tup [.ptr 0 0,.I 0]) [cE' [.I sh,.I th,.I nd,.I tr,.ptr 1 0,.ptr 3 0,.slice 4 0 6 1,.I 0],w3h nd th,w3l nd th,w3d,cE' w3r,w3f wf,w3g wf,w3j wf,w3k wf,w3m wf,w3n wf])∧(∀(x:Hint.X (HN7 sh th nd tr m ln f g wf)),eG sh th m ln f g 7→bif ilt 7 th then bif ilt 7 (↑m:Int)then((0:Int)≤(7:Int)∧(7:Int)<(↑m:Int))∧((ln (Int.toNat 7)≤(1000000:Nat)∧lK fun j=>[.I (f (Int.toNat 7) j),.I (g (Int.toNat 7) j)])∧True)∧bif !ieq (ofC sh (ln (Int.toNat 7)) (rK fun j=>[.I (f (Int.toNat 7) j),.I (g (Int.toNat 7) j)]) (rY fun j=>[.I (f (Int.toNat 7) j),.I (g (Int.toNat 7) j)])) 0 then K (.tup [.N,.I (ofC sh (ln (Int.toNat 7)) (rK fun j=>[.I (f (Int.toNat 7) j),.I (g (Int.toNat 7) j)]) (rY fun j=>[.I (f (Int.toNat 7) j),.I (g (Int.toNat 7) j)]))]) []else(lE' (ofR sh (ln (Int.toNat 7)) (rK fun j=>[.I (f (Int.toNat 7) j),.I (g (Int.toNat 7) j)]) (rY fun j=>[.I (f (Int.toNat 7) j),.I (g (Int.toNat 7) j)]))∧True)∧7+(1:Nat)≤(4294967296:Nat)∧cW (HN8 sh th nd tr m ln f g wf) (fun x_1=>Hint.ok (HN8 sh th nd tr m ln f g wf) x_1∧gX (some (Hint.mu (HN7 sh th nd tr m ln f g wf) x)) (Hint.mu (HN8 sh th nd tr m ln f g wf) x_1)) (.O::(.view m 1 fun i=>[.view (ln i) 2 fun j=>[.I (f i j),.I (g i j)]])::.ptr 0 0::.O::.O::.O::.O::.ptr 1 0::.ptr 2 0::(tO' 24 (.I th::.I (W (7+1))::(tO' 45 [])))) [w3o nd sh th tr,cE' [.I th,.I nd],cE' [.I sh,.I th,.I nd,.I tr,.N,.ptr 3 0,.slice 4 0 8 1,.I 0],w3d,cE' w3p,w3f wf,w3g wf,w3j wf,w3k wf,w3m wf,w3n wf,w3s wf,some (.abs (.worker (v8 th nd 7 (ofR sh (ln (Int.toNat 7)) (rK fun j=>[.I (f (Int.toNat 7) j),.I (g (Int.toNat 7) j)]) (rY fun j=>[.I (f (Int.toNat 7) j),.I (g (Int.toNat 7) j)])))) [])]else(True∧True)∧7+(1:Nat)≤(4294967296:Nat)∧cW (HN8 sh th nd tr m ln f g wf) (fun x_1=>Hint.ok (HN8 sh th nd tr m ln f g wf) x_1∧gX (some (Hint.mu (HN7 sh th nd tr m ln f g wf) x)) (Hint.mu (HN8 sh th nd tr m ln f g wf) x_1)) (.O::(.view m 1 fun i=>[.view (ln i) 2 fun j=>[.I (f i j),.I (g i j)]])::.ptr 0 0::.O::.O::.O::.O::.ptr 1 0::.ptr 2 0::(tO' 24 (.I th::.I (W (7+1))::(tO' 45 [])))) [w3o nd sh th tr,cE' [.I th,.I nd],cE' [.I sh,.I th,.I nd,.I tr,.N,.ptr 3 0,.slice 4 0 8 1,.I 0],w3d,cE' w3p,w3f wf,w3g wf,w3j wf,w3k wf,w3m wf,w3n wf,w3s wf,some (.abs (.worker (v8 th nd 7 [])) [])]else True∧bif !dL th nd then K (.tup [.ptr 0 0,.I 1]) [cE' [.I sh,.I th,.I nd,.I tr,.N,.ptr 1 0,.slice 2 0 7 1,.I 0],w3d,cE' w3x,w3f wf,w3g wf,w3j wf,w3k wf,w3m wf,w3n wf,w3s wf]else(w3e nd th)∧bif ilt (2*nd+5*th+6) (↑0:Int)then K (.tup [.ptr 0 0,.I 6]) [cE' [.I sh,.I th,.I nd,.I tr,.N,.ptr 1 0,.slice 2 0 7 1,.I 0],w3d,cE' w3x,w3f wf,w3g wf,w3j wf,w3k wf,w3m wf,w3n wf,w3s wf]else((w3e nd th)∧True)∧(w3i nd th)∧K (.tup [.ptr 0 0,.I 0]) [cE' [.I sh,.I th,.I nd,.I tr,.ptr 1 0,.ptr 3 0,.slice 4 0 7 1,.I 0],w3h nd th,w3l nd th,w3d,cE' w3q,w3f wf,w3g wf,w3j wf,w3k wf,w3m wf,w3n wf,w3s wf])∧(∀(x:Hint.X (HN8 sh th nd tr m ln f g wf)),eG sh th m ln f g 8→bif ilt 8 th then bif ilt 8 (↑m:Int)then((0:Int)≤(8:Int)∧(8:Int)<(↑m:Int))∧((ln (Int.toNat 8)≤(1000000:Nat)∧lK fun j=>[.I (f (Int.toNat 8) j),.I (g (Int.toNat 8) j)])∧True)∧bif !ieq (ofC sh (ln (Int.toNat 8)) (rK fun j=>[.I (f (Int.toNat 8) j),.I (g (Int.toNat 8) j)]) (rY fun j=>[.I (f (Int.toNat 8) j),.I (g (Int.toNat 8) j)])) 0 then K (.tup [.N,.I (ofC sh (ln (Int.toNat 8)) (rK fun j=>[.I (f (Int.toNat 8) j),.I (g (Int.toNat 8) j)]) (rY fun j=>[.I (f (Int.toNat 8) j),.I (g (Int.toNat 8) j)]))]) []else(lE' (ofR sh (ln (Int.toNat 8)) (rK fun j=>[.I (f (Int.toNat 8) j),.I (g (Int.toNat 8) j)]) (rY fun j=>[.I (f (Int.toNat 8) j),.I (g (Int.toNat 8) j)]))∧True)∧8+(1:Nat)≤(4294967296:Nat)∧False else(True∧True)∧8+(1:Nat)≤(4294967296:Nat)∧False else True∧bif !dL th nd then K (.tup [.ptr 0 0,.I 1]) [cE' [.I sh,.I th,.I nd,.I tr,.N,.ptr 1 0,.slice 2 0 8 1,.I 0],w3d,cE' w3u,w3f wf,w3g wf,w3j wf,w3k wf,w3m wf,w3n wf,w3s wf,some (.abs (.worker (wf 7)) [])]else(w3e nd th)∧bif ilt (2*nd+5*th+6) (↑0:Int)then K (.tup [.ptr 0 0,.I 6]) [cE' [.I sh,.I th,.I nd,.I tr,.N,.ptr 1 0,.slice 2 0 8 1,.I 0],w3d,cE' w3u,w3f wf,w3g wf,w3j wf,w3k wf,w3m wf,w3n wf,w3s wf,some (.abs (.worker (wf 7)) [])]else((w3e nd th)∧True)∧(w3i nd th)∧K (.tup [.ptr 0 0,.I 0]) [cE' [.I sh,.I th,.I nd,.I tr,.ptr 1 0,.ptr 3 0,.slice 4 0 8 1,.I 0],w3h nd th,w3l nd th,w3d,cE' w3p,w3f wf,w3g wf,w3j wf,w3k wf,w3m wf,w3n wf,w3s wf,some (.abs (.worker (wf 7)) [])])∧True
theorem OP(sh th nd tr:Int)(m:Nat)(ln:Nat→Nat)(f g:Nat→Nat→Int)(wf:Nat→WKS)(K:AVal→aC Ob→Prop)(h:aBO sh th nd tr m ln f g wf K):cT' 25 [.agg [.I sh,.I th,.I nd,.I tr],.view m 1 (fun i=>[.view (ln i) 2 (fun j=>[.I (f i j),.I (g i j)])])] [] K:=by
 refine aHp (aD (E:=EU1) Tryz.checked.mixed (L:=(fun _ _=>some (.cases [HN0 sh th nd tr m ln f g wf,HN1 sh th nd tr m ln f g wf,HN2 sh th nd tr m ln f g wf,HN3 sh th nd tr m ln f g wf,HN4 sh th nd tr m ln f g wf,HN5 sh th nd tr m ln f g wf,HN6 sh th nd tr m ln f g wf,HN7 sh th nd tr m ln f g wf,HN8 sh th nd tr m ln f g wf]))) (n:=10) (aK (by kernel_rfl) h))
theorem vB{t n:Int} :dL t n=true↔1≤t∧t≤8∧1≤n∧n≤200:=by
 unfold dL;simp only [cC,Bool.and_eq_true,dT',and_assoc]
theorem Z2{sh th nd tr:Int}(h:ieq (wrE sh th nd tr) 0=true):1≤sh∧sh≤4∧(1≤th∧th≤8∧1≤nd∧nd≤200)∧0≤tr∧tr≤50:=by
 unfold wrE at h;cases h1:ilt sh 1<;>rw [h1]at h<;>simp only [cond_true,cond_false]at h
 case true=>exact absurd h (by decide)
 cases h2:ilt 4 sh<;>rw [h2]at h<;>simp only [cond_true,cond_false]at h
 case true=>exact absurd h (by decide)
 cases h3:dL th nd<;>rw [h3]at h<;>simp only [Bool.not_false,Bool.not_true,cond_true,cond_false]at h
 case false=>exact absurd h (by decide)
 cases h4:ilt tr 0<;>rw [h4]at h<;>simp only [cond_true,cond_false]at h
 case true=>exact absurd h (by decide)
 cases h5:ilt 50 tr<;>rw [h5]at h<;>simp only [cond_true,cond_false]at h
 case true=>exact absurd h (by decide)
 rw [aU,dF']at h1 h2 h4 h5;exact⟨by omega,by omega,vB.1 h3,by omega,by omega⟩
def i8(t n:Int):MS:= {t:=t,n:=n,xs:=List.replicate (2*n+5*t+6).toNat 0,c:=0,k:=0,a:=0,o:=0,w:=0,ok:=false}
def dG(sh th nd:Int)(m:Nat)(ln:Nat→Nat)(f g:Nat→Nat→Int)(j:Nat):WKS:=v8 th nd (j:Int) (bif ilt (j:Int) (m:Int)then ofR sh (ln j) (f j) (g j)else [])
def kP(sh th nd tr:Int)(m:Nat)(ln:Nat→Nat)(f g:Nat→Nat→Int):EGS:=⟨sh,th,nd,tr,i8 th nd,⟨[],[],0,0,0,0,0,0,0,0⟩,(List.range th.toNat).map (dG sh th nd m ln f g),0⟩
def gnC(sh th nd tr:Int)(m:Nat)(ln:Nat→Nat)(f g:Nat→Nat→Int):Int:=bif !ieq (wrE sh th nd tr) 0 then wrE sh th nd tr else bif lgB th m ln then 6 else bif (List.range m).all (fun j=>eK sh (ln j) (f j) (g j))then 0 else 1
abbrev mK(sh th nd tr:Int)(m:Nat)(ln:Nat→Nat)(f g:Nat→Nat→Int):Out Ob:=.ite (ieq (gnC sh th nd tr m ln f g) 0) (.ret (.tup [.ptr 0 0,.I 0]) (egH (kP sh th nd tr m ln f g))) (.ret (.tup [.raw (.pointer none),.I (gnC sh th nd tr m ln f g)]) [])
theorem sU{sh:Int}{m:Nat}{f g:Nat→Int}(h:ieq (ofC sh m f g) 0=false):eK sh m f g=false∧ofC sh m f g=1:=by
 unfold ofC at h⊢;cases e:eK sh m f g with
 | true=>rw [e]at h;exact absurd h (by decide)
 | false=>exact⟨rfl,rfl⟩
theorem sT{sh:Int}{m:Nat}{f g:Nat→Int}(h:ieq (ofC sh m f g) 0=true):eK sh m f g=true:=by
 unfold ofC at h;cases e:eK sh m f g with
 | true=>rfl
 | false=>rw [e]at h;exact absurd h (by decide)
theorem lG(sh th nd tr:Int)(m:Nat)(ln:Nat→Nat)(f g:Nat→Nat→Int)(K:AVal→aC Ob→Prop)(hK:(mK sh th nd tr m ln f g).run K)(c:Int)(hc:gnC sh th nd tr m ln f g=c)(h0:ieq c 0=false):K (.tup [.raw (.pointer none),.I c]) []:=by
 have hK:(Out.ite (ieq (gnC sh th nd tr m ln f g) 0) _ _).run K:=hK;rw [hc,h0]at hK;exact hK
theorem kT(sh th nd tr:Int)(m:Nat)(ln:Nat→Nat)(f g:Nat→Nat→Int)(K:AVal→aC Ob→Prop)(hK:(mK sh th nd tr m ln f g).run K)(hc:gnC sh th nd tr m ln f g=0):K (.tup [.ptr 0 0,.I 0]) (egH (kP sh th nd tr m ln f g)):=by
 have hK:(Out.ite (ieq (gnC sh th nd tr m ln f g) 0) _ _).run K:=hK;rw [hc]at hK;exact hK
abbrev w40:Option (aJ Ob):=some (.abs (.hist ⟨[],[],0,0,0,0,0,0,0,0⟩) [])
abbrev w41(wf:Nat→WKS):Option (aJ Ob):=some (.abs (.worker (wf 0)) [])
abbrev w44(nd:Int):Option (aJ Ob):=cE' [.I 1,.I nd,.slice 2 0 (Int.toNat (2*nd+5*1+6)) 1,.I 0,.I 0,.I 0,.int .u64 0,.int .u64 0,.bool false]
theorem aEv(sh nd tr:Int)(wf:Nat→WKS):aE (obI tbl) 0 (.tup [.ptr 0 0,.I 0]) [cE' [.I sh,.I 1,.I nd,.I tr,.ptr 1 0,.ptr 3 0,.slice 4 0 1 1,.I 0],w44 nd,some (.ints (some .u64) (List.replicate (Int.toNat (2*nd+5*1+6)) 0)),w40,cE' [.ptr 5 0],w41 wf] (.tup [.ptr 0 0,.I 0]) (egH ⟨sh,1,nd,tr,i8 1 nd,⟨[],[],0,0,0,0,0,0,0,0⟩,[wf 0],0⟩):=by
 refine(aE.pack [cE' [.I sh,.I 1,.I nd,.I tr,.ptr 1 0,.ptr 3 0,.slice 4 0 1 1,.I 0],w44 nd,some (.ints (some .u64) (List.replicate (Int.toNat (2*nd+5*1+6)) 0)),w40,some (.abs (.wrow [wf 0]) [])] (.wrow [wf 0]) 4 0 (rowE (List.map (fun w=>some (Mc.worker w)) [wf 0])) [] (by kernel_rfl) rfl rfl (by kernel_rfl)).trans ?_
 refine aE.trans (aHv rfl ?_) (d7 0 (Nat.zero_le _) _ rfl ⟨sh,1,nd,tr,i8 1 nd,⟨[],[],0,0,0,0,0,0,0,0⟩,[wf 0],0⟩);simp only [egG,i8,List.length_replicate];rfl
abbrev w42(wf:Nat→WKS):Option (aJ Ob):=some (.abs (.worker (wf 1)) [])
abbrev w45(nd:Int):Option (aJ Ob):=cE' [.I 2,.I nd,.slice 2 0 (Int.toNat (2*nd+5*2+6)) 1,.I 0,.I 0,.I 0,.int .u64 0,.int .u64 0,.bool false]
theorem aEw(sh nd tr:Int)(wf:Nat→WKS):aE (obI tbl) 0 (.tup [.ptr 0 0,.I 0]) [cE' [.I sh,.I 2,.I nd,.I tr,.ptr 1 0,.ptr 3 0,.slice 4 0 2 1,.I 0],w45 nd,some (.ints (some .u64) (List.replicate (Int.toNat (2*nd+5*2+6)) 0)),w40,cE' [.ptr 5 0,.ptr 6 0],w41 wf,w42 wf] (.tup [.ptr 0 0,.I 0]) (egH ⟨sh,2,nd,tr,i8 2 nd,⟨[],[],0,0,0,0,0,0,0,0⟩,[wf 0,wf 1],0⟩):=by
 refine(aE.pack [cE' [.I sh,.I 2,.I nd,.I tr,.ptr 1 0,.ptr 3 0,.slice 4 0 2 1,.I 0],w45 nd,some (.ints (some .u64) (List.replicate (Int.toNat (2*nd+5*2+6)) 0)),w40,some (.abs (.wrow [wf 0,wf 1]) [])] (.wrow [wf 0,wf 1]) 4 0 (rowE (List.map (fun w=>some (Mc.worker w)) [wf 0,wf 1])) [] (by kernel_rfl) rfl rfl (by kernel_rfl)).trans ?_
 refine aE.trans (aHv rfl ?_) (d7 0 (Nat.zero_le _) _ rfl ⟨sh,2,nd,tr,i8 2 nd,⟨[],[],0,0,0,0,0,0,0,0⟩,[wf 0,wf 1],0⟩);simp only [egG,i8,List.length_replicate];rfl
abbrev w43(wf:Nat→WKS):Option (aJ Ob):=some (.abs (.worker (wf 2)) [])
abbrev w46(nd:Int):Option (aJ Ob):=cE' [.I 3,.I nd,.slice 2 0 (Int.toNat (2*nd+5*3+6)) 1,.I 0,.I 0,.I 0,.int .u64 0,.int .u64 0,.bool false]
theorem aEx(sh nd tr:Int)(wf:Nat→WKS):aE (obI tbl) 0 (.tup [.ptr 0 0,.I 0]) [cE' [.I sh,.I 3,.I nd,.I tr,.ptr 1 0,.ptr 3 0,.slice 4 0 3 1,.I 0],w46 nd,some (.ints (some .u64) (List.replicate (Int.toNat (2*nd+5*3+6)) 0)),w40,cE' [.ptr 5 0,.ptr 6 0,.ptr 7 0],w41 wf,w42 wf,w43 wf] (.tup [.ptr 0 0,.I 0]) (egH ⟨sh,3,nd,tr,i8 3 nd,⟨[],[],0,0,0,0,0,0,0,0⟩,[wf 0,wf 1,wf 2],0⟩):=by
 refine(aE.pack [cE' [.I sh,.I 3,.I nd,.I tr,.ptr 1 0,.ptr 3 0,.slice 4 0 3 1,.I 0],w46 nd,some (.ints (some .u64) (List.replicate (Int.toNat (2*nd+5*3+6)) 0)),w40,some (.abs (.wrow [wf 0,wf 1,wf 2]) [])] (.wrow [wf 0,wf 1,wf 2]) 4 0 (rowE (List.map (fun w=>some (Mc.worker w)) [wf 0,wf 1,wf 2])) [] (by kernel_rfl) rfl rfl (by kernel_rfl)).trans ?_
 refine aE.trans (aHv rfl ?_) (d7 0 (Nat.zero_le _) _ rfl ⟨sh,3,nd,tr,i8 3 nd,⟨[],[],0,0,0,0,0,0,0,0⟩,[wf 0,wf 1,wf 2],0⟩);simp only [egG,i8,List.length_replicate];rfl
abbrev w47(nd:Int):Option (aJ Ob):=cE' [.I 4,.I nd,.slice 2 0 (Int.toNat (2*nd+5*4+6)) 1,.I 0,.I 0,.I 0,.int .u64 0,.int .u64 0,.bool false]
abbrev w4c(wf:Nat→WKS):Option (aJ Ob):=some (.abs (.worker (wf 3)) [])
theorem aEy(sh nd tr:Int)(wf:Nat→WKS):aE (obI tbl) 0 (.tup [.ptr 0 0,.I 0]) [cE' [.I sh,.I 4,.I nd,.I tr,.ptr 1 0,.ptr 3 0,.slice 4 0 4 1,.I 0],w47 nd,some (.ints (some .u64) (List.replicate (Int.toNat (2*nd+5*4+6)) 0)),w40,cE' [.ptr 5 0,.ptr 6 0,.ptr 7 0,.ptr 8 0],w41 wf,w42 wf,w43 wf,w4c wf] (.tup [.ptr 0 0,.I 0]) (egH ⟨sh,4,nd,tr,i8 4 nd,⟨[],[],0,0,0,0,0,0,0,0⟩,[wf 0,wf 1,wf 2,wf 3],0⟩):=by
 refine(aE.pack [cE' [.I sh,.I 4,.I nd,.I tr,.ptr 1 0,.ptr 3 0,.slice 4 0 4 1,.I 0],w47 nd,some (.ints (some .u64) (List.replicate (Int.toNat (2*nd+5*4+6)) 0)),w40,some (.abs (.wrow [wf 0,wf 1,wf 2,wf 3]) [])] (.wrow [wf 0,wf 1,wf 2,wf 3]) 4 0 (rowE (List.map (fun w=>some (Mc.worker w)) [wf 0,wf 1,wf 2,wf 3])) [] (by kernel_rfl) rfl rfl (by kernel_rfl)).trans ?_
 refine aE.trans (aHv rfl ?_) (d7 0 (Nat.zero_le _) _ rfl ⟨sh,4,nd,tr,i8 4 nd,⟨[],[],0,0,0,0,0,0,0,0⟩,[wf 0,wf 1,wf 2,wf 3],0⟩);simp only [egG,i8,List.length_replicate];rfl
abbrev w48(nd:Int):Option (aJ Ob):=cE' [.I 5,.I nd,.slice 2 0 (Int.toNat (2*nd+5*5+6)) 1,.I 0,.I 0,.I 0,.int .u64 0,.int .u64 0,.bool false]
abbrev w4d(wf:Nat→WKS):Option (aJ Ob):=some (.abs (.worker (wf 4)) [])
theorem aEz(sh nd tr:Int)(wf:Nat→WKS):aE (obI tbl) 0 (.tup [.ptr 0 0,.I 0]) [cE' [.I sh,.I 5,.I nd,.I tr,.ptr 1 0,.ptr 3 0,.slice 4 0 5 1,.I 0],w48 nd,some (.ints (some .u64) (List.replicate (Int.toNat (2*nd+5*5+6)) 0)),w40,cE' [.ptr 5 0,.ptr 6 0,.ptr 7 0,.ptr 8 0,.ptr 9 0],w41 wf,w42 wf,w43 wf,w4c wf,w4d wf] (.tup [.ptr 0 0,.I 0]) (egH ⟨sh,5,nd,tr,i8 5 nd,⟨[],[],0,0,0,0,0,0,0,0⟩,[wf 0,wf 1,wf 2,wf 3,wf 4],0⟩):=by
 refine(aE.pack [cE' [.I sh,.I 5,.I nd,.I tr,.ptr 1 0,.ptr 3 0,.slice 4 0 5 1,.I 0],w48 nd,some (.ints (some .u64) (List.replicate (Int.toNat (2*nd+5*5+6)) 0)),w40,some (.abs (.wrow [wf 0,wf 1,wf 2,wf 3,wf 4]) [])] (.wrow [wf 0,wf 1,wf 2,wf 3,wf 4]) 4 0 (rowE (List.map (fun w=>some (Mc.worker w)) [wf 0,wf 1,wf 2,wf 3,wf 4])) [] (by kernel_rfl) rfl rfl (by kernel_rfl)).trans ?_
 refine aE.trans (aHv rfl ?_) (d7 0 (Nat.zero_le _) _ rfl ⟨sh,5,nd,tr,i8 5 nd,⟨[],[],0,0,0,0,0,0,0,0⟩,[wf 0,wf 1,wf 2,wf 3,wf 4],0⟩);simp only [egG,i8,List.length_replicate];rfl
abbrev w49(nd:Int):Option (aJ Ob):=cE' [.I 6,.I nd,.slice 2 0 (Int.toNat (2*nd+5*6+6)) 1,.I 0,.I 0,.I 0,.int .u64 0,.int .u64 0,.bool false]
theorem aEA(sh nd tr:Int)(wf:Nat→WKS):aE (obI tbl) 0 (.tup [.ptr 0 0,.I 0]) [cE' [.I sh,.I 6,.I nd,.I tr,.ptr 1 0,.ptr 3 0,.slice 4 0 6 1,.I 0],w49 nd,some (.ints (some .u64) (List.replicate (Int.toNat (2*nd+5*6+6)) 0)),w40,cE' [.ptr 5 0,.ptr 6 0,.ptr 7 0,.ptr 8 0,.ptr 9 0,.ptr 10 0],w41 wf,w42 wf,w43 wf,w4c wf,w4d wf,some (.abs (.worker (wf 5)) [])] (.tup [.ptr 0 0,.I 0]) (egH ⟨sh,6,nd,tr,i8 6 nd,⟨[],[],0,0,0,0,0,0,0,0⟩,[wf 0,wf 1,wf 2,wf 3,wf 4,wf 5],0⟩):=by
 refine(aE.pack [cE' [.I sh,.I 6,.I nd,.I tr,.ptr 1 0,.ptr 3 0,.slice 4 0 6 1,.I 0],w49 nd,some (.ints (some .u64) (List.replicate (Int.toNat (2*nd+5*6+6)) 0)),w40,some (.abs (.wrow [wf 0,wf 1,wf 2,wf 3,wf 4,wf 5]) [])] (.wrow [wf 0,wf 1,wf 2,wf 3,wf 4,wf 5]) 4 0 (rowE (List.map (fun w=>some (Mc.worker w)) [wf 0,wf 1,wf 2,wf 3,wf 4,wf 5])) [] (by kernel_rfl) rfl rfl (by kernel_rfl)).trans ?_
 refine aE.trans (aHv rfl ?_) (d7 0 (Nat.zero_le _) _ rfl ⟨sh,6,nd,tr,i8 6 nd,⟨[],[],0,0,0,0,0,0,0,0⟩,[wf 0,wf 1,wf 2,wf 3,wf 4,wf 5],0⟩);simp only [egG,i8,List.length_replicate];rfl
abbrev w4a(nd:Int):Option (aJ Ob):=cE' [.I 7,.I nd,.slice 2 0 (Int.toNat (2*nd+5*7+6)) 1,.I 0,.I 0,.I 0,.int .u64 0,.int .u64 0,.bool false]
theorem aEB(sh nd tr:Int)(wf:Nat→WKS):aE (obI tbl) 0 (.tup [.ptr 0 0,.I 0]) [cE' [.I sh,.I 7,.I nd,.I tr,.ptr 1 0,.ptr 3 0,.slice 4 0 7 1,.I 0],w4a nd,some (.ints (some .u64) (List.replicate (Int.toNat (2*nd+5*7+6)) 0)),w40,cE' [.ptr 5 0,.ptr 6 0,.ptr 7 0,.ptr 8 0,.ptr 9 0,.ptr 10 0,.ptr 11 0],w41 wf,w42 wf,w43 wf,w4c wf,w4d wf,some (.abs (.worker (wf 5)) []),some (.abs (.worker (wf 6)) [])] (.tup [.ptr 0 0,.I 0]) (egH ⟨sh,7,nd,tr,i8 7 nd,⟨[],[],0,0,0,0,0,0,0,0⟩,[wf 0,wf 1,wf 2,wf 3,wf 4,wf 5,wf 6],0⟩):=by
 refine(aE.pack [cE' [.I sh,.I 7,.I nd,.I tr,.ptr 1 0,.ptr 3 0,.slice 4 0 7 1,.I 0],w4a nd,some (.ints (some .u64) (List.replicate (Int.toNat (2*nd+5*7+6)) 0)),w40,some (.abs (.wrow [wf 0,wf 1,wf 2,wf 3,wf 4,wf 5,wf 6]) [])] (.wrow [wf 0,wf 1,wf 2,wf 3,wf 4,wf 5,wf 6]) 4 0 (rowE (List.map (fun w=>some (Mc.worker w)) [wf 0,wf 1,wf 2,wf 3,wf 4,wf 5,wf 6])) [] (by kernel_rfl) rfl rfl (by kernel_rfl)).trans ?_
 refine aE.trans (aHv rfl ?_) (d7 0 (Nat.zero_le _) _ rfl ⟨sh,7,nd,tr,i8 7 nd,⟨[],[],0,0,0,0,0,0,0,0⟩,[wf 0,wf 1,wf 2,wf 3,wf 4,wf 5,wf 6],0⟩);simp only [egG,i8,List.length_replicate];rfl
abbrev w4b(nd:Int):Option (aJ Ob):=cE' [.I 8,.I nd,.slice 2 0 (Int.toNat (2*nd+5*8+6)) 1,.I 0,.I 0,.I 0,.int .u64 0,.int .u64 0,.bool false]
theorem aEC(sh nd tr:Int)(wf:Nat→WKS):aE (obI tbl) 0 (.tup [.ptr 0 0,.I 0]) [cE' [.I sh,.I 8,.I nd,.I tr,.ptr 1 0,.ptr 3 0,.slice 4 0 8 1,.I 0],w4b nd,some (.ints (some .u64) (List.replicate (Int.toNat (2*nd+5*8+6)) 0)),w40,cE' [.ptr 5 0,.ptr 6 0,.ptr 7 0,.ptr 8 0,.ptr 9 0,.ptr 10 0,.ptr 11 0,.ptr 12 0],w41 wf,w42 wf,w43 wf,w4c wf,w4d wf,some (.abs (.worker (wf 5)) []),some (.abs (.worker (wf 6)) []),some (.abs (.worker (wf 7)) [])] (.tup [.ptr 0 0,.I 0]) (egH ⟨sh,8,nd,tr,i8 8 nd,⟨[],[],0,0,0,0,0,0,0,0⟩,[wf 0,wf 1,wf 2,wf 3,wf 4,wf 5,wf 6,wf 7],0⟩):=by
 refine(aE.pack [cE' [.I sh,.I 8,.I nd,.I tr,.ptr 1 0,.ptr 3 0,.slice 4 0 8 1,.I 0],w4b nd,some (.ints (some .u64) (List.replicate (Int.toNat (2*nd+5*8+6)) 0)),w40,some (.abs (.wrow [wf 0,wf 1,wf 2,wf 3,wf 4,wf 5,wf 6,wf 7]) [])] (.wrow [wf 0,wf 1,wf 2,wf 3,wf 4,wf 5,wf 6,wf 7]) 4 0 (rowE (List.map (fun w=>some (Mc.worker w)) [wf 0,wf 1,wf 2,wf 3,wf 4,wf 5,wf 6,wf 7])) [] (by kernel_rfl) rfl rfl (by kernel_rfl)).trans ?_
 refine aE.trans (aHv rfl ?_) (d7 0 (Nat.zero_le _) _ rfl ⟨sh,8,nd,tr,i8 8 nd,⟨[],[],0,0,0,0,0,0,0,0⟩,[wf 0,wf 1,wf 2,wf 3,wf 4,wf 5,wf 6,wf 7],0⟩);simp only [egG,i8,List.length_replicate];rfl
theorem aED(sh th nd tr:Int)(m:Nat)(ln:Nat→Nat)(f g:Nat→Nat→Int)(K:AVal→aC Ob→Prop)(hm:m≤1000000)(hK:(mK sh th nd tr m ln f g).run K):aBO sh th nd tr m ln f g (dG sh th nd m ln f g) (dS (obI tbl) 0 K):=by
 refine⟨trivial,aI (fun e0=>?_) fun e0=>⟨⟨hm,⟨rfl⟩⟩,aI (fun e1=>?_) fun e1=>?_⟩⟩
 ·have hc:gnC sh th nd tr m ln f g=wrE sh th nd tr:=by unfold gnC;rw [e0];rfl
  have e0':ieq (wrE sh th nd tr) 0=false:=by simpa using e0
  exact⟨⟨_,_,aHA _ _ _,lG sh th nd tr m ln f g K hK _ hc e0'⟩⟩
 ·have hc:gnC sh th nd tr m ln f g=6:=by
   have e1:lgB th m ln=true:=e1;unfold gnC;rw [e0,e1];rfl
  exact⟨⟨_,_,aHA _ _ _,lG sh th nd tr m ln f g K hK _ hc rfl⟩⟩
 have e0':ieq (wrE sh th nd tr) 0=true:=by simpa using e0
 have e1:lgB th m ln=false:=e1;obtain⟨hs1,hs2,⟨ht1,ht2,hn1,hn2⟩,hr1,hr2⟩:=Z2 e0';obtain⟨hln,hmt⟩:=O9.1 e1;have hrb:dL th nd=true:=vB.2 ⟨ht1,ht2,hn1,hn2⟩
 have hbad: ∀j:Nat,j<m→eK sh (ln j) (f j) (g j)=false→gnC sh th nd tr m ln f g=1:=by
  intro j hj hf
  have:(List.range m).all (fun j=>eK sh (ln j) (f j) (g j))=false:=by
   cases h:(List.range m).all (fun j=>eK sh (ln j) (f j) (g j))with
   | false=>rfl
   | true=>
     have:=List.all_eq_true.1 h j (List.mem_range.2 hj);rw [hf]at this;cases this
  unfold gnC;rw [e0,e1,this];rfl
 have hgood:(∀j:Nat,j<m→eK sh (ln j) (f j) (g j)=true)→gnC sh th nd tr m ln f g=0:=by
  intro h;have:(List.range m).all (fun j=>eK sh (ln j) (f j) (g j))=true:=List.all_eq_true.2 fun j hj=>h j (List.mem_range.1 hj);unfold gnC;rw [e0,e1,this];rfl
 have hwt: ∀u:Nat,ilt (u:Int) (m:Int)=true→dG sh th nd m ln f g u=v8 th nd (u:Int) (ofR sh (ln u) (f u) (g u)):=fun u h=>by unfold dG;rw [h];rfl
 have hwf: ∀u:Nat,ilt (u:Int) (m:Int)=false→dG sh th nd m ln f g u=v8 th nd (u:Int) []:=fun u h=>by unfold dG;rw [h];rfl
 refine⟨⟨trivial,trivial⟩,aQ (H:=HN0 sh th nd tr m ln f g (dG sh th nd m ln f g)) () rfl ⟨⟨by omega,fun j h1 _=>by omega⟩,trivial⟩,?_,?_,?_,?_,?_,?_,?_,?_,?_,trivial⟩
 ·rintro x ⟨hu,hg⟩;refine aI (fun e=>aI (fun e2=>?_) (fun e2=>?_)) (fun e=>?_)
  ·have e2':=e2;rw [aU,dT']at e e2;have hum:0<m:=by omega
   refine⟨⟨by omega,by omega⟩,⟨⟨by have:=hln 0 hum;show ln 0≤1000000;omega,⟨rfl⟩⟩,trivial⟩,aI (fun e3=>?_) (fun e3=>?_)⟩
   ·have e3:(!ieq (ofC sh (ln 0) (f 0) (g 0)) 0)=true:=e3;obtain⟨q1,q2⟩:=sU (by simpa using e3)
    have:=lG sh th nd tr m ln f g K hK 1 (hbad 0 hum q1) rfl;rw [←q2]at this;exact⟨⟨_,_,aHA _ _ _,this⟩⟩
   ·have e3:(!ieq (ofC sh (ln 0) (f 0) (g 0)) 0)=false:=e3;have q:=sT (sh:=sh) (m:=ln 0) (f:=f 0) (g:=g 0) (by simpa using e3)
    have hw:=hwt 0 e2'
    refine⟨⟨rfl,trivial⟩,by decide,aQ (H:=HN1 sh th nd tr m ln f g (dG sh th nd m ln f g)) () (by simp only [HN1,hw]<;>rfl) ⟨⟨by omega,fun j h1 h2=>by
     by_cases hj:j=0
     ·subst hj;exact q
     ·exact hg j (by omega) h2⟩,by show(8:Nat)<9;decide⟩⟩
  ·have hw:=hwf 0 e2;rw [aU,dT']at e;rw [aU,dF']at e2;refine⟨⟨trivial,trivial⟩,by decide,aQ (H:=HN1 sh th nd tr m ln f g (dG sh th nd m ln f g)) () (by simp only [HN1,hw]<;>rfl) ⟨⟨by omega,fun j h1 h2=>hg j (by omega) h2⟩,by show(8:Nat)<9;decide⟩⟩
  ·rw [aU,dF']at e;omega
 ·rintro x ⟨hu,hg⟩;refine aI (fun e=>aI (fun e2=>?_) (fun e2=>?_)) (fun e=>?_)
  ·have e2':=e2;rw [aU,dT']at e e2;have hum:1<m:=by omega
   refine⟨⟨by omega,by omega⟩,⟨⟨by have:=hln 1 hum;show ln 1≤1000000;omega,⟨rfl⟩⟩,trivial⟩,aI (fun e3=>?_) (fun e3=>?_)⟩
   ·have e3:(!ieq (ofC sh (ln 1) (f 1) (g 1)) 0)=true:=e3;obtain⟨q1,q2⟩:=sU (by simpa using e3)
    have:=lG sh th nd tr m ln f g K hK 1 (hbad 1 hum q1) rfl;rw [←q2]at this;exact⟨⟨_,_,aHA _ _ _,this⟩⟩
   ·have e3:(!ieq (ofC sh (ln 1) (f 1) (g 1)) 0)=false:=e3;have q:=sT (sh:=sh) (m:=ln 1) (f:=f 1) (g:=g 1) (by simpa using e3)
    have hw:=hwt 1 e2'
    refine⟨⟨rfl,trivial⟩,by decide,aQ (H:=HN2 sh th nd tr m ln f g (dG sh th nd m ln f g)) () (by simp only [HN2,hw]<;>rfl) ⟨⟨by omega,fun j h1 h2=>by
     by_cases hj:j=1
     ·subst hj;exact q
     ·exact hg j (by omega) h2⟩,by show(7:Nat)<8;decide⟩⟩
  ·have hw:=hwf 1 e2;rw [aU,dT']at e;rw [aU,dF']at e2;refine⟨⟨trivial,trivial⟩,by decide,aQ (H:=HN2 sh th nd tr m ln f g (dG sh th nd m ln f g)) () (by simp only [HN2,hw]<;>rfl) ⟨⟨by omega,fun j h1 h2=>hg j (by omega) h2⟩,by show(7:Nat)<8;decide⟩⟩
  ·rw [aU,dF']at e;have hth:th=1:=by omega
   subst hth;rw [hrb];refine⟨trivial,aI (fun e3=>by cases e3) (fun _=>⟨⟨⟨by omega,by omega⟩,by omega,by omega⟩,aI (fun e4=>?_) (fun _=>⟨⟨⟨⟨by omega,by omega⟩,by omega,by omega⟩,trivial⟩,⟨by omega,rfl,by omega⟩,?_⟩)⟩)⟩
   ·rw [aU,dT']at e4;have e4:(2*nd+5*1+6:Int)<0:=e4;omega
   ·have:=kT sh 1 nd tr m ln f g K hK (hgood fun j hj=>hg j (by omega) hj)
    exact⟨⟨_,_,aEv sh nd tr (dG sh 1 nd m ln f g),this⟩⟩
 ·rintro x ⟨hu,hg⟩;refine aI (fun e=>aI (fun e2=>?_) (fun e2=>?_)) (fun e=>?_)
  ·have e2':=e2;rw [aU,dT']at e e2;have hum:2<m:=by omega
   refine⟨⟨by omega,by omega⟩,⟨⟨by have:=hln 2 hum;show ln 2≤1000000;omega,⟨rfl⟩⟩,trivial⟩,aI (fun e3=>?_) (fun e3=>?_)⟩
   ·have e3:(!ieq (ofC sh (ln 2) (f 2) (g 2)) 0)=true:=e3;obtain⟨q1,q2⟩:=sU (by simpa using e3)
    have:=lG sh th nd tr m ln f g K hK 1 (hbad 2 hum q1) rfl;rw [←q2]at this;exact⟨⟨_,_,aHA _ _ _,this⟩⟩
   ·have e3:(!ieq (ofC sh (ln 2) (f 2) (g 2)) 0)=false:=e3;have q:=sT (sh:=sh) (m:=ln 2) (f:=f 2) (g:=g 2) (by simpa using e3)
    have hw:=hwt 2 e2'
    refine⟨⟨rfl,trivial⟩,by decide,aQ (H:=HN3 sh th nd tr m ln f g (dG sh th nd m ln f g)) () (by simp only [HN3,hw]<;>rfl) ⟨⟨by omega,fun j h1 h2=>by
     by_cases hj:j=2
     ·subst hj;exact q
     ·exact hg j (by omega) h2⟩,by show(6:Nat)<7;decide⟩⟩
  ·have hw:=hwf 2 e2;rw [aU,dT']at e;rw [aU,dF']at e2;refine⟨⟨trivial,trivial⟩,by decide,aQ (H:=HN3 sh th nd tr m ln f g (dG sh th nd m ln f g)) () (by simp only [HN3,hw]<;>rfl) ⟨⟨by omega,fun j h1 h2=>hg j (by omega) h2⟩,by show(6:Nat)<7;decide⟩⟩
  ·rw [aU,dF']at e;have hth:th=2:=by omega
   subst hth;rw [hrb];refine⟨trivial,aI (fun e3=>by cases e3) (fun _=>⟨⟨⟨by omega,by omega⟩,by omega,by omega⟩,aI (fun e4=>?_) (fun _=>⟨⟨⟨⟨by omega,by omega⟩,by omega,by omega⟩,trivial⟩,⟨by omega,rfl,by omega⟩,?_⟩)⟩)⟩
   ·rw [aU,dT']at e4;have e4:(2*nd+5*2+6:Int)<0:=e4;omega
   ·have:=kT sh 2 nd tr m ln f g K hK (hgood fun j hj=>hg j (by omega) hj)
    exact⟨⟨_,_,aEw sh nd tr (dG sh 2 nd m ln f g),this⟩⟩
 ·rintro x ⟨hu,hg⟩;refine aI (fun e=>aI (fun e2=>?_) (fun e2=>?_)) (fun e=>?_)
  ·have e2':=e2;rw [aU,dT']at e e2;have hum:3<m:=by omega
   refine⟨⟨by omega,by omega⟩,⟨⟨by have:=hln 3 hum;show ln 3≤1000000;omega,⟨rfl⟩⟩,trivial⟩,aI (fun e3=>?_) (fun e3=>?_)⟩
   ·have e3:(!ieq (ofC sh (ln 3) (f 3) (g 3)) 0)=true:=e3;obtain⟨q1,q2⟩:=sU (by simpa using e3)
    have:=lG sh th nd tr m ln f g K hK 1 (hbad 3 hum q1) rfl;rw [←q2]at this;exact⟨⟨_,_,aHA _ _ _,this⟩⟩
   ·have e3:(!ieq (ofC sh (ln 3) (f 3) (g 3)) 0)=false:=e3;have q:=sT (sh:=sh) (m:=ln 3) (f:=f 3) (g:=g 3) (by simpa using e3)
    have hw:=hwt 3 e2'
    refine⟨⟨rfl,trivial⟩,by decide,aQ (H:=HN4 sh th nd tr m ln f g (dG sh th nd m ln f g)) () (by simp only [HN4,hw]<;>rfl) ⟨⟨by omega,fun j h1 h2=>by
     by_cases hj:j=3
     ·subst hj;exact q
     ·exact hg j (by omega) h2⟩,by show(5:Nat)<6;decide⟩⟩
  ·have hw:=hwf 3 e2;rw [aU,dT']at e;rw [aU,dF']at e2;refine⟨⟨trivial,trivial⟩,by decide,aQ (H:=HN4 sh th nd tr m ln f g (dG sh th nd m ln f g)) () (by simp only [HN4,hw]<;>rfl) ⟨⟨by omega,fun j h1 h2=>hg j (by omega) h2⟩,by show(5:Nat)<6;decide⟩⟩
  ·rw [aU,dF']at e;have hth:th=3:=by omega
   subst hth;rw [hrb];refine⟨trivial,aI (fun e3=>by cases e3) (fun _=>⟨⟨⟨by omega,by omega⟩,by omega,by omega⟩,aI (fun e4=>?_) (fun _=>⟨⟨⟨⟨by omega,by omega⟩,by omega,by omega⟩,trivial⟩,⟨by omega,rfl,by omega⟩,?_⟩)⟩)⟩
   ·rw [aU,dT']at e4;have e4:(2*nd+5*3+6:Int)<0:=e4;omega
   ·have:=kT sh 3 nd tr m ln f g K hK (hgood fun j hj=>hg j (by omega) hj)
    exact⟨⟨_,_,aEx sh nd tr (dG sh 3 nd m ln f g),this⟩⟩
 ·rintro x ⟨hu,hg⟩;refine aI (fun e=>aI (fun e2=>?_) (fun e2=>?_)) (fun e=>?_)
  ·have e2':=e2;rw [aU,dT']at e e2;have hum:4<m:=by omega
   refine⟨⟨by omega,by omega⟩,⟨⟨by have:=hln 4 hum;show ln 4≤1000000;omega,⟨rfl⟩⟩,trivial⟩,aI (fun e3=>?_) (fun e3=>?_)⟩
   ·have e3:(!ieq (ofC sh (ln 4) (f 4) (g 4)) 0)=true:=e3;obtain⟨q1,q2⟩:=sU (by simpa using e3)
    have:=lG sh th nd tr m ln f g K hK 1 (hbad 4 hum q1) rfl;rw [←q2]at this;exact⟨⟨_,_,aHA _ _ _,this⟩⟩
   ·have e3:(!ieq (ofC sh (ln 4) (f 4) (g 4)) 0)=false:=e3;have q:=sT (sh:=sh) (m:=ln 4) (f:=f 4) (g:=g 4) (by simpa using e3)
    have hw:=hwt 4 e2'
    refine⟨⟨rfl,trivial⟩,by decide,aQ (H:=HN5 sh th nd tr m ln f g (dG sh th nd m ln f g)) () (by simp only [HN5,hw]<;>rfl) ⟨⟨by omega,fun j h1 h2=>by
     by_cases hj:j=4
     ·subst hj;exact q
     ·exact hg j (by omega) h2⟩,by show(4:Nat)<5;decide⟩⟩
  ·have hw:=hwf 4 e2;rw [aU,dT']at e;rw [aU,dF']at e2;refine⟨⟨trivial,trivial⟩,by decide,aQ (H:=HN5 sh th nd tr m ln f g (dG sh th nd m ln f g)) () (by simp only [HN5,hw]<;>rfl) ⟨⟨by omega,fun j h1 h2=>hg j (by omega) h2⟩,by show(4:Nat)<5;decide⟩⟩
  ·rw [aU,dF']at e;have hth:th=4:=by omega
   subst hth;rw [hrb];refine⟨trivial,aI (fun e3=>by cases e3) (fun _=>⟨⟨⟨by omega,by omega⟩,by omega,by omega⟩,aI (fun e4=>?_) (fun _=>⟨⟨⟨⟨by omega,by omega⟩,by omega,by omega⟩,trivial⟩,⟨by omega,rfl,by omega⟩,?_⟩)⟩)⟩
   ·rw [aU,dT']at e4;have e4:(2*nd+5*4+6:Int)<0:=e4;omega
   ·have:=kT sh 4 nd tr m ln f g K hK (hgood fun j hj=>hg j (by omega) hj)
    exact⟨⟨_,_,aEy sh nd tr (dG sh 4 nd m ln f g),this⟩⟩
 ·rintro x ⟨hu,hg⟩;refine aI (fun e=>aI (fun e2=>?_) (fun e2=>?_)) (fun e=>?_)
  ·have e2':=e2;rw [aU,dT']at e e2;have hum:5<m:=by omega
   refine⟨⟨by omega,by omega⟩,⟨⟨by have:=hln 5 hum;show ln 5≤1000000;omega,⟨rfl⟩⟩,trivial⟩,aI (fun e3=>?_) (fun e3=>?_)⟩
   ·have e3:(!ieq (ofC sh (ln 5) (f 5) (g 5)) 0)=true:=e3;obtain⟨q1,q2⟩:=sU (by simpa using e3)
    have:=lG sh th nd tr m ln f g K hK 1 (hbad 5 hum q1) rfl;rw [←q2]at this;exact⟨⟨_,_,aHA _ _ _,this⟩⟩
   ·have e3:(!ieq (ofC sh (ln 5) (f 5) (g 5)) 0)=false:=e3;have q:=sT (sh:=sh) (m:=ln 5) (f:=f 5) (g:=g 5) (by simpa using e3)
    have hw:=hwt 5 e2'
    refine⟨⟨rfl,trivial⟩,by decide,aQ (H:=HN6 sh th nd tr m ln f g (dG sh th nd m ln f g)) () (by simp only [HN6,hw]<;>rfl) ⟨⟨by omega,fun j h1 h2=>by
     by_cases hj:j=5
     ·subst hj;exact q
     ·exact hg j (by omega) h2⟩,by show(3:Nat)<4;decide⟩⟩
  ·have hw:=hwf 5 e2;rw [aU,dT']at e;rw [aU,dF']at e2;refine⟨⟨trivial,trivial⟩,by decide,aQ (H:=HN6 sh th nd tr m ln f g (dG sh th nd m ln f g)) () (by simp only [HN6,hw]<;>rfl) ⟨⟨by omega,fun j h1 h2=>hg j (by omega) h2⟩,by show(3:Nat)<4;decide⟩⟩
  ·rw [aU,dF']at e;have hth:th=5:=by omega
   subst hth;rw [hrb];refine⟨trivial,aI (fun e3=>by cases e3) (fun _=>⟨⟨⟨by omega,by omega⟩,by omega,by omega⟩,aI (fun e4=>?_) (fun _=>⟨⟨⟨⟨by omega,by omega⟩,by omega,by omega⟩,trivial⟩,⟨by omega,rfl,by omega⟩,?_⟩)⟩)⟩
   ·rw [aU,dT']at e4;have e4:(2*nd+5*5+6:Int)<0:=e4;omega
   ·have:=kT sh 5 nd tr m ln f g K hK (hgood fun j hj=>hg j (by omega) hj)
    exact⟨⟨_,_,aEz sh nd tr (dG sh 5 nd m ln f g),this⟩⟩
 ·rintro x ⟨hu,hg⟩;refine aI (fun e=>aI (fun e2=>?_) (fun e2=>?_)) (fun e=>?_)
  ·have e2':=e2;rw [aU,dT']at e e2;have hum:6<m:=by omega
   refine⟨⟨by omega,by omega⟩,⟨⟨by have:=hln 6 hum;show ln 6≤1000000;omega,⟨rfl⟩⟩,trivial⟩,aI (fun e3=>?_) (fun e3=>?_)⟩
   ·have e3:(!ieq (ofC sh (ln 6) (f 6) (g 6)) 0)=true:=e3;obtain⟨q1,q2⟩:=sU (by simpa using e3)
    have:=lG sh th nd tr m ln f g K hK 1 (hbad 6 hum q1) rfl;rw [←q2]at this;exact⟨⟨_,_,aHA _ _ _,this⟩⟩
   ·have e3:(!ieq (ofC sh (ln 6) (f 6) (g 6)) 0)=false:=e3;have q:=sT (sh:=sh) (m:=ln 6) (f:=f 6) (g:=g 6) (by simpa using e3)
    have hw:=hwt 6 e2'
    refine⟨⟨rfl,trivial⟩,by decide,aQ (H:=HN7 sh th nd tr m ln f g (dG sh th nd m ln f g)) () (by simp only [HN7,hw]<;>rfl) ⟨⟨by omega,fun j h1 h2=>by
     by_cases hj:j=6
     ·subst hj;exact q
     ·exact hg j (by omega) h2⟩,by show(2:Nat)<3;decide⟩⟩
  ·have hw:=hwf 6 e2;rw [aU,dT']at e;rw [aU,dF']at e2;refine⟨⟨trivial,trivial⟩,by decide,aQ (H:=HN7 sh th nd tr m ln f g (dG sh th nd m ln f g)) () (by simp only [HN7,hw]<;>rfl) ⟨⟨by omega,fun j h1 h2=>hg j (by omega) h2⟩,by show(2:Nat)<3;decide⟩⟩
  ·rw [aU,dF']at e;have hth:th=6:=by omega
   subst hth;rw [hrb];refine⟨trivial,aI (fun e3=>by cases e3) (fun _=>⟨⟨⟨by omega,by omega⟩,by omega,by omega⟩,aI (fun e4=>?_) (fun _=>⟨⟨⟨⟨by omega,by omega⟩,by omega,by omega⟩,trivial⟩,⟨by omega,rfl,by omega⟩,?_⟩)⟩)⟩
   ·rw [aU,dT']at e4;have e4:(2*nd+5*6+6:Int)<0:=e4;omega
   ·have:=kT sh 6 nd tr m ln f g K hK (hgood fun j hj=>hg j (by omega) hj)
    exact⟨⟨_,_,aEA sh nd tr (dG sh 6 nd m ln f g),this⟩⟩
 ·rintro x ⟨hu,hg⟩;refine aI (fun e=>aI (fun e2=>?_) (fun e2=>?_)) (fun e=>?_)
  ·have e2':=e2;rw [aU,dT']at e e2;have hum:7<m:=by omega
   refine⟨⟨by omega,by omega⟩,⟨⟨by have:=hln 7 hum;show ln 7≤1000000;omega,⟨rfl⟩⟩,trivial⟩,aI (fun e3=>?_) (fun e3=>?_)⟩
   ·have e3:(!ieq (ofC sh (ln 7) (f 7) (g 7)) 0)=true:=e3;obtain⟨q1,q2⟩:=sU (by simpa using e3)
    have:=lG sh th nd tr m ln f g K hK 1 (hbad 7 hum q1) rfl;rw [←q2]at this;exact⟨⟨_,_,aHA _ _ _,this⟩⟩
   ·have e3:(!ieq (ofC sh (ln 7) (f 7) (g 7)) 0)=false:=e3;have q:=sT (sh:=sh) (m:=ln 7) (f:=f 7) (g:=g 7) (by simpa using e3)
    have hw:=hwt 7 e2'
    refine⟨⟨rfl,trivial⟩,by decide,aQ (H:=HN8 sh th nd tr m ln f g (dG sh th nd m ln f g)) () (by simp only [HN8,hw]<;>rfl) ⟨⟨by omega,fun j h1 h2=>by
     by_cases hj:j=7
     ·subst hj;exact q
     ·exact hg j (by omega) h2⟩,by show(1:Nat)<2;decide⟩⟩
  ·have hw:=hwf 7 e2;rw [aU,dT']at e;rw [aU,dF']at e2;refine⟨⟨trivial,trivial⟩,by decide,aQ (H:=HN8 sh th nd tr m ln f g (dG sh th nd m ln f g)) () (by simp only [HN8,hw]<;>rfl) ⟨⟨by omega,fun j h1 h2=>hg j (by omega) h2⟩,by show(1:Nat)<2;decide⟩⟩
  ·rw [aU,dF']at e;have hth:th=7:=by omega
   subst hth;rw [hrb];refine⟨trivial,aI (fun e3=>by cases e3) (fun _=>⟨⟨⟨by omega,by omega⟩,by omega,by omega⟩,aI (fun e4=>?_) (fun _=>⟨⟨⟨⟨by omega,by omega⟩,by omega,by omega⟩,trivial⟩,⟨by omega,rfl,by omega⟩,?_⟩)⟩)⟩
   ·rw [aU,dT']at e4;have e4:(2*nd+5*7+6:Int)<0:=e4;omega
   ·have:=kT sh 7 nd tr m ln f g K hK (hgood fun j hj=>hg j (by omega) hj)
    exact⟨⟨_,_,aEB sh nd tr (dG sh 7 nd m ln f g),this⟩⟩
 ·rintro x ⟨hu,hg⟩;refine aI (fun e=>?_) (fun e=>?_)
  ·rw [aU,dT']at e;omega
  ·rw [aU,dF']at e;have hth:th=8:=by omega
   subst hth;rw [hrb];refine⟨trivial,aI (fun e3=>by cases e3) (fun _=>⟨⟨⟨by omega,by omega⟩,by omega,by omega⟩,aI (fun e4=>?_) (fun _=>⟨⟨⟨⟨by omega,by omega⟩,by omega,by omega⟩,trivial⟩,⟨by omega,rfl,by omega⟩,?_⟩)⟩)⟩
   ·rw [aU,dT']at e4;have e4:(2*nd+5*8+6:Int)<0:=e4;omega
   ·have:=kT sh 8 nd tr m ln f g K hK (hgood fun j hj=>hg j (by omega) hj)
    exact⟨⟨_,_,aEC sh nd tr (dG sh 8 nd m ln f g),this⟩⟩
def gnS:aH Ob:=fun args h=>match args,h with
 | [.agg [.int .i64 sh,.int .i64 th,.int .i64 nd,.int .i64 tr],.view m 1 vr],[]=>some (.pre (m≤1000000∧eX vr) (mK sh th nd tr m (vL vr) (vK vr) (vY vr)))
 | _,_=>none
theorem wV:sT' 25 gnS:=by
 intro args h o ho K hK;unfold gnS at ho;split at ho<;>cases ho
 rename_i sh th nd tr m vr;obtain⟨⟨hm,⟨hr⟩⟩,hK⟩:=hK;rw [hr];refine aHD ?_;exact OP sh th nd tr m (vL vr) (vK vr) (vY vr) _ _ (aED sh th nd tr m (vL vr) (vK vr) (vY vr) K hm hK)
noncomputable def EU2:=EU1.addS 25 gnS wV
theorem aR.lend{h:aC Ob}{l i:Nat}{ws:List WKS}(hl:aO h l=some (.abs (.wrow ws) []))(hi:i<ws.length):aR (obI tbl) h (h.set l (some (.abs (.whole ws i) [h.length]))++ [some (.abs (.worker (bB ws i)) [])]):=by
 intro V hR w h1 hf;obtain⟨V',x,b,k,cs,T,a1,a2,a3,_⟩:=h1.lend RKW (ws:=ws) hf hl (DK hi);exact⟨V',a1,by simpa using a2,by simp,a3⟩
theorem dA{ws:List WKS}{i:Nat}(hi:i<ws.length):cU ws i (bB ws i)=ws:=by
 unfold cU bB;apply List.ext_getElem
 ·simp
 ·intro j h1 h2;rw [List.getElem_set];split
  ·rename_i e;subst e;rw [gD',gE' hi];rfl
  ·rfl
abbrev w4e(x:EGS):Option (aJ Ob):=cE' [.I x.sh,.I x.th,.I x.nd,.I x.tr,.ptr 1 0,.ptr 3 0,.slice 4 0 x.ws.length 1,.I x.k]
abbrev w4f(w:WKS):List AVal:=[.ptr 6 0,.tslice 7 0 w.tk.length 3,.I w.en,.raw (.pointer none),.slice 8 0 w.tl.length 1,.slice 9 0 w.sl.length 1]
abbrev eg0(x:EGS)(i:Nat)(w:WKS):aC Ob:=[w4e x,bD 2 x.s,bE x.s,some (.abs (.hist x.h) []),some (.abs (.whole x.ws i) [5]),cE' (w4f w),some (.abs (.store w.t w.n w.st) []),some (.tab [some .i64,some .i64,some .i64] w.tk),iI' w.tl,iI' w.sl]
abbrev aEc(x:EGS)(i:Nat)(w:WKS):aC Ob:=[w4e x,bD 2 x.s,bE x.s,some (.abs (.hist x.h) []),some (.abs (.whole x.ws i) [5]),cE' (w4f w),hM 10 w.t w.n w.st,some (.tab [some .i64,some .i64,some .i64] w.tk),iI' w.tl,iI' w.sl,hO w.st]
theorem uG{x:EGS}{i:Nat}(hi:i<x.ws.length)(hb:(bB x.ws i).b =false):aR (obI tbl) (egH x) (eg0 x i (bB x.ws i)):=by
 refine(aR.unpack (.engine x) 0 0 (egG x) [] rfl rfl rfl rfl).trans ((aR.lend (l:=4) (i:=i) (ws:=x.ws) rfl hi).trans ((aR.unpack (.worker (bB x.ws i)) 5 0 (mI (bB x.ws i)) [] rfl (congrArg (Prod.mk 0) (o9 hb)) rfl rfl).trans (aIj ?_)))
 kernel_rfl
theorem I5{x:EGS}{i:Nat}(hi:i<x.ws.length)(hb:(bB x.ws i).b =false):aR (obI tbl) (egH x) (aEc x i (bB x.ws i)):=by
 refine(uG hi hb).trans ((aR.unpack (.store (bB x.ws i).t (bB x.ws i).n (bB x.ws i).st) 6 0 (dC (bB x.ws i).t (bB x.ws i).n (bB x.ws i).st) [] rfl rfl rfl rfl).trans (aIj ?_))
 kernel_rfl
abbrev w4g(w:WKS):List AVal:=[.ptr 6 0,.tslice 7 0 w.tk.length 3,.I w.en,.ptr 8 0,.slice 9 0 w.tl.length 1,.slice 10 0 w.sl.length 1]
abbrev eg1(x:EGS)(i:Nat)(w:WKS):aC Ob:=[w4e x,bD 2 x.s,bE x.s,some (.abs (.hist x.h) []),some (.abs (.whole x.ws i) [5]),cE' (w4g w),some (.abs (.store w.t w.n w.st) []),some (.tab [some .i64,some .i64,some .i64] w.tk),some (.abs (.doer w.t w.n w.d) [6]),iI' w.tl,iI' w.sl]
abbrev aEd(x:EGS)(i:Nat)(w:WKS):aC Ob:=[w4e x,bD 2 x.s,bE x.s,some (.abs (.hist x.h) []),some (.abs (.whole x.ws i) [5]),cE' (w4g w),hM 11 w.t w.n w.st,some (.tab [some .i64,some .i64,some .i64] w.tk),some (.abs (.doer w.t w.n w.d) [6]),iI' w.tl,iI' w.sl,hO w.st]
theorem uH{x:EGS}{i:Nat}(hi:i<x.ws.length)(hb:(bB x.ws i).b =true):aR (obI tbl) (egH x) (eg1 x i (bB x.ws i)):=by
 refine(aR.unpack (.engine x) 0 0 (egG x) [] rfl rfl rfl rfl).trans ((aR.lend (l:=4) (i:=i) (ws:=x.ws) rfl hi).trans ((aR.unpack (.worker (bB x.ws i)) 5 0 (pT (bB x.ws i)) [] rfl (congrArg (Prod.mk 0) (vO hb)) rfl rfl).trans (aIj ?_)))
 kernel_rfl
theorem I6{x:EGS}{i:Nat}(hi:i<x.ws.length)(hb:(bB x.ws i).b =true):aR (obI tbl) (egH x) (aEd x i (bB x.ws i)):=by
 refine(uH hi hb).trans ((aR.unpack (.store (bB x.ws i).t (bB x.ws i).n (bB x.ws i).st) 6 0 (dC (bB x.ws i).t (bB x.ws i).n (bB x.ws i).st) [] rfl rfl rfl rfl).trans (aIj ?_))
 kernel_rfl
abbrev w4h(x:EGS):Option (aJ Ob):=cE' [.I x.sh,.I x.th,.I x.nd,.I x.tr,.ptr 1 0,.ptr 3 0,.slice 4 0 x.ws.length 1,.I x.k]
abbrev aD8(x:EGS)(i:Nat)(w:WKS)(xs:List Int):aC Ob:=[w4h x,bD 2 x.s,bE x.s,some (.abs (.hist x.h) []),some (.abs (.whole x.ws i) [5]),cE' [.ptr 6 0,.tslice 7 0 w.tk.length 3,.I w.en,.raw (.pointer none),.slice 8 0 w.tl.length 1,.slice 9 0 w.sl.length 1],some (.abs (.store w.t w.n w.st) []),some (.tab [some .i64,some .i64,some .i64] w.tk),iI' w.tl,iI' w.sl,iI' xs]
abbrev w4i(x:EGS):Option (aJ Ob):=cE' [.I x.sh,.I x.th,.I x.nd,.I x.tr,.ptr 1 0,.ptr 3 0,.slice 4 0 x.ws.length 1,.I x.k]
theorem I3(x:EGS)(i:Nat)(w:WKS)(xs:List Int)(hi:i<x.ws.length)(hw:cU x.ws i w=x.ws)(hb:w.b=false):aE (obI tbl) 1 (.slice 10 0 xs.length 1) (aD8 x i w xs) (.slice 1 0 xs.length 1) [some (.abs (.engine x) []),iI' xs]:=by
 exact((aE.move 6 (of_decide_eq_true rfl)).trans ((aE.move 7 (of_decide_eq_true rfl)).trans ((aE.move 8 (of_decide_eq_true rfl)).trans ((aE.move 9 (of_decide_eq_true rfl)).trans ((aHv (v2:=.slice 10 0 xs.length 1) (g2:=aL [w4i x,bD 2 x.s,bE x.s,some (.abs (.hist x.h) []),some (.abs (.whole x.ws i) [5]),some (.abs (.worker w) []),none,none,none,none,iI' xs] 5 0 (mI w) []) (by kernel_rfl) (by kernel_rfl)).trans ((aE.pack [w4i x,bD 2 x.s,bE x.s,some (.abs (.hist x.h) []),some (.abs (.whole x.ws i) [5]),some (.abs (.worker w) []),none,none,none,none,iI' xs] (.worker w) 5 0 (mI w) [] rfl rfl (congrArg (Prod.mk 0) (o9 hb)) (by kernel_rfl)).trans ((aE.back (l:=4) (k:=5) (i:=i) (ws:=x.ws) (w:=w) rfl rfl (by decide) hi).trans ((aHv (v2:=.slice 10 0 xs.length 1) (g2:=[w4i x,bD 2 x.s,bE x.s,some (.abs (.hist x.h) []),some (.abs (.wrow x.ws) []),none,none,none,none,none,iI' xs]) rfl (by rw [hw];rfl)).trans ((aE.move 1 (of_decide_eq_true rfl)).trans ((aE.move 2 (of_decide_eq_true rfl)).trans ((aE.move 3 (of_decide_eq_true rfl)).trans ((aE.move 4 (of_decide_eq_true rfl)).trans ((aHv (v2:=.slice 10 0 xs.length 1) (g2:=aL [some (.abs (.engine x) []),none,none,none,none,none,none,none,none,none,iI' xs] 0 0 (egG x) []) (by kernel_rfl) (by kernel_rfl)).trans ((aE.pack [some (.abs (.engine x) []),none,none,none,none,none,none,none,none,none,iI' xs] (.engine x) 0 0 (egG x) [] rfl rfl rfl (by kernel_rfl)).trans (aE.pick [0,10] rfl)))))))))))))))
abbrev aEa(x:EGS)(i:Nat)(w:WKS)(xs:List Int):aC Ob:=[w4h x,bD 2 x.s,bE x.s,some (.abs (.hist x.h) []),some (.abs (.whole x.ws i) [5]),cE' [.ptr 6 0,.tslice 8 0 w.tk.length 3,.I w.en,.raw (.pointer none),.slice 9 0 w.tl.length 1,.slice 10 0 w.sl.length 1],hM 7 w.t w.n w.st,hO w.st,some (.tab [some .i64,some .i64,some .i64] w.tk),iI' w.tl,iI' w.sl,iI' xs]
abbrev w4j(w:WKS):List AVal:=[.ptr 6 0,.tslice 8 0 w.tk.length 3,.I w.en,.raw (.pointer none),.slice 9 0 w.tl.length 1,.slice 10 0 w.sl.length 1]
abbrev w4k(x:EGS)(xs:List Int):aC Ob:=[some (.abs (.engine x) []),none,none,none,none,none,none,none,none,none,none,iI' xs]
theorem aA4(x:EGS)(i:Nat)(w:WKS)(xs:List Int)(hi:i<x.ws.length)(hw:cU x.ws i w=x.ws)(hb:w.b=false):aE (obI tbl) 1 (.slice 11 0 xs.length 1) (aEa x i w xs) (.slice 1 0 xs.length 1) [some (.abs (.engine x) []),iI' xs]:=by
 exact((aE.move 7 (of_decide_eq_true rfl)).trans ((aHv (v2:=.slice 11 0 xs.length 1) (g2:=aL [w4i x,bD 2 x.s,bE x.s,some (.abs (.hist x.h) []),some (.abs (.whole x.ws i) [5]),cE' (w4j w),some (.abs (.store w.t w.n w.st) []),none,some (.tab cK3 w.tk),iI' w.tl,iI' w.sl,iI' xs] 6 0 (dC w.t w.n w.st) []) (by kernel_rfl) (by kernel_rfl)).trans ((aE.pack [w4i x,bD 2 x.s,bE x.s,some (.abs (.hist x.h) []),some (.abs (.whole x.ws i) [5]),cE' (w4j w),some (.abs (.store w.t w.n w.st) []),none,some (.tab cK3 w.tk),iI' w.tl,iI' w.sl,iI' xs] (.store w.t w.n w.st) 6 0 (dC w.t w.n w.st) [] rfl rfl rfl (by kernel_rfl)).trans ((aE.move 6 (of_decide_eq_true rfl)).trans ((aE.move 8 (of_decide_eq_true rfl)).trans ((aE.move 9 (of_decide_eq_true rfl)).trans ((aE.move 10 (of_decide_eq_true rfl)).trans ((aHv (v2:=.slice 11 0 xs.length 1) (g2:=aL [w4i x,bD 2 x.s,bE x.s,some (.abs (.hist x.h) []),some (.abs (.whole x.ws i) [5]),some (.abs (.worker w) []),none,none,none,none,none,iI' xs] 5 0 (mI w) []) (by kernel_rfl) (by kernel_rfl)).trans ((aE.pack [w4i x,bD 2 x.s,bE x.s,some (.abs (.hist x.h) []),some (.abs (.whole x.ws i) [5]),some (.abs (.worker w) []),none,none,none,none,none,iI' xs] (.worker w) 5 0 (mI w) [] rfl rfl (congrArg (Prod.mk 0) (o9 hb)) (by kernel_rfl)).trans ((aE.back (l:=4) (k:=5) (i:=i) (ws:=x.ws) (w:=w) rfl rfl (by decide) hi).trans ((aHv (v2:=.slice 11 0 xs.length 1) (g2:=[w4i x,bD 2 x.s,bE x.s,some (.abs (.hist x.h) []),some (.abs (.wrow x.ws) []),none,none,none,none,none,none,iI' xs]) rfl (by rw [hw];rfl)).trans ((aE.move 1 (of_decide_eq_true rfl)).trans ((aE.move 2 (of_decide_eq_true rfl)).trans ((aE.move 3 (of_decide_eq_true rfl)).trans ((aE.move 4 (of_decide_eq_true rfl)).trans ((aHv (v2:=.slice 11 0 xs.length 1) (g2:=aL (w4k x xs) 0 0 (egG x) []) (by kernel_rfl) (by kernel_rfl)).trans ((aE.pack (w4k x xs) (.engine x) 0 0 (egG x) [] rfl rfl rfl (by kernel_rfl)).trans (aE.pick [0,11] rfl))))))))))))))))))
abbrev aD9(x:EGS)(i:Nat)(w:WKS)(xs:List Int):aC Ob:=[w4h x,bD 2 x.s,bE x.s,some (.abs (.hist x.h) []),some (.abs (.whole x.ws i) [5]),cE' [.ptr 6 0,.tslice 7 0 w.tk.length 3,.I w.en,.ptr 8 0,.slice 9 0 w.tl.length 1,.slice 10 0 w.sl.length 1],some (.abs (.store w.t w.n w.st) []),some (.tab [some .i64,some .i64,some .i64] w.tk),some (.abs (.doer w.t w.n w.d) [6]),iI' w.tl,iI' w.sl,iI' xs]
abbrev w4l(x:EGS):Option (aJ Ob):=cE' [.I x.sh,.I x.th,.I x.nd,.I x.tr,.ptr 1 0,.ptr 3 0,.slice 4 0 x.ws.length 1,.I x.k]
abbrev w4o(x:EGS)(xs:List Int):aC Ob:=[some (.abs (.engine x) []),none,none,none,none,none,none,none,none,none,none,iI' xs]
theorem I4(x:EGS)(i:Nat)(w:WKS)(xs:List Int)(hi:i<x.ws.length)(hw:cU x.ws i w=x.ws)(hb:w.b=true):aE (obI tbl) 1 (.slice 11 0 xs.length 1) (aD9 x i w xs) (.slice 1 0 xs.length 1) [some (.abs (.engine x) []),iI' xs]:=by
 exact((aE.move 6 (of_decide_eq_true rfl)).trans ((aE.move 7 (of_decide_eq_true rfl)).trans ((aE.move 8 (of_decide_eq_true rfl)).trans ((aE.move 9 (of_decide_eq_true rfl)).trans ((aE.move 10 (of_decide_eq_true rfl)).trans ((aHv (v2:=.slice 11 0 xs.length 1) (g2:=aL [w4l x,bD 2 x.s,bE x.s,some (.abs (.hist x.h) []),some (.abs (.whole x.ws i) [5]),some (.abs (.worker w) []),none,none,none,none,none,iI' xs] 5 0 (pT w) []) (by kernel_rfl) (by kernel_rfl)).trans ((aE.pack [w4l x,bD 2 x.s,bE x.s,some (.abs (.hist x.h) []),some (.abs (.whole x.ws i) [5]),some (.abs (.worker w) []),none,none,none,none,none,iI' xs] (.worker w) 5 0 (pT w) [] rfl rfl (congrArg (Prod.mk 0) (vO hb)) (by kernel_rfl)).trans ((aE.back (l:=4) (k:=5) (i:=i) (ws:=x.ws) (w:=w) rfl rfl (by decide) hi).trans ((aHv (v2:=.slice 11 0 xs.length 1) (g2:=[w4l x,bD 2 x.s,bE x.s,some (.abs (.hist x.h) []),some (.abs (.wrow x.ws) []),none,none,none,none,none,none,iI' xs]) rfl (by rw [hw];rfl)).trans ((aE.move 1 (of_decide_eq_true rfl)).trans ((aE.move 2 (of_decide_eq_true rfl)).trans ((aE.move 3 (of_decide_eq_true rfl)).trans ((aE.move 4 (of_decide_eq_true rfl)).trans ((aHv (v2:=.slice 11 0 xs.length 1) (g2:=aL (w4o x xs) 0 0 (egG x) []) (by kernel_rfl) (by kernel_rfl)).trans ((aE.pack (w4o x xs) (.engine x) 0 0 (egG x) [] rfl rfl rfl (by kernel_rfl)).trans (aE.pick [0,11] rfl))))))))))))))))
abbrev aEb(x:EGS)(i:Nat)(w:WKS)(xs:List Int):aC Ob:=[w4h x,bD 2 x.s,bE x.s,some (.abs (.hist x.h) []),some (.abs (.whole x.ws i) [5]),cE' [.ptr 6 0,.tslice 8 0 w.tk.length 3,.I w.en,.ptr 9 0,.slice 10 0 w.tl.length 1,.slice 11 0 w.sl.length 1],hM 7 w.t w.n w.st,hO w.st,some (.tab [some .i64,some .i64,some .i64] w.tk),some (.abs (.doer w.t w.n w.d) [6]),iI' w.tl,iI' w.sl,iI' xs]
abbrev w4m(w:WKS):List AVal:=[.ptr 6 0,.tslice 8 0 w.tk.length 3,.I w.en,.ptr 9 0,.slice 10 0 w.tl.length 1,.slice 11 0 w.sl.length 1]
abbrev w4n(x:EGS)(xs:List Int):aC Ob:=[some (.abs (.engine x) []),none,none,none,none,none,none,none,none,none,none,none,iI' xs]
theorem aA5(x:EGS)(i:Nat)(w:WKS)(xs:List Int)(hi:i<x.ws.length)(hw:cU x.ws i w=x.ws)(hb:w.b=true):aE (obI tbl) 1 (.slice 12 0 xs.length 1) (aEb x i w xs) (.slice 1 0 xs.length 1) [some (.abs (.engine x) []),iI' xs]:=by
 exact((aE.move 7 (of_decide_eq_true rfl)).trans ((aHv (v2:=.slice 12 0 xs.length 1) (g2:=aL [w4l x,bD 2 x.s,bE x.s,some (.abs (.hist x.h) []),some (.abs (.whole x.ws i) [5]),cE' (w4m w),some (.abs (.store w.t w.n w.st) []),none,some (.tab cK3 w.tk),some (.abs (.doer w.t w.n w.d) [6]),iI' w.tl,iI' w.sl,iI' xs] 6 0 (dC w.t w.n w.st) []) (by kernel_rfl) (by kernel_rfl)).trans ((aE.pack [w4l x,bD 2 x.s,bE x.s,some (.abs (.hist x.h) []),some (.abs (.whole x.ws i) [5]),cE' (w4m w),some (.abs (.store w.t w.n w.st) []),none,some (.tab cK3 w.tk),some (.abs (.doer w.t w.n w.d) [6]),iI' w.tl,iI' w.sl,iI' xs] (.store w.t w.n w.st) 6 0 (dC w.t w.n w.st) [] rfl rfl rfl (by kernel_rfl)).trans ((aE.move 6 (of_decide_eq_true rfl)).trans ((aE.move 8 (of_decide_eq_true rfl)).trans ((aE.move 9 (of_decide_eq_true rfl)).trans ((aE.move 10 (of_decide_eq_true rfl)).trans ((aE.move 11 (of_decide_eq_true rfl)).trans ((aHv (v2:=.slice 12 0 xs.length 1) (g2:=aL [w4l x,bD 2 x.s,bE x.s,some (.abs (.hist x.h) []),some (.abs (.whole x.ws i) [5]),some (.abs (.worker w) []),none,none,none,none,none,none,iI' xs] 5 0 (pT w) []) (by kernel_rfl) (by kernel_rfl)).trans ((aE.pack [w4l x,bD 2 x.s,bE x.s,some (.abs (.hist x.h) []),some (.abs (.whole x.ws i) [5]),some (.abs (.worker w) []),none,none,none,none,none,none,iI' xs] (.worker w) 5 0 (pT w) [] rfl rfl (congrArg (Prod.mk 0) (vO hb)) (by kernel_rfl)).trans ((aE.back (l:=4) (k:=5) (i:=i) (ws:=x.ws) (w:=w) rfl rfl (by decide) hi).trans ((aHv (v2:=.slice 12 0 xs.length 1) (g2:=[w4l x,bD 2 x.s,bE x.s,some (.abs (.hist x.h) []),some (.abs (.wrow x.ws) []),none,none,none,none,none,none,none,iI' xs]) rfl (by rw [hw];rfl)).trans ((aE.move 1 (of_decide_eq_true rfl)).trans ((aE.move 2 (of_decide_eq_true rfl)).trans ((aE.move 3 (of_decide_eq_true rfl)).trans ((aE.move 4 (of_decide_eq_true rfl)).trans ((aHv (v2:=.slice 12 0 xs.length 1) (g2:=aL (w4n x xs) 0 0 (egG x) []) (by kernel_rfl) (by kernel_rfl)).trans ((aE.pack (w4n x xs) (.engine x) 0 0 (egG x) [] rfl rfl rfl (by kernel_rfl)).trans (aE.pick [0,12] rfl)))))))))))))))))))
abbrev w4p(x:EGS):Option (aJ Ob):=cE' [.I (EGS.s x).1,.I (EGS.s x).2,.slice 2 0 (List.length (EGS.s x).3) 1,.I (EGS.s x).4,.I (EGS.s x).5,.I (EGS.s x).6,.int .u64 (EGS.s x).7,.int .u64 (EGS.s x).8,.bool (EGS.s x).9]
abbrev w4q(x:EGS):Option (aJ Ob):=cE' [.I x.1,.I x.2,.I x.3,.I x.4,.ptr 1 0,.ptr 3 0,.slice 4 0 x.7.length 1,.I x.8]
abbrev w4s(w:WKS):List AVal:=[.ptr 6 0,.tslice 7 0 w.4.length 3,.I w.5,.N,.slice 8 0 w.8.length 1,.slice 9 0 w.9.length 1]
def GJ(x:EGS)(i:Nat)(w:WKS)(th:Int)(K:AVal→aC Ob→Prop):Prop:=bif ilt th 0 then K (.raw (Value.slice none 0 0)) [w4q x,w4p x,some (.ints (some .u64) (EGS.s x).3),some (.abs (.hist x.6) []),some (.abs (.whole x.7 i) [5]),cE' (w4s w),some (.abs (.store w.1 w.2 w.3) []),some (.tab cK3 w.4),iI' w.8,iI' w.9]else bif ile (↑x.7.length:Int) th then K (.raw (Value.slice none 0 0)) [w4q x,w4p x,some (.ints (some .u64) (EGS.s x).3),some (.abs (.hist x.6) []),some (.abs (.whole x.7 i) [5]),cE' (w4s w),some (.abs (.store w.1 w.2 w.3) []),some (.tab cK3 w.4),iI' w.8,iI' w.9]else((0:Int)≤th∧th<(↑x.7.length:Int))∧(i<x.7.length∧0+Int.toNat th*(1:Nat)=i)∧(lE' w.8∧w.8.length≤(4294967296:Nat))∧K (.slice 10 0 w.8.length 1) [w4q x,w4p x,some (.ints (some .u64) (EGS.s x).3),some (.abs (.hist x.6) []),some (.abs (.whole x.7 i) [5]),cE' (w4s w),some (.abs (.store w.1 w.2 w.3) []),some (.tab cK3 w.4),iI' w.8,iI' w.9,iI' w.8]
theorem GK(x:EGS)(i:Nat)(w:WKS)(th:Int)(K:AVal→aC Ob→Prop)(h:GJ x i w th K):cT' 32 [.ptr 0 0,.I th] (eg0 x i w) (fZ 1 K):=by
 exact cM' (E:=EU2) (by kernel_rfl) h
abbrev w4r(w:WKS):List AVal:=[.ptr 6 0,.tslice 7 0 w.4.length 3,.I w.5,.ptr 8 0,.slice 9 0 w.8.length 1,.slice 10 0 w.9.length 1]
def GL(x:EGS)(i:Nat)(w:WKS)(th:Int)(K:AVal→aC Ob→Prop):Prop:=bif ilt th 0 then K (.raw (Value.slice none 0 0)) [w4q x,w4p x,some (.ints (some .u64) (EGS.s x).3),some (.abs (.hist x.6) []),some (.abs (.whole x.7 i) [5]),cE' (w4r w),some (.abs (.store w.1 w.2 w.3) []),some (.tab cK3 w.4),some (.abs (.doer w.1 w.2 w.7) [6]),iI' w.8,iI' w.9]else bif ile (↑x.7.length:Int) th then K (.raw (Value.slice none 0 0)) [w4q x,w4p x,some (.ints (some .u64) (EGS.s x).3),some (.abs (.hist x.6) []),some (.abs (.whole x.7 i) [5]),cE' (w4r w),some (.abs (.store w.1 w.2 w.3) []),some (.tab cK3 w.4),some (.abs (.doer w.1 w.2 w.7) [6]),iI' w.8,iI' w.9]else((0:Int)≤th∧th<(↑x.7.length:Int))∧(i<x.7.length∧0+Int.toNat th*(1:Nat)=i)∧(lE' w.8∧w.8.length≤(4294967296:Nat))∧K (.slice 11 0 w.8.length 1) [w4q x,w4p x,some (.ints (some .u64) (EGS.s x).3),some (.abs (.hist x.6) []),some (.abs (.whole x.7 i) [5]),cE' (w4r w),some (.abs (.store w.1 w.2 w.3) []),some (.tab cK3 w.4),some (.abs (.doer w.1 w.2 w.7) [6]),iI' w.8,iI' w.9,iI' w.8]
theorem GM(x:EGS)(i:Nat)(w:WKS)(th:Int)(K:AVal→aC Ob→Prop)(h:GL x i w th K):cT' 32 [.ptr 0 0,.I th] (eg1 x i w) (fZ 1 K):=by
 exact cM' (E:=EU2) (by kernel_rfl) h
def GB(x:EGS)(i:Nat)(w:WKS)(th:Int)(K:AVal→aC Ob→Prop):Prop:=bif ilt th 0 then K (.raw (Value.slice none 0 0)) [w4q x,w4p x,some (.ints (some .u64) (EGS.s x).3),some (.abs (.hist x.6) []),some (.abs (.whole x.7 i) [5]),cE' (w4s w),some (.abs (.store w.1 w.2 w.3) []),some (.tab cK3 w.4),iI' w.8,iI' w.9]else bif ile (↑x.7.length:Int) th then K (.raw (Value.slice none 0 0)) [w4q x,w4p x,some (.ints (some .u64) (EGS.s x).3),some (.abs (.hist x.6) []),some (.abs (.whole x.7 i) [5]),cE' (w4s w),some (.abs (.store w.1 w.2 w.3) []),some (.tab cK3 w.4),iI' w.8,iI' w.9]else((0:Int)≤th∧th<(↑x.7.length:Int))∧(i<x.7.length∧0+Int.toNat th*(1:Nat)=i)∧(lE' w.9∧w.9.length≤(4294967296:Nat))∧K (.slice 10 0 w.9.length 1) [w4q x,w4p x,some (.ints (some .u64) (EGS.s x).3),some (.abs (.hist x.6) []),some (.abs (.whole x.7 i) [5]),cE' (w4s w),some (.abs (.store w.1 w.2 w.3) []),some (.tab cK3 w.4),iI' w.8,iI' w.9,iI' w.9]
theorem GC(x:EGS)(i:Nat)(w:WKS)(th:Int)(K:AVal→aC Ob→Prop)(h:GB x i w th K):cT' 35 [.ptr 0 0,.I th] (eg0 x i w) (fZ 1 K):=by
 exact cM' (E:=EU2) (by kernel_rfl) h
def GG(x:EGS)(i:Nat)(w:WKS)(th:Int)(K:AVal→aC Ob→Prop):Prop:=bif ilt th 0 then K (.raw (Value.slice none 0 0)) [w4q x,w4p x,some (.ints (some .u64) (EGS.s x).3),some (.abs (.hist x.6) []),some (.abs (.whole x.7 i) [5]),cE' (w4r w),some (.abs (.store w.1 w.2 w.3) []),some (.tab cK3 w.4),some (.abs (.doer w.1 w.2 w.7) [6]),iI' w.8,iI' w.9]else bif ile (↑x.7.length:Int) th then K (.raw (Value.slice none 0 0)) [w4q x,w4p x,some (.ints (some .u64) (EGS.s x).3),some (.abs (.hist x.6) []),some (.abs (.whole x.7 i) [5]),cE' (w4r w),some (.abs (.store w.1 w.2 w.3) []),some (.tab cK3 w.4),some (.abs (.doer w.1 w.2 w.7) [6]),iI' w.8,iI' w.9]else((0:Int)≤th∧th<(↑x.7.length:Int))∧(i<x.7.length∧0+Int.toNat th*(1:Nat)=i)∧(lE' w.9∧w.9.length≤(4294967296:Nat))∧K (.slice 11 0 w.9.length 1) [w4q x,w4p x,some (.ints (some .u64) (EGS.s x).3),some (.abs (.hist x.6) []),some (.abs (.whole x.7 i) [5]),cE' (w4r w),some (.abs (.store w.1 w.2 w.3) []),some (.tab cK3 w.4),some (.abs (.doer w.1 w.2 w.7) [6]),iI' w.8,iI' w.9,iI' w.9]
theorem GI(x:EGS)(i:Nat)(w:WKS)(th:Int)(K:AVal→aC Ob→Prop)(h:GG x i w th K):cT' 35 [.ptr 0 0,.I th] (eg1 x i w) (fZ 1 K):=by
 exact cM' (E:=EU2) (by kernel_rfl) h
abbrev w4t(w:WKS):List AVal:=[.I w.1,.I w.2,.I (WKS.st w).1,.I (WKS.st w).2,.slice 7 0 (List.length (WKS.st w).3) 1]
abbrev w4v(w:WKS):List AVal:=[.ptr 6 0,.tslice 8 0 w.4.length 3,.I w.5,.N,.slice 9 0 w.8.length 1,.slice 10 0 w.9.length 1]
def F5(x:EGS)(i:Nat)(w:WKS)(th:Int)(K:AVal→aC Ob→Prop):Prop:=bif ilt th 0 then K (.raw (Value.slice none 0 0)) [w4q x,w4p x,some (.ints (some .u64) (EGS.s x).3),some (.abs (.hist x.6) []),some (.abs (.whole x.7 i) [5]),cE' (w4v w),cE' (w4t w),iI' (WKS.st w).3,some (.tab cK3 w.4),iI' w.8,iI' w.9]else bif ile (↑x.7.length:Int) th then K (.raw (Value.slice none 0 0)) [w4q x,w4p x,some (.ints (some .u64) (EGS.s x).3),some (.abs (.hist x.6) []),some (.abs (.whole x.7 i) [5]),cE' (w4v w),cE' (w4t w),iI' (WKS.st w).3,some (.tab cK3 w.4),iI' w.8,iI' w.9]else((0:Int)≤th∧th<(↑x.7.length:Int))∧(i<x.7.length∧0+Int.toNat th*(1:Nat)=i)∧(lE' (WKS.st w).3∧List.length (WKS.st w).3≤(1000000:Nat))∧K (.slice 11 0 (List.length (lQ (WKS.st w).2 (WKS.st w).3)) 1) [w4q x,w4p x,some (.ints (some .u64) (EGS.s x).3),some (.abs (.hist x.6) []),some (.abs (.whole x.7 i) [5]),cE' (w4v w),cE' (w4t w),iI' (WKS.st w).3,some (.tab cK3 w.4),iI' w.8,iI' w.9,iI' (lQ (WKS.st w).2 (WKS.st w).3)]
theorem F6(x:EGS)(i:Nat)(w:WKS)(th:Int)(K:AVal→aC Ob→Prop)(h:F5 x i w th K):cT' 69 [.ptr 0 0,.I th] (aEc x i w) (fZ 1 K):=by
 exact cM' (E:=EU2) (by kernel_rfl) h
abbrev w4u(w:WKS):List AVal:=[.ptr 6 0,.tslice 8 0 w.4.length 3,.I w.5,.ptr 9 0,.slice 10 0 w.8.length 1,.slice 11 0 w.9.length 1]
def F7(x:EGS)(i:Nat)(w:WKS)(th:Int)(K:AVal→aC Ob→Prop):Prop:=bif ilt th 0 then K (.raw (Value.slice none 0 0)) [w4q x,w4p x,some (.ints (some .u64) (EGS.s x).3),some (.abs (.hist x.6) []),some (.abs (.whole x.7 i) [5]),cE' (w4u w),cE' (w4t w),iI' (WKS.st w).3,some (.tab cK3 w.4),some (.abs (.doer w.1 w.2 w.7) [6]),iI' w.8,iI' w.9]else bif ile (↑x.7.length:Int) th then K (.raw (Value.slice none 0 0)) [w4q x,w4p x,some (.ints (some .u64) (EGS.s x).3),some (.abs (.hist x.6) []),some (.abs (.whole x.7 i) [5]),cE' (w4u w),cE' (w4t w),iI' (WKS.st w).3,some (.tab cK3 w.4),some (.abs (.doer w.1 w.2 w.7) [6]),iI' w.8,iI' w.9]else((0:Int)≤th∧th<(↑x.7.length:Int))∧(i<x.7.length∧0+Int.toNat th*(1:Nat)=i)∧(lE' (WKS.st w).3∧List.length (WKS.st w).3≤(1000000:Nat))∧K (.slice 12 0 (List.length (lQ (WKS.st w).2 (WKS.st w).3)) 1) [w4q x,w4p x,some (.ints (some .u64) (EGS.s x).3),some (.abs (.hist x.6) []),some (.abs (.whole x.7 i) [5]),cE' (w4u w),cE' (w4t w),iI' (WKS.st w).3,some (.tab cK3 w.4),some (.abs (.doer w.1 w.2 w.7) [6]),iI' w.8,iI' w.9,iI' (lQ (WKS.st w).2 (WKS.st w).3)]
theorem F8(x:EGS)(i:Nat)(w:WKS)(th:Int)(K:AVal→aC Ob→Prop)(h:F7 x i w th K):cT' 69 [.ptr 0 0,.I th] (aEd x i w) (fZ 1 K):=by
 exact cM' (E:=EU2) (by kernel_rfl) h
abbrev w4x(x:EGS):List AVal:=[.I (EGS.s x).1,.I (EGS.s x).2,.slice 2 0 (List.length (EGS.s x).3) 1,.I (EGS.s x).4,.I (EGS.s x).5,.I (EGS.s x).6,.int .u64 (EGS.s x).7,.int .u64 (EGS.s x).8,.bool (EGS.s x).9]
abbrev w4y(x:EGS):List AVal:=[.I x.1,.I x.2,.I x.3,.I x.4,.ptr 1 0,.ptr 3 0,.slice 4 0 x.7.length 1,.I x.8]
abbrev w4w(x:EGS):aC Ob:=[cE' (w4y x),cE' (w4x x),some (.ints (some .u64) (EGS.s x).3),some (.abs (.hist x.6) []),some (.abs (.wrow x.7) [])]
def ZV(x:EGS)(th:Int)(K:AVal→aC Ob→Prop):Prop:=bif ilt th 0 then K (.I 0) (w4w x)else bif ile (↑x.7.length:Int) th then K (.I 0) (w4w x)else((0:Int)≤th∧th<(↑x.7.length:Int))∧0+Int.toNat th*(1:Nat)<x.7.length∧True∧K (.I (W ((↑(List.length (bB x.7 (0+Int.toNat th*1)).4):Int) - (bB x.7 (0+Int.toNat th*1)).5))) [cE' (w4y x),cE' (w4x x),some (.ints (some .u64) (EGS.s x).3),some (.abs (.hist x.6) []),some (.abs (.whole x.7 (0+Int.toNat th*1)) [5]),some (.abs (.worker (bB x.7 (0+Int.toNat th*1))) [])]
theorem K8(x:EGS)(th:Int)(K:AVal→aC Ob→Prop)(h:ZV x th K):cT' 33 [.ptr 0 0,.I th] (egG x) (fZ 1 K):=by
 exact cM' (E:=EU2) (by kernel_rfl) h
abbrev w4z(x:EGS):aC Ob:=[cE' [.I x.1,.I x.2,.I x.3,.I x.4,.ptr 1 0,.ptr 3 0,.slice 4 0 x.7.length 1,.I x.8],cE' [.I (EGS.s x).1,.I (EGS.s x).2,.slice 2 0 (List.length (EGS.s x).3) 1,.I (EGS.s x).4,.I (EGS.s x).5,.I (EGS.s x).6,.int .u64 (EGS.s x).7,.int .u64 (EGS.s x).8,.bool (EGS.s x).9],some (.ints (some .u64) (EGS.s x).3),some (.abs (.hist x.6) []),some (.abs (.wrow x.7) [])]
def ZY(x:EGS)(K:AVal→aC Ob→Prop):Prop:=K (.I x.8) (w4z x)
theorem LC(x:EGS)(K:AVal→aC Ob→Prop)(h:ZY x K):cT' 34 [.ptr 0 0] (egG x) (fZ 1 K):=by
 exact cM' (E:=EU2) (by kernel_rfl) h
def ZW(x:EGS)(K:AVal→aC Ob→Prop):Prop:=K (.agg [.I (EGS.s x).1,.I (EGS.s x).2]) (w4z x)
theorem K9(x:EGS)(K:AVal→aC Ob→Prop)(h:ZW x K):cT' 38 [.ptr 0 0] (egG x) (fZ 1 K):=by
 exact cM' (E:=EU2) (by kernel_rfl) h
def ZX(x:EGS)(a:Int)(K:AVal→aC Ob→Prop):Prop:=(lE' (EGS.s x).3∧True)∧K (.int .u64 (aF (EGS.s x).3 a)) [cE' [.I x.1,.I x.2,.I x.3,.I x.4,.ptr 1 0,.ptr 3 0,.slice 4 0 x.7.length 1,.I x.8],cE' [.I (EGS.s x).1,.I (EGS.s x).2,.slice 2 0 (List.length (EGS.s x).3) 1,.I (EGS.s x).4,.I (EGS.s x).5,.I (EGS.s x).6,.int .u64 (EGS.s x).7,.int .u64 (EGS.s x).8,.bool (EGS.s x).9],some (.ints (some .u64) (EGS.s x).3),some (.abs (.hist x.6) []),some (.abs (.wrow x.7) [])]
theorem LB(x:EGS)(a:Int)(K:AVal→aC Ob→Prop)(h:ZX x a K):cT' 37 [.ptr 0 0,.I a] (egG x) (fZ 1 K):=by
 exact cM' (E:=EU2) (by kernel_rfl) h
theorem aB.keep{P:Program}{f:FuncId}{args:List AVal}{h:aC Ob}{n:Nat}{K:AVal→aC Ob→Prop}(h0:aB (obI tbl) P f args h (fZ n (dS (obI tbl) n K))):aB (obI tbl) P f args h (dS (obI tbl) n K):=by
 intro V hR w args' hi hf hr;refine(h0 V hR w args' hi hf hr).mono ?_;rintro e w' ⟨v,v',V',h',ht,rest⟩;obtain⟨g0,hK⟩:=bO.1 ht;obtain⟨v2,g2,t,k⟩:=hK.ex;exact⟨v,v',V',h',⟨⟨v2,g2,(aE.pick _ g0).trans t,k⟩⟩,rest⟩
def dW(th:Int)(x:EGS):Int:=bif ilt th 0 then 0 else bif ile (x.ws.length:Int) th then 0 else W (((bB x.ws th.toNat).tk.length :Int) - (bB x.ws th.toNat).en)
def gT(th:Int)(x:EGS):List Int:=bif ilt th 0 then []else bif ile (x.ws.length:Int) th then []else(bB x.ws th.toNat).tl
def gQ(th:Int)(x:EGS):List Int:=bif ilt th 0 then []else bif ile (x.ws.length:Int) th then []else(bB x.ws th.toNat).sl
def gI(th:Int)(x:EGS):List Int:=bif ilt th 0 then []else bif ile (x.ws.length:Int) th then []else lQ (bB x.ws th.toNat).st.sp (bB x.ws th.toNat).st.R
structure jA (x:EGS):Prop where
 h0:0<x.ws.length
 ht: ∀i,i<x.ws.length→(bB x.ws i).tl.length ≤1000000
 hs: ∀i,i<x.ws.length→(bB x.ws i).sl.length ≤1000000
 hr: ∀i,i<x.ws.length→(bB x.ws i).st.R.length ≤1000000
theorem aEg(x:EGS)(i:Nat)(hi:i<x.ws.length):({x with ws:=cU x.ws i (bB x.ws i) } :EGS)=x:=by
 rw [dA hi]
def rlfS:aH Ob:=fun args h=>match args,h with
 | [.ptr 0 0,.int .i64 th],[some (.abs (.engine x) [])]=>some (.pre True (.ret (.I (dW th x)) (egH x)))
 | _,_=>none
theorem QH:sT' 33 rlfS:=by
 intro args h o ho K hK;unfold rlfS at ho;split at ho<;>cases ho
 rename_i th x;obtain⟨_,hK⟩:=hK;have hK:K (.I (dW th x)) (egH x):=hK;refine aHD ?_;refine aHy (h2:=egG x) (aR.unpack (.engine x) 0 0 (egG x) [] rfl rfl rfl rfl) ?_;refine aB.keep (K8 x th _ ?_);refine aI (fun e1=>?_) (fun e1=>aI (fun e2=>?_) (fun e2=>?_))
 ·have hv:dW th x=0:=by unfold dW;rw [e1];rfl
  rw [hv]at hK;exact⟨⟨_,_,d7 1 (Nat.le_refl 1) _ rfl x,hK⟩⟩
 ·have hv:dW th x=0:=by unfold dW;rw [e1,e2];rfl
  rw [hv]at hK;exact⟨⟨_,_,d7 1 (Nat.le_refl 1) _ rfl x,hK⟩⟩
 ·have hv:dW th x=W (((bB x.ws th.toNat).tk.length :Int) - (bB x.ws th.toNat).en):=by unfold dW;rw [e1,e2];rfl
  rw [aU,dF']at e1;rw [cC,dF']at e2;have hi:0+th.toNat*1<x.ws.length:=by omega
  have ht:0+th.toNat*1=th.toNat:=by omega
  refine⟨⟨by omega,by omega⟩,hi,trivial,?_⟩
  rw [hv]at hK;refine⟨⟨_,_,A0 (x:= {x with ws:=cU x.ws (0+th.toNat*1) (bB x.ws (0+th.toNat*1)) }) _ rfl rfl 1 (Nat.le_refl 1) rfl ⟨rfl,hi,rfl⟩,?_⟩⟩
  rw [aEg x _ hi,ht];exact hK
theorem RE(x:EGS)(i:Nat)(th:Int)(hi:i<x.ws.length)(K:AVal→aC Ob→Prop)(h0:(bB x.ws i).b =false→GJ x i (bB x.ws i) th (dS (obI tbl) 1 K))(h1:(bB x.ws i).b =true→GL x i (bB x.ws i) th (dS (obI tbl) 1 K)):
 cT' 32 [.ptr 0 0,.I th] (egH x) K:=by
 refine aHD ?_;cases hb:(bB x.ws i).b with
 | false=>exact aHy (uG hi hb) (aB.keep (GK x i _ th _ (h0 hb)))
 | true=>exact aHy (uH hi hb) (aB.keep (GM x i _ th _ (h1 hb)))
def rtkS:aH Ob:=fun args h=>match args,h with
 | [.ptr 0 0,.int .i64 th],[some (.abs (.engine x) [])]=>some (.pre (jA x) (.ret (.slice 1 0 (gT th x).length 1) [some (.abs (.engine x) []),iI' (gT th x)]))
 | _,_=>none
theorem QM:sT' 32 rtkS:=by
 intro args h o ho K hK;unfold rtkS at ho;split at ho<;>cases ho
 rename_i th x;obtain⟨⟨hl,ht,hs,hr⟩,hK⟩:=hK;have hK:K (.slice 1 0 (gT th x).length 1) [some (.abs (.engine x) []),iI' (gT th x)]:=hK
 have nilt: ∀(b:Bool) (g g2:aC Ob) (e1:ilt th 0=true∨(ilt th 0=false∧ile (x.ws.length:Int) th=true)),gT th x=[]:=by
  intro b g g2 e;unfold gT;rcases e with e | ⟨e,e2⟩
  ·rw [e];rfl
  ·rw [e,e2];rfl
 cases e1:ilt th 0 with
 | true=>
   have hv:=nilt true [] [] (.inl e1);rw [hv]at hK;refine RE x 0 th hl K (fun hb=>?_) (fun hb=>?_)
   ·exact aI (fun _=>⟨⟨_,_,(aHH (cs:=[(.slot 0,.ints (some .i64))]) rfl).trans (I3 x 0 _ [] hl (dA hl) hb),hK⟩⟩) (fun e=>by rw [e1]at e;cases e)
   ·exact aI (fun _=>⟨⟨_,_,(aHH (cs:=[(.slot 0,.ints (some .i64))]) rfl).trans (I4 x 0 _ [] hl (dA hl) hb),hK⟩⟩) (fun e=>by rw [e1]at e;cases e)
 | false=>
   cases e2:ile (x.ws.length:Int) th with
   | true=>
     have hv:=nilt true [] [] (.inr ⟨e1,e2⟩);rw [hv]at hK;refine RE x 0 th hl K (fun hb=>?_) (fun hb=>?_)
     ·exact aI (fun e=>by rw [e1]at e;cases e) (fun _=>aI (fun _=>⟨⟨_,_,(aHH (cs:=[(.slot 0,.ints (some .i64))]) rfl).trans (I3 x 0 _ [] hl (dA hl) hb),hK⟩⟩) (fun e=>by rw [e2]at e;cases e))
     ·exact aI (fun e=>by rw [e1]at e;cases e) (fun _=>aI (fun _=>⟨⟨_,_,(aHH (cs:=[(.slot 0,.ints (some .i64))]) rfl).trans (I4 x 0 _ [] hl (dA hl) hb),hK⟩⟩) (fun e=>by rw [e2]at e;cases e))
   | false=>
     have hv:gT th x=(bB x.ws th.toNat).tl :=by unfold gT;rw [e1,e2];rfl
     have e1':=e1;have e2':=e2;rw [aU,dF']at e1';rw [cC,dF']at e2';have hi:th.toNat<x.ws.length:=by omega
     have hf:=ht _ hi;rw [hv]at hK;refine RE x th.toNat th hi K (fun hb=>?_) (fun hb=>?_)
     ·exact aI (fun e=>by rw [e1]at e;cases e) (fun _=>aI (fun e=>by rw [e2]at e;cases e) (fun _=>⟨⟨by omega,by omega⟩,⟨hi,by omega⟩,⟨rfl,by omega⟩,⟨⟨_,_,I3 x th.toNat _ _ hi (dA hi) hb,hK⟩⟩⟩))
     ·exact aI (fun e=>by rw [e1]at e;cases e) (fun _=>aI (fun e=>by rw [e2]at e;cases e) (fun _=>⟨⟨by omega,by omega⟩,⟨hi,by omega⟩,⟨rfl,by omega⟩,⟨⟨_,_,I4 x th.toNat _ _ hi (dA hi) hb,hK⟩⟩⟩))
theorem QZ(x:EGS)(i:Nat)(th:Int)(hi:i<x.ws.length)(K:AVal→aC Ob→Prop)(h0:(bB x.ws i).b =false→GB x i (bB x.ws i) th (dS (obI tbl) 1 K))(h1:(bB x.ws i).b =true→GG x i (bB x.ws i) th (dS (obI tbl) 1 K)):
 cT' 35 [.ptr 0 0,.I th] (egH x) K:=by
 refine aHD ?_;cases hb:(bB x.ws i).b with
 | false=>exact aHy (uG hi hb) (aB.keep (GC x i _ th _ (h0 hb)))
 | true=>exact aHy (uH hi hb) (aB.keep (GI x i _ th _ (h1 hb)))
def rswS:aH Ob:=fun args h=>match args,h with
 | [.ptr 0 0,.int .i64 th],[some (.abs (.engine x) [])]=>some (.pre (jA x) (.ret (.slice 1 0 (gQ th x).length 1) [some (.abs (.engine x) []),iI' (gQ th x)]))
 | _,_=>none
theorem QL:sT' 35 rswS:=by
 intro args h o ho K hK;unfold rswS at ho;split at ho<;>cases ho
 rename_i th x;obtain⟨⟨hl,ht,hs,hr⟩,hK⟩:=hK;have hK:K (.slice 1 0 (gQ th x).length 1) [some (.abs (.engine x) []),iI' (gQ th x)]:=hK
 have nilt: ∀(b:Bool) (g g2:aC Ob) (e1:ilt th 0=true∨(ilt th 0=false∧ile (x.ws.length:Int) th=true)),gQ th x=[]:=by
  intro b g g2 e;unfold gQ;rcases e with e | ⟨e,e2⟩
  ·rw [e];rfl
  ·rw [e,e2];rfl
 cases e1:ilt th 0 with
 | true=>
   have hv:=nilt true [] [] (.inl e1);rw [hv]at hK;refine QZ x 0 th hl K (fun hb=>?_) (fun hb=>?_)
   ·exact aI (fun _=>⟨⟨_,_,(aHH (cs:=[(.slot 0,.ints (some .i64))]) rfl).trans (I3 x 0 _ [] hl (dA hl) hb),hK⟩⟩) (fun e=>by rw [e1]at e;cases e)
   ·exact aI (fun _=>⟨⟨_,_,(aHH (cs:=[(.slot 0,.ints (some .i64))]) rfl).trans (I4 x 0 _ [] hl (dA hl) hb),hK⟩⟩) (fun e=>by rw [e1]at e;cases e)
 | false=>
   cases e2:ile (x.ws.length:Int) th with
   | true=>
     have hv:=nilt true [] [] (.inr ⟨e1,e2⟩);rw [hv]at hK;refine QZ x 0 th hl K (fun hb=>?_) (fun hb=>?_)
     ·exact aI (fun e=>by rw [e1]at e;cases e) (fun _=>aI (fun _=>⟨⟨_,_,(aHH (cs:=[(.slot 0,.ints (some .i64))]) rfl).trans (I3 x 0 _ [] hl (dA hl) hb),hK⟩⟩) (fun e=>by rw [e2]at e;cases e))
     ·exact aI (fun e=>by rw [e1]at e;cases e) (fun _=>aI (fun _=>⟨⟨_,_,(aHH (cs:=[(.slot 0,.ints (some .i64))]) rfl).trans (I4 x 0 _ [] hl (dA hl) hb),hK⟩⟩) (fun e=>by rw [e2]at e;cases e))
   | false=>
     have hv:gQ th x=(bB x.ws th.toNat).sl :=by unfold gQ;rw [e1,e2];rfl
     have e1':=e1;have e2':=e2;rw [aU,dF']at e1';rw [cC,dF']at e2';have hi:th.toNat<x.ws.length:=by omega
     have hf:=hs _ hi;rw [hv]at hK;refine QZ x th.toNat th hi K (fun hb=>?_) (fun hb=>?_)
     ·exact aI (fun e=>by rw [e1]at e;cases e) (fun _=>aI (fun e=>by rw [e2]at e;cases e) (fun _=>⟨⟨by omega,by omega⟩,⟨hi,by omega⟩,⟨rfl,by omega⟩,⟨⟨_,_,I3 x th.toNat _ _ hi (dA hi) hb,hK⟩⟩⟩))
     ·exact aI (fun e=>by rw [e1]at e;cases e) (fun _=>aI (fun e=>by rw [e2]at e;cases e) (fun _=>⟨⟨by omega,by omega⟩,⟨hi,by omega⟩,⟨rfl,by omega⟩,⟨⟨_,_,I4 x th.toNat _ _ hi (dA hi) hb,hK⟩⟩⟩))
theorem OW(x:EGS)(i:Nat)(th:Int)(hi:i<x.ws.length)(K:AVal→aC Ob→Prop)(h0:(bB x.ws i).b =false→F5 x i (bB x.ws i) th (dS (obI tbl) 1 K))(h1:(bB x.ws i).b =true→F7 x i (bB x.ws i) th (dS (obI tbl) 1 K)):
 cT' 69 [.ptr 0 0,.I th] (egH x) K:=by
 refine aHD ?_;cases hb:(bB x.ws i).b with
 | false=>exact aHy (I5 hi hb) (aB.keep (F6 x i _ th _ (h0 hb)))
 | true=>exact aHy (I6 hi hb) (aB.keep (F8 x i _ th _ (h1 hb)))
def rhdS:aH Ob:=fun args h=>match args,h with
 | [.ptr 0 0,.int .i64 th],[some (.abs (.engine x) [])]=>some (.pre (jA x) (.ret (.slice 1 0 (gI th x).length 1) [some (.abs (.engine x) []),iI' (gI th x)]))
 | _,_=>none
theorem QF:sT' 69 rhdS:=by
 intro args h o ho K hK;unfold rhdS at ho;split at ho<;>cases ho
 rename_i th x;obtain⟨⟨hl,ht,hs,hr⟩,hK⟩:=hK;have hK:K (.slice 1 0 (gI th x).length 1) [some (.abs (.engine x) []),iI' (gI th x)]:=hK
 have nilt: ∀(b:Bool) (g g2:aC Ob) (e1:ilt th 0=true∨(ilt th 0=false∧ile (x.ws.length:Int) th=true)),gI th x=[]:=by
  intro b g g2 e;unfold gI;rcases e with e | ⟨e,e2⟩
  ·rw [e];rfl
  ·rw [e,e2];rfl
 cases e1:ilt th 0 with
 | true=>
   have hv:=nilt true [] [] (.inl e1);rw [hv]at hK;refine OW x 0 th hl K (fun hb=>?_) (fun hb=>?_)
   ·exact aI (fun _=>⟨⟨_,_,(aHH (cs:=[(.slot 0,.ints (some .i64))]) rfl).trans (aA4 x 0 _ [] hl (dA hl) hb),hK⟩⟩) (fun e=>by rw [e1]at e;cases e)
   ·exact aI (fun _=>⟨⟨_,_,(aHH (cs:=[(.slot 0,.ints (some .i64))]) rfl).trans (aA5 x 0 _ [] hl (dA hl) hb),hK⟩⟩) (fun e=>by rw [e1]at e;cases e)
 | false=>
   cases e2:ile (x.ws.length:Int) th with
   | true=>
     have hv:=nilt true [] [] (.inr ⟨e1,e2⟩);rw [hv]at hK;refine OW x 0 th hl K (fun hb=>?_) (fun hb=>?_)
     ·exact aI (fun e=>by rw [e1]at e;cases e) (fun _=>aI (fun _=>⟨⟨_,_,(aHH (cs:=[(.slot 0,.ints (some .i64))]) rfl).trans (aA4 x 0 _ [] hl (dA hl) hb),hK⟩⟩) (fun e=>by rw [e2]at e;cases e))
     ·exact aI (fun e=>by rw [e1]at e;cases e) (fun _=>aI (fun _=>⟨⟨_,_,(aHH (cs:=[(.slot 0,.ints (some .i64))]) rfl).trans (aA5 x 0 _ [] hl (dA hl) hb),hK⟩⟩) (fun e=>by rw [e2]at e;cases e))
   | false=>
     have hv:gI th x=(lQ (bB x.ws th.toNat).st.sp (bB x.ws th.toNat).st.R):=by unfold gI;rw [e1,e2];rfl
     have e1':=e1;have e2':=e2;rw [aU,dF']at e1';rw [cC,dF']at e2';have hi:th.toNat<x.ws.length:=by omega
     have hf:=hr _ hi;rw [hv]at hK;refine OW x th.toNat th hi K (fun hb=>?_) (fun hb=>?_)
     ·exact aI (fun e=>by rw [e1]at e;cases e) (fun _=>aI (fun e=>by rw [e2]at e;cases e) (fun _=>⟨⟨by omega,by omega⟩,⟨hi,by omega⟩,⟨rfl,hf⟩,⟨⟨_,_,aA4 x th.toNat _ _ hi (dA hi) hb,hK⟩⟩⟩))
     ·exact aI (fun e=>by rw [e1]at e;cases e) (fun _=>aI (fun e=>by rw [e2]at e;cases e) (fun _=>⟨⟨by omega,by omega⟩,⟨hi,by omega⟩,⟨rfl,hf⟩,⟨⟨_,_,aA5 x th.toNat _ _ hi (dA hi) hb,hK⟩⟩⟩))
def estS:aH Ob:=fun args h=>match args,h with
 | [.ptr 0 0],[some (.abs (.engine x) [])]=>some (.pre True (.ret (.I x.k) (egH x)))
 | _,_=>none
theorem OA:sT' 34 estS:=by
 intro args h o ho K hK;unfold estS at ho;split at ho<;>cases ho
 rename_i x;obtain⟨_,hK⟩:=hK;have hK:K (.I x.k) (egH x):=hK;refine aHD ?_;refine aHy (h2:=egG x) (aR.unpack (.engine x) 0 0 (egG x) [] rfl rfl rfl rfl) ?_;refine aB.keep (LC x _ ?_);exact⟨⟨_,_,d7 1 (Nat.le_refl 1) _ rfl x,hK⟩⟩
def elyS:aH Ob:=fun args h=>match args,h with
 | [.ptr 0 0],[some (.abs (.engine x) [])]=>some (.pre True (.ret (.agg [.I x.s.t,.I x.s.n]) (egH x)))
 | _,_=>none
theorem NU:sT' 38 elyS:=by
 intro args h o ho K hK;unfold elyS at ho;split at ho<;>cases ho
 rename_i x;obtain⟨_,hK⟩:=hK;have hK:K (.agg [.I x.s.t,.I x.s.n]) (egH x):=hK;refine aHD ?_;refine aHy (h2:=egG x) (aR.unpack (.engine x) 0 0 (egG x) [] rfl rfl rfl rfl) ?_;refine aB.keep (K9 x _ ?_);exact⟨⟨_,_,d7 1 (Nat.le_refl 1) _ rfl x,hK⟩⟩
def epeS:aH Ob:=fun args h=>match args,h with
 | [.ptr 0 0,.int .i64 a],[some (.abs (.engine x) [])]=>some (.pre True (.ret (.int .u64 (aF x.s.xs a)) (egH x)))
 | _,_=>none
theorem NY:sT' 37 epeS:=by
 intro args h o ho K hK;unfold epeS at ho;split at ho<;>cases ho
 rename_i a x;obtain⟨_,hK⟩:=hK;have hK:K (.int .u64 (aF x.s.xs a)) (egH x):=hK;refine aHD ?_;refine aHy (h2:=egG x) (aR.unpack (.engine x) 0 0 (egG x) [] rfl rfl rfl rfl) ?_;refine aB.keep (LB x a _ ?_);exact⟨⟨rfl,trivial⟩,⟨⟨_,_,d7 1 (Nat.le_refl 1) _ rfl x,hK⟩⟩⟩
noncomputable def EU3:=((((((((EU2.addS 33 rlfS QH).addS 32 rtkS QM).addS 35 rswS QL).addS 69 rhdS QF).addS 34 estS OA).addS 38 elyS NU).addS 37 epeS NY))
def yH(xs:List Int)(nd:Int):Nat→Int→List Int→List Int
 | 0,_,out=>out
 | k+1,n,out=>bif bY nd n then bif !hasB out n then yH xs nd k (aA (aF xs n) 10 9) (out++ [n])else out else out
def ndF(xs:List Int)(nd hd:Int):List Int:=yH xs nd (nd.toNat+1) (aA (aF xs (nd+1+hd)) 10 9) []
def i9(nd:Int)(out:List Int):Nat:=((List.range nd.toNat).filter (fun(j:Nat)=>!hasB out ((j:Int)+1))).length
theorem FQ{p q:Nat→Bool}(hpq: ∀j,p j=true→q j=true)(l:List Nat):(l.filter p).length ≤(l.filter q).length :=by
 induction l with
 | nil=>exact Nat.le_refl _
 | cons b l ih=>
   simp only [List.filter_cons];cases hp:p b with
   | true=>rw [hpq b hp];simp;exact ih
   | false=>cases hq:q b<;>simp<;>omega
theorem FR{p q:Nat→Bool}(l:List Nat)(hpq: ∀j,p j=true→q j=true)(h: ∃j,j∈l∧q j=true∧p j=false):(l.filter p).length <(l.filter q).length :=by
 induction l with
 | nil=>obtain⟨j,hj,_⟩:=h;cases hj
 | cons a l ih=>
   have hle:=FQ hpq l;simp only [List.filter_cons];obtain⟨j,hj,hq,hp⟩:=h;rcases List.mem_cons.1 hj with rfl | hj
   ·rw [hp,hq];simp;omega
   ·have:=ih ⟨j,hj,hq,hp⟩;cases hp2:p a with
    | true=>rw [hpq a hp2];simp;exact this
    | false=>cases hq2:q a<;>simp<;>omega
theorem KJ{nd n:Int}{out:List Int}(h1:bY nd n=true)(h2:hasB out n=false):i9 nd (out++ [n])<i9 nd out:=by
 have h1:=uT.1 h1;have h2:n∉out:=by intro hm;rw [jP.2 hm]at h2;cases h2
 unfold i9;refine FR _ (fun j hj=>?_) ⟨(n - 1).toNat,?_,?_,?_⟩
 ·cases e:hasB out ((j:Int)+1)with
  | false=>rfl
  | true=>
    have:hasB (out++ [n]) ((j:Int)+1)=true:=jP.2 (List.mem_append_left _ (jP.1 e));rw [this]at hj;cases hj
 ·rw [List.mem_range];omega
 ·have e:(((n - 1).toNat :Nat):Int)+1=n:=by omega
  rw [e];cases e2:hasB out n with
  | false=>rfl
  | true=>exact absurd (jP.1 e2) h2
 ·have e:(((n - 1).toNat :Nat):Int)+1=n:=by omega
  rw [e,jP.2 (List.mem_append_right _ (List.mem_singleton.2 rfl))];rfl
theorem CS(nd:Int):i9 nd []≤nd.toNat:=by
 unfold i9;exact Nat.le_trans (List.length_filter_le _ _) (by simp)
structure aE5 (xs:List Int) (nd:Int) (R:List Int) (x:Int×List Int):Prop where
 hb:(x.2.length:Int)≤nd.toNat
 ex: ∃k,i9 nd x.2<k∧yH xs nd k x.1 x.2=R
 hc:x.2.length+i9 nd x.2≤nd.toNat
def RY(s:MS)(lt ln:Int)(R:List Int):Hint Ob:= {X:=Int×List Int,st:=fun x=>([.ptr 0 0,.O,.O,.O,.ptr 2 0,.O,.O,.slice 3 0 x.2.length 1,.I x.1]++List.replicate 26 .O,[bD 1 s,bE s,cE' [.I lt,.I ln],iI' x.2]),ok:=aE5 s.xs ln R,mu:=fun x=>i9 ln x.2,keep:=[0,4,7,8],casts:=[(.slot 7,.ints (some .i64))] }
abbrev w50(s:MS):Option (aJ Ob):=cE' [.I s.1,.I s.2,.slice 1 0 s.3.length 1,.I s.4,.I s.5,.I s.6,.int .u64 s.7,.int .u64 s.8,.bool s.9]
def aCp(s:MS)(lt ln hd:Int)(R:List Int)(K:AVal→aC Ob→Prop):Prop:=(((0:Int)≤ln∧ln≤(100000:Int))∧(-1000000:Int)≤hd∧hd≤(1000000:Int))∧(lE' s.3∧True)∧True∧cW (RY s lt ln R) (Hint.ok (RY s lt ln R)) (.ptr 0 0::.O::.O::.O::.ptr 2 0::.O::.O::.slice 3 0 0 1::.I (aA (aF s.3 (ln+1+hd)) 10 9)::(tO' 26 [])) [w50 s,some (.ints (some .u64) s.3),cE' [.I lt,.I ln],some (.ints (some .i64) [])]∧ ∀(x:(Int×List Int)),aE5 s.3 ln R x→True∧bif bY ln x.1 then(lE' x.2∧x.2.length≤(4294967296:Nat))∧bif !hasB x.2 x.1 then(0=0∧lE' x.2∧1=1∧x.2.length+(1:Nat)≤(4294967296:Nat))∧(lE' s.3∧True)∧True∧cW (RY s lt ln R) (fun x'=>Hint.ok (RY s lt ln R) x'∧Hint.mu (RY s lt ln R) x'<Hint.mu (RY s lt ln R) x) (.ptr 0 0::.O::.O::.O::.ptr 2 0::.O::.O::.slice 3 0 (x.2.length+1) 1::.I (aA (aF s.3 x.1) 10 9)::(tO' 26 [])) [w50 s,some (.ints (some .u64) s.3),cE' [.I lt,.I ln],iI' (x.2++ [x.1])]else K (.slice 2 0 x.2.length 1) [w50 s,some (.ints (some .u64) s.3),iI' x.2]else K (.slice 2 0 x.2.length 1) [w50 s,some (.ints (some .u64) s.3),iI' x.2]
theorem PD(s:MS)(lt ln hd:Int)(R:List Int)(K:AVal→aC Ob→Prop)(h:aCp s lt ln hd R K):cT' 132 [.ptr 0 0,.agg [.I lt,.I ln],.I hd] [bD 1 s,bE s] K:=by
 exact aHp (aD (E:=EU3) Tryz.checked.mixed (L:=fun _ _=>some (.states (RY s lt ln R))) (n:=10) (aK (by kernel_rfl) h))
end Go.Sh
