import Derived.Test.YteindpciaceeeaaGreatZSh29
set_option linter.all false
set_option maxHeartbeats 8000000
namespace Go.Sh
open Go Go.Proofs
variable [Con]
def wlS:aH Ob:=fun args h=>match args,h with
 | [.ptr 0 0],[some (.abs (.worker x) [])]=>some (.pre True (.ret (.I (W ((x.tk.length:Int) - x.en))) [some (.abs (.worker x) [])]))
 | _,_=>none
abbrev w31(x:WKS):Option (aJ Ob):=cE' [.ptr 1 0,.tslice 2 0 x.tk.length 3,.I x.en,.raw (.pointer none),.slice 3 0 x.tl.length 1,.slice 4 0 x.sl.length 1]
theorem aFL(x:WKS)(K:AVal→aC Ob→Prop)(hK:K (.I (W ((x.tk.length:Int) - x.en))) [w31 x,some (.abs (.store x.t x.n x.st) []),some (.tab cK3 x.tk),iI' x.tl,iI' x.sl]):cT' 91 [.ptr 0 0] [w31 x,some (.abs (.store x.t x.n x.st) []),some (.tab cK3 x.tk),iI' x.tl,iI' x.sl] K:=by
 refine aGz (cM' (E:=EN1) (q:=K (.I (W ((↑x.4.length:Int) - x.5))) [cE' [.ptr 1 0,.tslice 2 0 x.4.length 3,.I x.5,.N,.slice 3 0 x.8.length 1,.slice 4 0 x.9.length 1],some (.abs (.store x.1 x.2 x.3) []),some (.tab cK3 x.4),iI' x.8,iI' x.9]) (by kernel_rfl) ?_)
 exact hK
abbrev w32(x:WKS):Option (aJ Ob):=cE' [.ptr 1 0,.tslice 2 0 x.tk.length 3,.I x.en,.ptr 3 0,.slice 4 0 x.tl.length 1,.slice 5 0 x.sl.length 1]
theorem aFM(x:WKS)(K:AVal→aC Ob→Prop)(hK:K (.I (W ((x.tk.length:Int) - x.en))) [w32 x,some (.abs (.store x.t x.n x.st) []),some (.tab cK3 x.tk),some (.abs (.doer x.t x.n x.d) [1]),iI' x.tl,iI' x.sl]):cT' 91 [.ptr 0 0] [w32 x,some (.abs (.store x.t x.n x.st) []),some (.tab cK3 x.tk),some (.abs (.doer x.t x.n x.d) [1]),iI' x.tl,iI' x.sl] K:=by
 refine aGz (cM' (E:=EN1) (q:=K (.I (W ((↑x.4.length:Int) - x.5))) [cE' [.ptr 1 0,.tslice 2 0 x.4.length 3,.I x.5,.ptr 3 0,.slice 4 0 x.8.length 1,.slice 5 0 x.9.length 1],some (.abs (.store x.1 x.2 x.3) []),some (.tab cK3 x.4),some (.abs (.doer x.1 x.2 x.7) [1]),iI' x.8,iI' x.9]) (by kernel_rfl) ?_)
 exact hK
theorem aEM:sT' 91 wlS:=by
 intro args h o ho K hK;unfold wlS at ho;split at ho<;>cases ho
 rename_i x;obtain⟨ok,hK⟩:=hK;have hK:K (.I (W ((x.tk.length:Int) - x.en))) [some (.abs (.worker x) [])]:=hK;refine aGM ?_;cases e:x.b with
 | false=>
   refine aGH (h2:=mN x) (aS.unpack (.worker x) 0 0 (mN x) [] rfl (congrArg (Prod.mk 0) (pB e)) rfl rfl) ?_;refine aFL x _ ⟨⟨_,_,aF.pack [some (.abs (.worker x) [])] (.worker x) 0 0 (mN x) [] (by kernel_rfl) rfl (congrArg (Prod.mk 0) (pB e)) (by kernel_rfl),hK⟩⟩
 | true=>
   refine aGH (h2:=pW x) (aS.unpack (.worker x) 0 0 (pW x) [] rfl (congrArg (Prod.mk 0) (vN e)) rfl rfl) ?_;refine aFM x _ ⟨⟨_,_,aF.pack [some (.abs (.worker x) [])] (.worker x) 0 0 (pW x) [] (by kernel_rfl) rfl (congrArg (Prod.mk 0) (vN e)) (by kernel_rfl),hK⟩⟩
noncomputable def EW1:=EN1.addS 91 wlS aEM
structure WK1 where
 t:Int
 n:Int
 st:STS
 tk:List (List Int)
 en:Int
 d:DOS
 tl:List Int
 sl:List Int
instance:Inhabited WK1:=⟨⟨0,0,⟨0,0,[]⟩,[],0,eK,[],[]⟩⟩
abbrev HV(x:WK1):aC Ob:=[cE' [.ptr 1 0,.tslice 2 0 x.tk.length 3,.I x.en,.ptr 3 0,.slice 4 0 x.tl.length 1,.slice 5 0 x.sl.length 1],some (.abs (.store x.t x.n x.st) []),some (.tab tkK x.tk),some (.abs (.doer x.t x.n x.d) [1]),iI' x.tl,iI' x.sl]
def aEL(x:WKS):WK1:=⟨x.t,x.n,x.st,x.tk,x.en,x.d,x.tl,x.sl⟩
def wbP(v:AVal)(g:aC Ob):Option (Prop×WK1):=match v,g with
 | .bool true,[some (.cells [.ptr 1 0,.tslice 2 0 k 3,.int .i64 en,.ptr 3 0,.slice 4 0 a 1,.slice 5 0 b 1]),some (.abs (.store t n st) []),some (.tab [some .i64,some .i64,some .i64] tk),some (.abs (.doer t1 n1 d) [1]),some (.ints (some .i64) tl),some (.ints (some .i64) sl)]=>some (k=tk.length∧a=tl.length∧b=sl.length∧t1=t∧n1=n,⟨t,n,st,tk,en,d,tl,sl⟩)
 | _,_=>none
theorem aCv:bV (obI tbl) 1 wbP (fun y=>.ret (.bool true) (HV y)):=by
 intro v g p x hp hq K hK;unfold wbP at hp;split at hp
 case h_2=>cases hp
 simp only [sI',pI']at hp;obtain⟨rfl,rfl⟩:=hp;obtain⟨rfl,rfl,rfl,rfl,rfl⟩:=hq;exact⟨⟨_,_,aGL _ _ _,hK⟩⟩
abbrev w33(x:WKS):=List.getD x.4 (0+Int.toNat x.5) []
def LE(tr:Int)(x:WKS):Tr WK1:=.pre ((0:Int)≤x.5∧x.5<(↑x.4.length:Int)) (.pre (0+Int.toNat x.5<x.4.length) (.pre (MP x.1 x.2 (List.headD (w33 x) 0) (List.headD (List.tail (w33 x)) 0) (List.headD (List.tail (List.tail (w33 x))) 0) tr x.3∧True) (.pre (0=0∧lE' x.8∧1=1∧x.8.length+(1:Nat)≤(4294967296:Nat)) (.pre (lE' x.4∧x.8.length+(1:Nat)=List.length (x.8++ [0])∧lE' x.9∧x.1=x.1∧x.2=x.2) (.ret {x with st:=(dqNF x.1 x.2 (List.headD (w33 x) 0) (List.headD (List.tail (w33 x)) 0) (List.headD (List.tail (List.tail (w33 x))) 0) tr x.3).2,d:=(dqNF x.1 x.2 (List.headD (w33 x) 0) (List.headD (List.tail (w33 x)) 0) (List.headD (List.tail (List.tail (w33 x))) 0) tr x.3).1,tl:=x.8++ [0],sl:=x.9})))))
theorem XF(tr:Int)(x:WKS)(K:WK1→Prop)(h:(LE tr x).run K):cT' 95 [.ptr 0 0,.I tr] [cE' [.ptr 1 0,.tslice 2 0 x.tk.length 3,.I x.en,.raw (.pointer none),.slice 3 0 x.tl.length 1,.slice 4 0 x.sl.length 1],some (.abs (.store x.t x.n x.st) []),some (.tab cK3 x.tk),iI' x.tl,iI' x.sl] (bP 1 0 [] [] wbP K):=by
 exact cM' (E:=EW1) (by kernel_rfl) h
theorem aFK(tr:Int)(x:WKS)(K:AVal→aC Ob→Prop)(hK:K (.bool false) (pW x)):cT' 95 [.ptr 0 0,.I tr] [cE' [.ptr 1 0,.tslice 2 0 x.tk.length 3,.I x.en,.ptr 3 0,.slice 4 0 x.tl.length 1,.slice 5 0 x.sl.length 1],some (.abs (.store x.t x.n x.st) []),some (.tab cK3 x.tk),some (.abs (.doer x.t x.n x.d) [1]),iI' x.tl,iI' x.sl] K:=by
 refine aGz (cM' (E:=EW1) (q:=K (.bool false) [cE' [.ptr 1 0,.tslice 2 0 x.4.length 3,.I x.5,.ptr 3 0,.slice 4 0 x.8.length 1,.slice 5 0 x.9.length 1],some (.abs (.store x.1 x.2 x.3) []),some (.tab cK3 x.4),some (.abs (.doer x.1 x.2 x.7) [1]),iI' x.8,iI' x.9]) (by kernel_rfl) ?_)
 exact hK
def wbF(tr:Int)(x:WKS):WK1:=bif x.b then aEL x else(LE tr x).val
def QV(tr:Int)(x:WKS):Prop:=bif x.b then True else(LE tr x).ok
def wbS:aH Ob:=fun args h=>match args,h with
 | [.ptr 0 0,.int .i64 tr],[some (.abs (.worker x) [])]=>some (.pre (QV tr x) (.ret (.bool (!x.b)) (HV (wbF tr x))))
 | _,_=>none
theorem aEJ:sT' 95 wbS:=by
 intro args h o ho K hK;unfold wbS at ho;split at ho<;>cases ho
 rename_i tr x;obtain⟨ok,hK⟩:=hK;have hK:K (.bool (!x.b)) (HV (wbF tr x)):=hK;unfold wbF at hK;unfold QV at ok;cases e:x.b with
 | false=>
   rw [e]at ok hK;exact aGB (root:=0) (pos:=[]) (cs:=[]) (parse:=wbP) (fin:=fun y=>.ret (.bool true) (HV y)) aCv (aS.unpack (.worker x) 0 0 (mN x) [] rfl (congrArg (Prod.mk 0) (pB e)) rfl rfl) (XF tr x _ (aGG ok hK))
 | true=>
   rw [e]at hK;exact aGH (h2:=pW x) (aS.unpack (.worker x) 0 0 (pW x) [] rfl (congrArg (Prod.mk 0) (vN e)) rfl rfl) (aFK tr x K hK)
noncomputable def EW2:=EW1.addS 95 wbS aEJ
structure WkO where
 code:Int
 okk:Bool
 val:Int
 d:Bool
 x:WKS
 s:MS
instance:Inhabited WkO:=⟨⟨0,false,0,false,default,⟨0,0,[],0,0,0,0,0,false⟩⟩⟩
abbrev LP(y:WkO):aC Ob:=[some (.abs (.worker y.x) []),none,none,none,none,none,bB 7 y.s,bC y.s]
abbrev XH(y:WkO):AVal:=.tup [.agg [.I y.code,.bool y.okk,.I y.val],.bool y.d]
def aCA(v:AVal)(g:aC Ob):Option (Prop×WkO):=match v,g with
 | .tup [.agg [.int .i64 code,.bool okk,.int .i64 val],.bool dn],[some (.cells [.ptr 1 0,.tslice 2 0 k 3,.int .i64 en,.ptr 3 0,.slice 4 0 a 1,.slice 5 0 b 1]),some (.abs (.store t n st) []),some (.tab [some .i64,some .i64,some .i64] tk),some (.abs (.doer t1 n1 d) [1]),some (.ints (some .i64) tl),some (.ints (some .i64) sl),e1,e2]=>(match cP 7 [e1,e2]with
   | some (l,s)=>some (k=tk.length∧a=tl.length∧b=sl.length∧t1=t∧n1=n∧l=s.xs.length,⟨code,okk,val,dn,⟨t,n,st,tk,en,true,d,tl,sl⟩,s⟩)
   | none=>none)
 | _,_=>none
def aCz(v:AVal)(g:aC Ob):Option (Prop×WkO):=match v,g with
 | .tup [.agg [.int .i64 code,.bool okk,.int .i64 val],.bool dn],[some (.cells [.ptr 1 0,.tslice 2 0 k 3,.int .i64 en,.raw (.pointer none),.slice 4 0 a 1,.slice 5 0 b 1]),some (.abs (.store t n st) []),some (.tab [some .i64,some .i64,some .i64] tk),_,some (.ints (some .i64) tl),some (.ints (some .i64) sl),e1,e2]=>(match cP 7 [e1,e2]with
   | some (l,s)=>some (k=tk.length∧a=tl.length∧b=sl.length∧l=s.xs.length,⟨code,okk,val,dn,⟨t,n,st,tk,en,false,eK,tl,sl⟩,s⟩)
   | none=>none)
 | _,_=>none
def aCB(v:AVal)(g:aC Ob):Option (Prop×WkO):=match v,g with
 | .tup [.agg [.int .i64 code,.bool okk,.int .i64 val],.bool dn],[some (.cells [.ptr 1 0,.tslice 2 0 k 3,.int .i64 en,.raw (.pointer none),.slice 4 0 a 1,.slice 8 0 b 1]),some (.abs (.store t n st) []),some (.tab [some .i64,some .i64,some .i64] tk),_,some (.ints (some .i64) tl),_,e1,e2,some (.ints (some .i64) sl)]=>(match cP 7 [e1,e2]with
   | some (l,s)=>some (k=tk.length∧a=tl.length∧b=sl.length∧l=s.xs.length,⟨code,okk,val,dn,⟨t,n,st,tk,en,false,eK,tl,sl⟩,s⟩)
   | none=>none)
 | _,_=>none
def wsP(v:AVal)(g:aC Ob):Option (Prop×WkO):=match aCA v g with
 | some r=>some r
 | none=>(match aCz v g with
   | some r=>some r
   | none=>aCB v g)
theorem XL:bV (obI tbl) 8 aCA (fun y=>.ret (XH y) (LP y)):=by
 intro v g p x hp hq K hK;unfold aCA at hp;split at hp
 case h_2=>cases hp
 rename_i code okk val dn k en a b t n st tk t1 n1 d tl sl e1 e2;split at hp
 case h_2=>cases hp
 rename_i l s hm;simp only [sI',pI']at hp;obtain⟨rfl,rfl⟩:=hp;obtain⟨rfl,rfl,rfl,rfl,rfl,hl⟩:=hq;have hh:=bD hm hl;cases hh;exact⟨⟨_,_,((aF.move 1 (of_decide_eq_true rfl)).trans ((aF.move 2 (of_decide_eq_true rfl)).trans ((aF.move 3 (of_decide_eq_true rfl)).trans ((aF.move 4 (of_decide_eq_true rfl)).trans ((aF.move 5 (of_decide_eq_true rfl)).trans ((aGF (v2:=XH ⟨code,okk,val,dn,⟨t1,n1,st,tk,en,true,d,tl,sl⟩,s⟩) (g2:=aM (LP ⟨code,okk,val,dn,⟨t1,n1,st,tk,en,true,d,tl,sl⟩,s⟩) 0 0 (pW ⟨t1,n1,st,tk,en,true,d,tl,sl⟩) []) (by kernel_rfl) (by kernel_rfl)).trans (aF.pack (LP ⟨code,okk,val,dn,⟨t1,n1,st,tk,en,true,d,tl,sl⟩,s⟩) (.worker ⟨t1,n1,st,tk,en,true,d,tl,sl⟩) 0 0 (pW ⟨t1,n1,st,tk,en,true,d,tl,sl⟩) [] rfl rfl (congrArg (Prod.mk 0) (vN rfl)) (by kernel_rfl)))))))),hK⟩⟩
theorem XK:bV (obI tbl) 8 aCz (fun y=>.ret (XH y) (LP y)):=by
 intro v g p x hp hq K hK;unfold aCz at hp;split at hp
 case h_2=>cases hp
 rename_i code okk val dn k en a b t n st tk e3 tl sl e1 e2;split at hp
 case h_2=>cases hp
 rename_i l s hm;simp only [sI',pI']at hp;obtain⟨rfl,rfl⟩:=hp;obtain⟨rfl,rfl,rfl,hl⟩:=hq;have hh:=bD hm hl;cases hh;exact⟨⟨_,_,((aF.weak (jZ _ 3 none trivial)).trans ((aF.move 1 (of_decide_eq_true rfl)).trans ((aF.move 2 (of_decide_eq_true rfl)).trans ((aF.move 4 (of_decide_eq_true rfl)).trans ((aF.move 5 (of_decide_eq_true rfl)).trans ((aGF (v2:=XH ⟨code,okk,val,dn,⟨t,n,st,tk,en,false,eK,tl,sl⟩,s⟩) (g2:=aM (LP ⟨code,okk,val,dn,⟨t,n,st,tk,en,false,eK,tl,sl⟩,s⟩) 0 0 (mN ⟨t,n,st,tk,en,false,eK,tl,sl⟩) []) (by kernel_rfl) (by kernel_rfl)).trans (aF.pack (LP ⟨code,okk,val,dn,⟨t,n,st,tk,en,false,eK,tl,sl⟩,s⟩) (.worker ⟨t,n,st,tk,en,false,eK,tl,sl⟩) 0 0 (mN ⟨t,n,st,tk,en,false,eK,tl,sl⟩) [] rfl rfl (congrArg (Prod.mk 0) (pB rfl)) (by kernel_rfl)))))))),hK⟩⟩
theorem XM:bV (obI tbl) 8 aCB (fun y=>.ret (XH y) (LP y)):=by
 intro v g p x hp hq K hK;unfold aCB at hp;split at hp
 case h_2=>cases hp
 rename_i code okk val dn k en a b t n st tk e3 tl e4 e1 e2 sl;split at hp
 case h_2=>cases hp
 rename_i l s hm;simp only [sI',pI']at hp;obtain⟨rfl,rfl⟩:=hp;obtain⟨rfl,rfl,rfl,hl⟩:=hq;have hh:=bD hm hl;cases hh;exact⟨⟨_,_,((aF.weak (jZ _ 3 none trivial)).trans ((aF.weak (jZ _ 5 none trivial)).trans ((aF.move 1 (of_decide_eq_true rfl)).trans ((aF.move 2 (of_decide_eq_true rfl)).trans ((aF.move 4 (of_decide_eq_true rfl)).trans ((aF.move 8 (of_decide_eq_true rfl)).trans ((aF.pick [0,1,2,3,4,5,6,7,9,10,11,12] rfl).trans ((aGF (v2:=XH ⟨code,okk,val,dn,⟨t,n,st,tk,en,false,eK,tl,sl⟩,s⟩) (g2:=aM (LP ⟨code,okk,val,dn,⟨t,n,st,tk,en,false,eK,tl,sl⟩,s⟩) 0 0 (mN ⟨t,n,st,tk,en,false,eK,tl,sl⟩) []) (by kernel_rfl) (by kernel_rfl)).trans (aF.pack (LP ⟨code,okk,val,dn,⟨t,n,st,tk,en,false,eK,tl,sl⟩,s⟩) (.worker ⟨t,n,st,tk,en,false,eK,tl,sl⟩) 0 0 (mN ⟨t,n,st,tk,en,false,eK,tl,sl⟩) [] rfl rfl (congrArg (Prod.mk 0) (pB rfl)) (by kernel_rfl)))))))))),hK⟩⟩
theorem aCC:bV (obI tbl) 8 wsP (fun y=>.ret (XH y) (LP y)):=by
 intro v g p x hp hq K hK;unfold wsP at hp;split at hp
 ·rename_i r hr;cases hp;exact XL v g p x hr hq K hK
 split at hp
 ·rename_i r hr;cases hp;exact XK v g p x hr hq K hK
 exact XM v g p x hp hq K hK
abbrev w34(s:MS)(x:WK1):=tK x.1 x.2 x.6 x.3 s
abbrev w35(x:WK1):=W (List.getD x.7 (0+Int.toNat x.5*1) 0+1)
def wsT(x:WK1)(s:MS):Tr WkO:=.pre ((0:Int)≤x.5∧x.5<(↑x.7.length:Int)) (.pre (0+Int.toNat x.5*(1:Nat)<x.7.length) (.pre ((0:Int)≤x.5∧x.5<(↑x.7.length:Int)) (.pre (0+Int.toNat x.5*(1:Nat)<x.7.length) (.pre ((lE' s.3∧x.1=x.1∧x.2=x.2)∧SZ x.1 x.2 x.6 x.3 s) (.ite (w34 s x).1 (.ite (DqO.x (w34 s x)).4 (.pre (0=0∧lE' x.8∧1=1∧x.8.length+(1:Nat)≤(4294967296:Nat)) (.pre (lE' x.4∧x.7.length=List.length (List.set x.7 (0+Int.toNat x.5*1) (w35 x))∧x.8.length+(1:Nat)=List.length (x.8++ [x.5])∧lE' (DqO.s (w34 s x)).3) (.ret {code:=(DqO.x (w34 s x)).1,okk:=(DqO.x (w34 s x)).2,val:=(DqO.x (w34 s x)).3,d:=true,x:= {x with st:=(w34 s x).3,en:=W (x.5+1),b:=false,d:=eK,tl:=List.set x.7 (0+Int.toNat x.5*1) (w35 x),sl:=x.8++ [x.5] },s:=(w34 s x).4}))) (.pre (lE' x.4∧x.7.length=List.length (List.set x.7 (0+Int.toNat x.5*1) (w35 x))∧lE' x.8∧lE' (DqO.s (w34 s x)).3) (.ret {code:=(DqO.x (w34 s x)).1,okk:=(DqO.x (w34 s x)).2,val:=(DqO.x (w34 s x)).3,d:=true,x:= {x with st:=(w34 s x).3,en:=W (x.5+1),b:=false,d:=eK,tl:=List.set x.7 (0+Int.toNat x.5*1) (w35 x),sl:=x.8},s:=(w34 s x).4}))) (.pre (lE' x.4∧x.7.length=List.length (List.set x.7 (0+Int.toNat x.5*1) (w35 x))∧lE' x.8∧x.1=x.1∧x.2=x.2∧lE' (DqO.s (w34 s x)).3) (.ret {code:=0,okk:=false,val:=0,d:=false,x:= {x with st:=(w34 s x).3,b:=true,d:=(w34 s x).2,tl:=List.set x.7 (0+Int.toNat x.5*1) (w35 x),sl:=x.8},s:=(w34 s x).4})))))))
theorem aCD(x:WK1)(s:MS)(K:WkO→Prop)(h:(wsT x s).run K):cT' 97 [.ptr 0 0,.ptr 6 0] [cE' [.ptr 1 0,.tslice 2 0 x.tk.length 3,.I x.en,.ptr 3 0,.slice 4 0 x.tl.length 1,.slice 5 0 x.sl.length 1],some (.abs (.store x.t x.n x.st) []),some (.tab cK3 x.tk),some (.abs (.doer x.t x.n x.d) [1]),iI' x.tl,iI' x.sl,bB 7 s,bC s] (bP 8 0 [] [] wsP K):=by
 exact cM' (E:=EW2) (by kernel_rfl) h
def wsF(x:WK1)(s:MS):WkO:=(wsT x s).val
def XJ(x:WK1)(s:MS):Prop:=(wsT x s).ok
def wsS:aH Ob:=fun args h=>match args,h with
 | [.ptr 0 0,.ptr 6 0],[some (.cells [.ptr 1 0,.tslice 2 0 k 3,.int .i64 en,.ptr 3 0,.slice 4 0 a 1,.slice 5 0 b 1]),some (.abs (.store t n st) []),some (.tab [some .i64,some .i64,some .i64] tk),some (.abs (.doer t1 n1 d) [1]),some (.ints (some .i64) tl),some (.ints (some .i64) sl),e1,e2]=>(match cP 7 [e1,e2]with
   | some (l,s)=>some (.pre ((k=tk.length∧a=tl.length∧b=sl.length∧t1=t∧n1=n∧l=s.xs.length)∧XJ ⟨t,n,st,tk,en,d,tl,sl⟩ s) (.ret (XH (wsF ⟨t,n,st,tk,en,d,tl,sl⟩ s)) (LP (wsF ⟨t,n,st,tk,en,d,tl,sl⟩ s))))
   | none=>none)
 | _,_=>none
theorem aEP:sT' 97 wsS:=by
 intro args h o ho K hK;unfold wsS at ho;split at ho
 case h_2=>cases ho
 rename_i k en a b t n st tk t1 n1 d tl sl e1 e2;split at ho<;>cases ho
 rename_i l s hm;obtain⟨⟨⟨rfl,rfl,rfl,rfl,rfl,hl⟩,ok⟩,hK⟩:=hK;have hh:=bD hm hl;cases hh;refine aGN (root:=0) (pos:=[]) (cs:=[]) (parse:=wsP) (fin:=fun y=>.ret (XH y) (LP y)) aCC ?_;exact aCD ⟨t1,n1,st,tk,en,d,tl,sl⟩ s _ (aGG ok hK)
noncomputable def EW3:=EW2.addS 97 wsS aEP
def dtS:aH Ob:=fun args h=>match args,h with
 | [.ptr 0 0],[some (.abs (.doer t n x) [1]),some (.abs (.store t2 n2 st) [])]=>some (.pre True (.ret (.agg [.I x.sh,.I x.kd,.I x.ky]) [some (.abs (.doer t n x) [1]),some (.abs (.store t2 n2 st) [])]))
 | _,_=>none
abbrev w36(n n2:Int)(st:STS)(t t2:Int)(x:DOS):aC Ob:=[some (.abs (.doer t n x) [1]),some (.abs (.store t2 n2 st) [])]
abbrev w37(x:DOS):List AVal:=[.I x.sh,.I x.kd,.I x.ky]
theorem aDm(t n t2 n2:Int)(x:DOS)(st:STS)(K:AVal→aC Ob→Prop)(hK:K (.agg (w37 x)) (aM (w36 n n2 st t t2 x) 0 1 (fJ t n x) [1])):cT' 96 [.ptr 0 0] (aM (w36 n n2 st t t2 x) 0 1 (fJ t n x) [1]) K:=by
 refine aGz ?_;exact cM' (E:=EW3) (by kernel_rfl) hK
theorem aDn(t n t2 n2:Int)(x:DOS)(st:STS)(K:AVal→aC Ob→Prop)(hK:K (.agg (w37 x)) (aM (w36 n n2 st t t2 x) 0 1 (fK t n x) [1])):cT' 96 [.ptr 0 0] (aM (w36 n n2 st t t2 x) 0 1 (fK t n x) [1]) K:=by
 refine aGz ?_;exact cM' (E:=EW3) (by kernel_rfl) hK
theorem aDo(t n t2 n2:Int)(x:DOS)(st:STS)(K:AVal→aC Ob→Prop)(hK:K (.agg (w37 x)) (aM (w36 n n2 st t t2 x) 0 1 (fL t n x) [1])):cT' 96 [.ptr 0 0] (aM (w36 n n2 st t t2 x) 0 1 (fL t n x) [1]) K:=by
 refine aGz ?_;exact cM' (E:=EW3) (by kernel_rfl) hK
theorem aDp(t n t2 n2:Int)(x:DOS)(st:STS)(K:AVal→aC Ob→Prop)(hK:K (.agg (w37 x)) (aM (w36 n n2 st t t2 x) 0 1 (fM t n x) [1])):cT' 96 [.ptr 0 0] (aM (w36 n n2 st t t2 x) 0 1 (fM t n x) [1]) K:=by
 refine aGz ?_;exact cM' (E:=EW3) (by kernel_rfl) hK
theorem aDq(t n t2 n2:Int)(x:DOS)(st:STS)(K:AVal→aC Ob→Prop)(hK:K (.agg (w37 x)) (aM (w36 n n2 st t t2 x) 0 1 (fN t n x) [1])):cT' 96 [.ptr 0 0] (aM (w36 n n2 st t t2 x) 0 1 (fN t n x) [1]) K:=by
 refine aGz ?_;exact cM' (E:=EW3) (by kernel_rfl) hK
theorem aDr(t n t2 n2:Int)(x:DOS)(st:STS)(K:AVal→aC Ob→Prop)(hK:K (.agg (w37 x)) (aM (w36 n n2 st t t2 x) 0 1 (fO t n x) [1])):cT' 96 [.ptr 0 0] (aM (w36 n n2 st t t2 x) 0 1 (fO t n x) [1]) K:=by
 refine aGz ?_;exact cM' (E:=EW3) (by kernel_rfl) hK
theorem aDs(t n t2 n2:Int)(x:DOS)(st:STS)(K:AVal→aC Ob→Prop)(hK:K (.agg (w37 x)) (aM (w36 n n2 st t t2 x) 0 1 (eO t n x) [1])):cT' 96 [.ptr 0 0] (aM (w36 n n2 st t t2 x) 0 1 (eO t n x) [1]) K:=by
 refine aGz ?_;exact cM' (E:=EW3) (by kernel_rfl) hK
theorem X0(t n t2 n2:Int)(x:DOS)(st:STS)(K:AVal→aC Ob→Prop)(hK:K (.agg (w37 x)) (aM (w36 n n2 st t t2 x) 0 1 (dH t n x) [1])):cT' 96 [.ptr 0 0] (aM (w36 n n2 st t t2 x) 0 1 (dH t n x) [1]) K:=by
 refine aGz ?_;exact cM' (E:=EW3) (by kernel_rfl) hK
theorem aDu(t n t2 n2:Int)(x:DOS)(st:STS)(K:AVal→aC Ob→Prop)(hK:K (.agg (w37 x)) (aM (w36 n n2 st t t2 x) 0 1 (fP t n x) [1])):cT' 96 [.ptr 0 0] (aM (w36 n n2 st t t2 x) 0 1 (fP t n x) [1]) K:=by
 refine aGz ?_;exact cM' (E:=EW3) (by kernel_rfl) hK
theorem aFf(t n t2 n2:Int)(x:DOS)(st:STS)(K:AVal→aC Ob→Prop)(hK:K (.agg (w37 x)) (aM (w36 n n2 st t t2 x) 0 1 (mA t n x) [1])):cT' 96 [.ptr 0 0] (aM (w36 n n2 st t t2 x) 0 1 (mA t n x) [1]) K:=by
 refine aGz ?_;exact cM' (E:=EW3) (by kernel_rfl) hK
theorem aDt:sT' 96 dtS:=by
 intro args h o ho K hK;unfold dtS at ho;split at ho<;>cases ho
 rename_i t n x t2 n2 st;obtain⟨_,hK⟩:=hK;have hK:K (.agg [.I x.sh,.I x.kd,.I x.ky]) [some (.abs (.doer t n x) [1]),some (.abs (.store t2 n2 st) [])]:=hK;refine aGM ?_
 by_cases e0:x.at'=0
 ·refine aGH (aS.unpack (.doer t n x) 0 1 (eO t n x) [1] rfl (congrArg (Prod.mk 1) (qF e0)) (by kernel_rfl) rfl) ?_
  exact aDs t n t2 n2 x st _ ⟨⟨_,_,aF.pack [some (.abs (.doer t n x) [1]),some (.abs (.store t2 n2 st) [])] (.doer t n x) 0 1 (eO t n x) [1] rfl rfl (congrArg (Prod.mk 1) (qF e0)) (by kernel_rfl),hK⟩⟩
 by_cases e1:x.at'=1
 ·refine aGH (aS.unpack (.doer t n x) 0 1 (dH t n x) [1] rfl (congrArg (Prod.mk 1) (tB e1)) (by kernel_rfl) rfl) ?_
  exact X0 t n t2 n2 x st _ ⟨⟨_,_,aF.pack [some (.abs (.doer t n x) [1]),some (.abs (.store t2 n2 st) [])] (.doer t n x) 0 1 (dH t n x) [1] rfl rfl (congrArg (Prod.mk 1) (tB e1)) (by kernel_rfl),hK⟩⟩
 by_cases e5:x.at'=5
 ·refine aGH (aS.unpack (.doer t n x) 0 1 (dH t n x) [1] rfl (congrArg (Prod.mk 1) (tF e5)) (by kernel_rfl) rfl) ?_
  exact X0 t n t2 n2 x st _ ⟨⟨_,_,aF.pack [some (.abs (.doer t n x) [1]),some (.abs (.store t2 n2 st) [])] (.doer t n x) 0 1 (dH t n x) [1] rfl rfl (congrArg (Prod.mk 1) (tF e5)) (by kernel_rfl),hK⟩⟩
 by_cases e2:x.at'=2
 ·refine aGH (aS.unpack (.doer t n x) 0 1 (fM t n x) [1] rfl (congrArg (Prod.mk 1) (tC e2)) (by kernel_rfl) rfl) ?_
  exact aDp t n t2 n2 x st _ ⟨⟨_,_,aF.pack [some (.abs (.doer t n x) [1]),some (.abs (.store t2 n2 st) [])] (.doer t n x) 0 1 (fM t n x) [1] rfl rfl (congrArg (Prod.mk 1) (tC e2)) (by kernel_rfl),hK⟩⟩
 by_cases e3:x.at'=3
 ·refine aGH (aS.unpack (.doer t n x) 0 1 (fO t n x) [1] rfl (congrArg (Prod.mk 1) (tD e3)) (by kernel_rfl) rfl) ?_
  exact aDr t n t2 n2 x st _ ⟨⟨_,_,aF.pack [some (.abs (.doer t n x) [1]),some (.abs (.store t2 n2 st) [])] (.doer t n x) 0 1 (fO t n x) [1] rfl rfl (congrArg (Prod.mk 1) (tD e3)) (by kernel_rfl),hK⟩⟩
 by_cases e4:x.at'=4
 ·refine aGH (aS.unpack (.doer t n x) 0 1 (fJ t n x) [1] rfl (congrArg (Prod.mk 1) (tE e4)) (by kernel_rfl) rfl) ?_
  exact aDm t n t2 n2 x st _ ⟨⟨_,_,aF.pack [some (.abs (.doer t n x) [1]),some (.abs (.store t2 n2 st) [])] (.doer t n x) 0 1 (fJ t n x) [1] rfl rfl (congrArg (Prod.mk 1) (tE e4)) (by kernel_rfl),hK⟩⟩
 by_cases e6:x.at'=6
 ·refine aGH (aS.unpack (.doer t n x) 0 1 (fK t n x) [1] rfl (congrArg (Prod.mk 1) (tG e6)) (by kernel_rfl) rfl) ?_
  exact aDn t n t2 n2 x st _ ⟨⟨_,_,aF.pack [some (.abs (.doer t n x) [1]),some (.abs (.store t2 n2 st) [])] (.doer t n x) 0 1 (fK t n x) [1] rfl rfl (congrArg (Prod.mk 1) (tG e6)) (by kernel_rfl),hK⟩⟩
 by_cases e7:x.at'=7
 ·refine aGH (aS.unpack (.doer t n x) 0 1 (fN t n x) [1] rfl (congrArg (Prod.mk 1) (tH e7)) (by kernel_rfl) rfl) ?_
  exact aDq t n t2 n2 x st _ ⟨⟨_,_,aF.pack [some (.abs (.doer t n x) [1]),some (.abs (.store t2 n2 st) [])] (.doer t n x) 0 1 (fN t n x) [1] rfl rfl (congrArg (Prod.mk 1) (tH e7)) (by kernel_rfl),hK⟩⟩
 by_cases e8:x.at'=8
 ·refine aGH (aS.unpack (.doer t n x) 0 1 (fL t n x) [1] rfl (congrArg (Prod.mk 1) (tI e8)) (by kernel_rfl) rfl) ?_
  exact aDo t n t2 n2 x st _ ⟨⟨_,_,aF.pack [some (.abs (.doer t n x) [1]),some (.abs (.store t2 n2 st) [])] (.doer t n x) 0 1 (fL t n x) [1] rfl rfl (congrArg (Prod.mk 1) (tI e8)) (by kernel_rfl),hK⟩⟩
 by_cases e9:x.at'=9
 ·refine aGH (aS.unpack (.doer t n x) 0 1 (fP t n x) [1] rfl (congrArg (Prod.mk 1) (tJ e9)) (by kernel_rfl) rfl) ?_
  exact aDu t n t2 n2 x st _ ⟨⟨_,_,aF.pack [some (.abs (.doer t n x) [1]),some (.abs (.store t2 n2 st) [])] (.doer t n x) 0 1 (fP t n x) [1] rfl rfl (congrArg (Prod.mk 1) (tJ e9)) (by kernel_rfl),hK⟩⟩
 refine aGH (aS.unpack (.doer t n x) 0 1 (mA t n x) [1] rfl (congrArg (Prod.mk 1) (uE ⟨e0,e1,e5,e2,e3,e4,e6,e7,e8,e9⟩)) (by kernel_rfl) rfl) ?_
 exact aFf t n t2 n2 x st _ ⟨⟨_,_,aF.pack [some (.abs (.doer t n x) [1]),some (.abs (.store t2 n2 st) [])] (.doer t n x) 0 1 (mA t n x) [1] rfl rfl (congrArg (Prod.mk 1) (uE ⟨e0,e1,e5,e2,e3,e4,e6,e7,e8,e9⟩)) (by kernel_rfl),hK⟩⟩
noncomputable def EW4:=EW3.addS 96 dtS aDt
abbrev egH(x:EGS):aC Ob:=[some (.abs (.engine x) [])]
theorem dY(n:Nat)(hn:n≤1)(v:AVal)(hv:v.within (upto 0 1)=true)(x:EGS):aF (obI tbl) n v (egG x) v (egH x):=by
 refine aF.pack (egH x) (.engine x) 0 0 (egG x) [] (by kernel_rfl) rfl rfl ?_
 have h1:obOk 0 (egG x)=true:=by kernel_rfl
 have h2:rT (egH x) 0 []=true:=by kernel_rfl
 have h3:Nat.ble n (egH x).length =true:=Nat.ble_eq_true_of_le hn;have h4:v.within (upto 0 (egH x).length)=true:=hv;rw [h1,h2,h3,h4];rfl
def aDC(g:aC Ob):Option (Prop×EGS):=match g with
 | [some (.cells [.int .i64 sh,.int .i64 th,.int .i64 nd,.int .i64 tr,.ptr 1 0,.ptr 3 0,.slice 4 0 len 1,.int .i64 k]),e1,e2,some (.abs (.hist h) []),some (.abs (.whole ws i) [5]),some (.abs (.worker w) [])]=>(match cP 2 [e1,e2]with
   | some (l,s)=>some (len=ws.length∧i<ws.length∧l=s.xs.length,⟨sh,th,nd,tr,s,h,dL ws i w,k⟩)
   | none=>none)
 | _=>none
def aDB(g:aC Ob):Option (Prop×EGS):=match g with
 | [some (.cells [.int .i64 sh,.int .i64 th,.int .i64 nd,.int .i64 tr,.ptr 1 0,.ptr 3 0,.slice 4 0 len 1,.int .i64 k]),e1,e2,some (.abs (.hist h) []),some (.abs (.wrow ws) [])]=>(match cP 2 [e1,e2]with
   | some (l,s)=>some (len=ws.length∧l=s.xs.length,⟨sh,th,nd,tr,s,h,ws,k⟩)
   | none=>none)
 | _=>none
def egP(g:aC Ob):Option (Prop×EGS):=match aDC g with
 | some r=>some r
 | none=>aDB g
theorem AR(v:AVal)(hv:v.within (upto 0 1)=true)(hv5:lC (upto 0 5) v=v)(n:Nat)(hn:n≤1){g:aC Ob}{p:Prop}{x:EGS}(hp:egP g=some (p,x))(hq:p):aF (obI tbl) n v g v (egH x):=by
 unfold egP at hp;split at hp
 ·rename_i r hr;cases hp;unfold aDC at hr;split at hr
  case h_2=>cases hr
  rename_i sh th nd tr len k e1 e2 h ws i w;split at hr
  case h_2=>cases hr
  rename_i l s hm;simp only [sI',pI']at hr;obtain⟨rfl,rfl⟩:=hr;obtain⟨rfl,hi,hl⟩:=hq;have hh:=bD hm hl;cases hh;refine(aF.back (l:=4) (k:=5) (i:=i) (ws:=ws) (w:=w) rfl rfl (by decide) hi).trans ?_
  have hlen:ws.length=(dL ws i w).length :=by simp [dL]
  have t1:=aF.pick (I:=obI tbl) (n:=n) (v:=v) (g:=([cE' [.I sh,.I th,.I nd,.I tr,.ptr 1 0,.ptr 3 0,.slice 4 0 ws.length 1,.I k],bB 2 s,bC s,some (.abs (.hist h) []),some (.abs (.wrow (dL ws i w)) []),none]:aC Ob)) (upto 0 5) (by
   have h1:d0 (upto 0 5) 6=true:=by decide
   have h2:jG (upto 0 5) 0 n=true:=by
    match n,hn with
    | 0,_=>rfl
    | 1,_=>rfl
   show(d0 (upto 0 5) 6&&jG (upto 0 5) 0 n)=true;rw [h1,h2];rfl)
  rw [hv5]at t1;refine t1.trans ?_;have t2:=dY n hn v hv ⟨sh,th,nd,tr,s,h,dL ws i w,k⟩;refine aF.trans (aGF rfl ?_) t2;show _=[some (aJ.cells [.I sh,.I th,.I nd,.I tr,.ptr 1 0,.ptr 3 0,.slice 4 0 (dL ws i w).length 1,.I k]),_,_,_,_];rw [←hlen];rfl
 ·unfold aDB at hp;split at hp
  case h_2=>cases hp
  rename_i sh th nd tr len k e1 e2 h ws hno;split at hp
  case h_2=>cases hp
  rename_i l s hm;simp only [sI',pI']at hp;obtain⟨rfl,rfl⟩:=hp;obtain⟨rfl,hl⟩:=hq;have hh:=bD hm hl;cases hh;exact dY n hn v hv ⟨sh,th,nd,tr,s,h,ws,k⟩
def pkP(v:AVal)(g:aC Ob):Option (Prop×(Bool×EGS)):=match v with
 | .bool d=>(match egP g with
   | some (p,x)=>some (p,(d,x))
   | none=>none)
 | _=>none
theorem aBZ:bV (obI tbl) 1 pkP (fun y=>.ret (.bool y.1) (egH y.2)):=by
 intro v g p x hp hq K hK;unfold pkP at hp;split at hp
 case h_2=>cases hp
 rename_i d;split at hp
 case h_2=>cases hp
 rename_i p' x' hx;simp only [sI',pI']at hp;obtain⟨rfl,rfl⟩:=hp;exact⟨⟨_,_,AR (.bool d) rfl rfl 1 (Nat.le_refl 1) hx hq,hK⟩⟩
instance:Inhabited EGS:=⟨⟨0,0,0,0,⟨0,0,[],0,0,0,0,0,false⟩,default,[],0⟩⟩
abbrev w39(th:Int)(x:EGS):=bE x.7 (0+Int.toNat th*1)
abbrev w38(th:Int)(x:EGS):=wbF x.4 (w39 th x)
def pkT(th:Int)(x:EGS):Tr (Bool×EGS):=.ite (ilt th 0) (.pre (lE' x.7∧lE' (EGS.s x).3) (.ret (false,x))) (.ite (ile (↑x.7.length:Int) th) (.pre (lE' x.7∧lE' (EGS.s x).3) (.ret (false,x))) (.pre ((0:Int)≤th∧th<(↑x.7.length:Int)) (.pre (0+Int.toNat th*(1:Nat)<x.7.length) (.pre True (.ite (ieq (W ((↑(List.length (w39 th x).4):Int) - (w39 th x).5)) 0) (.pre (lE' x.7∧0+Int.toNat th*(1:Nat)<x.7.length∧lE' (EGS.s x).3) (.ret (false,{x with ws:=dL x.7 (0+Int.toNat th*1) (w39 th x)}))) (.ite (ile 60000 x.8) (.pre (lE' x.7∧0+Int.toNat th*(1:Nat)<x.7.length∧lE' (EGS.s x).3) (.ret (false,{x with ws:=dL x.7 (0+Int.toNat th*1) (w39 th x)}))) (.pre (QV x.4 (w39 th x)) (.ite (!(w39 th x).6) (.pre (True∧True) (.pre (hbOk th x.6 (WK1.d (w38 th x)).6 (WK1.d (w38 th x)).7∧True) (.pre ((lE' (w38 th x).4∧lE' (w38 th x).7∧lE' (w38 th x).8∧(w38 th x).1=(w38 th x).1∧(w38 th x).2=(w38 th x).2∧lE' (EGS.s x).3)∧XJ (w38 th x) x.5) (.ite (wsF (w38 th x) x.5).4 (.pre (heOk th (hbF th x.6 (WK1.d (w38 th x)).6 (WK1.d (w38 th x)).7).2 (wsF (w38 th x) x.5).1 (wsF (w38 th x) x.5).2 (wsF (w38 th x) x.5).3∧True) (.pre (lE' x.7∧0+Int.toNat th*(1:Nat)<x.7.length∧lE' (WkO.s (wsF (w38 th x) x.5)).3) (.ret (true,{x with s:=(wsF (w38 th x) x.5).6,h:=(heF th (hbF th x.6 (WK1.d (w38 th x)).6 (WK1.d (w38 th x)).7).2 (wsF (w38 th x) x.5).1 (wsF (w38 th x) x.5).2 (wsF (w38 th x) x.5).3).2,ws:=dL x.7 (0+Int.toNat th*1) (wsF (w38 th x) x.5).5,k:=W (x.8+1) })))) (.pre (lE' x.7∧0+Int.toNat th*(1:Nat)<x.7.length∧lE' (WkO.s (wsF (w38 th x) x.5)).3) (.ret (true,{x with s:=(wsF (w38 th x) x.5).6,h:=(hbF th x.6 (WK1.d (w38 th x)).6 (WK1.d (w38 th x)).7).2,ws:=dL x.7 (0+Int.toNat th*1) (wsF (w38 th x) x.5).5,k:=W (x.8+1) }))))))) (.pre ((lE' (w38 th x).4∧lE' (w38 th x).7∧lE' (w38 th x).8∧(w38 th x).1=(w38 th x).1∧(w38 th x).2=(w38 th x).2∧lE' (EGS.s x).3)∧XJ (w38 th x) x.5) (.ite (wsF (w38 th x) x.5).4 (.pre (heOk th x.6 (wsF (w38 th x) x.5).1 (wsF (w38 th x) x.5).2 (wsF (w38 th x) x.5).3∧True) (.pre (lE' x.7∧0+Int.toNat th*(1:Nat)<x.7.length∧lE' (WkO.s (wsF (w38 th x) x.5)).3) (.ret (true,{x with s:=(wsF (w38 th x) x.5).6,h:=(heF th x.6 (wsF (w38 th x) x.5).1 (wsF (w38 th x) x.5).2 (wsF (w38 th x) x.5).3).2,ws:=dL x.7 (0+Int.toNat th*1) (wsF (w38 th x) x.5).5,k:=W (x.8+1) })))) (.pre (lE' x.7∧0+Int.toNat th*(1:Nat)<x.7.length∧lE' (WkO.s (wsF (w38 th x) x.5)).3) (.ret (true,{x with s:=(wsF (w38 th x) x.5).6,ws:=dL x.7 (0+Int.toNat th*1) (wsF (w38 th x) x.5).5,k:=W (x.8+1) })))))))))))))
theorem aB0(th:Int)(x:EGS)(K:Bool×EGS→Prop)(h:(pkT th x).run K):cT' 41 [.ptr 0 0,.I th] [cE' [.I x.sh,.I x.th,.I x.nd,.I x.tr,.ptr 1 0,.ptr 3 0,.slice 4 0 x.ws.length 1,.I x.k],bB 2 x.s,bC x.s,some (.abs (.hist x.h) []),some (.abs (.wrow x.ws) [])] (bP 1 0 [] [] pkP K):=by
 exact cM' (E:=EW4) (by kernel_rfl) h
def pkF(th:Int)(x:EGS):Bool×EGS:=(pkT th x).val
def PA(th:Int)(x:EGS):Prop:=(pkT th x).ok
def pkS:aH Ob:=fun args h=>match args,h with
 | [.ptr 0 0,.int .i64 th],[some (.abs (.engine x) [])]=>some (.pre (PA th x) (.ret (.bool (pkF th x).1) (egH (pkF th x).2)))
 | _,_=>none
theorem aEB:sT' 41 pkS:=by
 intro args h o ho K hK;unfold pkS at ho;split at ho<;>cases ho
 rename_i th x;obtain⟨ok,hK⟩:=hK;exact aGB (root:=0) (pos:=[]) (cs:=[]) (parse:=pkP) (fin:=fun y=>.ret (.bool y.1) (egH y.2)) aBZ (aS.unpack (.engine x) 0 0 (egG x) [] rfl rfl rfl rfl) (aB0 th x _ (aGG ok hK))
noncomputable def EP1:=EW4.addS 41 pkS aEB
def rI:AVal→Int
 | .int _ n=>n
 | _=>0
def rK(row:Nat→List AVal)(i:Nat):Int:=rI ((row i).getD 0 .O)
def rY(row:Nat→List AVal)(i:Nat):Int:=rI ((row i).getD 1 .O)
structure lO (row:Nat→List AVal):Prop where
 h:row=fun i=>[.I (rK row i),.I (rY row i)]
def kP(sh:Int)(m:Nat)(f g:Nat→Int):List (List Int):=(List.range m).map fun j=>[sh,f j,g j]
def eJ(sh:Int)(m:Nat)(f g:Nat→Int):Bool:=(List.range m).all fun j=>b9 sh (f j) (g j)
theorem QN(sh:Int)(m:Nat)(f g:Nat→Int):kP sh (m+1) f g=kP sh m f g++ [[sh,f m,g m]]:=by
 unfold kP;rw [List.range_succ];simp
theorem pU(sh:Int)(m:Nat)(f g:Nat→Int):(kP sh m f g).length =m:=by unfold kP;simp
theorem oO{k:Int}{m:Nat}{f g:Nat→Int} :eJ k m f g=true↔ ∀j,j<m→b9 k (f j) (g j)=true:=by
 unfold eJ;simp
def RG(sh:Int)(m:Nat)(f g:Nat→Int):Hint Ob:= {X:=Nat,st:=fun x=>([.I sh,.O,.O,.O,.O,.I 0,.tslice 0 0 x 3,.O,.O,.view m 2 (fun i=>[.I (f i),.I (g i)]),.I (m:Int),.I (x:Int)]++List.replicate 15 .O,[some (.tab cK3 (kP sh x f g))]),ok:=fun x=>x≤m∧ ∀j,j<x→b9 sh (f j) (g j)=true,mu:=fun x=>m - x,keep:=[0,5,6,9,10,11],casts:=[(.slot 6,.tab cK3)] }
def aBX(sh:Int)(m:Nat)(f g:Nat→Int)(K:AVal→aC Ob→Prop):Prop:=cV (RG sh m f g) (Hint.ok (RG sh m f g)) (.I sh::.O::.O::.O::.O::.I 0::.tslice 0 0 0 3::.O::.O::(.view m 2 fun i=>[.I (f i),.I (g i)])::.I (↑m:Int)::.I 0::(tO' 15 [])) [some (.tab cK3 [])]∧ ∀(x:Nat),(x≤m∧ ∀(j:Nat),j<x→b9 sh (f j) (g j)=true)→bif ilt (↑x:Int) (↑m:Int)then((0:Int)≤(↑x:Int)∧(↑x:Int)<(↑m:Int))∧True∧bif !b9 sh (f (Int.toNat (↑x:Int))) (g (Int.toNat (↑x:Int)))then K (.tup [.raw (Value.slice none 0 0),.I 1]) []else(0=0∧x=List.length (kP sh x f g)∧x+(1:Nat)≤(4294967296:Nat))∧cV (RG sh m f g) (fun x'=>Hint.ok (RG sh m f g) x'∧Hint.mu (RG sh m f g) x'<Hint.mu (RG sh m f g) x) (.I sh::.O::.O::.O::.O::.I 0::.tslice 0 0 (x+1) 3::.O::.O::(.view m 2 fun i=>[.I (f i),.I (g i)])::.I (↑m:Int)::.I (W ((↑x:Int)+1))::(tO' 15 [])) [some (.tab cK3 (kP sh x f g++ [[sh,f (Int.toNat (↑x:Int)),g (Int.toNat (↑x:Int))]]))]else K (.tup [.tslice 0 0 x 3,.I 0]) [some (.tab cK3 (kP sh x f g))]
theorem O5(sh:Int)(m:Nat)(f g:Nat→Int)(K:AVal→aC Ob→Prop)(h:aBX sh m f g K):cT' 82 [.I sh,.view m 2 (fun i=>[.I (f i),.I (g i)])] [] K:=by
 refine aGz (aD (E:=EP1) Tryz.checked.mixed (L:=fun _ _=>some (.states (RG sh m f g))) (n:=10) (aK (by kernel_rfl) h))
def lgB(th:Int)(m:Nat)(ln:Nat→Nat):Bool:=(List.range m).any (fun i=>decide (40<ln i))||ilt th (m:Int)
theorem OX{th:Int}{m:Nat}{ln:Nat→Nat} :lgB th m ln=false↔(∀i,i<m→ln i≤40)∧(m:Int)≤th:=by
 unfold lgB;rw [aU];simp
theorem HH{th:Int}{m:Nat}{ln:Nat→Nat}(h:(∃i,i<m∧40<ln i)∨th<(m:Int)):lgB th m ln=true:=by
 unfold lgB;rw [aU];simp;exact h
def RS(sh th nd tr:Int)(m:Nat)(ln:Nat→Nat)(f g:Nat→Nat→Int):Hint Ob:= {X:=Nat,st:=fun x=>([.O,.view m 1 (fun i=>[.view (ln i) 2 (fun j=>[.I (f i j),.I (g i j)])]),.ptr 0 0,.O,.O,.O,.O,.view m 1 (fun i=>[.view (ln i) 2 (fun j=>[.I (f i j),.I (g i j)])]),.I (m:Int),.I (x:Int)]++List.replicate 12 .O,[cE' [.I sh,.I th,.I nd,.I tr]]),ok:=fun x=>x≤m∧ ∀j,j<x→ln j≤40,mu:=fun x=>m - x,keep:=[1,2,7,8,9] }
def aBN(sh th nd tr:Int)(m:Nat)(ln:Nat→Nat)(f g:Nat→Nat→Int)(K:AVal→aC Ob→Prop):Prop:=cV (RS sh th nd tr m ln f g) (Hint.ok (RS sh th nd tr m ln f g)) [.O,.view m 1 fun i=>[.view (ln i) 2 fun j=>[.I (f i j),.I (g i j)]],.ptr 0 0,.O,.O,.O,.O,.view m 1 fun i=>[.view (ln i) 2 fun j=>[.I (f i j),.I (g i j)]],.I (↑m:Int),.I 0,.O,.O,.O,.O,.O,.O,.O,.O,.O,.O,.O,.O] [cE' [.I sh,.I th,.I nd,.I tr]]∧ ∀(x:Nat),(x≤m∧ ∀(j:Nat),j<x→ln j≤(40:Nat))→bif ilt (↑x:Int) (↑m:Int)then((0:Int)≤(↑x:Int)∧(↑x:Int)<(↑m:Int))∧bif ilt 40 (↑(ln (Int.toNat (↑x:Int))):Int)then K (.bool true) []else cV (RS sh th nd tr m ln f g) (fun x'=>Hint.ok (RS sh th nd tr m ln f g) x'∧Hint.mu (RS sh th nd tr m ln f g) x'<Hint.mu (RS sh th nd tr m ln f g) x) [.O,.view m 1 fun i=>[.view (ln i) 2 fun j=>[.I (f i j),.I (g i j)]],.ptr 0 0,.O,.O,.O,.O,.view m 1 fun i=>[.view (ln i) 2 fun j=>[.I (f i j),.I (g i j)]],.I (↑m:Int),.I (W ((↑x:Int)+1)),.O,.O,.O,.O,.O,.O,.O,.O,.O,.O,.O,.O] [cE' [.I sh,.I th,.I nd,.I tr]]else K (.bool (ilt th (↑m:Int))) []
theorem OY(sh th nd tr:Int)(m:Nat)(ln:Nat→Nat)(f g:Nat→Nat→Int)(K:AVal→aC Ob→Prop)(h:aBN sh th nd tr m ln f g K):cT' 80 [.agg [.I sh,.I th,.I nd,.I tr],.view m 1 (fun i=>[.view (ln i) 2 (fun j=>[.I (f i j),.I (g i j)])])] [] K:=by
 refine aGz (aD (E:=EP1) Tryz.checked.mixed (L:=fun _ _=>some (.states (RS sh th nd tr m ln f g))) (n:=10) (aK (by kernel_rfl) h))
def wrO(sh th nd tr:Int):Out Ob:=.ite (ilt sh 1) (.ret (.I 1) []) (.ite (ilt 4 sh) (.ret (.I 1) []) (.pre True (.ite (!dK th nd) (.ret (.I 2) []) (.ite (ilt tr 0) (.ret (.I 2) []) (.ite (ilt 50 tr) (.ret (.I 2) []) (.ret (.I 0) []))))))
theorem aF.castTup{I:Itp Ob}{n:Nat}{K:gV}{a a' b:AVal}{g g':aC Ob}(hc:zX K a g=some (a',g')):aF I n (.tup [a,b]) g (.tup [a',b]) g':=by
 intro V hR w x h1 h2 h3 h4;obtain⟨cs,rfl,va,vs,e,ra,vb,vs2,e2,rb,r3⟩:=h4;obtain⟨V',⟨c1,c2,c3,c4⟩,r⟩:=uB hc h1 h2 ra;exact⟨V',fun l y _ hy=>c1 l y hy,c2,by omega,⟨cs,rfl,va,vs,e,r,vb,vs2,e2,Rep.mono c1 _ _ rb,r3⟩,c4⟩
def ofR(sh:Int)(m:Nat)(f g:Nat→Int):List (List Int):=bif eJ sh m f g then kP sh m f g else []
def ofC(sh:Int)(m:Nat)(f g:Nat→Int):Int:=bif eJ sh m f g then 0 else 1
theorem aEw(sh:Int)(m:Nat)(f g:Nat→Int)(K:AVal→aC Ob→Prop)(hm:m≤1000000)(hK:K (.tup [.tslice 0 0 (ofR sh m f g).length 3,.I (ofC sh m f g)]) [some (.tab cK3 (ofR sh m f g))]):aBX sh m f g (dS (obI tbl) 0 K):=by
 refine⟨aQ (H:=RG sh m f g) (0:Nat) rfl ⟨Nat.zero_le _,fun j hj=>by omega⟩,?_⟩
 rintro x ⟨hx,hj⟩;refine aI (fun e=>?_) (fun e=>?_)
 ·rw [aU,dT']at e;refine⟨⟨by omega,by omega⟩,trivial,aI (fun e2=>?_) (fun e2=>?_)⟩
  ·have hf:eJ sh m f g=false:=by
    cases h:eJ sh m f g with
    | false=>rfl
    | true=>
      have:=oO.1 h x (by omega)
      rw [Int.toNat_natCast]at e2;rw [this]at e2;cases e2
   unfold ofR ofC at hK;rw [hf]at hK;exact⟨⟨_,_,aF.castTup (K:=.tab cK3) rfl,hK⟩⟩
  ·have e4:W ((x:Int)+1)=((x+1:Nat):Int):=by rw [W,cX (by omega)];rfl
   refine⟨⟨rfl,(pU sh x f g).symm,by omega⟩,aQ (H:=RG sh m f g) (x+1:Nat) ?_ ⟨⟨by show x+1≤m;omega,?_⟩,by show m - (x+1)<m - x;omega⟩⟩
   ·simp only [RG,QN,e4,Int.toNat_natCast]<;>rfl
   intro j hj2
   by_cases hjx:j=x
   ·subst hjx;rw [Int.toNat_natCast]at e2
    simpa using e2
   ·exact hj j (by omega)
 ·rw [aU,dF']at e;have ht:eJ sh m f g=true:=oO.2 fun j hj3=>hj j (by omega)
  have hxm:x=m:=by omega
  subst hxm;unfold ofR ofC at hK;rw [ht]at hK;have hl:=pU sh x f g;simp only [cond_true]at hK;rw [hl]at hK;exact⟨⟨_,_,aGL _ _ _,hK⟩⟩
def ofS:aH Ob:=fun args h=>match args,h with
 | [.int .i64 sh,.view m 2 row],[]=>some (.pre (m≤1000000∧lO row) (.ret (.tup [.tslice 0 0 (ofR sh m (rK row) (rY row)).length 3,.I (ofC sh m (rK row) (rY row))]) [some (.tab cK3 (ofR sh m (rK row) (rY row)))]))
 | _,_=>none
theorem aEv:sT' 82 ofS:=by
 intro args h o ho K hK;unfold ofS at ho;split at ho<;>cases ho
 rename_i sh m row;obtain⟨⟨hm,⟨hr⟩⟩,hK⟩:=hK;rw [hr];refine aGM ?_;exact O5 sh m (rK row) (rY row) _ (aEw sh m (rK row) (rY row) K hm hK)
def vL(vr:Nat→List AVal)(i:Nat):Nat:=match vr i with
 | [.view n _ _]=>n
 | _=>0
def vR(vr:Nat→List AVal)(i:Nat):Nat→List AVal:=match vr i with
 | [.view _ _ r]=>r
 | _=>fun _=>[]
def vK(vr:Nat→List AVal)(i j:Nat):Int:=rK (vR vr i) j
def vY(vr:Nat→List AVal)(i j:Nat):Int:=rY (vR vr i) j
structure kL (vr:Nat→List AVal):Prop where
 h:vr=fun i=>[.view (vL vr i) 2 (fun j=>[.I (vK vr i j),.I (vY vr i j)])]
theorem aEp(sh th nd tr:Int)(m:Nat)(ln:Nat→Nat)(f g:Nat→Nat→Int)(K:AVal→aC Ob→Prop)(hm:m≤1000000)(hK:K (.bool (lgB th m ln)) []):aBN sh th nd tr m ln f g K:=by
 refine⟨aQ (H:=RS sh th nd tr m ln f g) (0:Nat) rfl ⟨Nat.zero_le _,fun j hj=>by omega⟩,?_⟩
 rintro x ⟨hx,hj⟩;refine aI (fun e=>?_) (fun e=>?_)
 ·rw [aU,dT']at e;refine⟨⟨by omega,by omega⟩,aI (fun e2=>?_) (fun e2=>?_)⟩
  ·rw [aU,dT',Int.toNat_natCast]at e2;rw [HH (.inl ⟨x,by omega,by omega⟩)]at hK
   exact hK
  ·rw [aU,dF',Int.toNat_natCast]at e2;have e4:W ((x:Int)+1)=((x+1:Nat):Int):=by rw [W,cX (by omega)];rfl
   refine aQ (H:=RS sh th nd tr m ln f g) (x+1:Nat) (by simp only [e4]<;>rfl) ⟨⟨by show x+1≤m;omega,?_⟩,by show m - (x+1)<m - x;omega⟩
   intro j hj2
   by_cases hjx:j=x
   ·subst hjx;omega
   ·exact hj j (by omega)
 ·rw [aU,dF']at e
  have e2:lgB th m ln=ilt th (m:Int):=by
   cases h:ilt th (m:Int)with
   | true=>rw [aU,dT']at h;exact HH (.inr h)
   | false=>rw [aU,dF']at h;exact OX.2 ⟨fun j hj3=>hj j (by omega),by omega⟩
  rw [e2]at hK;exact hK
def lgS:aH Ob:=fun args h=>match args,h with
 | [.agg [.int .i64 sh,.int .i64 th,.int .i64 nd,.int .i64 tr],.view m 1 vr],[]=>some (.pre (m≤1000000∧kL vr) (.ret (.bool (lgB th m (vL vr))) []))
 | _,_=>none
theorem aEo:sT' 80 lgS:=by
 intro args h o ho K hK;unfold lgS at ho;split at ho<;>cases ho
 rename_i sh th nd tr m vr;obtain⟨⟨hm,⟨hr⟩⟩,hK⟩:=hK;rw [hr];exact OY sh th nd tr m (vL vr) (vK vr) (vY vr) K (aEp sh th nd tr m (vL vr) (vK vr) (vY vr) K hm hK)
def wrE(sh th nd tr:Int):Int:=bif ilt sh 1 then 1 else bif ilt 4 sh then 1 else bif !dK th nd then 2 else bif ilt tr 0 then 2 else bif ilt 50 tr then 2 else 0
def wrS:aH Ob:=fun args h=>match args,h with
 | [.agg [.int .i64 sh,.int .i64 th,.int .i64 nd,.int .i64 tr]],[]=>some (.pre True (.ret (.I (wrE sh th nd tr)) []))
 | _,_=>none
theorem aEN:sT' 79 wrS:=by
 intro args h o ho K hK;unfold wrS at ho;split at ho<;>cases ho
 rename_i sh th nd tr;obtain⟨_,hK⟩:=hK;have hK:K (.I (wrE sh th nd tr)) []:=hK;refine aGz (cM' (E:=EP1) (q:=(wrO sh th nd tr).run K) (by kernel_rfl) ?_)
 unfold wrE at hK
 refine aI (fun e1=>?_) (fun e1=>aI (fun e2=>?_) (fun e2=>⟨trivial,aI (fun e3=>?_) (fun e3=>aI (fun e4=>?_) (fun e4=>aI (fun e5=>?_) (fun e5=>?_)))⟩))<;>
  (simp only [*,cond_true,cond_false]at hK;exact hK)
def nwP(t n u:Int)(v:AVal)(g:aC Ob):Option (Prop×WKS):=match v,g with
 | .ptr 1 0,[some (.tab [some .i64,some .i64,some .i64] tk),some (.cells [.ptr 2 0,.tslice 0 0 k 3,.int .i64 en,.raw (.pointer none),.slice 4 0 a 1,.slice 5 0 b 1]),some (.cells [.int .i64 t1,.int .i64 n1,.int .i64 me,.int .i64 sp,.slice 3 0 c 1]),some (.ints (some .i64) R),some (.ints (some .i64) tl),some (.ints (some .i64) sl)]=>
   some (k=tk.length∧a=tl.length∧b=sl.length∧c=R.length,⟨t1,n1,⟨me,sp,R⟩,tk,en,false,eK,tl,sl⟩)
 | _,_=>none
theorem aBV(t n u:Int):bV (obI tbl) 1 (nwP t n u) (fun y=>.ret (.ptr 1 0) [none,some (.abs (.worker y) [])]):=by
 intro v g p x hp hq K hK;unfold nwP at hp;split at hp
 case h_2=>cases hp
 rename_i tk k en a b t1 n1 me sp c R tl sl;simp only [sI',pI']at hp;obtain⟨rfl,rfl⟩:=hp;obtain⟨rfl,rfl,rfl,rfl⟩:=hq;have hK:K (.ptr 1 0) [none,some (.abs (.worker (⟨t1,n1,⟨me,sp,R⟩,tk,en,false,eK,tl,sl⟩:WKS)) [])]:=hK
 exact⟨⟨_,_,(aF.move 3 (of_decide_eq_true rfl)).trans ((aGF (v2:=.ptr 1 0) (g2:=aM [some (.tab cK3 tk),cE' [.ptr 2 0,.tslice 0 0 tk.length 3,.I en,.raw (.pointer none),.slice 4 0 tl.length 1,.slice 5 0 sl.length 1],some (.abs (.store t1 n1 ⟨me,sp,R⟩) []),none,iI' tl,iI' sl] 2 0 (dA t1 n1 ⟨me,sp,R⟩) []) (by kernel_rfl) (by kernel_rfl)).trans
  ((aF.pack [some (.tab cK3 tk),cE' [.ptr 2 0,.tslice 0 0 tk.length 3,.I en,.raw (.pointer none),.slice 4 0 tl.length 1,.slice 5 0 sl.length 1],some (.abs (.store t1 n1 ⟨me,sp,R⟩) []),none,iI' tl,iI' sl] (.store t1 n1 ⟨me,sp,R⟩) 2 0 (dA t1 n1 ⟨me,sp,R⟩) [] rfl rfl rfl (by kernel_rfl)).trans
  ((aF.move 0 (of_decide_eq_true rfl)).trans ((aF.move 4 (of_decide_eq_true rfl)).trans ((aF.move 5 (of_decide_eq_true rfl)).trans ((aF.pick [0,1,2,6,7,8] rfl).trans
  ((aGF (v2:=.ptr 1 0) (g2:=aM [none,some (.abs (.worker (⟨t1,n1,⟨me,sp,R⟩,tk,en,false,eK,tl,sl⟩:WKS)) [])] 1 0 (mN (⟨t1,n1,⟨me,sp,R⟩,tk,en,false,eK,tl,sl⟩:WKS)) []) (by kernel_rfl) (by kernel_rfl)).trans
  (aF.pack [none,some (.abs (.worker (⟨t1,n1,⟨me,sp,R⟩,tk,en,false,eK,tl,sl⟩:WKS)) [])] (.worker (⟨t1,n1,⟨me,sp,R⟩,tk,en,false,eK,tl,sl⟩:WKS)) 1 0 (mN (⟨t1,n1,⟨me,sp,R⟩,tk,en,false,eK,tl,sl⟩:WKS)) [] rfl rfl (congrArg (Prod.mk 0) (pB rfl)) (by kernel_rfl))))))))),hK⟩⟩
def nvP(t n u:Int)(v:AVal)(g:aC Ob):Option (Prop×WKS):=match v,g with
 | .ptr 0 0,[some (.cells [.ptr 1 0,.tslice 3 0 k 3,.int .i64 en,.raw (.pointer none),.slice 4 0 a 1,.slice 5 0 b 1]),some (.cells [.int .i64 t1,.int .i64 n1,.int .i64 me,.int .i64 sp,.slice 2 0 c 1]),some (.ints (some .i64) R),some (.tab [some .i64,some .i64,some .i64] tk),some (.ints (some .i64) tl),some (.ints (some .i64) sl)]=>
   some (k=tk.length∧a=tl.length∧b=sl.length∧c=R.length,⟨t1,n1,⟨me,sp,R⟩,tk,en,false,eK,tl,sl⟩)
 | _,_=>none
theorem aBT(t n u:Int):bV (obI tbl) 0 (nvP t n u) (fun y=>.ret (.ptr 0 0) [some (.abs (.worker y) [])]):=by
 intro v g p x hp hq K hK;unfold nvP at hp;split at hp
 case h_2=>cases hp
 rename_i k en a b t1 n1 me sp c R tk tl sl;simp only [sI',pI']at hp;obtain⟨rfl,rfl⟩:=hp;obtain⟨rfl,rfl,rfl,rfl⟩:=hq;have hK:K (.ptr 0 0) [some (.abs (.worker (⟨t1,n1,⟨me,sp,R⟩,tk,en,false,eK,tl,sl⟩:WKS)) [])]:=hK
 exact⟨⟨_,_,(aF.move 2 (of_decide_eq_true rfl)).trans ((aGF (v2:=.ptr 0 0) (g2:=aM [cE' [.ptr 1 0,.tslice 3 0 tk.length 3,.I en,.raw (.pointer none),.slice 4 0 tl.length 1,.slice 5 0 sl.length 1],some (.abs (.store t1 n1 ⟨me,sp,R⟩) []),none,some (.tab cK3 tk),iI' tl,iI' sl] 1 0 (dA t1 n1 ⟨me,sp,R⟩) []) (by kernel_rfl) (by kernel_rfl)).trans
  ((aF.pack [cE' [.ptr 1 0,.tslice 3 0 tk.length 3,.I en,.raw (.pointer none),.slice 4 0 tl.length 1,.slice 5 0 sl.length 1],some (.abs (.store t1 n1 ⟨me,sp,R⟩) []),none,some (.tab cK3 tk),iI' tl,iI' sl] (.store t1 n1 ⟨me,sp,R⟩) 1 0 (dA t1 n1 ⟨me,sp,R⟩) [] rfl rfl rfl (by kernel_rfl)).trans
  ((aF.pick [0,1,3,4,5] rfl).trans
  ((aGF (v2:=.ptr 0 0) (g2:=aM [some (.abs (.worker (⟨t1,n1,⟨me,sp,R⟩,tk,en,false,eK,tl,sl⟩:WKS)) [])] 0 0 (mN (⟨t1,n1,⟨me,sp,R⟩,tk,en,false,eK,tl,sl⟩:WKS)) []) (by kernel_rfl) (by kernel_rfl)).trans
  (aF.pack [some (.abs (.worker (⟨t1,n1,⟨me,sp,R⟩,tk,en,false,eK,tl,sl⟩:WKS)) [])] (.worker (⟨t1,n1,⟨me,sp,R⟩,tk,en,false,eK,tl,sl⟩:WKS)) 0 0 (mN (⟨t1,n1,⟨me,sp,R⟩,tk,en,false,eK,tl,sl⟩:WKS)) [] rfl rfl (congrArg (Prod.mk 0) (pB rfl)) (by kernel_rfl)))))),hK⟩⟩
def nwT(t n u:Int)(tk:List (List Int)):Tr WKS:=.pre (lE' tk∧0=0∧0=0∧0=0) (.ret {t:=t,n:=n,st:= {me:=u,sp:=0,R:=[] },tk:=tk,en:=0,b:=false,d:=eK,tl:=[],sl:=[] })
theorem aBW(t n u:Int)(tk:List (List Int))(K:AVal→aC Ob→Prop)(h:(nwT t n u tk).run (fun y=>(Out.ret (.ptr 1 0) [none,some (.abs (.worker y) [])]).run K)):cT' 83 [.agg [.I t,.I n],.I u,.tslice 0 0 tk.length 3] [some (.tab cK3 tk)] K:=by
 refine aGN (root:=1) (pos:=[]) (cs:=[(.cell 1 4,.ints (some .i64)),(.cell 1 5,.ints (some .i64)),(.cell 2 4,.ints (some .i64))]) (parse:=nwP t n u) (aBV t n u) ?_;exact cM' (E:=EP1) (by kernel_rfl) h
def nvT(t n u:Int):Tr WKS:=.pre (0=0∧0=0∧0=0∧0=0) (.ret {t:=t,n:=n,st:= {me:=u,sp:=0,R:=[] },tk:=[],en:=0,b:=false,d:=eK,tl:=[],sl:=[] })
theorem aBU(t n u:Int)(K:AVal→aC Ob→Prop)(h:(nvT t n u).run (fun y=>(Out.ret (.ptr 0 0) [some (.abs (.worker y) [])]).run K)):cT' 83 [.agg [.I t,.I n],.I u,.raw (.slice none 0 0)] [] K:=by
 refine aGN (root:=0) (pos:=[]) (cs:=[(.cell 0 1,.tab cK3),(.cell 0 4,.ints (some .i64)),(.cell 0 5,.ints (some .i64)),(.cell 1 4,.ints (some .i64))]) (parse:=nvP t n u) (aBT t n u) ?_;exact cM' (E:=EP1) (by kernel_rfl) h
def v7(t n u:Int)(tk:List (List Int)):WKS:=(nwT t n u tk).val
def nwS:aH Ob:=fun args h=>match args,h with
 | [.agg [.int .i64 t,.int .i64 n],.int .i64 u,.tslice 0 0 k 3],[some (.tab [some .i64,some .i64,some .i64] tk)]=>some (.pre (k=tk.length) (.ret (.ptr 1 0) [none,some (.abs (.worker (v7 t n u tk)) [])]))
 | _,_=>none
theorem aEu:sT' 83 nwS:=by
 intro args h o ho K hK;unfold nwS at ho;split at ho<;>cases ho
 rename_i t n u k tk;obtain⟨rfl,hK⟩:=hK;exact aBW t n u tk K (aGG ⟨⟨rfl,rfl,rfl,rfl⟩,trivial⟩ hK)
def nvS:aH Ob:=fun args h=>match args,h with
 | [.agg [.int .i64 t,.int .i64 n],.int .i64 u,.raw (.slice none 0 0)],[]=>some (.pre True (.ret (.ptr 0 0) [some (.abs (.worker (v7 t n u [])) [])]))
 | _,_=>none
theorem aEt:sT' 83 nvS:=by
 intro args h o ho K hK;unfold nvS at ho;split at ho<;>cases ho
 rename_i t n u;obtain⟨_,hK⟩:=hK;exact aBU t n u K (aGG ⟨⟨rfl,rfl,rfl,rfl⟩,trivial⟩ hK)
noncomputable def EU1:=(((EP1.addS 82 ofS aEv).addS 80 lgS aEo).addS 79 wrS aEN).addS 83 (aH.or nwS nvS) (aGZ aEu aEt)
structure eG (sh th:Int) (m:Nat) (ln:Nat→Nat) (f g:Nat→Nat→Int) (u:Int):Prop where
 hu:u≤th
 hg: ∀j:Nat,(j:Int)<u→j<m→eJ sh (ln j) (f j) (g j)=true
abbrev w3a:Option (aJ Ob):=some (.abs (.hist ⟨[],[],0,0,0,0,0,0,0,0⟩) [])
abbrev w3b(nd sh th tr:Int):Option (aJ Ob):=some (.cells [.int .i64 sh,.int .i64 th,.int .i64 nd,.int .i64 tr])
abbrev w3c(nd th:Int):List AVal:=[.int .i64 th,.int .i64 nd]
def HN0(sh th nd tr:Int)(m:Nat)(ln:Nat→Nat)(f g:Nat→Nat→Int)(wf:Nat→WKS):Hint Ob:= {X:=Unit,st:=fun _=>((.O::(.view m 1 (fun i=>[.view (ln i) 2 (fun j=>[.int .i64 (f i j),.int .i64 (g i j)])]))::.ptr 0 0::.O::.O::.O::.O::.ptr 1 0::.ptr 2 0::(tO' 24 [.int .i64 th,.int .i64 0]))++List.replicate 45 .O,[w3b nd sh th tr,some (.cells (w3c nd th)),some (.cells [.int .i64 sh,.int .i64 th,.int .i64 nd,.int .i64 tr,.raw (.pointer none),.ptr 3 0,.raw (.slice none 0 0),.int .i64 0]),w3a]),ok:=fun _=>eG sh th m ln f g 0,mu:=fun _=>9,keep:=[1,2,7,8,33,34],sel:=fun tm _=>match tm.getD 34 .O with
 | .int _ n=>Nat.beq n.toNat 0
 | _=>false}
def HN1(sh th nd tr:Int)(m:Nat)(ln:Nat→Nat)(f g:Nat→Nat→Int)(wf:Nat→WKS):Hint Ob:= {X:=Unit,st:=fun _=>((.O::(.view m 1 (fun i=>[.view (ln i) 2 (fun j=>[.int .i64 (f i j),.int .i64 (g i j)])]))::.ptr 0 0::.O::.O::.O::.O::.ptr 1 0::.ptr 2 0::(tO' 24 [.int .i64 th,.int .i64 1]))++List.replicate 45 .O,[w3b nd sh th tr,some (.cells (w3c nd th)),some (.cells [.int .i64 sh,.int .i64 th,.int .i64 nd,.int .i64 tr,.raw (.pointer none),.ptr 3 0,.slice 4 0 1 1,.int .i64 0]),w3a,some (.cells [.ptr 5 0]),some (.abs (.worker (wf 0)) [])]),ok:=fun _=>eG sh th m ln f g 1,mu:=fun _=>8,keep:=[1,2,7,8,33,34],sel:=fun tm _=>match tm.getD 34 .O with
 | .int _ n=>Nat.beq n.toNat 1
 | _=>false}
def HN2(sh th nd tr:Int)(m:Nat)(ln:Nat→Nat)(f g:Nat→Nat→Int)(wf:Nat→WKS):Hint Ob:= {X:=Unit,st:=fun _=>((.O::(.view m 1 (fun i=>[.view (ln i) 2 (fun j=>[.int .i64 (f i j),.int .i64 (g i j)])]))::.ptr 0 0::.O::.O::.O::.O::.ptr 1 0::.ptr 2 0::(tO' 24 [.int .i64 th,.int .i64 2]))++List.replicate 45 .O,[w3b nd sh th tr,some (.cells (w3c nd th)),some (.cells [.int .i64 sh,.int .i64 th,.int .i64 nd,.int .i64 tr,.raw (.pointer none),.ptr 3 0,.slice 4 0 2 1,.int .i64 0]),w3a,some (.cells [.ptr 5 0,.ptr 6 0]),some (.abs (.worker (wf 0)) []),some (.abs (.worker (wf 1)) [])]),ok:=fun _=>eG sh th m ln f g 2,mu:=fun _=>7,keep:=[1,2,7,8,33,34],sel:=fun tm _=>match tm.getD 34 .O with
 | .int _ n=>Nat.beq n.toNat 2
 | _=>false}
def HN3(sh th nd tr:Int)(m:Nat)(ln:Nat→Nat)(f g:Nat→Nat→Int)(wf:Nat→WKS):Hint Ob:= {X:=Unit,st:=fun _=>((.O::(.view m 1 (fun i=>[.view (ln i) 2 (fun j=>[.int .i64 (f i j),.int .i64 (g i j)])]))::.ptr 0 0::.O::.O::.O::.O::.ptr 1 0::.ptr 2 0::(tO' 24 [.int .i64 th,.int .i64 3]))++List.replicate 45 .O,[w3b nd sh th tr,some (.cells (w3c nd th)),some (.cells [.int .i64 sh,.int .i64 th,.int .i64 nd,.int .i64 tr,.raw (.pointer none),.ptr 3 0,.slice 4 0 3 1,.int .i64 0]),w3a,some (.cells [.ptr 5 0,.ptr 6 0,.ptr 7 0]),some (.abs (.worker (wf 0)) []),some (.abs (.worker (wf 1)) []),some (.abs (.worker (wf 2)) [])]),ok:=fun _=>eG sh th m ln f g 3,mu:=fun _=>6,keep:=[1,2,7,8,33,34],sel:=fun tm _=>match tm.getD 34 .O with
 | .int _ n=>Nat.beq n.toNat 3
 | _=>false}
def HN4(sh th nd tr:Int)(m:Nat)(ln:Nat→Nat)(f g:Nat→Nat→Int)(wf:Nat→WKS):Hint Ob:= {X:=Unit,st:=fun _=>((.O::(.view m 1 (fun i=>[.view (ln i) 2 (fun j=>[.int .i64 (f i j),.int .i64 (g i j)])]))::.ptr 0 0::.O::.O::.O::.O::.ptr 1 0::.ptr 2 0::(tO' 24 [.int .i64 th,.int .i64 4]))++List.replicate 45 .O,[w3b nd sh th tr,some (.cells (w3c nd th)),some (.cells [.int .i64 sh,.int .i64 th,.int .i64 nd,.int .i64 tr,.raw (.pointer none),.ptr 3 0,.slice 4 0 4 1,.int .i64 0]),w3a,some (.cells [.ptr 5 0,.ptr 6 0,.ptr 7 0,.ptr 8 0]),some (.abs (.worker (wf 0)) []),some (.abs (.worker (wf 1)) []),some (.abs (.worker (wf 2)) []),some (.abs (.worker (wf 3)) [])]),ok:=fun _=>eG sh th m ln f g 4,mu:=fun _=>5,keep:=[1,2,7,8,33,34],sel:=fun tm _=>match tm.getD 34 .O with
 | .int _ n=>Nat.beq n.toNat 4
 | _=>false}
def HN5(sh th nd tr:Int)(m:Nat)(ln:Nat→Nat)(f g:Nat→Nat→Int)(wf:Nat→WKS):Hint Ob:= {X:=Unit,st:=fun _=>((.O::(.view m 1 (fun i=>[.view (ln i) 2 (fun j=>[.int .i64 (f i j),.int .i64 (g i j)])]))::.ptr 0 0::.O::.O::.O::.O::.ptr 1 0::.ptr 2 0::(tO' 24 [.int .i64 th,.int .i64 5]))++List.replicate 45 .O,[w3b nd sh th tr,some (.cells (w3c nd th)),some (.cells [.int .i64 sh,.int .i64 th,.int .i64 nd,.int .i64 tr,.raw (.pointer none),.ptr 3 0,.slice 4 0 5 1,.int .i64 0]),w3a,some (.cells [.ptr 5 0,.ptr 6 0,.ptr 7 0,.ptr 8 0,.ptr 9 0]),some (.abs (.worker (wf 0)) []),some (.abs (.worker (wf 1)) []),some (.abs (.worker (wf 2)) []),some (.abs (.worker (wf 3)) []),some (.abs (.worker (wf 4)) [])]),ok:=fun _=>eG sh th m ln f g 5,mu:=fun _=>4,keep:=[1,2,7,8,33,34],sel:=fun tm _=>match tm.getD 34 .O with
 | .int _ n=>Nat.beq n.toNat 5
 | _=>false}
def HN6(sh th nd tr:Int)(m:Nat)(ln:Nat→Nat)(f g:Nat→Nat→Int)(wf:Nat→WKS):Hint Ob:= {X:=Unit,st:=fun _=>((.O::(.view m 1 (fun i=>[.view (ln i) 2 (fun j=>[.int .i64 (f i j),.int .i64 (g i j)])]))::.ptr 0 0::.O::.O::.O::.O::.ptr 1 0::.ptr 2 0::(tO' 24 [.int .i64 th,.int .i64 6]))++List.replicate 45 .O,[w3b nd sh th tr,some (.cells (w3c nd th)),some (.cells [.int .i64 sh,.int .i64 th,.int .i64 nd,.int .i64 tr,.raw (.pointer none),.ptr 3 0,.slice 4 0 6 1,.int .i64 0]),w3a,some (.cells [.ptr 5 0,.ptr 6 0,.ptr 7 0,.ptr 8 0,.ptr 9 0,.ptr 10 0]),some (.abs (.worker (wf 0)) []),some (.abs (.worker (wf 1)) []),some (.abs (.worker (wf 2)) []),some (.abs (.worker (wf 3)) []),some (.abs (.worker (wf 4)) []),some (.abs (.worker (wf 5)) [])]),ok:=fun _=>eG sh th m ln f g 6,mu:=fun _=>3,keep:=[1,2,7,8,33,34],sel:=fun tm _=>match tm.getD 34 .O with
 | .int _ n=>Nat.beq n.toNat 6
 | _=>false}
def HN7(sh th nd tr:Int)(m:Nat)(ln:Nat→Nat)(f g:Nat→Nat→Int)(wf:Nat→WKS):Hint Ob:= {X:=Unit,st:=fun _=>((.O::(.view m 1 (fun i=>[.view (ln i) 2 (fun j=>[.int .i64 (f i j),.int .i64 (g i j)])]))::.ptr 0 0::.O::.O::.O::.O::.ptr 1 0::.ptr 2 0::(tO' 24 [.int .i64 th,.int .i64 7]))++List.replicate 45 .O,[w3b nd sh th tr,some (.cells (w3c nd th)),some (.cells [.int .i64 sh,.int .i64 th,.int .i64 nd,.int .i64 tr,.raw (.pointer none),.ptr 3 0,.slice 4 0 7 1,.int .i64 0]),w3a,some (.cells [.ptr 5 0,.ptr 6 0,.ptr 7 0,.ptr 8 0,.ptr 9 0,.ptr 10 0,.ptr 11 0]),some (.abs (.worker (wf 0)) []),some (.abs (.worker (wf 1)) []),some (.abs (.worker (wf 2)) []),some (.abs (.worker (wf 3)) []),some (.abs (.worker (wf 4)) []),some (.abs (.worker (wf 5)) []),some (.abs (.worker (wf 6)) [])]),ok:=fun _=>eG sh th m ln f g 7,mu:=fun _=>2,keep:=[1,2,7,8,33,34],sel:=fun tm _=>match tm.getD 34 .O with
 | .int _ n=>Nat.beq n.toNat 7
 | _=>false}
def HN8(sh th nd tr:Int)(m:Nat)(ln:Nat→Nat)(f g:Nat→Nat→Int)(wf:Nat→WKS):Hint Ob:= {X:=Unit,st:=fun _=>((.O::(.view m 1 (fun i=>[.view (ln i) 2 (fun j=>[.int .i64 (f i j),.int .i64 (g i j)])]))::.ptr 0 0::.O::.O::.O::.O::.ptr 1 0::.ptr 2 0::(tO' 24 [.int .i64 th,.int .i64 8]))++List.replicate 45 .O,[w3b nd sh th tr,some (.cells (w3c nd th)),some (.cells [.int .i64 sh,.int .i64 th,.int .i64 nd,.int .i64 tr,.raw (.pointer none),.ptr 3 0,.slice 4 0 8 1,.int .i64 0]),w3a,some (.cells [.ptr 5 0,.ptr 6 0,.ptr 7 0,.ptr 8 0,.ptr 9 0,.ptr 10 0,.ptr 11 0,.ptr 12 0]),some (.abs (.worker (wf 0)) []),some (.abs (.worker (wf 1)) []),some (.abs (.worker (wf 2)) []),some (.abs (.worker (wf 3)) []),some (.abs (.worker (wf 4)) []),some (.abs (.worker (wf 5)) []),some (.abs (.worker (wf 6)) []),some (.abs (.worker (wf 7)) [])]),ok:=fun _=>eG sh th m ln f g 8,mu:=fun _=>1,keep:=[1,2,7,8,33,34],sel:=fun tm _=>match tm.getD 34 .O with
 | .int _ n=>Nat.beq n.toNat 8
 | _=>false}
abbrev w3d:Option (aJ Ob):=some (.abs (.hist {ev:=[],cl:=[],n0:=0,n1:=0,n2:=0,n3:=0,n4:=0,n5:=0,n6:=0,n7:=0}) [])
abbrev w3e(nd th:Int):=((0:Int)≤th∧th≤(100000:Int))∧(0:Int)≤nd∧nd≤(100000:Int)
abbrev w3f(wf:Nat→WKS):Option (aJ Ob):=some (.abs (.worker (wf 0)) [])
abbrev w3g(wf:Nat→WKS):Option (aJ Ob):=some (.abs (.worker (wf 1)) [])
abbrev w3h(nd th:Int):Option (aJ Ob):=cE' [.I th,.I nd,.slice 2 0 (Int.toNat (2*nd+5*th+6)) 1,.I 0,.I 0,.I 0,.int .u64 0,.int .u64 0,.bool false]
abbrev w3i(nd th:Int):=(0:Int)≤(2:Int)*nd+5*th+6∧2*nd+5*th+(6:Int)=(2:Int)*nd+5*th+6∧2*nd+5*th+(6:Int)≤(4294967296:Int)
abbrev w3j(wf:Nat→WKS):Option (aJ Ob):=some (.abs (.worker (wf 2)) [])
abbrev w3k(wf:Nat→WKS):Option (aJ Ob):=some (.abs (.worker (wf 3)) [])
abbrev w3l(nd th:Int):Option (aJ Ob):=some (.ints (some .u64) (List.replicate (Int.toNat (2*nd+5*th+6)) 0))
abbrev w3m(wf:Nat→WKS):Option (aJ Ob):=some (.abs (.worker (wf 4)) [])
abbrev w3n(wf:Nat→WKS):Option (aJ Ob):=some (.abs (.worker (wf 5)) [])
abbrev w3o(nd sh th tr:Int):Option (aJ Ob):=cE' [.I sh,.I th,.I nd,.I tr]
abbrev w3p:List AVal:=[.ptr 5 0,.ptr 6 0,.ptr 7 0,.ptr 8 0,.ptr 9 0,.ptr 10 0,.ptr 11 0,.ptr 12 0]
abbrev w3q:List AVal:=[.ptr 5 0,.ptr 6 0,.ptr 7 0,.ptr 8 0,.ptr 9 0,.ptr 10 0,.ptr 11 0]
abbrev w3r:List AVal:=[.ptr 5 0,.ptr 6 0,.ptr 7 0,.ptr 8 0,.ptr 9 0,.ptr 10 0]
abbrev w3s(wf:Nat→WKS):Option (aJ Ob):=some (.abs (.worker (wf 6)) [])
abbrev w3t:List AVal:=[.ptr 5 0,.ptr 6 0,.ptr 7 0,.ptr 8 0,.ptr 9 0]
abbrev w3u:List AVal:=[.ptr 3 0,.ptr 4 0,.ptr 5 0,.ptr 6 0,.ptr 7 0,.ptr 8 0,.ptr 9 0,.ptr 10 0]
abbrev w3v:List AVal:=[.ptr 5 0,.ptr 6 0,.ptr 7 0,.ptr 8 0]
abbrev w3w:=Value.slice none 0 0
abbrev w3x:List AVal:=[.ptr 3 0,.ptr 4 0,.ptr 5 0,.ptr 6 0,.ptr 7 0,.ptr 8 0,.ptr 9 0]
abbrev w3y:List AVal:=[.ptr 3 0,.ptr 4 0,.ptr 5 0,.ptr 6 0,.ptr 7 0,.ptr 8 0]
abbrev w3z:List AVal:=[.ptr 5 0,.ptr 6 0,.ptr 7 0]
def aBf(sh th nd tr:Int)(m:Nat)(ln:Nat→Nat)(f g:Nat→Nat→Int)(wf:Nat→WKS)(K:AVal→aC Ob→Prop):Prop:=True∧bif !ieq (wrE sh th nd tr) 0 then K (.tup [.N,.I (wrE sh th nd tr)]) []else(m≤(1000000:Nat)∧kL fun i=>[.view (ln i) 2 fun j=>[.I (f i j),.I (g i j)]])∧bif lgB th m (vL fun i=>[.view (ln i) 2 fun j=>[.I (f i j),.I (g i j)]])then K (.tup [.N,.I 6]) []else(True∧True)∧cV (HN0 sh th nd tr m ln f g wf) (fun x=>Hint.ok (HN0 sh th nd tr m ln f g wf) x∧gW none (Hint.mu (HN0 sh th nd tr m ln f g wf) x)) (.O::(.view m 1 fun i=>[.view (ln i) 2 fun j=>[.I (f i j),.I (g i j)]])::.ptr 0 0::.O::.O::.O::.O::.ptr 1 0::.ptr 2 0::(tO' 24 (.I th::.I 0::(tO' 45 [])))) [w3o nd sh th tr,cE' [.I th,.I nd],cE' [.I sh,.I th,.I nd,.I tr,.N,.ptr 3 0,.raw w3w,.I 0],w3d]∧(∀(x:Hint.X (HN0 sh th nd tr m ln f g wf)),eG sh th m ln f g 0→bif ilt 0 th then bif ilt 0 (↑m:Int)then((0:Int)≤(0:Int)∧(0:Int)<(↑m:Int))∧((ln (Int.toNat 0)≤(1000000:Nat)∧lO fun j=>[.I (f (Int.toNat 0) j),.I (g (Int.toNat 0) j)])∧True)∧bif !ieq (ofC sh (ln (Int.toNat 0)) (rK fun j=>[.I (f (Int.toNat 0) j),.I (g (Int.toNat 0) j)]) (rY fun j=>[.I (f (Int.toNat 0) j),.I (g (Int.toNat 0) j)])) 0 then K (.tup [.N,.I (ofC sh (ln (Int.toNat 0)) (rK fun j=>[.I (f (Int.toNat 0) j),.I (g (Int.toNat 0) j)]) (rY fun j=>[.I (f (Int.toNat 0) j),.I (g (Int.toNat 0) j)]))]) []else(lE' (ofR sh (ln (Int.toNat 0)) (rK fun j=>[.I (f (Int.toNat 0) j),.I (g (Int.toNat 0) j)]) (rY fun j=>[.I (f (Int.toNat 0) j),.I (g (Int.toNat 0) j)]))∧True)∧(1:Nat)≤(4294967296:Nat)∧cV (HN1 sh th nd tr m ln f g wf) (fun x_1=>Hint.ok (HN1 sh th nd tr m ln f g wf) x_1∧gW (some (Hint.mu (HN0 sh th nd tr m ln f g wf) x)) (Hint.mu (HN1 sh th nd tr m ln f g wf) x_1)) (.O::(.view m 1 fun i=>[.view (ln i) 2 fun j=>[.I (f i j),.I (g i j)]])::.ptr 0 0::.O::.O::.O::.O::.ptr 1 0::.ptr 2 0::(tO' 24 (.I th::.I (W (0+1))::(tO' 45 [])))) [w3o nd sh th tr,cE' [.I th,.I nd],cE' [.I sh,.I th,.I nd,.I tr,.N,.ptr 3 0,.slice 4 0 1 1,.I 0],w3d,cE' [.ptr 5 0],some (.abs (.worker (v7 th nd 0 (ofR sh (ln (Int.toNat 0)) (rK fun j=>[.I (f (Int.toNat 0) j),.I (g (Int.toNat 0) j)]) (rY fun j=>[.I (f (Int.toNat 0) j),.I (g (Int.toNat 0) j)])))) [])]else(True∧True)∧(1:Nat)≤(4294967296:Nat)∧cV (HN1 sh th nd tr m ln f g wf) (fun x_1=>Hint.ok (HN1 sh th nd tr m ln f g wf) x_1∧gW (some (Hint.mu (HN0 sh th nd tr m ln f g wf) x)) (Hint.mu (HN1 sh th nd tr m ln f g wf) x_1)) (.O::(.view m 1 fun i=>[.view (ln i) 2 fun j=>[.I (f i j),.I (g i j)]])::.ptr 0 0::.O::.O::.O::.O::.ptr 1 0::.ptr 2 0::(tO' 24 (.I th::.I (W (0+1))::(tO' 45 [])))) [w3o nd sh th tr,cE' [.I th,.I nd],cE' [.I sh,.I th,.I nd,.I tr,.N,.ptr 3 0,.slice 4 0 1 1,.I 0],w3d,cE' [.ptr 5 0],some (.abs (.worker (v7 th nd 0 [])) [])]else True∧bif !dK th nd then K (.tup [.ptr 0 0,.I 1]) [cE' [.I sh,.I th,.I nd,.I tr,.N,.ptr 1 0,.raw w3w,.I 0],w3d]else(w3e nd th)∧bif ilt (2*nd+5*th+6) (↑0:Int)then K (.tup [.ptr 0 0,.I 6]) [cE' [.I sh,.I th,.I nd,.I tr,.N,.ptr 1 0,.raw w3w,.I 0],w3d]else((w3e nd th)∧True)∧(w3i nd th)∧K (.tup [.ptr 0 0,.I 0]) [cE' [.I sh,.I th,.I nd,.I tr,.ptr 1 0,.ptr 3 0,.raw w3w,.I 0],w3h nd th,w3l nd th,w3d])∧(∀(x:Hint.X (HN1 sh th nd tr m ln f g wf)),eG sh th m ln f g 1→bif ilt 1 th then bif ilt 1 (↑m:Int)then((0:Int)≤(1:Int)∧(1:Int)<(↑m:Int))∧((ln (Int.toNat 1)≤(1000000:Nat)∧lO fun j=>[.I (f (Int.toNat 1) j),.I (g (Int.toNat 1) j)])∧True)∧bif !ieq (ofC sh (ln (Int.toNat 1)) (rK fun j=>[.I (f (Int.toNat 1) j),.I (g (Int.toNat 1) j)]) (rY fun j=>[.I (f (Int.toNat 1) j),.I (g (Int.toNat 1) j)])) 0 then K (.tup [.N,.I (ofC sh (ln (Int.toNat 1)) (rK fun j=>[.I (f (Int.toNat 1) j),.I (g (Int.toNat 1) j)]) (rY fun j=>[.I (f (Int.toNat 1) j),.I (g (Int.toNat 1) j)]))]) []else(lE' (ofR sh (ln (Int.toNat 1)) (rK fun j=>[.I (f (Int.toNat 1) j),.I (g (Int.toNat 1) j)]) (rY fun j=>[.I (f (Int.toNat 1) j),.I (g (Int.toNat 1) j)]))∧True)∧1+(1:Nat)≤(4294967296:Nat)∧cV (HN2 sh th nd tr m ln f g wf) (fun x_1=>Hint.ok (HN2 sh th nd tr m ln f g wf) x_1∧gW (some (Hint.mu (HN1 sh th nd tr m ln f g wf) x)) (Hint.mu (HN2 sh th nd tr m ln f g wf) x_1)) (.O::(.view m 1 fun i=>[.view (ln i) 2 fun j=>[.I (f i j),.I (g i j)]])::.ptr 0 0::.O::.O::.O::.O::.ptr 1 0::.ptr 2 0::(tO' 24 (.I th::.I (W (1+1))::(tO' 45 [])))) [w3o nd sh th tr,cE' [.I th,.I nd],cE' [.I sh,.I th,.I nd,.I tr,.N,.ptr 3 0,.slice 4 0 2 1,.I 0],w3d,cE' [.ptr 5 0,.ptr 6 0],w3f wf,some (.abs (.worker (v7 th nd 1 (ofR sh (ln (Int.toNat 1)) (rK fun j=>[.I (f (Int.toNat 1) j),.I (g (Int.toNat 1) j)]) (rY fun j=>[.I (f (Int.toNat 1) j),.I (g (Int.toNat 1) j)])))) [])]else(True∧True)∧1+(1:Nat)≤(4294967296:Nat)∧cV (HN2 sh th nd tr m ln f g wf) (fun x_1=>Hint.ok (HN2 sh th nd tr m ln f g wf) x_1∧gW (some (Hint.mu (HN1 sh th nd tr m ln f g wf) x)) (Hint.mu (HN2 sh th nd tr m ln f g wf) x_1)) (.O::(.view m 1 fun i=>[.view (ln i) 2 fun j=>[.I (f i j),.I (g i j)]])::.ptr 0 0::.O::.O::.O::.O::.ptr 1 0::.ptr 2 0::(tO' 24 (.I th::.I (W (1+1))::(tO' 45 [])))) [w3o nd sh th tr,cE' [.I th,.I nd],cE' [.I sh,.I th,.I nd,.I tr,.N,.ptr 3 0,.slice 4 0 2 1,.I 0],w3d,cE' [.ptr 5 0,.ptr 6 0],w3f wf,some (.abs (.worker (v7 th nd 1 [])) [])]else True∧bif !dK th nd then K (.tup [.ptr 0 0,.I 1]) [cE' [.I sh,.I th,.I nd,.I tr,.N,.ptr 1 0,.slice 2 0 1 1,.I 0],w3d,cE' [.ptr 3 0],w3f wf]else(w3e nd th)∧bif ilt (2*nd+5*th+6) (↑0:Int)then K (.tup [.ptr 0 0,.I 6]) [cE' [.I sh,.I th,.I nd,.I tr,.N,.ptr 1 0,.slice 2 0 1 1,.I 0],w3d,cE' [.ptr 3 0],w3f wf]else((w3e nd th)∧True)∧(w3i nd th)∧K (.tup [.ptr 0 0,.I 0]) [cE' [.I sh,.I th,.I nd,.I tr,.ptr 1 0,.ptr 3 0,.slice 4 0 1 1,.I 0],w3h nd th,w3l nd th,w3d,cE' [.ptr 5 0],w3f wf])∧(∀(x:Hint.X (HN2 sh th nd tr m ln f g wf)),eG sh th m ln f g 2→bif ilt 2 th then bif ilt 2 (↑m:Int)then((0:Int)≤(2:Int)∧(2:Int)<(↑m:Int))∧((ln (Int.toNat 2)≤(1000000:Nat)∧lO fun j=>[.I (f (Int.toNat 2) j),.I (g (Int.toNat 2) j)])∧True)∧bif !ieq (ofC sh (ln (Int.toNat 2)) (rK fun j=>[.I (f (Int.toNat 2) j),.I (g (Int.toNat 2) j)]) (rY fun j=>[.I (f (Int.toNat 2) j),.I (g (Int.toNat 2) j)])) 0 then K (.tup [.N,.I (ofC sh (ln (Int.toNat 2)) (rK fun j=>[.I (f (Int.toNat 2) j),.I (g (Int.toNat 2) j)]) (rY fun j=>[.I (f (Int.toNat 2) j),.I (g (Int.toNat 2) j)]))]) []else(lE' (ofR sh (ln (Int.toNat 2)) (rK fun j=>[.I (f (Int.toNat 2) j),.I (g (Int.toNat 2) j)]) (rY fun j=>[.I (f (Int.toNat 2) j),.I (g (Int.toNat 2) j)]))∧True)∧2+(1:Nat)≤(4294967296:Nat)∧cV (HN3 sh th nd tr m ln f g wf) (fun x_1=>Hint.ok (HN3 sh th nd tr m ln f g wf) x_1∧gW (some (Hint.mu (HN2 sh th nd tr m ln f g wf) x)) (Hint.mu (HN3 sh th nd tr m ln f g wf) x_1)) (.O::(.view m 1 fun i=>[.view (ln i) 2 fun j=>[.I (f i j),.I (g i j)]])::.ptr 0 0::.O::.O::.O::.O::.ptr 1 0::.ptr 2 0::(tO' 24 (.I th::.I (W (2+1))::(tO' 45 [])))) [w3o nd sh th tr,cE' [.I th,.I nd],cE' [.I sh,.I th,.I nd,.I tr,.N,.ptr 3 0,.slice 4 0 3 1,.I 0],w3d,cE' w3z,w3f wf,w3g wf,some (.abs (.worker (v7 th nd 2 (ofR sh (ln (Int.toNat 2)) (rK fun j=>[.I (f (Int.toNat 2) j),.I (g (Int.toNat 2) j)]) (rY fun j=>[.I (f (Int.toNat 2) j),.I (g (Int.toNat 2) j)])))) [])]else(True∧True)∧2+(1:Nat)≤(4294967296:Nat)∧cV (HN3 sh th nd tr m ln f g wf) (fun x_1=>Hint.ok (HN3 sh th nd tr m ln f g wf) x_1∧gW (some (Hint.mu (HN2 sh th nd tr m ln f g wf) x)) (Hint.mu (HN3 sh th nd tr m ln f g wf) x_1)) (.O::(.view m 1 fun i=>[.view (ln i) 2 fun j=>[.I (f i j),.I (g i j)]])::.ptr 0 0::.O::.O::.O::.O::.ptr 1 0::.ptr 2 0::(tO' 24 (.I th::.I (W (2+1))::(tO' 45 [])))) [w3o nd sh th tr,cE' [.I th,.I nd],cE' [.I sh,.I th,.I nd,.I tr,.N,.ptr 3 0,.slice 4 0 3 1,.I 0],w3d,cE' w3z,w3f wf,w3g wf,some (.abs (.worker (v7 th nd 2 [])) [])]else True∧bif !dK th nd then K (.tup [.ptr 0 0,.I 1]) [cE' [.I sh,.I th,.I nd,.I tr,.N,.ptr 1 0,.slice 2 0 2 1,.I 0],w3d,cE' [.ptr 3 0,.ptr 4 0],w3f wf,w3g wf]else(w3e nd th)∧bif ilt (2*nd+5*th+6) (↑0:Int)then K (.tup [.ptr 0 0,.I 6]) [cE' [.I sh,.I th,.I nd,.I tr,.N,.ptr 1 0,.slice 2 0 2 1,.I 0],w3d,cE' [.ptr 3 0,.ptr 4 0],w3f wf,w3g wf]else((w3e nd th)∧True)∧(w3i nd th)∧K (.tup [.ptr 0 0,.I 0]) [cE' [.I sh,.I th,.I nd,.I tr,.ptr 1 0,.ptr 3 0,.slice 4 0 2 1,.I 0],w3h nd th,w3l nd th,w3d,cE' [.ptr 5 0,.ptr 6 0],w3f wf,w3g wf])∧(∀(x:Hint.X (HN3 sh th nd tr m ln f g wf)),eG sh th m ln f g 3→bif ilt 3 th then bif ilt 3 (↑m:Int)then((0:Int)≤(3:Int)∧(3:Int)<(↑m:Int))∧((ln (Int.toNat 3)≤(1000000:Nat)∧lO fun j=>[.I (f (Int.toNat 3) j),.I (g (Int.toNat 3) j)])∧True)∧bif !ieq (ofC sh (ln (Int.toNat 3)) (rK fun j=>[.I (f (Int.toNat 3) j),.I (g (Int.toNat 3) j)]) (rY fun j=>[.I (f (Int.toNat 3) j),.I (g (Int.toNat 3) j)])) 0 then K (.tup [.N,.I (ofC sh (ln (Int.toNat 3)) (rK fun j=>[.I (f (Int.toNat 3) j),.I (g (Int.toNat 3) j)]) (rY fun j=>[.I (f (Int.toNat 3) j),.I (g (Int.toNat 3) j)]))]) []else(lE' (ofR sh (ln (Int.toNat 3)) (rK fun j=>[.I (f (Int.toNat 3) j),.I (g (Int.toNat 3) j)]) (rY fun j=>[.I (f (Int.toNat 3) j),.I (g (Int.toNat 3) j)]))∧True)∧3+(1:Nat)≤(4294967296:Nat)∧cV (HN4 sh th nd tr m ln f g wf) (fun x_1=>Hint.ok (HN4 sh th nd tr m ln f g wf) x_1∧gW (some (Hint.mu (HN3 sh th nd tr m ln f g wf) x)) (Hint.mu (HN4 sh th nd tr m ln f g wf) x_1)) (.O::(.view m 1 fun i=>[.view (ln i) 2 fun j=>[.I (f i j),.I (g i j)]])::.ptr 0 0::.O::.O::.O::.O::.ptr 1 0::.ptr 2 0::(tO' 24 (.I th::.I (W (3+1))::(tO' 45 [])))) [w3o nd sh th tr,cE' [.I th,.I nd],cE' [.I sh,.I th,.I nd,.I tr,.N,.ptr 3 0,.slice 4 0 4 1,.I 0],w3d,cE' w3v,w3f wf,w3g wf,w3j wf,some (.abs (.worker (v7 th nd 3 (ofR sh (ln (Int.toNat 3)) (rK fun j=>[.I (f (Int.toNat 3) j),.I (g (Int.toNat 3) j)]) (rY fun j=>[.I (f (Int.toNat 3) j),.I (g (Int.toNat 3) j)])))) [])]else(True∧True)∧3+(1:Nat)≤(4294967296:Nat)∧cV (HN4 sh th nd tr m ln f g wf) (fun x_1=>Hint.ok (HN4 sh th nd tr m ln f g wf) x_1∧gW (some (Hint.mu (HN3 sh th nd tr m ln f g wf) x)) (Hint.mu (HN4 sh th nd tr m ln f g wf) x_1)) (.O::(.view m 1 fun i=>[.view (ln i) 2 fun j=>[.I (f i j),.I (g i j)]])::.ptr 0 0::.O::.O::.O::.O::.ptr 1 0::.ptr 2 0::(tO' 24 (.I th::.I (W (3+1))::(tO' 45 [])))) [w3o nd sh th tr,cE' [.I th,.I nd],cE' [.I sh,.I th,.I nd,.I tr,.N,.ptr 3 0,.slice 4 0 4 1,.I 0],w3d,cE' w3v,w3f wf,w3g wf,w3j wf,some (.abs (.worker (v7 th nd 3 [])) [])]else True∧bif !dK th nd then K (.tup [.ptr 0 0,.I 1]) [cE' [.I sh,.I th,.I nd,.I tr,.N,.ptr 1 0,.slice 2 0 3 1,.I 0],w3d,cE' [.ptr 3 0,.ptr 4 0,.ptr 5 0],w3f wf,w3g wf,w3j wf]else(w3e nd th)∧bif ilt (2*nd+5*th+6) (↑0:Int)then K (.tup [.ptr 0 0,.I 6]) [cE' [.I sh,.I th,.I nd,.I tr,.N,.ptr 1 0,.slice 2 0 3 1,.I 0],w3d,cE' [.ptr 3 0,.ptr 4 0,.ptr 5 0],w3f wf,w3g wf,w3j wf]else((w3e nd th)∧True)∧(w3i nd th)∧K (.tup [.ptr 0 0,.I 0]) [cE' [.I sh,.I th,.I nd,.I tr,.ptr 1 0,.ptr 3 0,.slice 4 0 3 1,.I 0],w3h nd th,w3l nd th,w3d,cE' w3z,w3f wf,w3g wf,w3j wf])∧(∀(x:Hint.X (HN4 sh th nd tr m ln f g wf)),eG sh th m ln f g 4→bif ilt 4 th then bif ilt 4 (↑m:Int)then((0:Int)≤(4:Int)∧(4:Int)<(↑m:Int))∧((ln (Int.toNat 4)≤(1000000:Nat)∧lO fun j=>[.I (f (Int.toNat 4) j),.I (g (Int.toNat 4) j)])∧True)∧bif !ieq (ofC sh (ln (Int.toNat 4)) (rK fun j=>[.I (f (Int.toNat 4) j),.I (g (Int.toNat 4) j)]) (rY fun j=>[.I (f (Int.toNat 4) j),.I (g (Int.toNat 4) j)])) 0 then K (.tup [.N,.I (ofC sh (ln (Int.toNat 4)) (rK fun j=>[.I (f (Int.toNat 4) j),.I (g (Int.toNat 4) j)]) (rY fun j=>[.I (f (Int.toNat 4) j),.I (g (Int.toNat 4) j)]))]) []else(lE' (ofR sh (ln (Int.toNat 4)) (rK fun j=>[.I (f (Int.toNat 4) j),.I (g (Int.toNat 4) j)]) (rY fun j=>[.I (f (Int.toNat 4) j),.I (g (Int.toNat 4) j)]))∧True)∧4+(1:Nat)≤(4294967296:Nat)∧cV (HN5 sh th nd tr m ln f g wf) (fun x_1=>Hint.ok (HN5 sh th nd tr m ln f g wf) x_1∧gW (some (Hint.mu (HN4 sh th nd tr m ln f g wf) x)) (Hint.mu (HN5 sh th nd tr m ln f g wf) x_1)) (.O::(.view m 1 fun i=>[.view (ln i) 2 fun j=>[.I (f i j),.I (g i j)]])::.ptr 0 0::.O::.O::.O::.O::.ptr 1 0::.ptr 2 0::(tO' 24 (.I th::.I (W (4+1))::(tO' 45 [])))) [w3o nd sh th tr,cE' [.I th,.I nd],cE' [.I sh,.I th,.I nd,.I tr,.N,.ptr 3 0,.slice 4 0 5 1,.I 0],w3d,cE' w3t,w3f wf,w3g wf,w3j wf,w3k wf,some (.abs (.worker (v7 th nd 4 (ofR sh (ln (Int.toNat 4)) (rK fun j=>[.I (f (Int.toNat 4) j),.I (g (Int.toNat 4) j)]) (rY fun j=>[.I (f (Int.toNat 4) j),.I (g (Int.toNat 4) j)])))) [])]else(True∧True)∧4+(1:Nat)≤(4294967296:Nat)∧cV (HN5 sh th nd tr m ln f g wf) (fun x_1=>Hint.ok (HN5 sh th nd tr m ln f g wf) x_1∧gW (some (Hint.mu (HN4 sh th nd tr m ln f g wf) x)) (Hint.mu (HN5 sh th nd tr m ln f g wf) x_1)) (.O::(.view m 1 fun i=>[.view (ln i) 2 fun j=>[.I (f i j),.I (g i j)]])::.ptr 0 0::.O::.O::.O::.O::.ptr 1 0::.ptr 2 0::(tO' 24 (.I th::.I (W (4+1))::(tO' 45 [])))) [w3o nd sh th tr,cE' [.I th,.I nd],cE' [.I sh,.I th,.I nd,.I tr,.N,.ptr 3 0,.slice 4 0 5 1,.I 0],w3d,cE' w3t,w3f wf,w3g wf,w3j wf,w3k wf,some (.abs (.worker (v7 th nd 4 [])) [])]else True∧bif !dK th nd then K (.tup [.ptr 0 0,.I 1]) [cE' [.I sh,.I th,.I nd,.I tr,.N,.ptr 1 0,.slice 2 0 4 1,.I 0],w3d,cE' [.ptr 3 0,.ptr 4 0,.ptr 5 0,.ptr 6 0],w3f wf,w3g wf,w3j wf,w3k wf]else(w3e nd th)∧bif ilt (2*nd+5*th+6) (↑0:Int)then K (.tup [.ptr 0 0,.I 6]) [cE' [.I sh,.I th,.I nd,.I tr,.N,.ptr 1 0,.slice 2 0 4 1,.I 0],w3d,cE' [.ptr 3 0,.ptr 4 0,.ptr 5 0,.ptr 6 0],w3f wf,w3g wf,w3j wf,w3k wf]else((w3e nd th)∧True)∧(w3i nd th)∧K (.tup [.ptr 0 0,.I 0]) [cE' [.I sh,.I th,.I nd,.I tr,.ptr 1 0,.ptr 3 0,.slice 4 0 4 1,.I 0],w3h nd th,w3l nd th,w3d,cE' w3v,w3f wf,w3g wf,w3j wf,w3k wf])∧(∀(x:Hint.X (HN5 sh th nd tr m ln f g wf)),eG sh th m ln f g 5→bif ilt 5 th then bif ilt 5 (↑m:Int)then((0:Int)≤(5:Int)∧(5:Int)<(↑m:Int))∧((ln (Int.toNat 5)≤(1000000:Nat)∧lO fun j=>[.I (f (Int.toNat 5) j),.I (g (Int.toNat 5) j)])∧True)∧bif !ieq (ofC sh (ln (Int.toNat 5)) (rK fun j=>[.I (f (Int.toNat 5) j),.I (g (Int.toNat 5) j)]) (rY fun j=>[.I (f (Int.toNat 5) j),.I (g (Int.toNat 5) j)])) 0 then K (.tup [.N,.I (ofC sh (ln (Int.toNat 5)) (rK fun j=>[.I (f (Int.toNat 5) j),.I (g (Int.toNat 5) j)]) (rY fun j=>[.I (f (Int.toNat 5) j),.I (g (Int.toNat 5) j)]))]) []else(lE' (ofR sh (ln (Int.toNat 5)) (rK fun j=>[.I (f (Int.toNat 5) j),.I (g (Int.toNat 5) j)]) (rY fun j=>[.I (f (Int.toNat 5) j),.I (g (Int.toNat 5) j)]))∧True)∧5+(1:Nat)≤(4294967296:Nat)∧cV (HN6 sh th nd tr m ln f g wf) (fun x_1=>Hint.ok (HN6 sh th nd tr m ln f g wf) x_1∧gW (some (Hint.mu (HN5 sh th nd tr m ln f g wf) x)) (Hint.mu (HN6 sh th nd tr m ln f g wf) x_1)) (.O::(.view m 1 fun i=>[.view (ln i) 2 fun j=>[.I (f i j),.I (g i j)]])::.ptr 0 0::.O::.O::.O::.O::.ptr 1 0::.ptr 2 0::(tO' 24 (.I th::.I (W (5+1))::(tO' 45 [])))) [w3o nd sh th tr,cE' [.I th,.I nd],cE' [.I sh,.I th,.I nd,.I tr,.N,.ptr 3 0,.slice 4 0 6 1,.I 0],w3d,cE' w3r,w3f wf,w3g wf,w3j wf,w3k wf,w3m wf,some (.abs (.worker (v7 th nd 5 (ofR sh (ln (Int.toNat 5)) (rK fun j=>[.I (f (Int.toNat 5) j),.I (g (Int.toNat 5) j)]) (rY fun j=>[.I (f (Int.toNat 5) j),.I (g (Int.toNat 5) j)])))) [])]else(True∧True)∧5+(1:Nat)≤(4294967296:Nat)∧cV (HN6 sh th nd tr m ln f g wf) (fun x_1=>Hint.ok (HN6 sh th nd tr m ln f g wf) x_1∧gW (some (Hint.mu (HN5 sh th nd tr m ln f g wf) x)) (Hint.mu (HN6 sh th nd tr m ln f g wf) x_1)) (.O::(.view m 1 fun i=>[.view (ln i) 2 fun j=>[.I (f i j),.I (g i j)]])::.ptr 0 0::.O::.O::.O::.O::.ptr 1 0::.ptr 2 0::(tO' 24 (.I th::.I (W (5+1))::(tO' 45 [])))) [w3o nd sh th tr,cE' [.I th,.I nd],cE' [.I sh,.I th,.I nd,.I tr,.N,.ptr 3 0,.slice 4 0 6 1,.I 0],w3d,cE' w3r,w3f wf,w3g wf,w3j wf,w3k wf,w3m wf,some (.abs (.worker (v7 th nd 5 [])) [])]else True∧bif !dK th nd then K (.tup [.ptr 0 0,.I 1]) [cE' [.I sh,.I th,.I nd,.I tr,.N,.ptr 1 0,.slice 2 0 5 1,.I 0],w3d,cE' [.ptr 3 0,.ptr 4 0,.ptr 5 0,.ptr 6 0,.ptr 7 0],w3f wf,w3g wf,w3j wf,w3k wf,w3m wf]else(w3e nd th)∧bif ilt (2*nd+5*th+6) (↑0:Int)then K (.tup [.ptr 0 0,.I 6]) [cE' [.I sh,.I th,.I nd,.I tr,.N,.ptr 1 0,.slice 2 0 5 1,.I 0],w3d,cE' [.ptr 3 0,.ptr 4 0,.ptr 5 0,.ptr 6 0,.ptr 7 0],w3f wf,w3g wf,w3j wf,w3k wf,w3m wf]else((w3e nd th)∧True)∧(w3i nd th)∧K (.tup [.ptr 0 0,.I 0]) [cE' [.I sh,.I th,.I nd,.I tr,.ptr 1 0,.ptr 3 0,.slice 4 0 5 1,.I 0],w3h nd th,w3l nd th,w3d,cE' w3t,w3f wf,w3g wf,w3j wf,w3k wf,w3m wf])∧(∀(x:Hint.X (HN6 sh th nd tr m ln f g wf)),eG sh th m ln f g 6→bif ilt 6 th then bif ilt 6 (↑m:Int)then((0:Int)≤(6:Int)∧(6:Int)<(↑m:Int))∧((ln (Int.toNat 6)≤(1000000:Nat)∧lO fun j=>[.I (f (Int.toNat 6) j),.I (g (Int.toNat 6) j)])∧True)∧bif !ieq (ofC sh (ln (Int.toNat 6)) (rK fun j=>[.I (f (Int.toNat 6) j),.I (g (Int.toNat 6) j)]) (rY fun j=>[.I (f (Int.toNat 6) j),.I (g (Int.toNat 6) j)])) 0 then K (.tup [.N,.I (ofC sh (ln (Int.toNat 6)) (rK fun j=>[.I (f (Int.toNat 6) j),.I (g (Int.toNat 6) j)]) (rY fun j=>[.I (f (Int.toNat 6) j),.I (g (Int.toNat 6) j)]))]) []else(lE' (ofR sh (ln (Int.toNat 6)) (rK fun j=>[.I (f (Int.toNat 6) j),.I (g (Int.toNat 6) j)]) (rY fun j=>[.I (f (Int.toNat 6) j),.I (g (Int.toNat 6) j)]))∧True)∧6+(1:Nat)≤(4294967296:Nat)∧cV (HN7 sh th nd tr m ln f g wf) (fun x_1=>Hint.ok (HN7 sh th nd tr m ln f g wf) x_1∧gW (some (Hint.mu (HN6 sh th nd tr m ln f g wf) x)) (Hint.mu (HN7 sh th nd tr m ln f g wf) x_1)) (.O::(.view m 1 fun i=>[.view (ln i) 2 fun j=>[.I (f i j),.I (g i j)]])::.ptr 0 0::.O::.O::.O::.O::.ptr 1 0::.ptr 2 0::(tO' 24 (.I th::.I (W (6+1))::(tO' 45 [])))) [w3o nd sh th tr,cE' [.I th,.I nd],cE' [.I sh,.I th,.I nd,.I tr,.N,.ptr 3 0,.slice 4 0 7 1,.I 0],w3d,cE' w3q,w3f wf,w3g wf,w3j wf,w3k wf,w3m wf,w3n wf,some (.abs (.worker (v7 th nd 6 (ofR sh (ln (Int.toNat 6)) (rK fun j=>[.I (f (Int.toNat 6) j),.I (g (Int.toNat 6) j)]) (rY fun j=>[.I (f (Int.toNat 6) j),.I (g (Int.toNat 6) j)])))) [])]else(True∧True)∧6+(1:Nat)≤(4294967296:Nat)∧cV (HN7 sh th nd tr m ln f g wf) (fun x_1=>Hint.ok (HN7 sh th nd tr m ln f g wf) x_1∧gW (some (Hint.mu (HN6 sh th nd tr m ln f g wf) x)) (Hint.mu (HN7 sh th nd tr m ln f g wf) x_1)) (.O::(.view m 1 fun i=>[.view (ln i) 2 fun j=>[.I (f i j),.I (g i j)]])::.ptr 0 0::.O::.O::.O::.O::.ptr 1 0::.ptr 2 0::(tO' 24 (.I th::.I (W (6+1))::(tO' 45 [])))) [w3o nd sh th tr,cE' [.I th,.I nd],cE' [.I sh,.I th,.I nd,.I tr,.N,.ptr 3 0,.slice 4 0 7 1,.I 0],w3d,cE' w3q,w3f wf,w3g wf,w3j wf,w3k wf,w3m wf,w3n wf,some (.abs (.worker (v7 th nd 6 [])) [])]else True∧bif !dK th nd then K (.tup [.ptr 0 0,.I 1]) [cE' [.I sh,.I th,.I nd,.I tr,.N,.ptr 1 0,.slice 2 0 6 1,.I 0],w3d,cE' w3y,w3f wf,w3g wf,w3j wf,w3k wf,w3m wf,w3n wf]else(w3e nd th)∧bif ilt (2*nd+5*th+6) (↑0:Int)then K (.tup [.ptr 0 0,.I 6]) [cE' [.I sh,.I th,.I nd,.I tr,.N,.ptr 1 0,.slice 2 0 6 1,.I 0],w3d,cE' w3y,w3f wf,w3g wf,w3j wf,w3k wf,w3m wf,w3n wf]else((w3e nd th)∧True)∧(w3i nd th)∧K (.tup [.ptr 0 0,.I 0]) [cE' [.I sh,.I th,.I nd,.I tr,.ptr 1 0,.ptr 3 0,.slice 4 0 6 1,.I 0],w3h nd th,w3l nd th,w3d,cE' w3r,w3f wf,w3g wf,w3j wf,w3k wf,w3m wf,w3n wf])∧(∀(x:Hint.X (HN7 sh th nd tr m ln f g wf)),eG sh th m ln f g 7→bif ilt 7 th then bif ilt 7 (↑m:Int)then((0:Int)≤(7:Int)∧(7:Int)<(↑m:Int))∧((ln (Int.toNat 7)≤(1000000:Nat)∧lO fun j=>[.I (f (Int.toNat 7) j),.I (g (Int.toNat 7) j)])∧True)∧bif !ieq (ofC sh (ln (Int.toNat 7)) (rK fun j=>[.I (f (Int.toNat 7) j),.I (g (Int.toNat 7) j)]) (rY fun j=>[.I (f (Int.toNat 7) j),.I (g (Int.toNat 7) j)])) 0 then K (.tup [.N,.I (ofC sh (ln (Int.toNat 7)) (rK fun j=>[.I (f (Int.toNat 7) j),.I (g (Int.toNat 7) j)]) (rY fun j=>[.I (f (Int.toNat 7) j),.I (g (Int.toNat 7) j)]))]) []else(lE' (ofR sh (ln (Int.toNat 7)) (rK fun j=>[.I (f (Int.toNat 7) j),.I (g (Int.toNat 7) j)]) (rY fun j=>[.I (f (Int.toNat 7) j),.I (g (Int.toNat 7) j)]))∧True)∧7+(1:Nat)≤(4294967296:Nat)∧cV (HN8 sh th nd tr m ln f g wf) (fun x_1=>Hint.ok (HN8 sh th nd tr m ln f g wf) x_1∧gW (some (Hint.mu (HN7 sh th nd tr m ln f g wf) x)) (Hint.mu (HN8 sh th nd tr m ln f g wf) x_1)) (.O::(.view m 1 fun i=>[.view (ln i) 2 fun j=>[.I (f i j),.I (g i j)]])::.ptr 0 0::.O::.O::.O::.O::.ptr 1 0::.ptr 2 0::(tO' 24 (.I th::.I (W (7+1))::(tO' 45 [])))) [w3o nd sh th tr,cE' [.I th,.I nd],cE' [.I sh,.I th,.I nd,.I tr,.N,.ptr 3 0,.slice 4 0 8 1,.I 0],w3d,cE' w3p,w3f wf,w3g wf,w3j wf,w3k wf,w3m wf,w3n wf,w3s wf,some (.abs (.worker (v7 th nd 7 (ofR sh (ln (Int.toNat 7)) (rK fun j=>[.I (f (Int.toNat 7) j),.I (g (Int.toNat 7) j)]) (rY fun j=>[.I (f (Int.toNat 7) j),.I (g (Int.toNat 7) j)])))) [])]else(True∧True)∧7+(1:Nat)≤(4294967296:Nat)∧cV (HN8 sh th nd tr m ln f g wf) (fun x_1=>Hint.ok (HN8 sh th nd tr m ln f g wf) x_1∧gW (some (Hint.mu (HN7 sh th nd tr m ln f g wf) x)) (Hint.mu (HN8 sh th nd tr m ln f g wf) x_1)) (.O::(.view m 1 fun i=>[.view (ln i) 2 fun j=>[.I (f i j),.I (g i j)]])::.ptr 0 0::.O::.O::.O::.O::.ptr 1 0::.ptr 2 0::(tO' 24 (.I th::.I (W (7+1))::(tO' 45 [])))) [w3o nd sh th tr,cE' [.I th,.I nd],cE' [.I sh,.I th,.I nd,.I tr,.N,.ptr 3 0,.slice 4 0 8 1,.I 0],w3d,cE' w3p,w3f wf,w3g wf,w3j wf,w3k wf,w3m wf,w3n wf,w3s wf,some (.abs (.worker (v7 th nd 7 [])) [])]else True∧bif !dK th nd then K (.tup [.ptr 0 0,.I 1]) [cE' [.I sh,.I th,.I nd,.I tr,.N,.ptr 1 0,.slice 2 0 7 1,.I 0],w3d,cE' w3x,w3f wf,w3g wf,w3j wf,w3k wf,w3m wf,w3n wf,w3s wf]else(w3e nd th)∧bif ilt (2*nd+5*th+6) (↑0:Int)then K (.tup [.ptr 0 0,.I 6]) [cE' [.I sh,.I th,.I nd,.I tr,.N,.ptr 1 0,.slice 2 0 7 1,.I 0],w3d,cE' w3x,w3f wf,w3g wf,w3j wf,w3k wf,w3m wf,w3n wf,w3s wf]else((w3e nd th)∧True)∧(w3i nd th)∧K (.tup [.ptr 0 0,.I 0]) [cE' [.I sh,.I th,.I nd,.I tr,.ptr 1 0,.ptr 3 0,.slice 4 0 7 1,.I 0],w3h nd th,w3l nd th,w3d,cE' w3q,w3f wf,w3g wf,w3j wf,w3k wf,w3m wf,w3n wf,w3s wf])∧(∀(x:Hint.X (HN8 sh th nd tr m ln f g wf)),eG sh th m ln f g 8→bif ilt 8 th then bif ilt 8 (↑m:Int)then((0:Int)≤(8:Int)∧(8:Int)<(↑m:Int))∧((ln (Int.toNat 8)≤(1000000:Nat)∧lO fun j=>[.I (f (Int.toNat 8) j),.I (g (Int.toNat 8) j)])∧True)∧bif !ieq (ofC sh (ln (Int.toNat 8)) (rK fun j=>[.I (f (Int.toNat 8) j),.I (g (Int.toNat 8) j)]) (rY fun j=>[.I (f (Int.toNat 8) j),.I (g (Int.toNat 8) j)])) 0 then K (.tup [.N,.I (ofC sh (ln (Int.toNat 8)) (rK fun j=>[.I (f (Int.toNat 8) j),.I (g (Int.toNat 8) j)]) (rY fun j=>[.I (f (Int.toNat 8) j),.I (g (Int.toNat 8) j)]))]) []else(lE' (ofR sh (ln (Int.toNat 8)) (rK fun j=>[.I (f (Int.toNat 8) j),.I (g (Int.toNat 8) j)]) (rY fun j=>[.I (f (Int.toNat 8) j),.I (g (Int.toNat 8) j)]))∧True)∧8+(1:Nat)≤(4294967296:Nat)∧False else(True∧True)∧8+(1:Nat)≤(4294967296:Nat)∧False else True∧bif !dK th nd then K (.tup [.ptr 0 0,.I 1]) [cE' [.I sh,.I th,.I nd,.I tr,.N,.ptr 1 0,.slice 2 0 8 1,.I 0],w3d,cE' w3u,w3f wf,w3g wf,w3j wf,w3k wf,w3m wf,w3n wf,w3s wf,some (.abs (.worker (wf 7)) [])]else(w3e nd th)∧bif ilt (2*nd+5*th+6) (↑0:Int)then K (.tup [.ptr 0 0,.I 6]) [cE' [.I sh,.I th,.I nd,.I tr,.N,.ptr 1 0,.slice 2 0 8 1,.I 0],w3d,cE' w3u,w3f wf,w3g wf,w3j wf,w3k wf,w3m wf,w3n wf,w3s wf,some (.abs (.worker (wf 7)) [])]else((w3e nd th)∧True)∧(w3i nd th)∧K (.tup [.ptr 0 0,.I 0]) [cE' [.I sh,.I th,.I nd,.I tr,.ptr 1 0,.ptr 3 0,.slice 4 0 8 1,.I 0],w3h nd th,w3l nd th,w3d,cE' w3p,w3f wf,w3g wf,w3j wf,w3k wf,w3m wf,w3n wf,w3s wf,some (.abs (.worker (wf 7)) [])])∧True
theorem OD(sh th nd tr:Int)(m:Nat)(ln:Nat→Nat)(f g:Nat→Nat→Int)(wf:Nat→WKS)(K:AVal→aC Ob→Prop)(h:aBf sh th nd tr m ln f g wf K):cT' 25 [.agg [.I sh,.I th,.I nd,.I tr],.view m 1 (fun i=>[.view (ln i) 2 (fun j=>[.I (f i j),.I (g i j)])])] [] K:=by
 refine aGz (aD (E:=EU1) Tryz.checked.mixed (L:=(fun _ _=>some (.cases [HN0 sh th nd tr m ln f g wf,HN1 sh th nd tr m ln f g wf,HN2 sh th nd tr m ln f g wf,HN3 sh th nd tr m ln f g wf,HN4 sh th nd tr m ln f g wf,HN5 sh th nd tr m ln f g wf,HN6 sh th nd tr m ln f g wf,HN7 sh th nd tr m ln f g wf,HN8 sh th nd tr m ln f g wf]))) (n:=10) (aK (by kernel_rfl) h))
theorem vB{t n:Int} :dK t n=true↔1≤t∧t≤8∧1≤n∧n≤200:=by
 unfold dK;simp only [cE,Bool.and_eq_true,dT',and_assoc]
theorem YZ{sh th nd tr:Int}(h:ieq (wrE sh th nd tr) 0=true):1≤sh∧sh≤4∧(1≤th∧th≤8∧1≤nd∧nd≤200)∧0≤tr∧tr≤50:=by
 unfold wrE at h;cases h1:ilt sh 1<;>rw [h1]at h<;>simp only [cond_true,cond_false]at h
 case true=>exact absurd h (by decide)
 cases h2:ilt 4 sh<;>rw [h2]at h<;>simp only [cond_true,cond_false]at h
 case true=>exact absurd h (by decide)
 cases h3:dK th nd<;>rw [h3]at h<;>simp only [Bool.not_false,Bool.not_true,cond_true,cond_false]at h
 case false=>exact absurd h (by decide)
 cases h4:ilt tr 0<;>rw [h4]at h<;>simp only [cond_true,cond_false]at h
 case true=>exact absurd h (by decide)
 cases h5:ilt 50 tr<;>rw [h5]at h<;>simp only [cond_true,cond_false]at h
 case true=>exact absurd h (by decide)
 rw [aU,dF']at h1 h2 h4 h5;exact⟨by omega,by omega,vB.1 h3,by omega,by omega⟩
def jC(t n:Int):MS:= {t:=t,n:=n,xs:=List.replicate (2*n+5*t+6).toNat 0,c:=0,k:=0,a:=0,o:=0,w:=0,ok:=false}
def dE(sh th nd:Int)(m:Nat)(ln:Nat→Nat)(f g:Nat→Nat→Int)(j:Nat):WKS:=v7 th nd (j:Int) (bif ilt (j:Int) (m:Int)then ofR sh (ln j) (f j) (g j)else [])
def dJ(sh th nd tr:Int)(m:Nat)(ln:Nat→Nat)(f g:Nat→Nat→Int):EGS:=⟨sh,th,nd,tr,jC th nd,⟨[],[],0,0,0,0,0,0,0,0⟩,(List.range th.toNat).map (dE sh th nd m ln f g),0⟩
def gnC(sh th nd tr:Int)(m:Nat)(ln:Nat→Nat)(f g:Nat→Nat→Int):Int:=bif !ieq (wrE sh th nd tr) 0 then wrE sh th nd tr else bif lgB th m ln then 6 else bif (List.range m).all (fun j=>eJ sh (ln j) (f j) (g j))then 0 else 1
abbrev qJ(sh th nd tr:Int)(m:Nat)(ln:Nat→Nat)(f g:Nat→Nat→Int):Out Ob:=.ite (ieq (gnC sh th nd tr m ln f g) 0) (.ret (.tup [.ptr 0 0,.I 0]) (egH (dJ sh th nd tr m ln f g))) (.ret (.tup [.raw (.pointer none),.I (gnC sh th nd tr m ln f g)]) [])
theorem sV{sh:Int}{m:Nat}{f g:Nat→Int}(h:ieq (ofC sh m f g) 0=false):eJ sh m f g=false∧ofC sh m f g=1:=by
 unfold ofC at h⊢;cases e:eJ sh m f g with
 | true=>rw [e]at h;exact absurd h (by decide)
 | false=>exact⟨rfl,rfl⟩
theorem sU{sh:Int}{m:Nat}{f g:Nat→Int}(h:ieq (ofC sh m f g) 0=true):eJ sh m f g=true:=by
 unfold ofC at h;cases e:eJ sh m f g with
 | true=>rfl
 | false=>rw [e]at h;exact absurd h (by decide)
theorem lJ(sh th nd tr:Int)(m:Nat)(ln:Nat→Nat)(f g:Nat→Nat→Int)(K:AVal→aC Ob→Prop)(hK:(qJ sh th nd tr m ln f g).run K)(c:Int)(hc:gnC sh th nd tr m ln f g=c)(h0:ieq c 0=false):K (.tup [.raw (.pointer none),.I c]) []:=by
 have hK:(Out.ite (ieq (gnC sh th nd tr m ln f g) 0) _ _).run K:=hK;rw [hc,h0]at hK;exact hK
theorem kW(sh th nd tr:Int)(m:Nat)(ln:Nat→Nat)(f g:Nat→Nat→Int)(K:AVal→aC Ob→Prop)(hK:(qJ sh th nd tr m ln f g).run K)(hc:gnC sh th nd tr m ln f g=0):K (.tup [.ptr 0 0,.I 0]) (egH (dJ sh th nd tr m ln f g)):=by
 have hK:(Out.ite (ieq (gnC sh th nd tr m ln f g) 0) _ _).run K:=hK;rw [hc]at hK;exact hK
abbrev w40:Option (aJ Ob):=some (.abs (.hist ⟨[],[],0,0,0,0,0,0,0,0⟩) [])
abbrev w41(wf:Nat→WKS):Option (aJ Ob):=some (.abs (.worker (wf 0)) [])
abbrev w44(nd:Int):Option (aJ Ob):=cE' [.I 1,.I nd,.slice 2 0 (Int.toNat (2*nd+5*1+6)) 1,.I 0,.I 0,.I 0,.int .u64 0,.int .u64 0,.bool false]
theorem aDT(sh nd tr:Int)(wf:Nat→WKS):aF (obI tbl) 0 (.tup [.ptr 0 0,.I 0]) [cE' [.I sh,.I 1,.I nd,.I tr,.ptr 1 0,.ptr 3 0,.slice 4 0 1 1,.I 0],w44 nd,some (.ints (some .u64) (List.replicate (Int.toNat (2*nd+5*1+6)) 0)),w40,cE' [.ptr 5 0],w41 wf] (.tup [.ptr 0 0,.I 0]) (egH ⟨sh,1,nd,tr,jC 1 nd,⟨[],[],0,0,0,0,0,0,0,0⟩,[wf 0],0⟩):=by
 refine(aF.pack [cE' [.I sh,.I 1,.I nd,.I tr,.ptr 1 0,.ptr 3 0,.slice 4 0 1 1,.I 0],w44 nd,some (.ints (some .u64) (List.replicate (Int.toNat (2*nd+5*1+6)) 0)),w40,some (.abs (.wrow [wf 0]) [])] (.wrow [wf 0]) 4 0 (rowE (List.map (fun w=>some (Mc.worker w)) [wf 0])) [] (by kernel_rfl) rfl rfl (by kernel_rfl)).trans ?_
 refine aF.trans (aGF rfl ?_) (dY 0 (Nat.zero_le _) _ rfl ⟨sh,1,nd,tr,jC 1 nd,⟨[],[],0,0,0,0,0,0,0,0⟩,[wf 0],0⟩);simp only [egG,jC,List.length_replicate];rfl
abbrev w42(wf:Nat→WKS):Option (aJ Ob):=some (.abs (.worker (wf 1)) [])
abbrev w45(nd:Int):Option (aJ Ob):=cE' [.I 2,.I nd,.slice 2 0 (Int.toNat (2*nd+5*2+6)) 1,.I 0,.I 0,.I 0,.int .u64 0,.int .u64 0,.bool false]
theorem aDU(sh nd tr:Int)(wf:Nat→WKS):aF (obI tbl) 0 (.tup [.ptr 0 0,.I 0]) [cE' [.I sh,.I 2,.I nd,.I tr,.ptr 1 0,.ptr 3 0,.slice 4 0 2 1,.I 0],w45 nd,some (.ints (some .u64) (List.replicate (Int.toNat (2*nd+5*2+6)) 0)),w40,cE' [.ptr 5 0,.ptr 6 0],w41 wf,w42 wf] (.tup [.ptr 0 0,.I 0]) (egH ⟨sh,2,nd,tr,jC 2 nd,⟨[],[],0,0,0,0,0,0,0,0⟩,[wf 0,wf 1],0⟩):=by
 refine(aF.pack [cE' [.I sh,.I 2,.I nd,.I tr,.ptr 1 0,.ptr 3 0,.slice 4 0 2 1,.I 0],w45 nd,some (.ints (some .u64) (List.replicate (Int.toNat (2*nd+5*2+6)) 0)),w40,some (.abs (.wrow [wf 0,wf 1]) [])] (.wrow [wf 0,wf 1]) 4 0 (rowE (List.map (fun w=>some (Mc.worker w)) [wf 0,wf 1])) [] (by kernel_rfl) rfl rfl (by kernel_rfl)).trans ?_
 refine aF.trans (aGF rfl ?_) (dY 0 (Nat.zero_le _) _ rfl ⟨sh,2,nd,tr,jC 2 nd,⟨[],[],0,0,0,0,0,0,0,0⟩,[wf 0,wf 1],0⟩);simp only [egG,jC,List.length_replicate];rfl
abbrev w43(wf:Nat→WKS):Option (aJ Ob):=some (.abs (.worker (wf 2)) [])
abbrev w46(nd:Int):Option (aJ Ob):=cE' [.I 3,.I nd,.slice 2 0 (Int.toNat (2*nd+5*3+6)) 1,.I 0,.I 0,.I 0,.int .u64 0,.int .u64 0,.bool false]
theorem aDV(sh nd tr:Int)(wf:Nat→WKS):aF (obI tbl) 0 (.tup [.ptr 0 0,.I 0]) [cE' [.I sh,.I 3,.I nd,.I tr,.ptr 1 0,.ptr 3 0,.slice 4 0 3 1,.I 0],w46 nd,some (.ints (some .u64) (List.replicate (Int.toNat (2*nd+5*3+6)) 0)),w40,cE' [.ptr 5 0,.ptr 6 0,.ptr 7 0],w41 wf,w42 wf,w43 wf] (.tup [.ptr 0 0,.I 0]) (egH ⟨sh,3,nd,tr,jC 3 nd,⟨[],[],0,0,0,0,0,0,0,0⟩,[wf 0,wf 1,wf 2],0⟩):=by
 refine(aF.pack [cE' [.I sh,.I 3,.I nd,.I tr,.ptr 1 0,.ptr 3 0,.slice 4 0 3 1,.I 0],w46 nd,some (.ints (some .u64) (List.replicate (Int.toNat (2*nd+5*3+6)) 0)),w40,some (.abs (.wrow [wf 0,wf 1,wf 2]) [])] (.wrow [wf 0,wf 1,wf 2]) 4 0 (rowE (List.map (fun w=>some (Mc.worker w)) [wf 0,wf 1,wf 2])) [] (by kernel_rfl) rfl rfl (by kernel_rfl)).trans ?_
 refine aF.trans (aGF rfl ?_) (dY 0 (Nat.zero_le _) _ rfl ⟨sh,3,nd,tr,jC 3 nd,⟨[],[],0,0,0,0,0,0,0,0⟩,[wf 0,wf 1,wf 2],0⟩);simp only [egG,jC,List.length_replicate];rfl
abbrev w47(nd:Int):Option (aJ Ob):=cE' [.I 4,.I nd,.slice 2 0 (Int.toNat (2*nd+5*4+6)) 1,.I 0,.I 0,.I 0,.int .u64 0,.int .u64 0,.bool false]
abbrev w4c(wf:Nat→WKS):Option (aJ Ob):=some (.abs (.worker (wf 3)) [])
theorem aDW(sh nd tr:Int)(wf:Nat→WKS):aF (obI tbl) 0 (.tup [.ptr 0 0,.I 0]) [cE' [.I sh,.I 4,.I nd,.I tr,.ptr 1 0,.ptr 3 0,.slice 4 0 4 1,.I 0],w47 nd,some (.ints (some .u64) (List.replicate (Int.toNat (2*nd+5*4+6)) 0)),w40,cE' [.ptr 5 0,.ptr 6 0,.ptr 7 0,.ptr 8 0],w41 wf,w42 wf,w43 wf,w4c wf] (.tup [.ptr 0 0,.I 0]) (egH ⟨sh,4,nd,tr,jC 4 nd,⟨[],[],0,0,0,0,0,0,0,0⟩,[wf 0,wf 1,wf 2,wf 3],0⟩):=by
 refine(aF.pack [cE' [.I sh,.I 4,.I nd,.I tr,.ptr 1 0,.ptr 3 0,.slice 4 0 4 1,.I 0],w47 nd,some (.ints (some .u64) (List.replicate (Int.toNat (2*nd+5*4+6)) 0)),w40,some (.abs (.wrow [wf 0,wf 1,wf 2,wf 3]) [])] (.wrow [wf 0,wf 1,wf 2,wf 3]) 4 0 (rowE (List.map (fun w=>some (Mc.worker w)) [wf 0,wf 1,wf 2,wf 3])) [] (by kernel_rfl) rfl rfl (by kernel_rfl)).trans ?_
 refine aF.trans (aGF rfl ?_) (dY 0 (Nat.zero_le _) _ rfl ⟨sh,4,nd,tr,jC 4 nd,⟨[],[],0,0,0,0,0,0,0,0⟩,[wf 0,wf 1,wf 2,wf 3],0⟩);simp only [egG,jC,List.length_replicate];rfl
abbrev w48(nd:Int):Option (aJ Ob):=cE' [.I 5,.I nd,.slice 2 0 (Int.toNat (2*nd+5*5+6)) 1,.I 0,.I 0,.I 0,.int .u64 0,.int .u64 0,.bool false]
abbrev w4d(wf:Nat→WKS):Option (aJ Ob):=some (.abs (.worker (wf 4)) [])
theorem aDX(sh nd tr:Int)(wf:Nat→WKS):aF (obI tbl) 0 (.tup [.ptr 0 0,.I 0]) [cE' [.I sh,.I 5,.I nd,.I tr,.ptr 1 0,.ptr 3 0,.slice 4 0 5 1,.I 0],w48 nd,some (.ints (some .u64) (List.replicate (Int.toNat (2*nd+5*5+6)) 0)),w40,cE' [.ptr 5 0,.ptr 6 0,.ptr 7 0,.ptr 8 0,.ptr 9 0],w41 wf,w42 wf,w43 wf,w4c wf,w4d wf] (.tup [.ptr 0 0,.I 0]) (egH ⟨sh,5,nd,tr,jC 5 nd,⟨[],[],0,0,0,0,0,0,0,0⟩,[wf 0,wf 1,wf 2,wf 3,wf 4],0⟩):=by
 refine(aF.pack [cE' [.I sh,.I 5,.I nd,.I tr,.ptr 1 0,.ptr 3 0,.slice 4 0 5 1,.I 0],w48 nd,some (.ints (some .u64) (List.replicate (Int.toNat (2*nd+5*5+6)) 0)),w40,some (.abs (.wrow [wf 0,wf 1,wf 2,wf 3,wf 4]) [])] (.wrow [wf 0,wf 1,wf 2,wf 3,wf 4]) 4 0 (rowE (List.map (fun w=>some (Mc.worker w)) [wf 0,wf 1,wf 2,wf 3,wf 4])) [] (by kernel_rfl) rfl rfl (by kernel_rfl)).trans ?_
 refine aF.trans (aGF rfl ?_) (dY 0 (Nat.zero_le _) _ rfl ⟨sh,5,nd,tr,jC 5 nd,⟨[],[],0,0,0,0,0,0,0,0⟩,[wf 0,wf 1,wf 2,wf 3,wf 4],0⟩);simp only [egG,jC,List.length_replicate];rfl
abbrev w49(nd:Int):Option (aJ Ob):=cE' [.I 6,.I nd,.slice 2 0 (Int.toNat (2*nd+5*6+6)) 1,.I 0,.I 0,.I 0,.int .u64 0,.int .u64 0,.bool false]
theorem aDY(sh nd tr:Int)(wf:Nat→WKS):aF (obI tbl) 0 (.tup [.ptr 0 0,.I 0]) [cE' [.I sh,.I 6,.I nd,.I tr,.ptr 1 0,.ptr 3 0,.slice 4 0 6 1,.I 0],w49 nd,some (.ints (some .u64) (List.replicate (Int.toNat (2*nd+5*6+6)) 0)),w40,cE' [.ptr 5 0,.ptr 6 0,.ptr 7 0,.ptr 8 0,.ptr 9 0,.ptr 10 0],w41 wf,w42 wf,w43 wf,w4c wf,w4d wf,some (.abs (.worker (wf 5)) [])] (.tup [.ptr 0 0,.I 0]) (egH ⟨sh,6,nd,tr,jC 6 nd,⟨[],[],0,0,0,0,0,0,0,0⟩,[wf 0,wf 1,wf 2,wf 3,wf 4,wf 5],0⟩):=by
 refine(aF.pack [cE' [.I sh,.I 6,.I nd,.I tr,.ptr 1 0,.ptr 3 0,.slice 4 0 6 1,.I 0],w49 nd,some (.ints (some .u64) (List.replicate (Int.toNat (2*nd+5*6+6)) 0)),w40,some (.abs (.wrow [wf 0,wf 1,wf 2,wf 3,wf 4,wf 5]) [])] (.wrow [wf 0,wf 1,wf 2,wf 3,wf 4,wf 5]) 4 0 (rowE (List.map (fun w=>some (Mc.worker w)) [wf 0,wf 1,wf 2,wf 3,wf 4,wf 5])) [] (by kernel_rfl) rfl rfl (by kernel_rfl)).trans ?_
 refine aF.trans (aGF rfl ?_) (dY 0 (Nat.zero_le _) _ rfl ⟨sh,6,nd,tr,jC 6 nd,⟨[],[],0,0,0,0,0,0,0,0⟩,[wf 0,wf 1,wf 2,wf 3,wf 4,wf 5],0⟩);simp only [egG,jC,List.length_replicate];rfl
abbrev w4a(nd:Int):Option (aJ Ob):=cE' [.I 7,.I nd,.slice 2 0 (Int.toNat (2*nd+5*7+6)) 1,.I 0,.I 0,.I 0,.int .u64 0,.int .u64 0,.bool false]
theorem aDZ(sh nd tr:Int)(wf:Nat→WKS):aF (obI tbl) 0 (.tup [.ptr 0 0,.I 0]) [cE' [.I sh,.I 7,.I nd,.I tr,.ptr 1 0,.ptr 3 0,.slice 4 0 7 1,.I 0],w4a nd,some (.ints (some .u64) (List.replicate (Int.toNat (2*nd+5*7+6)) 0)),w40,cE' [.ptr 5 0,.ptr 6 0,.ptr 7 0,.ptr 8 0,.ptr 9 0,.ptr 10 0,.ptr 11 0],w41 wf,w42 wf,w43 wf,w4c wf,w4d wf,some (.abs (.worker (wf 5)) []),some (.abs (.worker (wf 6)) [])] (.tup [.ptr 0 0,.I 0]) (egH ⟨sh,7,nd,tr,jC 7 nd,⟨[],[],0,0,0,0,0,0,0,0⟩,[wf 0,wf 1,wf 2,wf 3,wf 4,wf 5,wf 6],0⟩):=by
 refine(aF.pack [cE' [.I sh,.I 7,.I nd,.I tr,.ptr 1 0,.ptr 3 0,.slice 4 0 7 1,.I 0],w4a nd,some (.ints (some .u64) (List.replicate (Int.toNat (2*nd+5*7+6)) 0)),w40,some (.abs (.wrow [wf 0,wf 1,wf 2,wf 3,wf 4,wf 5,wf 6]) [])] (.wrow [wf 0,wf 1,wf 2,wf 3,wf 4,wf 5,wf 6]) 4 0 (rowE (List.map (fun w=>some (Mc.worker w)) [wf 0,wf 1,wf 2,wf 3,wf 4,wf 5,wf 6])) [] (by kernel_rfl) rfl rfl (by kernel_rfl)).trans ?_
 refine aF.trans (aGF rfl ?_) (dY 0 (Nat.zero_le _) _ rfl ⟨sh,7,nd,tr,jC 7 nd,⟨[],[],0,0,0,0,0,0,0,0⟩,[wf 0,wf 1,wf 2,wf 3,wf 4,wf 5,wf 6],0⟩);simp only [egG,jC,List.length_replicate];rfl
abbrev w4b(nd:Int):Option (aJ Ob):=cE' [.I 8,.I nd,.slice 2 0 (Int.toNat (2*nd+5*8+6)) 1,.I 0,.I 0,.I 0,.int .u64 0,.int .u64 0,.bool false]
theorem aD0(sh nd tr:Int)(wf:Nat→WKS):aF (obI tbl) 0 (.tup [.ptr 0 0,.I 0]) [cE' [.I sh,.I 8,.I nd,.I tr,.ptr 1 0,.ptr 3 0,.slice 4 0 8 1,.I 0],w4b nd,some (.ints (some .u64) (List.replicate (Int.toNat (2*nd+5*8+6)) 0)),w40,cE' [.ptr 5 0,.ptr 6 0,.ptr 7 0,.ptr 8 0,.ptr 9 0,.ptr 10 0,.ptr 11 0,.ptr 12 0],w41 wf,w42 wf,w43 wf,w4c wf,w4d wf,some (.abs (.worker (wf 5)) []),some (.abs (.worker (wf 6)) []),some (.abs (.worker (wf 7)) [])] (.tup [.ptr 0 0,.I 0]) (egH ⟨sh,8,nd,tr,jC 8 nd,⟨[],[],0,0,0,0,0,0,0,0⟩,[wf 0,wf 1,wf 2,wf 3,wf 4,wf 5,wf 6,wf 7],0⟩):=by
 refine(aF.pack [cE' [.I sh,.I 8,.I nd,.I tr,.ptr 1 0,.ptr 3 0,.slice 4 0 8 1,.I 0],w4b nd,some (.ints (some .u64) (List.replicate (Int.toNat (2*nd+5*8+6)) 0)),w40,some (.abs (.wrow [wf 0,wf 1,wf 2,wf 3,wf 4,wf 5,wf 6,wf 7]) [])] (.wrow [wf 0,wf 1,wf 2,wf 3,wf 4,wf 5,wf 6,wf 7]) 4 0 (rowE (List.map (fun w=>some (Mc.worker w)) [wf 0,wf 1,wf 2,wf 3,wf 4,wf 5,wf 6,wf 7])) [] (by kernel_rfl) rfl rfl (by kernel_rfl)).trans ?_
 refine aF.trans (aGF rfl ?_) (dY 0 (Nat.zero_le _) _ rfl ⟨sh,8,nd,tr,jC 8 nd,⟨[],[],0,0,0,0,0,0,0,0⟩,[wf 0,wf 1,wf 2,wf 3,wf 4,wf 5,wf 6,wf 7],0⟩);simp only [egG,jC,List.length_replicate];rfl
theorem aD1(sh th nd tr:Int)(m:Nat)(ln:Nat→Nat)(f g:Nat→Nat→Int)(K:AVal→aC Ob→Prop)(hm:m≤1000000)(hK:(qJ sh th nd tr m ln f g).run K):aBf sh th nd tr m ln f g (dE sh th nd m ln f g) (dS (obI tbl) 0 K):=by
 refine⟨trivial,aI (fun e0=>?_) fun e0=>⟨⟨hm,⟨rfl⟩⟩,aI (fun e1=>?_) fun e1=>?_⟩⟩
 ·have hc:gnC sh th nd tr m ln f g=wrE sh th nd tr:=by unfold gnC;rw [e0];rfl
  have e0':ieq (wrE sh th nd tr) 0=false:=by simpa using e0
  exact⟨⟨_,_,aGL _ _ _,lJ sh th nd tr m ln f g K hK _ hc e0'⟩⟩
 ·have hc:gnC sh th nd tr m ln f g=6:=by
   have e1:lgB th m ln=true:=e1;unfold gnC;rw [e0,e1];rfl
  exact⟨⟨_,_,aGL _ _ _,lJ sh th nd tr m ln f g K hK _ hc rfl⟩⟩
 have e0':ieq (wrE sh th nd tr) 0=true:=by simpa using e0
 have e1:lgB th m ln=false:=e1;obtain⟨hs1,hs2,⟨ht1,ht2,hn1,hn2⟩,hr1,hr2⟩:=YZ e0';obtain⟨hln,hmt⟩:=OX.1 e1;have hrb:dK th nd=true:=vB.2 ⟨ht1,ht2,hn1,hn2⟩
 have hbad: ∀j:Nat,j<m→eJ sh (ln j) (f j) (g j)=false→gnC sh th nd tr m ln f g=1:=by
  intro j hj hf
  have:(List.range m).all (fun j=>eJ sh (ln j) (f j) (g j))=false:=by
   cases h:(List.range m).all (fun j=>eJ sh (ln j) (f j) (g j))with
   | false=>rfl
   | true=>
     have:=List.all_eq_true.1 h j (List.mem_range.2 hj);rw [hf]at this;cases this
  unfold gnC;rw [e0,e1,this];rfl
 have hgood:(∀j:Nat,j<m→eJ sh (ln j) (f j) (g j)=true)→gnC sh th nd tr m ln f g=0:=by
  intro h;have:(List.range m).all (fun j=>eJ sh (ln j) (f j) (g j))=true:=List.all_eq_true.2 fun j hj=>h j (List.mem_range.1 hj);unfold gnC;rw [e0,e1,this];rfl
 have hwt: ∀u:Nat,ilt (u:Int) (m:Int)=true→dE sh th nd m ln f g u=v7 th nd (u:Int) (ofR sh (ln u) (f u) (g u)):=fun u h=>by unfold dE;rw [h];rfl
 have hwf: ∀u:Nat,ilt (u:Int) (m:Int)=false→dE sh th nd m ln f g u=v7 th nd (u:Int) []:=fun u h=>by unfold dE;rw [h];rfl
 refine⟨⟨trivial,trivial⟩,aQ (H:=HN0 sh th nd tr m ln f g (dE sh th nd m ln f g)) () rfl ⟨⟨by omega,fun j h1 _=>by omega⟩,trivial⟩,?_,?_,?_,?_,?_,?_,?_,?_,?_,trivial⟩
 ·rintro x ⟨hu,hg⟩;refine aI (fun e=>aI (fun e2=>?_) (fun e2=>?_)) (fun e=>?_)
  ·have e2':=e2;rw [aU,dT']at e e2;have hum:0<m:=by omega
   refine⟨⟨by omega,by omega⟩,⟨⟨by have:=hln 0 hum;show ln 0≤1000000;omega,⟨rfl⟩⟩,trivial⟩,aI (fun e3=>?_) (fun e3=>?_)⟩
   ·have e3:(!ieq (ofC sh (ln 0) (f 0) (g 0)) 0)=true:=e3;obtain⟨q1,q2⟩:=sV (by simpa using e3)
    have:=lJ sh th nd tr m ln f g K hK 1 (hbad 0 hum q1) rfl;rw [←q2]at this;exact⟨⟨_,_,aGL _ _ _,this⟩⟩
   ·have e3:(!ieq (ofC sh (ln 0) (f 0) (g 0)) 0)=false:=e3;have q:=sU (sh:=sh) (m:=ln 0) (f:=f 0) (g:=g 0) (by simpa using e3)
    have hw:=hwt 0 e2'
    refine⟨⟨rfl,trivial⟩,by decide,aQ (H:=HN1 sh th nd tr m ln f g (dE sh th nd m ln f g)) () (by simp only [HN1,hw]<;>rfl) ⟨⟨by omega,fun j h1 h2=>by
     by_cases hj:j=0
     ·subst hj;exact q
     ·exact hg j (by omega) h2⟩,by show(8:Nat)<9;decide⟩⟩
  ·have hw:=hwf 0 e2;rw [aU,dT']at e;rw [aU,dF']at e2;refine⟨⟨trivial,trivial⟩,by decide,aQ (H:=HN1 sh th nd tr m ln f g (dE sh th nd m ln f g)) () (by simp only [HN1,hw]<;>rfl) ⟨⟨by omega,fun j h1 h2=>hg j (by omega) h2⟩,by show(8:Nat)<9;decide⟩⟩
  ·rw [aU,dF']at e;omega
 ·rintro x ⟨hu,hg⟩;refine aI (fun e=>aI (fun e2=>?_) (fun e2=>?_)) (fun e=>?_)
  ·have e2':=e2;rw [aU,dT']at e e2;have hum:1<m:=by omega
   refine⟨⟨by omega,by omega⟩,⟨⟨by have:=hln 1 hum;show ln 1≤1000000;omega,⟨rfl⟩⟩,trivial⟩,aI (fun e3=>?_) (fun e3=>?_)⟩
   ·have e3:(!ieq (ofC sh (ln 1) (f 1) (g 1)) 0)=true:=e3;obtain⟨q1,q2⟩:=sV (by simpa using e3)
    have:=lJ sh th nd tr m ln f g K hK 1 (hbad 1 hum q1) rfl;rw [←q2]at this;exact⟨⟨_,_,aGL _ _ _,this⟩⟩
   ·have e3:(!ieq (ofC sh (ln 1) (f 1) (g 1)) 0)=false:=e3;have q:=sU (sh:=sh) (m:=ln 1) (f:=f 1) (g:=g 1) (by simpa using e3)
    have hw:=hwt 1 e2'
    refine⟨⟨rfl,trivial⟩,by decide,aQ (H:=HN2 sh th nd tr m ln f g (dE sh th nd m ln f g)) () (by simp only [HN2,hw]<;>rfl) ⟨⟨by omega,fun j h1 h2=>by
     by_cases hj:j=1
     ·subst hj;exact q
     ·exact hg j (by omega) h2⟩,by show(7:Nat)<8;decide⟩⟩
  ·have hw:=hwf 1 e2;rw [aU,dT']at e;rw [aU,dF']at e2;refine⟨⟨trivial,trivial⟩,by decide,aQ (H:=HN2 sh th nd tr m ln f g (dE sh th nd m ln f g)) () (by simp only [HN2,hw]<;>rfl) ⟨⟨by omega,fun j h1 h2=>hg j (by omega) h2⟩,by show(7:Nat)<8;decide⟩⟩
  ·rw [aU,dF']at e;have hth:th=1:=by omega
   subst hth;rw [hrb];refine⟨trivial,aI (fun e3=>by cases e3) (fun _=>⟨⟨⟨by omega,by omega⟩,by omega,by omega⟩,aI (fun e4=>?_) (fun _=>⟨⟨⟨⟨by omega,by omega⟩,by omega,by omega⟩,trivial⟩,⟨by omega,rfl,by omega⟩,?_⟩)⟩)⟩
   ·rw [aU,dT']at e4;have e4:(2*nd+5*1+6:Int)<0:=e4;omega
   ·have:=kW sh 1 nd tr m ln f g K hK (hgood fun j hj=>hg j (by omega) hj)
    exact⟨⟨_,_,aDT sh nd tr (dE sh 1 nd m ln f g),this⟩⟩
 ·rintro x ⟨hu,hg⟩;refine aI (fun e=>aI (fun e2=>?_) (fun e2=>?_)) (fun e=>?_)
  ·have e2':=e2;rw [aU,dT']at e e2;have hum:2<m:=by omega
   refine⟨⟨by omega,by omega⟩,⟨⟨by have:=hln 2 hum;show ln 2≤1000000;omega,⟨rfl⟩⟩,trivial⟩,aI (fun e3=>?_) (fun e3=>?_)⟩
   ·have e3:(!ieq (ofC sh (ln 2) (f 2) (g 2)) 0)=true:=e3;obtain⟨q1,q2⟩:=sV (by simpa using e3)
    have:=lJ sh th nd tr m ln f g K hK 1 (hbad 2 hum q1) rfl;rw [←q2]at this;exact⟨⟨_,_,aGL _ _ _,this⟩⟩
   ·have e3:(!ieq (ofC sh (ln 2) (f 2) (g 2)) 0)=false:=e3;have q:=sU (sh:=sh) (m:=ln 2) (f:=f 2) (g:=g 2) (by simpa using e3)
    have hw:=hwt 2 e2'
    refine⟨⟨rfl,trivial⟩,by decide,aQ (H:=HN3 sh th nd tr m ln f g (dE sh th nd m ln f g)) () (by simp only [HN3,hw]<;>rfl) ⟨⟨by omega,fun j h1 h2=>by
     by_cases hj:j=2
     ·subst hj;exact q
     ·exact hg j (by omega) h2⟩,by show(6:Nat)<7;decide⟩⟩
  ·have hw:=hwf 2 e2;rw [aU,dT']at e;rw [aU,dF']at e2;refine⟨⟨trivial,trivial⟩,by decide,aQ (H:=HN3 sh th nd tr m ln f g (dE sh th nd m ln f g)) () (by simp only [HN3,hw]<;>rfl) ⟨⟨by omega,fun j h1 h2=>hg j (by omega) h2⟩,by show(6:Nat)<7;decide⟩⟩
  ·rw [aU,dF']at e;have hth:th=2:=by omega
   subst hth;rw [hrb];refine⟨trivial,aI (fun e3=>by cases e3) (fun _=>⟨⟨⟨by omega,by omega⟩,by omega,by omega⟩,aI (fun e4=>?_) (fun _=>⟨⟨⟨⟨by omega,by omega⟩,by omega,by omega⟩,trivial⟩,⟨by omega,rfl,by omega⟩,?_⟩)⟩)⟩
   ·rw [aU,dT']at e4;have e4:(2*nd+5*2+6:Int)<0:=e4;omega
   ·have:=kW sh 2 nd tr m ln f g K hK (hgood fun j hj=>hg j (by omega) hj)
    exact⟨⟨_,_,aDU sh nd tr (dE sh 2 nd m ln f g),this⟩⟩
 ·rintro x ⟨hu,hg⟩;refine aI (fun e=>aI (fun e2=>?_) (fun e2=>?_)) (fun e=>?_)
  ·have e2':=e2;rw [aU,dT']at e e2;have hum:3<m:=by omega
   refine⟨⟨by omega,by omega⟩,⟨⟨by have:=hln 3 hum;show ln 3≤1000000;omega,⟨rfl⟩⟩,trivial⟩,aI (fun e3=>?_) (fun e3=>?_)⟩
   ·have e3:(!ieq (ofC sh (ln 3) (f 3) (g 3)) 0)=true:=e3;obtain⟨q1,q2⟩:=sV (by simpa using e3)
    have:=lJ sh th nd tr m ln f g K hK 1 (hbad 3 hum q1) rfl;rw [←q2]at this;exact⟨⟨_,_,aGL _ _ _,this⟩⟩
   ·have e3:(!ieq (ofC sh (ln 3) (f 3) (g 3)) 0)=false:=e3;have q:=sU (sh:=sh) (m:=ln 3) (f:=f 3) (g:=g 3) (by simpa using e3)
    have hw:=hwt 3 e2'
    refine⟨⟨rfl,trivial⟩,by decide,aQ (H:=HN4 sh th nd tr m ln f g (dE sh th nd m ln f g)) () (by simp only [HN4,hw]<;>rfl) ⟨⟨by omega,fun j h1 h2=>by
     by_cases hj:j=3
     ·subst hj;exact q
     ·exact hg j (by omega) h2⟩,by show(5:Nat)<6;decide⟩⟩
  ·have hw:=hwf 3 e2;rw [aU,dT']at e;rw [aU,dF']at e2;refine⟨⟨trivial,trivial⟩,by decide,aQ (H:=HN4 sh th nd tr m ln f g (dE sh th nd m ln f g)) () (by simp only [HN4,hw]<;>rfl) ⟨⟨by omega,fun j h1 h2=>hg j (by omega) h2⟩,by show(5:Nat)<6;decide⟩⟩
  ·rw [aU,dF']at e;have hth:th=3:=by omega
   subst hth;rw [hrb];refine⟨trivial,aI (fun e3=>by cases e3) (fun _=>⟨⟨⟨by omega,by omega⟩,by omega,by omega⟩,aI (fun e4=>?_) (fun _=>⟨⟨⟨⟨by omega,by omega⟩,by omega,by omega⟩,trivial⟩,⟨by omega,rfl,by omega⟩,?_⟩)⟩)⟩
   ·rw [aU,dT']at e4;have e4:(2*nd+5*3+6:Int)<0:=e4;omega
   ·have:=kW sh 3 nd tr m ln f g K hK (hgood fun j hj=>hg j (by omega) hj)
    exact⟨⟨_,_,aDV sh nd tr (dE sh 3 nd m ln f g),this⟩⟩
 ·rintro x ⟨hu,hg⟩;refine aI (fun e=>aI (fun e2=>?_) (fun e2=>?_)) (fun e=>?_)
  ·have e2':=e2;rw [aU,dT']at e e2;have hum:4<m:=by omega
   refine⟨⟨by omega,by omega⟩,⟨⟨by have:=hln 4 hum;show ln 4≤1000000;omega,⟨rfl⟩⟩,trivial⟩,aI (fun e3=>?_) (fun e3=>?_)⟩
   ·have e3:(!ieq (ofC sh (ln 4) (f 4) (g 4)) 0)=true:=e3;obtain⟨q1,q2⟩:=sV (by simpa using e3)
    have:=lJ sh th nd tr m ln f g K hK 1 (hbad 4 hum q1) rfl;rw [←q2]at this;exact⟨⟨_,_,aGL _ _ _,this⟩⟩
   ·have e3:(!ieq (ofC sh (ln 4) (f 4) (g 4)) 0)=false:=e3;have q:=sU (sh:=sh) (m:=ln 4) (f:=f 4) (g:=g 4) (by simpa using e3)
    have hw:=hwt 4 e2'
    refine⟨⟨rfl,trivial⟩,by decide,aQ (H:=HN5 sh th nd tr m ln f g (dE sh th nd m ln f g)) () (by simp only [HN5,hw]<;>rfl) ⟨⟨by omega,fun j h1 h2=>by
     by_cases hj:j=4
     ·subst hj;exact q
     ·exact hg j (by omega) h2⟩,by show(4:Nat)<5;decide⟩⟩
  ·have hw:=hwf 4 e2;rw [aU,dT']at e;rw [aU,dF']at e2;refine⟨⟨trivial,trivial⟩,by decide,aQ (H:=HN5 sh th nd tr m ln f g (dE sh th nd m ln f g)) () (by simp only [HN5,hw]<;>rfl) ⟨⟨by omega,fun j h1 h2=>hg j (by omega) h2⟩,by show(4:Nat)<5;decide⟩⟩
  ·rw [aU,dF']at e;have hth:th=4:=by omega
   subst hth;rw [hrb];refine⟨trivial,aI (fun e3=>by cases e3) (fun _=>⟨⟨⟨by omega,by omega⟩,by omega,by omega⟩,aI (fun e4=>?_) (fun _=>⟨⟨⟨⟨by omega,by omega⟩,by omega,by omega⟩,trivial⟩,⟨by omega,rfl,by omega⟩,?_⟩)⟩)⟩
   ·rw [aU,dT']at e4;have e4:(2*nd+5*4+6:Int)<0:=e4;omega
   ·have:=kW sh 4 nd tr m ln f g K hK (hgood fun j hj=>hg j (by omega) hj)
    exact⟨⟨_,_,aDW sh nd tr (dE sh 4 nd m ln f g),this⟩⟩
 ·rintro x ⟨hu,hg⟩;refine aI (fun e=>aI (fun e2=>?_) (fun e2=>?_)) (fun e=>?_)
  ·have e2':=e2;rw [aU,dT']at e e2;have hum:5<m:=by omega
   refine⟨⟨by omega,by omega⟩,⟨⟨by have:=hln 5 hum;show ln 5≤1000000;omega,⟨rfl⟩⟩,trivial⟩,aI (fun e3=>?_) (fun e3=>?_)⟩
   ·have e3:(!ieq (ofC sh (ln 5) (f 5) (g 5)) 0)=true:=e3;obtain⟨q1,q2⟩:=sV (by simpa using e3)
    have:=lJ sh th nd tr m ln f g K hK 1 (hbad 5 hum q1) rfl;rw [←q2]at this;exact⟨⟨_,_,aGL _ _ _,this⟩⟩
   ·have e3:(!ieq (ofC sh (ln 5) (f 5) (g 5)) 0)=false:=e3;have q:=sU (sh:=sh) (m:=ln 5) (f:=f 5) (g:=g 5) (by simpa using e3)
    have hw:=hwt 5 e2'
    refine⟨⟨rfl,trivial⟩,by decide,aQ (H:=HN6 sh th nd tr m ln f g (dE sh th nd m ln f g)) () (by simp only [HN6,hw]<;>rfl) ⟨⟨by omega,fun j h1 h2=>by
     by_cases hj:j=5
     ·subst hj;exact q
     ·exact hg j (by omega) h2⟩,by show(3:Nat)<4;decide⟩⟩
  ·have hw:=hwf 5 e2;rw [aU,dT']at e;rw [aU,dF']at e2;refine⟨⟨trivial,trivial⟩,by decide,aQ (H:=HN6 sh th nd tr m ln f g (dE sh th nd m ln f g)) () (by simp only [HN6,hw]<;>rfl) ⟨⟨by omega,fun j h1 h2=>hg j (by omega) h2⟩,by show(3:Nat)<4;decide⟩⟩
  ·rw [aU,dF']at e;have hth:th=5:=by omega
   subst hth;rw [hrb];refine⟨trivial,aI (fun e3=>by cases e3) (fun _=>⟨⟨⟨by omega,by omega⟩,by omega,by omega⟩,aI (fun e4=>?_) (fun _=>⟨⟨⟨⟨by omega,by omega⟩,by omega,by omega⟩,trivial⟩,⟨by omega,rfl,by omega⟩,?_⟩)⟩)⟩
   ·rw [aU,dT']at e4;have e4:(2*nd+5*5+6:Int)<0:=e4;omega
   ·have:=kW sh 5 nd tr m ln f g K hK (hgood fun j hj=>hg j (by omega) hj)
    exact⟨⟨_,_,aDX sh nd tr (dE sh 5 nd m ln f g),this⟩⟩
 ·rintro x ⟨hu,hg⟩;refine aI (fun e=>aI (fun e2=>?_) (fun e2=>?_)) (fun e=>?_)
  ·have e2':=e2;rw [aU,dT']at e e2;have hum:6<m:=by omega
   refine⟨⟨by omega,by omega⟩,⟨⟨by have:=hln 6 hum;show ln 6≤1000000;omega,⟨rfl⟩⟩,trivial⟩,aI (fun e3=>?_) (fun e3=>?_)⟩
   ·have e3:(!ieq (ofC sh (ln 6) (f 6) (g 6)) 0)=true:=e3;obtain⟨q1,q2⟩:=sV (by simpa using e3)
    have:=lJ sh th nd tr m ln f g K hK 1 (hbad 6 hum q1) rfl;rw [←q2]at this;exact⟨⟨_,_,aGL _ _ _,this⟩⟩
   ·have e3:(!ieq (ofC sh (ln 6) (f 6) (g 6)) 0)=false:=e3;have q:=sU (sh:=sh) (m:=ln 6) (f:=f 6) (g:=g 6) (by simpa using e3)
    have hw:=hwt 6 e2'
    refine⟨⟨rfl,trivial⟩,by decide,aQ (H:=HN7 sh th nd tr m ln f g (dE sh th nd m ln f g)) () (by simp only [HN7,hw]<;>rfl) ⟨⟨by omega,fun j h1 h2=>by
     by_cases hj:j=6
     ·subst hj;exact q
     ·exact hg j (by omega) h2⟩,by show(2:Nat)<3;decide⟩⟩
  ·have hw:=hwf 6 e2;rw [aU,dT']at e;rw [aU,dF']at e2;refine⟨⟨trivial,trivial⟩,by decide,aQ (H:=HN7 sh th nd tr m ln f g (dE sh th nd m ln f g)) () (by simp only [HN7,hw]<;>rfl) ⟨⟨by omega,fun j h1 h2=>hg j (by omega) h2⟩,by show(2:Nat)<3;decide⟩⟩
  ·rw [aU,dF']at e;have hth:th=6:=by omega
   subst hth;rw [hrb];refine⟨trivial,aI (fun e3=>by cases e3) (fun _=>⟨⟨⟨by omega,by omega⟩,by omega,by omega⟩,aI (fun e4=>?_) (fun _=>⟨⟨⟨⟨by omega,by omega⟩,by omega,by omega⟩,trivial⟩,⟨by omega,rfl,by omega⟩,?_⟩)⟩)⟩
   ·rw [aU,dT']at e4;have e4:(2*nd+5*6+6:Int)<0:=e4;omega
   ·have:=kW sh 6 nd tr m ln f g K hK (hgood fun j hj=>hg j (by omega) hj)
    exact⟨⟨_,_,aDY sh nd tr (dE sh 6 nd m ln f g),this⟩⟩
 ·rintro x ⟨hu,hg⟩;refine aI (fun e=>aI (fun e2=>?_) (fun e2=>?_)) (fun e=>?_)
  ·have e2':=e2;rw [aU,dT']at e e2;have hum:7<m:=by omega
   refine⟨⟨by omega,by omega⟩,⟨⟨by have:=hln 7 hum;show ln 7≤1000000;omega,⟨rfl⟩⟩,trivial⟩,aI (fun e3=>?_) (fun e3=>?_)⟩
   ·have e3:(!ieq (ofC sh (ln 7) (f 7) (g 7)) 0)=true:=e3;obtain⟨q1,q2⟩:=sV (by simpa using e3)
    have:=lJ sh th nd tr m ln f g K hK 1 (hbad 7 hum q1) rfl;rw [←q2]at this;exact⟨⟨_,_,aGL _ _ _,this⟩⟩
   ·have e3:(!ieq (ofC sh (ln 7) (f 7) (g 7)) 0)=false:=e3;have q:=sU (sh:=sh) (m:=ln 7) (f:=f 7) (g:=g 7) (by simpa using e3)
    have hw:=hwt 7 e2'
    refine⟨⟨rfl,trivial⟩,by decide,aQ (H:=HN8 sh th nd tr m ln f g (dE sh th nd m ln f g)) () (by simp only [HN8,hw]<;>rfl) ⟨⟨by omega,fun j h1 h2=>by
     by_cases hj:j=7
     ·subst hj;exact q
     ·exact hg j (by omega) h2⟩,by show(1:Nat)<2;decide⟩⟩
  ·have hw:=hwf 7 e2;rw [aU,dT']at e;rw [aU,dF']at e2;refine⟨⟨trivial,trivial⟩,by decide,aQ (H:=HN8 sh th nd tr m ln f g (dE sh th nd m ln f g)) () (by simp only [HN8,hw]<;>rfl) ⟨⟨by omega,fun j h1 h2=>hg j (by omega) h2⟩,by show(1:Nat)<2;decide⟩⟩
  ·rw [aU,dF']at e;have hth:th=7:=by omega
   subst hth;rw [hrb];refine⟨trivial,aI (fun e3=>by cases e3) (fun _=>⟨⟨⟨by omega,by omega⟩,by omega,by omega⟩,aI (fun e4=>?_) (fun _=>⟨⟨⟨⟨by omega,by omega⟩,by omega,by omega⟩,trivial⟩,⟨by omega,rfl,by omega⟩,?_⟩)⟩)⟩
   ·rw [aU,dT']at e4;have e4:(2*nd+5*7+6:Int)<0:=e4;omega
   ·have:=kW sh 7 nd tr m ln f g K hK (hgood fun j hj=>hg j (by omega) hj)
    exact⟨⟨_,_,aDZ sh nd tr (dE sh 7 nd m ln f g),this⟩⟩
 ·rintro x ⟨hu,hg⟩;refine aI (fun e=>?_) (fun e=>?_)
  ·rw [aU,dT']at e;omega
  ·rw [aU,dF']at e;have hth:th=8:=by omega
   subst hth;rw [hrb];refine⟨trivial,aI (fun e3=>by cases e3) (fun _=>⟨⟨⟨by omega,by omega⟩,by omega,by omega⟩,aI (fun e4=>?_) (fun _=>⟨⟨⟨⟨by omega,by omega⟩,by omega,by omega⟩,trivial⟩,⟨by omega,rfl,by omega⟩,?_⟩)⟩)⟩
   ·rw [aU,dT']at e4;have e4:(2*nd+5*8+6:Int)<0:=e4;omega
   ·have:=kW sh 8 nd tr m ln f g K hK (hgood fun j hj=>hg j (by omega) hj)
    exact⟨⟨_,_,aD0 sh nd tr (dE sh 8 nd m ln f g),this⟩⟩
def gnS:aH Ob:=fun args h=>match args,h with
 | [.agg [.int .i64 sh,.int .i64 th,.int .i64 nd,.int .i64 tr],.view m 1 vr],[]=>some (.pre (m≤1000000∧kL vr) (qJ sh th nd tr m (vL vr) (vK vr) (vY vr)))
 | _,_=>none
theorem G5:sT' 25 gnS:=by
 intro args h o ho K hK;unfold gnS at ho;split at ho<;>cases ho
 rename_i sh th nd tr m vr;obtain⟨⟨hm,⟨hr⟩⟩,hK⟩:=hK;rw [hr];refine aGM ?_;exact OD sh th nd tr m (vL vr) (vK vr) (vY vr) _ _ (aD1 sh th nd tr m (vL vr) (vK vr) (vY vr) K hm hK)
noncomputable def EU2:=EU1.addS 25 gnS G5
theorem aS.lend{h:aC Ob}{l i:Nat}{ws:List WKS}(hl:aP h l=some (.abs (.wrow ws) []))(hi:i<ws.length):aS (obI tbl) h (h.set l (some (.abs (.whole ws i) [h.length]))++ [some (.abs (.worker (bE ws i)) [])]):=by
 intro V hR w h1 hf;obtain⟨V',x,b,k,cs,T,a1,a2,a3,_⟩:=h1.lend RKW (ws:=ws) hf hl (DA hi);exact⟨V',a1,by simpa using a2,by simp,a3⟩
theorem c8{ws:List WKS}{i:Nat}(hi:i<ws.length):dL ws i (bE ws i)=ws:=by
 unfold dL bE;apply List.ext_getElem
 ·simp
 ·intro j h1 h2;rw [List.getElem_set];split
  ·rename_i e;subst e;rw [gD',gE' hi];rfl
  ·rfl
abbrev w4e(x:EGS):Option (aJ Ob):=cE' [.I x.sh,.I x.th,.I x.nd,.I x.tr,.ptr 1 0,.ptr 3 0,.slice 4 0 x.ws.length 1,.I x.k]
abbrev w4f(w:WKS):List AVal:=[.ptr 6 0,.tslice 7 0 w.tk.length 3,.I w.en,.raw (.pointer none),.slice 8 0 w.tl.length 1,.slice 9 0 w.sl.length 1]
abbrev eg0(x:EGS)(i:Nat)(w:WKS):aC Ob:=[w4e x,bB 2 x.s,bC x.s,some (.abs (.hist x.h) []),some (.abs (.whole x.ws i) [5]),cE' (w4f w),some (.abs (.store w.t w.n w.st) []),some (.tab [some .i64,some .i64,some .i64] w.tk),iI' w.tl,iI' w.sl]
abbrev aDz(x:EGS)(i:Nat)(w:WKS):aC Ob:=[w4e x,bB 2 x.s,bC x.s,some (.abs (.hist x.h) []),some (.abs (.whole x.ws i) [5]),cE' (w4f w),hJ 10 w.t w.n w.st,some (.tab [some .i64,some .i64,some .i64] w.tk),iI' w.tl,iI' w.sl,hM w.st]
theorem uF{x:EGS}{i:Nat}(hi:i<x.ws.length)(hb:(bE x.ws i).b =false):aS (obI tbl) (egH x) (eg0 x i (bE x.ws i)):=by
 refine(aS.unpack (.engine x) 0 0 (egG x) [] rfl rfl rfl rfl).trans ((aS.lend (l:=4) (i:=i) (ws:=x.ws) rfl hi).trans ((aS.unpack (.worker (bE x.ws i)) 5 0 (mN (bE x.ws i)) [] rfl (congrArg (Prod.mk 0) (pB hb)) rfl rfl).trans (aHs ?_)))
 kernel_rfl
theorem IV{x:EGS}{i:Nat}(hi:i<x.ws.length)(hb:(bE x.ws i).b =false):aS (obI tbl) (egH x) (aDz x i (bE x.ws i)):=by
 refine(uF hi hb).trans ((aS.unpack (.store (bE x.ws i).t (bE x.ws i).n (bE x.ws i).st) 6 0 (dA (bE x.ws i).t (bE x.ws i).n (bE x.ws i).st) [] rfl rfl rfl rfl).trans (aHs ?_))
 kernel_rfl
abbrev w4g(w:WKS):List AVal:=[.ptr 6 0,.tslice 7 0 w.tk.length 3,.I w.en,.ptr 8 0,.slice 9 0 w.tl.length 1,.slice 10 0 w.sl.length 1]
abbrev eg1(x:EGS)(i:Nat)(w:WKS):aC Ob:=[w4e x,bB 2 x.s,bC x.s,some (.abs (.hist x.h) []),some (.abs (.whole x.ws i) [5]),cE' (w4g w),some (.abs (.store w.t w.n w.st) []),some (.tab [some .i64,some .i64,some .i64] w.tk),some (.abs (.doer w.t w.n w.d) [6]),iI' w.tl,iI' w.sl]
abbrev aDA(x:EGS)(i:Nat)(w:WKS):aC Ob:=[w4e x,bB 2 x.s,bC x.s,some (.abs (.hist x.h) []),some (.abs (.whole x.ws i) [5]),cE' (w4g w),hJ 11 w.t w.n w.st,some (.tab [some .i64,some .i64,some .i64] w.tk),some (.abs (.doer w.t w.n w.d) [6]),iI' w.tl,iI' w.sl,hM w.st]
theorem uG{x:EGS}{i:Nat}(hi:i<x.ws.length)(hb:(bE x.ws i).b =true):aS (obI tbl) (egH x) (eg1 x i (bE x.ws i)):=by
 refine(aS.unpack (.engine x) 0 0 (egG x) [] rfl rfl rfl rfl).trans ((aS.lend (l:=4) (i:=i) (ws:=x.ws) rfl hi).trans ((aS.unpack (.worker (bE x.ws i)) 5 0 (pW (bE x.ws i)) [] rfl (congrArg (Prod.mk 0) (vN hb)) rfl rfl).trans (aHs ?_)))
 kernel_rfl
theorem IW{x:EGS}{i:Nat}(hi:i<x.ws.length)(hb:(bE x.ws i).b =true):aS (obI tbl) (egH x) (aDA x i (bE x.ws i)):=by
 refine(uG hi hb).trans ((aS.unpack (.store (bE x.ws i).t (bE x.ws i).n (bE x.ws i).st) 6 0 (dA (bE x.ws i).t (bE x.ws i).n (bE x.ws i).st) [] rfl rfl rfl rfl).trans (aHs ?_))
 kernel_rfl
abbrev w4h(x:EGS):Option (aJ Ob):=cE' [.I x.sh,.I x.th,.I x.nd,.I x.tr,.ptr 1 0,.ptr 3 0,.slice 4 0 x.ws.length 1,.I x.k]
abbrev aDv(x:EGS)(i:Nat)(w:WKS)(xs:List Int):aC Ob:=[w4h x,bB 2 x.s,bC x.s,some (.abs (.hist x.h) []),some (.abs (.whole x.ws i) [5]),cE' [.ptr 6 0,.tslice 7 0 w.tk.length 3,.I w.en,.raw (.pointer none),.slice 8 0 w.tl.length 1,.slice 9 0 w.sl.length 1],some (.abs (.store w.t w.n w.st) []),some (.tab [some .i64,some .i64,some .i64] w.tk),iI' w.tl,iI' w.sl,iI' xs]
abbrev w4i(x:EGS):Option (aJ Ob):=cE' [.I x.sh,.I x.th,.I x.nd,.I x.tr,.ptr 1 0,.ptr 3 0,.slice 4 0 x.ws.length 1,.I x.k]
theorem IS(x:EGS)(i:Nat)(w:WKS)(xs:List Int)(hi:i<x.ws.length)(hw:dL x.ws i w=x.ws)(hb:w.b=false):aF (obI tbl) 1 (.slice 10 0 xs.length 1) (aDv x i w xs) (.slice 1 0 xs.length 1) [some (.abs (.engine x) []),iI' xs]:=by
 exact((aF.move 6 (of_decide_eq_true rfl)).trans ((aF.move 7 (of_decide_eq_true rfl)).trans ((aF.move 8 (of_decide_eq_true rfl)).trans ((aF.move 9 (of_decide_eq_true rfl)).trans ((aGF (v2:=.slice 10 0 xs.length 1) (g2:=aM [w4i x,bB 2 x.s,bC x.s,some (.abs (.hist x.h) []),some (.abs (.whole x.ws i) [5]),some (.abs (.worker w) []),none,none,none,none,iI' xs] 5 0 (mN w) []) (by kernel_rfl) (by kernel_rfl)).trans ((aF.pack [w4i x,bB 2 x.s,bC x.s,some (.abs (.hist x.h) []),some (.abs (.whole x.ws i) [5]),some (.abs (.worker w) []),none,none,none,none,iI' xs] (.worker w) 5 0 (mN w) [] rfl rfl (congrArg (Prod.mk 0) (pB hb)) (by kernel_rfl)).trans ((aF.back (l:=4) (k:=5) (i:=i) (ws:=x.ws) (w:=w) rfl rfl (by decide) hi).trans ((aGF (v2:=.slice 10 0 xs.length 1) (g2:=[w4i x,bB 2 x.s,bC x.s,some (.abs (.hist x.h) []),some (.abs (.wrow x.ws) []),none,none,none,none,none,iI' xs]) rfl (by rw [hw];rfl)).trans ((aF.move 1 (of_decide_eq_true rfl)).trans ((aF.move 2 (of_decide_eq_true rfl)).trans ((aF.move 3 (of_decide_eq_true rfl)).trans ((aF.move 4 (of_decide_eq_true rfl)).trans ((aGF (v2:=.slice 10 0 xs.length 1) (g2:=aM [some (.abs (.engine x) []),none,none,none,none,none,none,none,none,none,iI' xs] 0 0 (egG x) []) (by kernel_rfl) (by kernel_rfl)).trans ((aF.pack [some (.abs (.engine x) []),none,none,none,none,none,none,none,none,none,iI' xs] (.engine x) 0 0 (egG x) [] rfl rfl rfl (by kernel_rfl)).trans (aF.pick [0,10] rfl)))))))))))))))
abbrev aDx(x:EGS)(i:Nat)(w:WKS)(xs:List Int):aC Ob:=[w4h x,bB 2 x.s,bC x.s,some (.abs (.hist x.h) []),some (.abs (.whole x.ws i) [5]),cE' [.ptr 6 0,.tslice 8 0 w.tk.length 3,.I w.en,.raw (.pointer none),.slice 9 0 w.tl.length 1,.slice 10 0 w.sl.length 1],hJ 7 w.t w.n w.st,hM w.st,some (.tab [some .i64,some .i64,some .i64] w.tk),iI' w.tl,iI' w.sl,iI' xs]
abbrev w4j(w:WKS):List AVal:=[.ptr 6 0,.tslice 8 0 w.tk.length 3,.I w.en,.raw (.pointer none),.slice 9 0 w.tl.length 1,.slice 10 0 w.sl.length 1]
abbrev w4k(x:EGS)(xs:List Int):aC Ob:=[some (.abs (.engine x) []),none,none,none,none,none,none,none,none,none,none,iI' xs]
theorem aAs(x:EGS)(i:Nat)(w:WKS)(xs:List Int)(hi:i<x.ws.length)(hw:dL x.ws i w=x.ws)(hb:w.b=false):aF (obI tbl) 1 (.slice 11 0 xs.length 1) (aDx x i w xs) (.slice 1 0 xs.length 1) [some (.abs (.engine x) []),iI' xs]:=by
 exact((aF.move 7 (of_decide_eq_true rfl)).trans ((aGF (v2:=.slice 11 0 xs.length 1) (g2:=aM [w4i x,bB 2 x.s,bC x.s,some (.abs (.hist x.h) []),some (.abs (.whole x.ws i) [5]),cE' (w4j w),some (.abs (.store w.t w.n w.st) []),none,some (.tab cK3 w.tk),iI' w.tl,iI' w.sl,iI' xs] 6 0 (dA w.t w.n w.st) []) (by kernel_rfl) (by kernel_rfl)).trans ((aF.pack [w4i x,bB 2 x.s,bC x.s,some (.abs (.hist x.h) []),some (.abs (.whole x.ws i) [5]),cE' (w4j w),some (.abs (.store w.t w.n w.st) []),none,some (.tab cK3 w.tk),iI' w.tl,iI' w.sl,iI' xs] (.store w.t w.n w.st) 6 0 (dA w.t w.n w.st) [] rfl rfl rfl (by kernel_rfl)).trans ((aF.move 6 (of_decide_eq_true rfl)).trans ((aF.move 8 (of_decide_eq_true rfl)).trans ((aF.move 9 (of_decide_eq_true rfl)).trans ((aF.move 10 (of_decide_eq_true rfl)).trans ((aGF (v2:=.slice 11 0 xs.length 1) (g2:=aM [w4i x,bB 2 x.s,bC x.s,some (.abs (.hist x.h) []),some (.abs (.whole x.ws i) [5]),some (.abs (.worker w) []),none,none,none,none,none,iI' xs] 5 0 (mN w) []) (by kernel_rfl) (by kernel_rfl)).trans ((aF.pack [w4i x,bB 2 x.s,bC x.s,some (.abs (.hist x.h) []),some (.abs (.whole x.ws i) [5]),some (.abs (.worker w) []),none,none,none,none,none,iI' xs] (.worker w) 5 0 (mN w) [] rfl rfl (congrArg (Prod.mk 0) (pB hb)) (by kernel_rfl)).trans ((aF.back (l:=4) (k:=5) (i:=i) (ws:=x.ws) (w:=w) rfl rfl (by decide) hi).trans ((aGF (v2:=.slice 11 0 xs.length 1) (g2:=[w4i x,bB 2 x.s,bC x.s,some (.abs (.hist x.h) []),some (.abs (.wrow x.ws) []),none,none,none,none,none,none,iI' xs]) rfl (by rw [hw];rfl)).trans ((aF.move 1 (of_decide_eq_true rfl)).trans ((aF.move 2 (of_decide_eq_true rfl)).trans ((aF.move 3 (of_decide_eq_true rfl)).trans ((aF.move 4 (of_decide_eq_true rfl)).trans ((aGF (v2:=.slice 11 0 xs.length 1) (g2:=aM (w4k x xs) 0 0 (egG x) []) (by kernel_rfl) (by kernel_rfl)).trans ((aF.pack (w4k x xs) (.engine x) 0 0 (egG x) [] rfl rfl rfl (by kernel_rfl)).trans (aF.pick [0,11] rfl))))))))))))))))))
abbrev aDw(x:EGS)(i:Nat)(w:WKS)(xs:List Int):aC Ob:=[w4h x,bB 2 x.s,bC x.s,some (.abs (.hist x.h) []),some (.abs (.whole x.ws i) [5]),cE' [.ptr 6 0,.tslice 7 0 w.tk.length 3,.I w.en,.ptr 8 0,.slice 9 0 w.tl.length 1,.slice 10 0 w.sl.length 1],some (.abs (.store w.t w.n w.st) []),some (.tab [some .i64,some .i64,some .i64] w.tk),some (.abs (.doer w.t w.n w.d) [6]),iI' w.tl,iI' w.sl,iI' xs]
abbrev w4l(x:EGS):Option (aJ Ob):=cE' [.I x.sh,.I x.th,.I x.nd,.I x.tr,.ptr 1 0,.ptr 3 0,.slice 4 0 x.ws.length 1,.I x.k]
abbrev w4o(x:EGS)(xs:List Int):aC Ob:=[some (.abs (.engine x) []),none,none,none,none,none,none,none,none,none,none,iI' xs]
theorem IT(x:EGS)(i:Nat)(w:WKS)(xs:List Int)(hi:i<x.ws.length)(hw:dL x.ws i w=x.ws)(hb:w.b=true):aF (obI tbl) 1 (.slice 11 0 xs.length 1) (aDw x i w xs) (.slice 1 0 xs.length 1) [some (.abs (.engine x) []),iI' xs]:=by
 exact((aF.move 6 (of_decide_eq_true rfl)).trans ((aF.move 7 (of_decide_eq_true rfl)).trans ((aF.move 8 (of_decide_eq_true rfl)).trans ((aF.move 9 (of_decide_eq_true rfl)).trans ((aF.move 10 (of_decide_eq_true rfl)).trans ((aGF (v2:=.slice 11 0 xs.length 1) (g2:=aM [w4l x,bB 2 x.s,bC x.s,some (.abs (.hist x.h) []),some (.abs (.whole x.ws i) [5]),some (.abs (.worker w) []),none,none,none,none,none,iI' xs] 5 0 (pW w) []) (by kernel_rfl) (by kernel_rfl)).trans ((aF.pack [w4l x,bB 2 x.s,bC x.s,some (.abs (.hist x.h) []),some (.abs (.whole x.ws i) [5]),some (.abs (.worker w) []),none,none,none,none,none,iI' xs] (.worker w) 5 0 (pW w) [] rfl rfl (congrArg (Prod.mk 0) (vN hb)) (by kernel_rfl)).trans ((aF.back (l:=4) (k:=5) (i:=i) (ws:=x.ws) (w:=w) rfl rfl (by decide) hi).trans ((aGF (v2:=.slice 11 0 xs.length 1) (g2:=[w4l x,bB 2 x.s,bC x.s,some (.abs (.hist x.h) []),some (.abs (.wrow x.ws) []),none,none,none,none,none,none,iI' xs]) rfl (by rw [hw];rfl)).trans ((aF.move 1 (of_decide_eq_true rfl)).trans ((aF.move 2 (of_decide_eq_true rfl)).trans ((aF.move 3 (of_decide_eq_true rfl)).trans ((aF.move 4 (of_decide_eq_true rfl)).trans ((aGF (v2:=.slice 11 0 xs.length 1) (g2:=aM (w4o x xs) 0 0 (egG x) []) (by kernel_rfl) (by kernel_rfl)).trans ((aF.pack (w4o x xs) (.engine x) 0 0 (egG x) [] rfl rfl rfl (by kernel_rfl)).trans (aF.pick [0,11] rfl))))))))))))))))
abbrev aDy(x:EGS)(i:Nat)(w:WKS)(xs:List Int):aC Ob:=[w4h x,bB 2 x.s,bC x.s,some (.abs (.hist x.h) []),some (.abs (.whole x.ws i) [5]),cE' [.ptr 6 0,.tslice 8 0 w.tk.length 3,.I w.en,.ptr 9 0,.slice 10 0 w.tl.length 1,.slice 11 0 w.sl.length 1],hJ 7 w.t w.n w.st,hM w.st,some (.tab [some .i64,some .i64,some .i64] w.tk),some (.abs (.doer w.t w.n w.d) [6]),iI' w.tl,iI' w.sl,iI' xs]
abbrev w4m(w:WKS):List AVal:=[.ptr 6 0,.tslice 8 0 w.tk.length 3,.I w.en,.ptr 9 0,.slice 10 0 w.tl.length 1,.slice 11 0 w.sl.length 1]
abbrev w4n(x:EGS)(xs:List Int):aC Ob:=[some (.abs (.engine x) []),none,none,none,none,none,none,none,none,none,none,none,iI' xs]
theorem aAt(x:EGS)(i:Nat)(w:WKS)(xs:List Int)(hi:i<x.ws.length)(hw:dL x.ws i w=x.ws)(hb:w.b=true):aF (obI tbl) 1 (.slice 12 0 xs.length 1) (aDy x i w xs) (.slice 1 0 xs.length 1) [some (.abs (.engine x) []),iI' xs]:=by
 exact((aF.move 7 (of_decide_eq_true rfl)).trans ((aGF (v2:=.slice 12 0 xs.length 1) (g2:=aM [w4l x,bB 2 x.s,bC x.s,some (.abs (.hist x.h) []),some (.abs (.whole x.ws i) [5]),cE' (w4m w),some (.abs (.store w.t w.n w.st) []),none,some (.tab cK3 w.tk),some (.abs (.doer w.t w.n w.d) [6]),iI' w.tl,iI' w.sl,iI' xs] 6 0 (dA w.t w.n w.st) []) (by kernel_rfl) (by kernel_rfl)).trans ((aF.pack [w4l x,bB 2 x.s,bC x.s,some (.abs (.hist x.h) []),some (.abs (.whole x.ws i) [5]),cE' (w4m w),some (.abs (.store w.t w.n w.st) []),none,some (.tab cK3 w.tk),some (.abs (.doer w.t w.n w.d) [6]),iI' w.tl,iI' w.sl,iI' xs] (.store w.t w.n w.st) 6 0 (dA w.t w.n w.st) [] rfl rfl rfl (by kernel_rfl)).trans ((aF.move 6 (of_decide_eq_true rfl)).trans ((aF.move 8 (of_decide_eq_true rfl)).trans ((aF.move 9 (of_decide_eq_true rfl)).trans ((aF.move 10 (of_decide_eq_true rfl)).trans ((aF.move 11 (of_decide_eq_true rfl)).trans ((aGF (v2:=.slice 12 0 xs.length 1) (g2:=aM [w4l x,bB 2 x.s,bC x.s,some (.abs (.hist x.h) []),some (.abs (.whole x.ws i) [5]),some (.abs (.worker w) []),none,none,none,none,none,none,iI' xs] 5 0 (pW w) []) (by kernel_rfl) (by kernel_rfl)).trans ((aF.pack [w4l x,bB 2 x.s,bC x.s,some (.abs (.hist x.h) []),some (.abs (.whole x.ws i) [5]),some (.abs (.worker w) []),none,none,none,none,none,none,iI' xs] (.worker w) 5 0 (pW w) [] rfl rfl (congrArg (Prod.mk 0) (vN hb)) (by kernel_rfl)).trans ((aF.back (l:=4) (k:=5) (i:=i) (ws:=x.ws) (w:=w) rfl rfl (by decide) hi).trans ((aGF (v2:=.slice 12 0 xs.length 1) (g2:=[w4l x,bB 2 x.s,bC x.s,some (.abs (.hist x.h) []),some (.abs (.wrow x.ws) []),none,none,none,none,none,none,none,iI' xs]) rfl (by rw [hw];rfl)).trans ((aF.move 1 (of_decide_eq_true rfl)).trans ((aF.move 2 (of_decide_eq_true rfl)).trans ((aF.move 3 (of_decide_eq_true rfl)).trans ((aF.move 4 (of_decide_eq_true rfl)).trans ((aGF (v2:=.slice 12 0 xs.length 1) (g2:=aM (w4n x xs) 0 0 (egG x) []) (by kernel_rfl) (by kernel_rfl)).trans ((aF.pack (w4n x xs) (.engine x) 0 0 (egG x) [] rfl rfl rfl (by kernel_rfl)).trans (aF.pick [0,12] rfl)))))))))))))))))))
abbrev w4p(x:EGS):Option (aJ Ob):=cE' [.I (EGS.s x).1,.I (EGS.s x).2,.slice 2 0 (List.length (EGS.s x).3) 1,.I (EGS.s x).4,.I (EGS.s x).5,.I (EGS.s x).6,.int .u64 (EGS.s x).7,.int .u64 (EGS.s x).8,.bool (EGS.s x).9]
abbrev w4q(x:EGS):Option (aJ Ob):=cE' [.I x.1,.I x.2,.I x.3,.I x.4,.ptr 1 0,.ptr 3 0,.slice 4 0 x.7.length 1,.I x.8]
abbrev w4s(w:WKS):List AVal:=[.ptr 6 0,.tslice 7 0 w.4.length 3,.I w.5,.N,.slice 8 0 w.8.length 1,.slice 9 0 w.9.length 1]
def F3(x:EGS)(i:Nat)(w:WKS)(th:Int)(K:AVal→aC Ob→Prop):Prop:=bif ilt th 0 then K (.raw (Value.slice none 0 0)) [w4q x,w4p x,some (.ints (some .u64) (EGS.s x).3),some (.abs (.hist x.6) []),some (.abs (.whole x.7 i) [5]),cE' (w4s w),some (.abs (.store w.1 w.2 w.3) []),some (.tab cK3 w.4),iI' w.8,iI' w.9]else bif ile (↑x.7.length:Int) th then K (.raw (Value.slice none 0 0)) [w4q x,w4p x,some (.ints (some .u64) (EGS.s x).3),some (.abs (.hist x.6) []),some (.abs (.whole x.7 i) [5]),cE' (w4s w),some (.abs (.store w.1 w.2 w.3) []),some (.tab cK3 w.4),iI' w.8,iI' w.9]else((0:Int)≤th∧th<(↑x.7.length:Int))∧(i<x.7.length∧0+Int.toNat th*(1:Nat)=i)∧(lE' w.8∧w.8.length≤(4294967296:Nat))∧K (.slice 10 0 w.8.length 1) [w4q x,w4p x,some (.ints (some .u64) (EGS.s x).3),some (.abs (.hist x.6) []),some (.abs (.whole x.7 i) [5]),cE' (w4s w),some (.abs (.store w.1 w.2 w.3) []),some (.tab cK3 w.4),iI' w.8,iI' w.9,iI' w.8]
theorem F4(x:EGS)(i:Nat)(w:WKS)(th:Int)(K:AVal→aC Ob→Prop)(h:F3 x i w th K):cT' 32 [.ptr 0 0,.I th] (eg0 x i w) (gC 1 K):=by
 exact cM' (E:=EU2) (by kernel_rfl) h
abbrev w4r(w:WKS):List AVal:=[.ptr 6 0,.tslice 7 0 w.4.length 3,.I w.5,.ptr 8 0,.slice 9 0 w.8.length 1,.slice 10 0 w.9.length 1]
def F5(x:EGS)(i:Nat)(w:WKS)(th:Int)(K:AVal→aC Ob→Prop):Prop:=bif ilt th 0 then K (.raw (Value.slice none 0 0)) [w4q x,w4p x,some (.ints (some .u64) (EGS.s x).3),some (.abs (.hist x.6) []),some (.abs (.whole x.7 i) [5]),cE' (w4r w),some (.abs (.store w.1 w.2 w.3) []),some (.tab cK3 w.4),some (.abs (.doer w.1 w.2 w.7) [6]),iI' w.8,iI' w.9]else bif ile (↑x.7.length:Int) th then K (.raw (Value.slice none 0 0)) [w4q x,w4p x,some (.ints (some .u64) (EGS.s x).3),some (.abs (.hist x.6) []),some (.abs (.whole x.7 i) [5]),cE' (w4r w),some (.abs (.store w.1 w.2 w.3) []),some (.tab cK3 w.4),some (.abs (.doer w.1 w.2 w.7) [6]),iI' w.8,iI' w.9]else((0:Int)≤th∧th<(↑x.7.length:Int))∧(i<x.7.length∧0+Int.toNat th*(1:Nat)=i)∧(lE' w.8∧w.8.length≤(4294967296:Nat))∧K (.slice 11 0 w.8.length 1) [w4q x,w4p x,some (.ints (some .u64) (EGS.s x).3),some (.abs (.hist x.6) []),some (.abs (.whole x.7 i) [5]),cE' (w4r w),some (.abs (.store w.1 w.2 w.3) []),some (.tab cK3 w.4),some (.abs (.doer w.1 w.2 w.7) [6]),iI' w.8,iI' w.9,iI' w.8]
theorem F6(x:EGS)(i:Nat)(w:WKS)(th:Int)(K:AVal→aC Ob→Prop)(h:F5 x i w th K):cT' 32 [.ptr 0 0,.I th] (eg1 x i w) (gC 1 K):=by
 exact cM' (E:=EU2) (by kernel_rfl) h
def FZ(x:EGS)(i:Nat)(w:WKS)(th:Int)(K:AVal→aC Ob→Prop):Prop:=bif ilt th 0 then K (.raw (Value.slice none 0 0)) [w4q x,w4p x,some (.ints (some .u64) (EGS.s x).3),some (.abs (.hist x.6) []),some (.abs (.whole x.7 i) [5]),cE' (w4s w),some (.abs (.store w.1 w.2 w.3) []),some (.tab cK3 w.4),iI' w.8,iI' w.9]else bif ile (↑x.7.length:Int) th then K (.raw (Value.slice none 0 0)) [w4q x,w4p x,some (.ints (some .u64) (EGS.s x).3),some (.abs (.hist x.6) []),some (.abs (.whole x.7 i) [5]),cE' (w4s w),some (.abs (.store w.1 w.2 w.3) []),some (.tab cK3 w.4),iI' w.8,iI' w.9]else((0:Int)≤th∧th<(↑x.7.length:Int))∧(i<x.7.length∧0+Int.toNat th*(1:Nat)=i)∧(lE' w.9∧w.9.length≤(4294967296:Nat))∧K (.slice 10 0 w.9.length 1) [w4q x,w4p x,some (.ints (some .u64) (EGS.s x).3),some (.abs (.hist x.6) []),some (.abs (.whole x.7 i) [5]),cE' (w4s w),some (.abs (.store w.1 w.2 w.3) []),some (.tab cK3 w.4),iI' w.8,iI' w.9,iI' w.9]
theorem F0(x:EGS)(i:Nat)(w:WKS)(th:Int)(K:AVal→aC Ob→Prop)(h:FZ x i w th K):cT' 35 [.ptr 0 0,.I th] (eg0 x i w) (gC 1 K):=by
 exact cM' (E:=EU2) (by kernel_rfl) h
def F1(x:EGS)(i:Nat)(w:WKS)(th:Int)(K:AVal→aC Ob→Prop):Prop:=bif ilt th 0 then K (.raw (Value.slice none 0 0)) [w4q x,w4p x,some (.ints (some .u64) (EGS.s x).3),some (.abs (.hist x.6) []),some (.abs (.whole x.7 i) [5]),cE' (w4r w),some (.abs (.store w.1 w.2 w.3) []),some (.tab cK3 w.4),some (.abs (.doer w.1 w.2 w.7) [6]),iI' w.8,iI' w.9]else bif ile (↑x.7.length:Int) th then K (.raw (Value.slice none 0 0)) [w4q x,w4p x,some (.ints (some .u64) (EGS.s x).3),some (.abs (.hist x.6) []),some (.abs (.whole x.7 i) [5]),cE' (w4r w),some (.abs (.store w.1 w.2 w.3) []),some (.tab cK3 w.4),some (.abs (.doer w.1 w.2 w.7) [6]),iI' w.8,iI' w.9]else((0:Int)≤th∧th<(↑x.7.length:Int))∧(i<x.7.length∧0+Int.toNat th*(1:Nat)=i)∧(lE' w.9∧w.9.length≤(4294967296:Nat))∧K (.slice 11 0 w.9.length 1) [w4q x,w4p x,some (.ints (some .u64) (EGS.s x).3),some (.abs (.hist x.6) []),some (.abs (.whole x.7 i) [5]),cE' (w4r w),some (.abs (.store w.1 w.2 w.3) []),some (.tab cK3 w.4),some (.abs (.doer w.1 w.2 w.7) [6]),iI' w.8,iI' w.9,iI' w.9]
theorem F2(x:EGS)(i:Nat)(w:WKS)(th:Int)(K:AVal→aC Ob→Prop)(h:F1 x i w th K):cT' 35 [.ptr 0 0,.I th] (eg1 x i w) (gC 1 K):=by
 exact cM' (E:=EU2) (by kernel_rfl) h
abbrev w4t(w:WKS):List AVal:=[.I w.1,.I w.2,.I (WKS.st w).1,.I (WKS.st w).2,.slice 7 0 (List.length (WKS.st w).3) 1]
abbrev w4v(w:WKS):List AVal:=[.ptr 6 0,.tslice 8 0 w.4.length 3,.I w.5,.N,.slice 9 0 w.8.length 1,.slice 10 0 w.9.length 1]
def FS(x:EGS)(i:Nat)(w:WKS)(th:Int)(K:AVal→aC Ob→Prop):Prop:=bif ilt th 0 then K (.raw (Value.slice none 0 0)) [w4q x,w4p x,some (.ints (some .u64) (EGS.s x).3),some (.abs (.hist x.6) []),some (.abs (.whole x.7 i) [5]),cE' (w4v w),cE' (w4t w),iI' (WKS.st w).3,some (.tab cK3 w.4),iI' w.8,iI' w.9]else bif ile (↑x.7.length:Int) th then K (.raw (Value.slice none 0 0)) [w4q x,w4p x,some (.ints (some .u64) (EGS.s x).3),some (.abs (.hist x.6) []),some (.abs (.whole x.7 i) [5]),cE' (w4v w),cE' (w4t w),iI' (WKS.st w).3,some (.tab cK3 w.4),iI' w.8,iI' w.9]else((0:Int)≤th∧th<(↑x.7.length:Int))∧(i<x.7.length∧0+Int.toNat th*(1:Nat)=i)∧(lE' (WKS.st w).3∧List.length (WKS.st w).3≤(1000000:Nat))∧K (.slice 11 0 (List.length (lU (WKS.st w).2 (WKS.st w).3)) 1) [w4q x,w4p x,some (.ints (some .u64) (EGS.s x).3),some (.abs (.hist x.6) []),some (.abs (.whole x.7 i) [5]),cE' (w4v w),cE' (w4t w),iI' (WKS.st w).3,some (.tab cK3 w.4),iI' w.8,iI' w.9,iI' (lU (WKS.st w).2 (WKS.st w).3)]
theorem FT(x:EGS)(i:Nat)(w:WKS)(th:Int)(K:AVal→aC Ob→Prop)(h:FS x i w th K):cT' 69 [.ptr 0 0,.I th] (aDz x i w) (gC 1 K):=by
 exact cM' (E:=EU2) (by kernel_rfl) h
abbrev w4u(w:WKS):List AVal:=[.ptr 6 0,.tslice 8 0 w.4.length 3,.I w.5,.ptr 9 0,.slice 10 0 w.8.length 1,.slice 11 0 w.9.length 1]
def FU(x:EGS)(i:Nat)(w:WKS)(th:Int)(K:AVal→aC Ob→Prop):Prop:=bif ilt th 0 then K (.raw (Value.slice none 0 0)) [w4q x,w4p x,some (.ints (some .u64) (EGS.s x).3),some (.abs (.hist x.6) []),some (.abs (.whole x.7 i) [5]),cE' (w4u w),cE' (w4t w),iI' (WKS.st w).3,some (.tab cK3 w.4),some (.abs (.doer w.1 w.2 w.7) [6]),iI' w.8,iI' w.9]else bif ile (↑x.7.length:Int) th then K (.raw (Value.slice none 0 0)) [w4q x,w4p x,some (.ints (some .u64) (EGS.s x).3),some (.abs (.hist x.6) []),some (.abs (.whole x.7 i) [5]),cE' (w4u w),cE' (w4t w),iI' (WKS.st w).3,some (.tab cK3 w.4),some (.abs (.doer w.1 w.2 w.7) [6]),iI' w.8,iI' w.9]else((0:Int)≤th∧th<(↑x.7.length:Int))∧(i<x.7.length∧0+Int.toNat th*(1:Nat)=i)∧(lE' (WKS.st w).3∧List.length (WKS.st w).3≤(1000000:Nat))∧K (.slice 12 0 (List.length (lU (WKS.st w).2 (WKS.st w).3)) 1) [w4q x,w4p x,some (.ints (some .u64) (EGS.s x).3),some (.abs (.hist x.6) []),some (.abs (.whole x.7 i) [5]),cE' (w4u w),cE' (w4t w),iI' (WKS.st w).3,some (.tab cK3 w.4),some (.abs (.doer w.1 w.2 w.7) [6]),iI' w.8,iI' w.9,iI' (lU (WKS.st w).2 (WKS.st w).3)]
theorem FV(x:EGS)(i:Nat)(w:WKS)(th:Int)(K:AVal→aC Ob→Prop)(h:FU x i w th K):cT' 69 [.ptr 0 0,.I th] (aDA x i w) (gC 1 K):=by
 exact cM' (E:=EU2) (by kernel_rfl) h
abbrev w4x(x:EGS):List AVal:=[.I (EGS.s x).1,.I (EGS.s x).2,.slice 2 0 (List.length (EGS.s x).3) 1,.I (EGS.s x).4,.I (EGS.s x).5,.I (EGS.s x).6,.int .u64 (EGS.s x).7,.int .u64 (EGS.s x).8,.bool (EGS.s x).9]
abbrev w4y(x:EGS):List AVal:=[.I x.1,.I x.2,.I x.3,.I x.4,.ptr 1 0,.ptr 3 0,.slice 4 0 x.7.length 1,.I x.8]
abbrev w4w(x:EGS):aC Ob:=[cE' (w4y x),cE' (w4x x),some (.ints (some .u64) (EGS.s x).3),some (.abs (.hist x.6) []),some (.abs (.wrow x.7) [])]
def YS(x:EGS)(th:Int)(K:AVal→aC Ob→Prop):Prop:=bif ilt th 0 then K (.I 0) (w4w x)else bif ile (↑x.7.length:Int) th then K (.I 0) (w4w x)else((0:Int)≤th∧th<(↑x.7.length:Int))∧0+Int.toNat th*(1:Nat)<x.7.length∧True∧K (.I (W ((↑(List.length (bE x.7 (0+Int.toNat th*1)).4):Int) - (bE x.7 (0+Int.toNat th*1)).5))) [cE' (w4y x),cE' (w4x x),some (.ints (some .u64) (EGS.s x).3),some (.abs (.hist x.6) []),some (.abs (.whole x.7 (0+Int.toNat th*1)) [5]),some (.abs (.worker (bE x.7 (0+Int.toNat th*1))) [])]
theorem KX(x:EGS)(th:Int)(K:AVal→aC Ob→Prop)(h:YS x th K):cT' 33 [.ptr 0 0,.I th] (egG x) (gC 1 K):=by
 exact cM' (E:=EU2) (by kernel_rfl) h
abbrev w4z(x:EGS):aC Ob:=[cE' [.I x.1,.I x.2,.I x.3,.I x.4,.ptr 1 0,.ptr 3 0,.slice 4 0 x.7.length 1,.I x.8],cE' [.I (EGS.s x).1,.I (EGS.s x).2,.slice 2 0 (List.length (EGS.s x).3) 1,.I (EGS.s x).4,.I (EGS.s x).5,.I (EGS.s x).6,.int .u64 (EGS.s x).7,.int .u64 (EGS.s x).8,.bool (EGS.s x).9],some (.ints (some .u64) (EGS.s x).3),some (.abs (.hist x.6) []),some (.abs (.wrow x.7) [])]
def YV(x:EGS)(K:AVal→aC Ob→Prop):Prop:=K (.I x.8) (w4z x)
theorem K2(x:EGS)(K:AVal→aC Ob→Prop)(h:YV x K):cT' 34 [.ptr 0 0] (egG x) (gC 1 K):=by
 exact cM' (E:=EU2) (by kernel_rfl) h
def YT(x:EGS)(K:AVal→aC Ob→Prop):Prop:=K (.agg [.I (EGS.s x).1,.I (EGS.s x).2]) (w4z x)
theorem KY(x:EGS)(K:AVal→aC Ob→Prop)(h:YT x K):cT' 38 [.ptr 0 0] (egG x) (gC 1 K):=by
 exact cM' (E:=EU2) (by kernel_rfl) h
def YU(x:EGS)(a:Int)(K:AVal→aC Ob→Prop):Prop:=(lE' (EGS.s x).3∧True)∧K (.int .u64 (aE (EGS.s x).3 a)) [cE' [.I x.1,.I x.2,.I x.3,.I x.4,.ptr 1 0,.ptr 3 0,.slice 4 0 x.7.length 1,.I x.8],cE' [.I (EGS.s x).1,.I (EGS.s x).2,.slice 2 0 (List.length (EGS.s x).3) 1,.I (EGS.s x).4,.I (EGS.s x).5,.I (EGS.s x).6,.int .u64 (EGS.s x).7,.int .u64 (EGS.s x).8,.bool (EGS.s x).9],some (.ints (some .u64) (EGS.s x).3),some (.abs (.hist x.6) []),some (.abs (.wrow x.7) [])]
theorem K1(x:EGS)(a:Int)(K:AVal→aC Ob→Prop)(h:YU x a K):cT' 37 [.ptr 0 0,.I a] (egG x) (gC 1 K):=by
 exact cM' (E:=EU2) (by kernel_rfl) h
def YR(x:EGS)(K:AVal→aC Ob→Prop):Prop:=(lE' (EGS.s x).3∧True)∧K (.agg [.I (EGS.s x).5,.I (EGS.s x).6,.int .u64 (EGS.s x).7,.int .u64 (EGS.s x).8,.bool (EGS.s x).9]) (w4z x)
theorem KW(x:EGS)(K:AVal→aC Ob→Prop)(h:YR x K):cT' 45 [.ptr 0 0] (egG x) (gC 1 K):=by
 exact cM' (E:=EU2) (by kernel_rfl) h
theorem aB.keep{P:Program}{f:FuncId}{args:List AVal}{h:aC Ob}{n:Nat}{K:AVal→aC Ob→Prop}(h0:aB (obI tbl) P f args h (gC n (dS (obI tbl) n K))):aB (obI tbl) P f args h (dS (obI tbl) n K):=by
 intro V hR w args' hi hf hr;refine(h0 V hR w args' hi hf hr).mono ?_;rintro e w' ⟨v,v',V',h',ht,rest⟩;obtain⟨g0,hK⟩:=bN.1 ht;obtain⟨v2,g2,t,k⟩:=hK.ex;exact⟨v,v',V',h',⟨⟨v2,g2,(aF.pick _ g0).trans t,k⟩⟩,rest⟩
def lW(th:Int)(x:EGS):Int:=bif ilt th 0 then 0 else bif ile (x.ws.length:Int) th then 0 else W (((bE x.ws th.toNat).tk.length :Int) - (bE x.ws th.toNat).en)
def gR(th:Int)(x:EGS):List Int:=bif ilt th 0 then []else bif ile (x.ws.length:Int) th then []else(bE x.ws th.toNat).tl
def gO(th:Int)(x:EGS):List Int:=bif ilt th 0 then []else bif ile (x.ws.length:Int) th then []else(bE x.ws th.toNat).sl
def gG(th:Int)(x:EGS):List Int:=bif ilt th 0 then []else bif ile (x.ws.length:Int) th then []else lU (bE x.ws th.toNat).st.sp (bE x.ws th.toNat).st.R
structure jF (x:EGS):Prop where
 h0:0<x.ws.length
 ht: ∀i,i<x.ws.length→(bE x.ws i).tl.length ≤1000000
 hs: ∀i,i<x.ws.length→(bE x.ws i).sl.length ≤1000000
 hr: ∀i,i<x.ws.length→(bE x.ws i).st.R.length ≤1000000
theorem aDD(x:EGS)(i:Nat)(hi:i<x.ws.length):({x with ws:=dL x.ws i (bE x.ws i) } :EGS)=x:=by
 rw [c8 hi]
def rlfS:aH Ob:=fun args h=>match args,h with
 | [.ptr 0 0,.int .i64 th],[some (.abs (.engine x) [])]=>some (.pre True (.ret (.I (lW th x)) (egH x)))
 | _,_=>none
theorem PZ:sT' 33 rlfS:=by
 intro args h o ho K hK;unfold rlfS at ho;split at ho<;>cases ho
 rename_i th x;obtain⟨_,hK⟩:=hK;have hK:K (.I (lW th x)) (egH x):=hK;refine aGM ?_;refine aGH (h2:=egG x) (aS.unpack (.engine x) 0 0 (egG x) [] rfl rfl rfl rfl) ?_;refine aB.keep (KX x th _ ?_);refine aI (fun e1=>?_) (fun e1=>aI (fun e2=>?_) (fun e2=>?_))
 ·have hv:lW th x=0:=by unfold lW;rw [e1];rfl
  rw [hv]at hK;exact⟨⟨_,_,dY 1 (Nat.le_refl 1) _ rfl x,hK⟩⟩
 ·have hv:lW th x=0:=by unfold lW;rw [e1,e2];rfl
  rw [hv]at hK;exact⟨⟨_,_,dY 1 (Nat.le_refl 1) _ rfl x,hK⟩⟩
 ·have hv:lW th x=W (((bE x.ws th.toNat).tk.length :Int) - (bE x.ws th.toNat).en):=by unfold lW;rw [e1,e2];rfl
  rw [aU,dF']at e1;rw [cE,dF']at e2;have hi:0+th.toNat*1<x.ws.length:=by omega
  have ht:0+th.toNat*1=th.toNat:=by omega
  refine⟨⟨by omega,by omega⟩,hi,trivial,?_⟩
  rw [hv]at hK;refine⟨⟨_,_,AR (x:= {x with ws:=dL x.ws (0+th.toNat*1) (bE x.ws (0+th.toNat*1)) }) _ rfl rfl 1 (Nat.le_refl 1) rfl ⟨rfl,hi,rfl⟩,?_⟩⟩
  rw [aDD x _ hi,ht];exact hK
theorem QO(x:EGS)(i:Nat)(th:Int)(hi:i<x.ws.length)(K:AVal→aC Ob→Prop)(h0:(bE x.ws i).b =false→F3 x i (bE x.ws i) th (dS (obI tbl) 1 K))(h1:(bE x.ws i).b =true→F5 x i (bE x.ws i) th (dS (obI tbl) 1 K)):
 cT' 32 [.ptr 0 0,.I th] (egH x) K:=by
 refine aGM ?_;cases hb:(bE x.ws i).b with
 | false=>exact aGH (uF hi hb) (aB.keep (F4 x i _ th _ (h0 hb)))
 | true=>exact aGH (uG hi hb) (aB.keep (F6 x i _ th _ (h1 hb)))
def rtkS:aH Ob:=fun args h=>match args,h with
 | [.ptr 0 0,.int .i64 th],[some (.abs (.engine x) [])]=>some (.pre (jF x) (.ret (.slice 1 0 (gR th x).length 1) [some (.abs (.engine x) []),iI' (gR th x)]))
 | _,_=>none
theorem P4:sT' 32 rtkS:=by
 intro args h o ho K hK;unfold rtkS at ho;split at ho<;>cases ho
 rename_i th x;obtain⟨⟨hl,ht,hs,hr⟩,hK⟩:=hK;have hK:K (.slice 1 0 (gR th x).length 1) [some (.abs (.engine x) []),iI' (gR th x)]:=hK
 have nilt: ∀(b:Bool) (g g2:aC Ob) (e1:ilt th 0=true∨(ilt th 0=false∧ile (x.ws.length:Int) th=true)),gR th x=[]:=by
  intro b g g2 e;unfold gR;rcases e with e | ⟨e,e2⟩
  ·rw [e];rfl
  ·rw [e,e2];rfl
 cases e1:ilt th 0 with
 | true=>
   have hv:=nilt true [] [] (.inl e1);rw [hv]at hK;refine QO x 0 th hl K (fun hb=>?_) (fun hb=>?_)
   ·exact aI (fun _=>⟨⟨_,_,(aGR (cs:=[(.slot 0,.ints (some .i64))]) rfl).trans (IS x 0 _ [] hl (c8 hl) hb),hK⟩⟩) (fun e=>by rw [e1]at e;cases e)
   ·exact aI (fun _=>⟨⟨_,_,(aGR (cs:=[(.slot 0,.ints (some .i64))]) rfl).trans (IT x 0 _ [] hl (c8 hl) hb),hK⟩⟩) (fun e=>by rw [e1]at e;cases e)
 | false=>
   cases e2:ile (x.ws.length:Int) th with
   | true=>
     have hv:=nilt true [] [] (.inr ⟨e1,e2⟩);rw [hv]at hK;refine QO x 0 th hl K (fun hb=>?_) (fun hb=>?_)
     ·exact aI (fun e=>by rw [e1]at e;cases e) (fun _=>aI (fun _=>⟨⟨_,_,(aGR (cs:=[(.slot 0,.ints (some .i64))]) rfl).trans (IS x 0 _ [] hl (c8 hl) hb),hK⟩⟩) (fun e=>by rw [e2]at e;cases e))
     ·exact aI (fun e=>by rw [e1]at e;cases e) (fun _=>aI (fun _=>⟨⟨_,_,(aGR (cs:=[(.slot 0,.ints (some .i64))]) rfl).trans (IT x 0 _ [] hl (c8 hl) hb),hK⟩⟩) (fun e=>by rw [e2]at e;cases e))
   | false=>
     have hv:gR th x=(bE x.ws th.toNat).tl :=by unfold gR;rw [e1,e2];rfl
     have e1':=e1;have e2':=e2;rw [aU,dF']at e1';rw [cE,dF']at e2';have hi:th.toNat<x.ws.length:=by omega
     have hf:=ht _ hi;rw [hv]at hK;refine QO x th.toNat th hi K (fun hb=>?_) (fun hb=>?_)
     ·exact aI (fun e=>by rw [e1]at e;cases e) (fun _=>aI (fun e=>by rw [e2]at e;cases e) (fun _=>⟨⟨by omega,by omega⟩,⟨hi,by omega⟩,⟨rfl,by omega⟩,⟨⟨_,_,IS x th.toNat _ _ hi (c8 hi) hb,hK⟩⟩⟩))
     ·exact aI (fun e=>by rw [e1]at e;cases e) (fun _=>aI (fun e=>by rw [e2]at e;cases e) (fun _=>⟨⟨by omega,by omega⟩,⟨hi,by omega⟩,⟨rfl,by omega⟩,⟨⟨_,_,IT x th.toNat _ _ hi (c8 hi) hb,hK⟩⟩⟩))
theorem QK(x:EGS)(i:Nat)(th:Int)(hi:i<x.ws.length)(K:AVal→aC Ob→Prop)(h0:(bE x.ws i).b =false→FZ x i (bE x.ws i) th (dS (obI tbl) 1 K))(h1:(bE x.ws i).b =true→F1 x i (bE x.ws i) th (dS (obI tbl) 1 K)):
 cT' 35 [.ptr 0 0,.I th] (egH x) K:=by
 refine aGM ?_;cases hb:(bE x.ws i).b with
 | false=>exact aGH (uF hi hb) (aB.keep (F0 x i _ th _ (h0 hb)))
 | true=>exact aGH (uG hi hb) (aB.keep (F2 x i _ th _ (h1 hb)))
def rswS:aH Ob:=fun args h=>match args,h with
 | [.ptr 0 0,.int .i64 th],[some (.abs (.engine x) [])]=>some (.pre (jF x) (.ret (.slice 1 0 (gO th x).length 1) [some (.abs (.engine x) []),iI' (gO th x)]))
 | _,_=>none
theorem P3:sT' 35 rswS:=by
 intro args h o ho K hK;unfold rswS at ho;split at ho<;>cases ho
 rename_i th x;obtain⟨⟨hl,ht,hs,hr⟩,hK⟩:=hK;have hK:K (.slice 1 0 (gO th x).length 1) [some (.abs (.engine x) []),iI' (gO th x)]:=hK
 have nilt: ∀(b:Bool) (g g2:aC Ob) (e1:ilt th 0=true∨(ilt th 0=false∧ile (x.ws.length:Int) th=true)),gO th x=[]:=by
  intro b g g2 e;unfold gO;rcases e with e | ⟨e,e2⟩
  ·rw [e];rfl
  ·rw [e,e2];rfl
 cases e1:ilt th 0 with
 | true=>
   have hv:=nilt true [] [] (.inl e1);rw [hv]at hK;refine QK x 0 th hl K (fun hb=>?_) (fun hb=>?_)
   ·exact aI (fun _=>⟨⟨_,_,(aGR (cs:=[(.slot 0,.ints (some .i64))]) rfl).trans (IS x 0 _ [] hl (c8 hl) hb),hK⟩⟩) (fun e=>by rw [e1]at e;cases e)
   ·exact aI (fun _=>⟨⟨_,_,(aGR (cs:=[(.slot 0,.ints (some .i64))]) rfl).trans (IT x 0 _ [] hl (c8 hl) hb),hK⟩⟩) (fun e=>by rw [e1]at e;cases e)
 | false=>
   cases e2:ile (x.ws.length:Int) th with
   | true=>
     have hv:=nilt true [] [] (.inr ⟨e1,e2⟩);rw [hv]at hK;refine QK x 0 th hl K (fun hb=>?_) (fun hb=>?_)
     ·exact aI (fun e=>by rw [e1]at e;cases e) (fun _=>aI (fun _=>⟨⟨_,_,(aGR (cs:=[(.slot 0,.ints (some .i64))]) rfl).trans (IS x 0 _ [] hl (c8 hl) hb),hK⟩⟩) (fun e=>by rw [e2]at e;cases e))
     ·exact aI (fun e=>by rw [e1]at e;cases e) (fun _=>aI (fun _=>⟨⟨_,_,(aGR (cs:=[(.slot 0,.ints (some .i64))]) rfl).trans (IT x 0 _ [] hl (c8 hl) hb),hK⟩⟩) (fun e=>by rw [e2]at e;cases e))
   | false=>
     have hv:gO th x=(bE x.ws th.toNat).sl :=by unfold gO;rw [e1,e2];rfl
     have e1':=e1;have e2':=e2;rw [aU,dF']at e1';rw [cE,dF']at e2';have hi:th.toNat<x.ws.length:=by omega
     have hf:=hs _ hi;rw [hv]at hK;refine QK x th.toNat th hi K (fun hb=>?_) (fun hb=>?_)
     ·exact aI (fun e=>by rw [e1]at e;cases e) (fun _=>aI (fun e=>by rw [e2]at e;cases e) (fun _=>⟨⟨by omega,by omega⟩,⟨hi,by omega⟩,⟨rfl,by omega⟩,⟨⟨_,_,IS x th.toNat _ _ hi (c8 hi) hb,hK⟩⟩⟩))
     ·exact aI (fun e=>by rw [e1]at e;cases e) (fun _=>aI (fun e=>by rw [e2]at e;cases e) (fun _=>⟨⟨by omega,by omega⟩,⟨hi,by omega⟩,⟨rfl,by omega⟩,⟨⟨_,_,IT x th.toNat _ _ hi (c8 hi) hb,hK⟩⟩⟩))
theorem OK(x:EGS)(i:Nat)(th:Int)(hi:i<x.ws.length)(K:AVal→aC Ob→Prop)(h0:(bE x.ws i).b =false→FS x i (bE x.ws i) th (dS (obI tbl) 1 K))(h1:(bE x.ws i).b =true→FU x i (bE x.ws i) th (dS (obI tbl) 1 K)):
 cT' 69 [.ptr 0 0,.I th] (egH x) K:=by
 refine aGM ?_;cases hb:(bE x.ws i).b with
 | false=>exact aGH (IV hi hb) (aB.keep (FT x i _ th _ (h0 hb)))
 | true=>exact aGH (IW hi hb) (aB.keep (FV x i _ th _ (h1 hb)))
def rhdS:aH Ob:=fun args h=>match args,h with
 | [.ptr 0 0,.int .i64 th],[some (.abs (.engine x) [])]=>some (.pre (jF x) (.ret (.slice 1 0 (gG th x).length 1) [some (.abs (.engine x) []),iI' (gG th x)]))
 | _,_=>none
theorem PX:sT' 69 rhdS:=by
 intro args h o ho K hK;unfold rhdS at ho;split at ho<;>cases ho
 rename_i th x;obtain⟨⟨hl,ht,hs,hr⟩,hK⟩:=hK;have hK:K (.slice 1 0 (gG th x).length 1) [some (.abs (.engine x) []),iI' (gG th x)]:=hK
 have nilt: ∀(b:Bool) (g g2:aC Ob) (e1:ilt th 0=true∨(ilt th 0=false∧ile (x.ws.length:Int) th=true)),gG th x=[]:=by
  intro b g g2 e;unfold gG;rcases e with e | ⟨e,e2⟩
  ·rw [e];rfl
  ·rw [e,e2];rfl
 cases e1:ilt th 0 with
 | true=>
   have hv:=nilt true [] [] (.inl e1);rw [hv]at hK;refine OK x 0 th hl K (fun hb=>?_) (fun hb=>?_)
   ·exact aI (fun _=>⟨⟨_,_,(aGR (cs:=[(.slot 0,.ints (some .i64))]) rfl).trans (aAs x 0 _ [] hl (c8 hl) hb),hK⟩⟩) (fun e=>by rw [e1]at e;cases e)
   ·exact aI (fun _=>⟨⟨_,_,(aGR (cs:=[(.slot 0,.ints (some .i64))]) rfl).trans (aAt x 0 _ [] hl (c8 hl) hb),hK⟩⟩) (fun e=>by rw [e1]at e;cases e)
 | false=>
   cases e2:ile (x.ws.length:Int) th with
   | true=>
     have hv:=nilt true [] [] (.inr ⟨e1,e2⟩);rw [hv]at hK;refine OK x 0 th hl K (fun hb=>?_) (fun hb=>?_)
     ·exact aI (fun e=>by rw [e1]at e;cases e) (fun _=>aI (fun _=>⟨⟨_,_,(aGR (cs:=[(.slot 0,.ints (some .i64))]) rfl).trans (aAs x 0 _ [] hl (c8 hl) hb),hK⟩⟩) (fun e=>by rw [e2]at e;cases e))
     ·exact aI (fun e=>by rw [e1]at e;cases e) (fun _=>aI (fun _=>⟨⟨_,_,(aGR (cs:=[(.slot 0,.ints (some .i64))]) rfl).trans (aAt x 0 _ [] hl (c8 hl) hb),hK⟩⟩) (fun e=>by rw [e2]at e;cases e))
   | false=>
     have hv:gG th x=(lU (bE x.ws th.toNat).st.sp (bE x.ws th.toNat).st.R):=by unfold gG;rw [e1,e2];rfl
     have e1':=e1;have e2':=e2;rw [aU,dF']at e1';rw [cE,dF']at e2';have hi:th.toNat<x.ws.length:=by omega
     have hf:=hr _ hi;rw [hv]at hK;refine OK x th.toNat th hi K (fun hb=>?_) (fun hb=>?_)
     ·exact aI (fun e=>by rw [e1]at e;cases e) (fun _=>aI (fun e=>by rw [e2]at e;cases e) (fun _=>⟨⟨by omega,by omega⟩,⟨hi,by omega⟩,⟨rfl,hf⟩,⟨⟨_,_,aAs x th.toNat _ _ hi (c8 hi) hb,hK⟩⟩⟩))
     ·exact aI (fun e=>by rw [e1]at e;cases e) (fun _=>aI (fun e=>by rw [e2]at e;cases e) (fun _=>⟨⟨by omega,by omega⟩,⟨hi,by omega⟩,⟨rfl,hf⟩,⟨⟨_,_,aAt x th.toNat _ _ hi (c8 hi) hb,hK⟩⟩⟩))
def estS:aH Ob:=fun args h=>match args,h with
 | [.ptr 0 0],[some (.abs (.engine x) [])]=>some (.pre True (.ret (.I x.k) (egH x)))
 | _,_=>none
theorem NO:sT' 34 estS:=by
 intro args h o ho K hK;unfold estS at ho;split at ho<;>cases ho
 rename_i x;obtain⟨_,hK⟩:=hK;have hK:K (.I x.k) (egH x):=hK;refine aGM ?_;refine aGH (h2:=egG x) (aS.unpack (.engine x) 0 0 (egG x) [] rfl rfl rfl rfl) ?_;refine aB.keep (K2 x _ ?_);exact⟨⟨_,_,dY 1 (Nat.le_refl 1) _ rfl x,hK⟩⟩
def elyS:aH Ob:=fun args h=>match args,h with
 | [.ptr 0 0],[some (.abs (.engine x) [])]=>some (.pre True (.ret (.agg [.I x.s.t,.I x.s.n]) (egH x)))
 | _,_=>none
theorem NI:sT' 38 elyS:=by
 intro args h o ho K hK;unfold elyS at ho;split at ho<;>cases ho
 rename_i x;obtain⟨_,hK⟩:=hK;have hK:K (.agg [.I x.s.t,.I x.s.n]) (egH x):=hK;refine aGM ?_;refine aGH (h2:=egG x) (aS.unpack (.engine x) 0 0 (egG x) [] rfl rfl rfl rfl) ?_;refine aB.keep (KY x _ ?_);exact⟨⟨_,_,dY 1 (Nat.le_refl 1) _ rfl x,hK⟩⟩
def epeS:aH Ob:=fun args h=>match args,h with
 | [.ptr 0 0,.int .i64 a],[some (.abs (.engine x) [])]=>some (.pre True (.ret (.int .u64 (aE x.s.xs a)) (egH x)))
 | _,_=>none
theorem NM:sT' 37 epeS:=by
 intro args h o ho K hK;unfold epeS at ho;split at ho<;>cases ho
 rename_i a x;obtain⟨_,hK⟩:=hK;have hK:K (.int .u64 (aE x.s.xs a)) (egH x):=hK;refine aGM ?_;refine aGH (h2:=egG x) (aS.unpack (.engine x) 0 0 (egG x) [] rfl rfl rfl rfl) ?_;refine aB.keep (K1 x a _ ?_);exact⟨⟨rfl,trivial⟩,⟨⟨_,_,dY 1 (Nat.le_refl 1) _ rfl x,hK⟩⟩⟩
def elaS:aH Ob:=fun args h=>match args,h with
 | [.ptr 0 0],[some (.abs (.engine x) [])]=>some (.pre True (.ret (.agg [.I x.s.k,.I x.s.a,.int .u64 x.s.o,.int .u64 x.s.w,.bool x.s.ok]) (egH x)))
 | _,_=>none
theorem NH:sT' 45 elaS:=by
 intro args h o ho K hK;unfold elaS at ho;split at ho<;>cases ho
 rename_i x;obtain⟨_,hK⟩:=hK;have hK:K (.agg [.I x.s.k,.I x.s.a,.int .u64 x.s.o,.int .u64 x.s.w,.bool x.s.ok]) (egH x):=hK;refine aGM ?_;refine aGH (h2:=egG x) (aS.unpack (.engine x) 0 0 (egG x) [] rfl rfl rfl rfl) ?_;refine aB.keep (KW x _ ?_);exact⟨⟨rfl,trivial⟩,⟨⟨_,_,dY 1 (Nat.le_refl 1) _ rfl x,hK⟩⟩⟩
noncomputable def EU3:=((((((((EU2.addS 33 rlfS PZ).addS 32 rtkS P4).addS 35 rswS P3).addS 69 rhdS PX).addS 34 estS NO).addS 38 elyS NI).addS 37 epeS NM).addS 45 elaS NH)
end Go.Sh
