import Derived.Shelf.Sort.Plain
import Derived.Shelf.Slices.In.SortNone
import Derived.Test.YteindpciaceeeaaGreatZSh29
set_option linter.all false
set_option maxHeartbeats 8000000
namespace Go.Sh
open Go Go.Proofs
variable [Con]
def wlS:aH Ob:=fun args h=>match args,h with
 | [.ptr 0 0],[some (.abs (.worker x) [])]=>some (.pre True (.ret (.I (W ((x.tk.length:Int) - x.en))) [some (.abs (.worker x) [])]))
 | _,_=>none
abbrev w2g(x:WKS):Option (aG Ob):=cE' [.ptr 1 0,.tslice 2 0 x.tk.length 3,.I x.en,.raw (.pointer none),.slice 3 0 x.tl.length 1,.slice 4 0 x.sl.length 1]
theorem aHg(x:WKS)(K:AVal→aC Ob→Prop)(hK:K (.I (W ((x.tk.length:Int) - x.en))) [w2g x,some (.abs (.store x.t x.n x.st) []),some (.tab cK3 x.tk),iI' x.tl,iI' x.sl]):cT' 91 [.ptr 0 0] [w2g x,some (.abs (.store x.t x.n x.st) []),some (.tab cK3 x.tk),iI' x.tl,iI' x.sl] K:=by
 refine aIl (cM' (E:=EN1) (q:=K (.I (W ((↑x.4.length:Int) - x.5))) [cE' [.ptr 1 0,.tslice 2 0 x.4.length 3,.I x.5,.N,.slice 3 0 x.8.length 1,.slice 4 0 x.9.length 1],some (.abs (.store x.1 x.2 x.3) []),some (.tab cK3 x.4),iI' x.8,iI' x.9]) (by kernel_rfl) ?_)
 exact hK
abbrev w2h(x:WKS):Option (aG Ob):=cE' [.ptr 1 0,.tslice 2 0 x.tk.length 3,.I x.en,.ptr 3 0,.slice 4 0 x.tl.length 1,.slice 5 0 x.sl.length 1]
theorem aHh(x:WKS)(K:AVal→aC Ob→Prop)(hK:K (.I (W ((x.tk.length:Int) - x.en))) [w2h x,some (.abs (.store x.t x.n x.st) []),some (.tab cK3 x.tk),some (.abs (.doer x.t x.n x.d) [1]),iI' x.tl,iI' x.sl]):cT' 91 [.ptr 0 0] [w2h x,some (.abs (.store x.t x.n x.st) []),some (.tab cK3 x.tk),some (.abs (.doer x.t x.n x.d) [1]),iI' x.tl,iI' x.sl] K:=by
 refine aIl (cM' (E:=EN1) (q:=K (.I (W ((↑x.4.length:Int) - x.5))) [cE' [.ptr 1 0,.tslice 2 0 x.4.length 3,.I x.5,.ptr 3 0,.slice 4 0 x.8.length 1,.slice 5 0 x.9.length 1],some (.abs (.store x.1 x.2 x.3) []),some (.tab cK3 x.4),some (.abs (.doer x.1 x.2 x.7) [1]),iI' x.8,iI' x.9]) (by kernel_rfl) ?_)
 exact hK
theorem aF6:sT' 91 wlS:=by
 intro args h o ho K hK;unfold wlS at ho;split at ho<;>cases ho
 rename_i x;obtain⟨ok,hK⟩:=hK;have hK:K (.I (W ((x.tk.length:Int) - x.en))) [some (.abs (.worker x) [])]:=hK;refine aIz ?_;cases e:x.b with
 | false=>
   refine aIq (h2:=mF x) (aT.unpack (.worker x) 0 0 (mF x) [] rfl (congrArg (Prod.mk 0) (oQ e)) rfl rfl) ?_;refine aHg x _ ⟨⟨_,_,aF.pack [some (.abs (.worker x) [])] (.worker x) 0 0 (mF x) [] (by kernel_rfl) rfl (congrArg (Prod.mk 0) (oQ e)) (by kernel_rfl),hK⟩⟩
 | true=>
   refine aIq (h2:=pK x) (aT.unpack (.worker x) 0 0 (pK x) [] rfl (congrArg (Prod.mk 0) (v7 e)) rfl rfl) ?_;refine aHh x _ ⟨⟨_,_,aF.pack [some (.abs (.worker x) [])] (.worker x) 0 0 (pK x) [] (by kernel_rfl) rfl (congrArg (Prod.mk 0) (v7 e)) (by kernel_rfl),hK⟩⟩
noncomputable def EW1:=EN1.addS 91 wlS aF6
structure WK1 where
 t:Int
 n:Int
 st:STS
 tk:List (List Int)
 en:Int
 d:DOS
 tl:List Int
 sl:List Int
instance:Inhabited WK1:=⟨⟨0,0,⟨0,0,[]⟩,[],0,eS,[],[]⟩⟩
abbrev I5(x:WK1):aC Ob:=[cE' [.ptr 1 0,.tslice 2 0 x.tk.length 3,.I x.en,.ptr 3 0,.slice 4 0 x.tl.length 1,.slice 5 0 x.sl.length 1],some (.abs (.store x.t x.n x.st) []),some (.tab tkK x.tk),some (.abs (.doer x.t x.n x.d) [1]),iI' x.tl,iI' x.sl]
def aF5(x:WKS):WK1:=⟨x.t,x.n,x.st,x.tk,x.en,x.d,x.tl,x.sl⟩
def wbP(v:AVal)(g:aC Ob):Option (Prop×WK1):=match v,g with
 | .bool true,[some (.cells [.ptr 1 0,.tslice 2 0 k 3,.int .i64 en,.ptr 3 0,.slice 4 0 a 1,.slice 5 0 b 1]),some (.abs (.store t n st) []),some (.tab [some .i64,some .i64,some .i64] tk),some (.abs (.doer t1 n1 d) [1]),some (.ints (some .i64) tl),some (.ints (some .i64) sl)]=>some (k=tk.length∧a=tl.length∧b=sl.length∧t1=t∧n1=n,⟨t,n,st,tk,en,d,tl,sl⟩)
 | _,_=>none
theorem aDC:bM (obI tbl) 1 wbP (fun y=>.ret (.bool true) (I5 y)):=by
 intro v g p x hp hq K hK;unfold wbP at hp;split at hp
 case h_2=>cases hp
 cases hp;obtain⟨rfl,rfl,rfl,rfl,rfl⟩:=hq;exact⟨⟨_,_,aIF _ _ _,hK⟩⟩
abbrev w2i(x:WKS):=List.getD x.4 (0+Int.toNat x.5) []
def MJ(tr:Int)(x:WKS):Tr WK1:=.pre ((0:Int)≤x.5∧x.5<(↑x.4.length:Int)) (.pre (0+Int.toNat x.5<x.4.length) (.pre (NZ x.1 x.2 (List.headD (w2i x) 0) (List.headD (List.tail (w2i x)) 0) (List.headD (List.tail (List.tail (w2i x))) 0) tr x.3∧True) (.pre (0=0∧lE' x.8∧1=1∧x.8.length+(1:Nat)≤(4294967296:Nat)) (.pre (lE' x.4∧x.8.length+(1:Nat)=List.length (x.8++ [0])∧lE' x.9∧x.1=x.1∧x.2=x.2) (.ret {x with st:=(dqNF x.1 x.2 (List.headD (w2i x) 0) (List.headD (List.tail (w2i x)) 0) (List.headD (List.tail (List.tail (w2i x))) 0) tr x.3).2,d:=(dqNF x.1 x.2 (List.headD (w2i x) 0) (List.headD (List.tail (w2i x)) 0) (List.headD (List.tail (List.tail (w2i x))) 0) tr x.3).1,tl:=x.8++ [0],sl:=x.9})))))
theorem Y1(tr:Int)(x:WKS)(K:WK1→Prop)(h:(MJ tr x).run K):cT' 95 [.ptr 0 0,.I tr] [cE' [.ptr 1 0,.tslice 2 0 x.tk.length 3,.I x.en,.raw (.pointer none),.slice 3 0 x.tl.length 1,.slice 4 0 x.sl.length 1],some (.abs (.store x.t x.n x.st) []),some (.tab cK3 x.tk),iI' x.tl,iI' x.sl] (bR 1 0 [] [] wbP K):=by
 exact cM' (E:=EW1) (by kernel_rfl) h
theorem aHf(tr:Int)(x:WKS)(K:AVal→aC Ob→Prop)(hK:K (.bool false) (pK x)):cT' 95 [.ptr 0 0,.I tr] [cE' [.ptr 1 0,.tslice 2 0 x.tk.length 3,.I x.en,.ptr 3 0,.slice 4 0 x.tl.length 1,.slice 5 0 x.sl.length 1],some (.abs (.store x.t x.n x.st) []),some (.tab cK3 x.tk),some (.abs (.doer x.t x.n x.d) [1]),iI' x.tl,iI' x.sl] K:=by
 refine aIl (cM' (E:=EW1) (q:=K (.bool false) [cE' [.ptr 1 0,.tslice 2 0 x.4.length 3,.I x.5,.ptr 3 0,.slice 4 0 x.8.length 1,.slice 5 0 x.9.length 1],some (.abs (.store x.1 x.2 x.3) []),some (.tab cK3 x.4),some (.abs (.doer x.1 x.2 x.7) [1]),iI' x.8,iI' x.9]) (by kernel_rfl) ?_)
 exact hK
def wbF(tr:Int)(x:WKS):WK1:=bif x.b then aF5 x else(MJ tr x).val
def R8(tr:Int)(x:WKS):Prop:=bif x.b then True else(MJ tr x).ok
def wbS:aH Ob:=fun args h=>match args,h with
 | [.ptr 0 0,.int .i64 tr],[some (.abs (.worker x) [])]=>some (.pre (R8 tr x) (.ret (.bool (!x.b)) (I5 (wbF tr x))))
 | _,_=>none
theorem aF3:sT' 95 wbS:=by
 intro args h o ho K hK;unfold wbS at ho;split at ho<;>cases ho
 rename_i tr x;obtain⟨ok,hK⟩:=hK;have hK:K (.bool (!x.b)) (I5 (wbF tr x)):=hK;unfold wbF at hK;unfold R8 at ok;cases e:x.b with
 | false=>
   rw [e]at ok hK;exact aIm (root:=0) (pos:=[]) (cs:=[]) (parse:=wbP) (fin:=fun y=>.ret (.bool true) (I5 y)) aDC (aT.unpack (.worker x) 0 0 (mF x) [] rfl (congrArg (Prod.mk 0) (oQ e)) rfl rfl) (Y1 tr x _ (aIp ok hK))
 | true=>
   rw [e]at hK;exact aIq (h2:=pK x) (aT.unpack (.worker x) 0 0 (pK x) [] rfl (congrArg (Prod.mk 0) (v7 e)) rfl rfl) (aHf tr x K hK)
noncomputable def EW2:=EW1.addS 95 wbS aF3
structure WkO where
 code:Int
 okk:Bool
 val:Int
 d:Bool
 x:WKS
 s:MS
instance:Inhabited WkO:=⟨⟨0,false,0,false,default,⟨0,0,[],0,0,0,0,0,false⟩⟩⟩
abbrev MR(y:WkO):aC Ob:=[some (.abs (.worker y.x) []),none,none,none,none,none,aZ 7 y.s,bA y.s]
abbrev Y3(y:WkO):AVal:=.tup [.agg [.I y.code,.bool y.okk,.I y.val],.bool y.d]
def aDI(v:AVal)(g:aC Ob):Option (Prop×WkO):=match v,g with
 | .tup [.agg [.int .i64 code,.bool okk,.int .i64 val],.bool dn],[some (.cells [.ptr 1 0,.tslice 2 0 k 3,.int .i64 en,.ptr 3 0,.slice 4 0 a 1,.slice 5 0 b 1]),some (.abs (.store t n st) []),some (.tab [some .i64,some .i64,some .i64] tk),some (.abs (.doer t1 n1 d) [1]),some (.ints (some .i64) tl),some (.ints (some .i64) sl),e1,e2]=>(match cO 7 [e1,e2]with
   | some (l,s)=>some (k=tk.length∧a=tl.length∧b=sl.length∧t1=t∧n1=n∧l=s.xs.length,⟨code,okk,val,dn,⟨t,n,st,tk,en,true,d,tl,sl⟩,s⟩)
   | none=>none)
 | _,_=>none
def aDH(v:AVal)(g:aC Ob):Option (Prop×WkO):=match v,g with
 | .tup [.agg [.int .i64 code,.bool okk,.int .i64 val],.bool dn],[some (.cells [.ptr 1 0,.tslice 2 0 k 3,.int .i64 en,.raw (.pointer none),.slice 4 0 a 1,.slice 5 0 b 1]),some (.abs (.store t n st) []),some (.tab [some .i64,some .i64,some .i64] tk),_,some (.ints (some .i64) tl),some (.ints (some .i64) sl),e1,e2]=>(match cO 7 [e1,e2]with
   | some (l,s)=>some (k=tk.length∧a=tl.length∧b=sl.length∧l=s.xs.length,⟨code,okk,val,dn,⟨t,n,st,tk,en,false,eS,tl,sl⟩,s⟩)
   | none=>none)
 | _,_=>none
def aDJ(v:AVal)(g:aC Ob):Option (Prop×WkO):=match v,g with
 | .tup [.agg [.int .i64 code,.bool okk,.int .i64 val],.bool dn],[some (.cells [.ptr 1 0,.tslice 2 0 k 3,.int .i64 en,.raw (.pointer none),.slice 4 0 a 1,.slice 8 0 b 1]),some (.abs (.store t n st) []),some (.tab [some .i64,some .i64,some .i64] tk),_,some (.ints (some .i64) tl),_,e1,e2,some (.ints (some .i64) sl)]=>(match cO 7 [e1,e2]with
   | some (l,s)=>some (k=tk.length∧a=tl.length∧b=sl.length∧l=s.xs.length,⟨code,okk,val,dn,⟨t,n,st,tk,en,false,eS,tl,sl⟩,s⟩)
   | none=>none)
 | _,_=>none
def wsP(v:AVal)(g:aC Ob):Option (Prop×WkO):=match aDI v g with
 | some r=>some r
 | none=>(match aDH v g with
   | some r=>some r
   | none=>aDJ v g)
theorem Y7:bM (obI tbl) 8 aDI (fun y=>.ret (Y3 y) (MR y)):=by
 intro v g p x hp hq K hK;unfold aDI at hp;split at hp
 case h_2=>cases hp
 rename_i code okk val dn k en a b t n st tk t1 n1 d tl sl e1 e2;split at hp
 case h_2=>cases hp
 rename_i l s hm;cases hp;obtain⟨rfl,rfl,rfl,rfl,rfl,hl⟩:=hq;cases bB hm hl;exact⟨⟨_,_,((aF.move 1 (of_decide_eq_true rfl)).trans ((aF.move 2 (of_decide_eq_true rfl)).trans ((aF.move 3 (of_decide_eq_true rfl)).trans ((aF.move 4 (of_decide_eq_true rfl)).trans ((aF.move 5 (of_decide_eq_true rfl)).trans ((aIt (v2:=Y3 ⟨code,okk,val,dn,⟨t1,n1,st,tk,en,true,d,tl,sl⟩,s⟩) (g2:=aQ (MR ⟨code,okk,val,dn,⟨t1,n1,st,tk,en,true,d,tl,sl⟩,s⟩) 0 0 (pK ⟨t1,n1,st,tk,en,true,d,tl,sl⟩) []) (by kernel_rfl) (by kernel_rfl)).trans (aF.pack (MR ⟨code,okk,val,dn,⟨t1,n1,st,tk,en,true,d,tl,sl⟩,s⟩) (.worker ⟨t1,n1,st,tk,en,true,d,tl,sl⟩) 0 0 (pK ⟨t1,n1,st,tk,en,true,d,tl,sl⟩) [] rfl rfl (congrArg (Prod.mk 0) (v7 rfl)) (by kernel_rfl)))))))),hK⟩⟩
theorem Y6:bM (obI tbl) 8 aDH (fun y=>.ret (Y3 y) (MR y)):=by
 intro v g p x hp hq K hK;unfold aDH at hp;split at hp
 case h_2=>cases hp
 rename_i code okk val dn k en a b t n st tk e3 tl sl e1 e2;split at hp
 case h_2=>cases hp
 rename_i l s hm;cases hp;obtain⟨rfl,rfl,rfl,hl⟩:=hq;cases bB hm hl;exact⟨⟨_,_,((aF.weak (jN _ 3 none trivial)).trans ((aF.move 1 (of_decide_eq_true rfl)).trans ((aF.move 2 (of_decide_eq_true rfl)).trans ((aF.move 4 (of_decide_eq_true rfl)).trans ((aF.move 5 (of_decide_eq_true rfl)).trans ((aIt (v2:=Y3 ⟨code,okk,val,dn,⟨t,n,st,tk,en,false,eS,tl,sl⟩,s⟩) (g2:=aQ (MR ⟨code,okk,val,dn,⟨t,n,st,tk,en,false,eS,tl,sl⟩,s⟩) 0 0 (mF ⟨t,n,st,tk,en,false,eS,tl,sl⟩) []) (by kernel_rfl) (by kernel_rfl)).trans (aF.pack (MR ⟨code,okk,val,dn,⟨t,n,st,tk,en,false,eS,tl,sl⟩,s⟩) (.worker ⟨t,n,st,tk,en,false,eS,tl,sl⟩) 0 0 (mF ⟨t,n,st,tk,en,false,eS,tl,sl⟩) [] rfl rfl (congrArg (Prod.mk 0) (oQ rfl)) (by kernel_rfl)))))))),hK⟩⟩
theorem Y8:bM (obI tbl) 8 aDJ (fun y=>.ret (Y3 y) (MR y)):=by
 intro v g p x hp hq K hK;unfold aDJ at hp;split at hp
 case h_2=>cases hp
 rename_i code okk val dn k en a b t n st tk e3 tl e4 e1 e2 sl;split at hp
 case h_2=>cases hp
 rename_i l s hm;cases hp;obtain⟨rfl,rfl,rfl,hl⟩:=hq;cases bB hm hl;exact⟨⟨_,_,((aF.weak (jN _ 3 none trivial)).trans ((aF.weak (jN _ 5 none trivial)).trans ((aF.move 1 (of_decide_eq_true rfl)).trans ((aF.move 2 (of_decide_eq_true rfl)).trans ((aF.move 4 (of_decide_eq_true rfl)).trans ((aF.move 8 (of_decide_eq_true rfl)).trans ((aF.pick [0,1,2,3,4,5,6,7,9,10,11,12] rfl).trans ((aIt (v2:=Y3 ⟨code,okk,val,dn,⟨t,n,st,tk,en,false,eS,tl,sl⟩,s⟩) (g2:=aQ (MR ⟨code,okk,val,dn,⟨t,n,st,tk,en,false,eS,tl,sl⟩,s⟩) 0 0 (mF ⟨t,n,st,tk,en,false,eS,tl,sl⟩) []) (by kernel_rfl) (by kernel_rfl)).trans (aF.pack (MR ⟨code,okk,val,dn,⟨t,n,st,tk,en,false,eS,tl,sl⟩,s⟩) (.worker ⟨t,n,st,tk,en,false,eS,tl,sl⟩) 0 0 (mF ⟨t,n,st,tk,en,false,eS,tl,sl⟩) [] rfl rfl (congrArg (Prod.mk 0) (oQ rfl)) (by kernel_rfl)))))))))),hK⟩⟩
theorem aDK:bM (obI tbl) 8 wsP (fun y=>.ret (Y3 y) (MR y)):=by
 intro v g p x hp hq K hK;unfold wsP at hp;split at hp
 ·rename_i r hr;cases hp;exact Y7 v g p x hr hq K hK
 split at hp
 ·rename_i r hr;cases hp;exact Y6 v g p x hr hq K hK
 exact Y8 v g p x hp hq K hK
abbrev w2j(s:MS)(x:WK1):=s7 x.1 x.2 x.6 x.3 s
abbrev w2k(x:WK1):=W (List.getD x.7 (0+Int.toNat x.5*1) 0+1)
def wsT(x:WK1)(s:MS):Tr WkO:=.pre ((0:Int)≤x.5∧x.5<(↑x.7.length:Int)) (.pre (0+Int.toNat x.5*(1:Nat)<x.7.length) (.pre ((0:Int)≤x.5∧x.5<(↑x.7.length:Int)) (.pre (0+Int.toNat x.5*(1:Nat)<x.7.length) (.pre ((lE' s.3∧x.1=x.1∧x.2=x.2)∧UD x.1 x.2 x.6 x.3 s) (.ite (w2j s x).1 (.ite (DqO.x (w2j s x)).4 (.pre (0=0∧lE' x.8∧1=1∧x.8.length+(1:Nat)≤(4294967296:Nat)) (.pre (lE' x.4∧x.7.length=List.length (List.set x.7 (0+Int.toNat x.5*1) (w2k x))∧x.8.length+(1:Nat)=List.length (x.8++ [x.5])∧lE' (DqO.s (w2j s x)).3) (.ret {code:=(DqO.x (w2j s x)).1,okk:=(DqO.x (w2j s x)).2,val:=(DqO.x (w2j s x)).3,d:=true,x:= {x with st:=(w2j s x).3,en:=W (x.5+1),b:=false,d:=eS,tl:=List.set x.7 (0+Int.toNat x.5*1) (w2k x),sl:=x.8++ [x.5] },s:=(w2j s x).4}))) (.pre (lE' x.4∧x.7.length=List.length (List.set x.7 (0+Int.toNat x.5*1) (w2k x))∧lE' x.8∧lE' (DqO.s (w2j s x)).3) (.ret {code:=(DqO.x (w2j s x)).1,okk:=(DqO.x (w2j s x)).2,val:=(DqO.x (w2j s x)).3,d:=true,x:= {x with st:=(w2j s x).3,en:=W (x.5+1),b:=false,d:=eS,tl:=List.set x.7 (0+Int.toNat x.5*1) (w2k x),sl:=x.8},s:=(w2j s x).4}))) (.pre (lE' x.4∧x.7.length=List.length (List.set x.7 (0+Int.toNat x.5*1) (w2k x))∧lE' x.8∧x.1=x.1∧x.2=x.2∧lE' (DqO.s (w2j s x)).3) (.ret {code:=0,okk:=false,val:=0,d:=false,x:= {x with st:=(w2j s x).3,b:=true,d:=(w2j s x).2,tl:=List.set x.7 (0+Int.toNat x.5*1) (w2k x),sl:=x.8},s:=(w2j s x).4})))))))
theorem aDL(x:WK1)(s:MS)(K:WkO→Prop)(h:(wsT x s).run K):cT' 97 [.ptr 0 0,.ptr 6 0] [cE' [.ptr 1 0,.tslice 2 0 x.tk.length 3,.I x.en,.ptr 3 0,.slice 4 0 x.tl.length 1,.slice 5 0 x.sl.length 1],some (.abs (.store x.t x.n x.st) []),some (.tab cK3 x.tk),some (.abs (.doer x.t x.n x.d) [1]),iI' x.tl,iI' x.sl,aZ 7 s,bA s] (bR 8 0 [] [] wsP K):=by
 exact cM' (E:=EW2) (by kernel_rfl) h
def wsF(x:WK1)(s:MS):WkO:=(wsT x s).val
def Y5(x:WK1)(s:MS):Prop:=(wsT x s).ok
def wsS:aH Ob:=fun args h=>match args,h with
 | [.ptr 0 0,.ptr 6 0],[some (.cells [.ptr 1 0,.tslice 2 0 k 3,.int .i64 en,.ptr 3 0,.slice 4 0 a 1,.slice 5 0 b 1]),some (.abs (.store t n st) []),some (.tab [some .i64,some .i64,some .i64] tk),some (.abs (.doer t1 n1 d) [1]),some (.ints (some .i64) tl),some (.ints (some .i64) sl),e1,e2]=>(match cO 7 [e1,e2]with
   | some (l,s)=>some (.pre ((k=tk.length∧a=tl.length∧b=sl.length∧t1=t∧n1=n∧l=s.xs.length)∧Y5 ⟨t,n,st,tk,en,d,tl,sl⟩ s) (.ret (Y3 (wsF ⟨t,n,st,tk,en,d,tl,sl⟩ s)) (MR (wsF ⟨t,n,st,tk,en,d,tl,sl⟩ s))))
   | none=>none)
 | _,_=>none
theorem aF9:sT' 97 wsS:=by
 intro args h o ho K hK;unfold wsS at ho;split at ho
 case h_2=>cases ho
 rename_i k en a b t n st tk t1 n1 d tl sl e1 e2;split at ho<;>cases ho
 rename_i l s hm;obtain⟨⟨⟨rfl,rfl,rfl,rfl,rfl,hl⟩,ok⟩,hK⟩:=hK;cases bB hm hl;refine aIy (root:=0) (pos:=[]) (cs:=[]) (parse:=wsP) (fin:=fun y=>.ret (Y3 y) (MR y)) aDK ?_;exact aDL ⟨t1,n1,st,tk,en,d,tl,sl⟩ s _ (aIp ok hK)
noncomputable def EW3:=EW2.addS 97 wsS aF9
def dtS:aH Ob:=fun args h=>match args,h with
 | [.ptr 0 0],[some (.abs (.doer t n x) [1]),some (.abs (.store t2 n2 st) [])]=>some (.pre True (.ret (.agg [.I x.sh,.I x.kd,.I x.ky]) [some (.abs (.doer t n x) [1]),some (.abs (.store t2 n2 st) [])]))
 | _,_=>none
abbrev w2l(n n2:Int)(st:STS)(t t2:Int)(x:DOS):aC Ob:=[some (.abs (.doer t n x) [1]),some (.abs (.store t2 n2 st) [])]
abbrev w2m(x:DOS):List AVal:=[.I x.sh,.I x.kd,.I x.ky]
theorem aEt(t n t2 n2:Int)(x:DOS)(st:STS)(K:AVal→aC Ob→Prop)(hK:K (.agg (w2m x)) (aQ (w2l n n2 st t t2 x) 0 1 (iD t n x) [1])):cT' 96 [.ptr 0 0] (aQ (w2l n n2 st t t2 x) 0 1 (iD t n x) [1]) K:=by
 refine aIl ?_;exact cM' (E:=EW3) (by kernel_rfl) hK
theorem aEu(t n t2 n2:Int)(x:DOS)(st:STS)(K:AVal→aC Ob→Prop)(hK:K (.agg (w2m x)) (aQ (w2l n n2 st t t2 x) 0 1 (iE t n x) [1])):cT' 96 [.ptr 0 0] (aQ (w2l n n2 st t t2 x) 0 1 (iE t n x) [1]) K:=by
 refine aIl ?_;exact cM' (E:=EW3) (by kernel_rfl) hK
theorem aEv(t n t2 n2:Int)(x:DOS)(st:STS)(K:AVal→aC Ob→Prop)(hK:K (.agg (w2m x)) (aQ (w2l n n2 st t t2 x) 0 1 (iF t n x) [1])):cT' 96 [.ptr 0 0] (aQ (w2l n n2 st t t2 x) 0 1 (iF t n x) [1]) K:=by
 refine aIl ?_;exact cM' (E:=EW3) (by kernel_rfl) hK
theorem aEw(t n t2 n2:Int)(x:DOS)(st:STS)(K:AVal→aC Ob→Prop)(hK:K (.agg (w2m x)) (aQ (w2l n n2 st t t2 x) 0 1 (iG t n x) [1])):cT' 96 [.ptr 0 0] (aQ (w2l n n2 st t t2 x) 0 1 (iG t n x) [1]) K:=by
 refine aIl ?_;exact cM' (E:=EW3) (by kernel_rfl) hK
theorem aEx(t n t2 n2:Int)(x:DOS)(st:STS)(K:AVal→aC Ob→Prop)(hK:K (.agg (w2m x)) (aQ (w2l n n2 st t t2 x) 0 1 (iH t n x) [1])):cT' 96 [.ptr 0 0] (aQ (w2l n n2 st t t2 x) 0 1 (iH t n x) [1]) K:=by
 refine aIl ?_;exact cM' (E:=EW3) (by kernel_rfl) hK
theorem aEy(t n t2 n2:Int)(x:DOS)(st:STS)(K:AVal→aC Ob→Prop)(hK:K (.agg (w2m x)) (aQ (w2l n n2 st t t2 x) 0 1 (iI t n x) [1])):cT' 96 [.ptr 0 0] (aQ (w2l n n2 st t t2 x) 0 1 (iI t n x) [1]) K:=by
 refine aIl ?_;exact cM' (E:=EW3) (by kernel_rfl) hK
theorem aEz(t n t2 n2:Int)(x:DOS)(st:STS)(K:AVal→aC Ob→Prop)(hK:K (.agg (w2m x)) (aQ (w2l n n2 st t t2 x) 0 1 (gA t n x) [1])):cT' 96 [.ptr 0 0] (aQ (w2l n n2 st t t2 x) 0 1 (gA t n x) [1]) K:=by
 refine aIl ?_;exact cM' (E:=EW3) (by kernel_rfl) hK
theorem ZM(t n t2 n2:Int)(x:DOS)(st:STS)(K:AVal→aC Ob→Prop)(hK:K (.agg (w2m x)) (aQ (w2l n n2 st t t2 x) 0 1 (d5 t n x) [1])):cT' 96 [.ptr 0 0] (aQ (w2l n n2 st t t2 x) 0 1 (d5 t n x) [1]) K:=by
 refine aIl ?_;exact cM' (E:=EW3) (by kernel_rfl) hK
theorem aEB(t n t2 n2:Int)(x:DOS)(st:STS)(K:AVal→aC Ob→Prop)(hK:K (.agg (w2m x)) (aQ (w2l n n2 st t t2 x) 0 1 (iJ t n x) [1])):cT' 96 [.ptr 0 0] (aQ (w2l n n2 st t t2 x) 0 1 (iJ t n x) [1]) K:=by
 refine aIl ?_;exact cM' (E:=EW3) (by kernel_rfl) hK
theorem aGF(t n t2 n2:Int)(x:DOS)(st:STS)(K:AVal→aC Ob→Prop)(hK:K (.agg (w2m x)) (aQ (w2l n n2 st t t2 x) 0 1 (oX t n x) [1])):cT' 96 [.ptr 0 0] (aQ (w2l n n2 st t t2 x) 0 1 (oX t n x) [1]) K:=by
 refine aIl ?_;exact cM' (E:=EW3) (by kernel_rfl) hK
theorem aEA:sT' 96 dtS:=by
 intro args h o ho K hK;unfold dtS at ho;split at ho<;>cases ho
 rename_i t n x t2 n2 st;obtain⟨_,hK⟩:=hK;have hK:K (.agg [.I x.sh,.I x.kd,.I x.ky]) [some (.abs (.doer t n x) [1]),some (.abs (.store t2 n2 st) [])]:=hK;refine aIz ?_
 by_cases e0:x.at'=0
 ·refine aIq (aT.unpack (.doer t n x) 0 1 (gA t n x) [1] rfl (congrArg (Prod.mk 1) (pT e0)) (by kernel_rfl) rfl) ?_
  exact aEz t n t2 n2 x st _ ⟨⟨_,_,aF.pack [some (.abs (.doer t n x) [1]),some (.abs (.store t2 n2 st) [])] (.doer t n x) 0 1 (gA t n x) [1] rfl rfl (congrArg (Prod.mk 1) (pT e0)) (by kernel_rfl),hK⟩⟩
 by_cases e1:x.at'=1
 ·refine aIq (aT.unpack (.doer t n x) 0 1 (d5 t n x) [1] rfl (congrArg (Prod.mk 1) (sS e1)) (by kernel_rfl) rfl) ?_
  exact ZM t n t2 n2 x st _ ⟨⟨_,_,aF.pack [some (.abs (.doer t n x) [1]),some (.abs (.store t2 n2 st) [])] (.doer t n x) 0 1 (d5 t n x) [1] rfl rfl (congrArg (Prod.mk 1) (sS e1)) (by kernel_rfl),hK⟩⟩
 by_cases e5:x.at'=5
 ·refine aIq (aT.unpack (.doer t n x) 0 1 (d5 t n x) [1] rfl (congrArg (Prod.mk 1) (sW e5)) (by kernel_rfl) rfl) ?_
  exact ZM t n t2 n2 x st _ ⟨⟨_,_,aF.pack [some (.abs (.doer t n x) [1]),some (.abs (.store t2 n2 st) [])] (.doer t n x) 0 1 (d5 t n x) [1] rfl rfl (congrArg (Prod.mk 1) (sW e5)) (by kernel_rfl),hK⟩⟩
 by_cases e2:x.at'=2
 ·refine aIq (aT.unpack (.doer t n x) 0 1 (iG t n x) [1] rfl (congrArg (Prod.mk 1) (sT e2)) (by kernel_rfl) rfl) ?_
  exact aEw t n t2 n2 x st _ ⟨⟨_,_,aF.pack [some (.abs (.doer t n x) [1]),some (.abs (.store t2 n2 st) [])] (.doer t n x) 0 1 (iG t n x) [1] rfl rfl (congrArg (Prod.mk 1) (sT e2)) (by kernel_rfl),hK⟩⟩
 by_cases e3:x.at'=3
 ·refine aIq (aT.unpack (.doer t n x) 0 1 (iI t n x) [1] rfl (congrArg (Prod.mk 1) (sU e3)) (by kernel_rfl) rfl) ?_
  exact aEy t n t2 n2 x st _ ⟨⟨_,_,aF.pack [some (.abs (.doer t n x) [1]),some (.abs (.store t2 n2 st) [])] (.doer t n x) 0 1 (iI t n x) [1] rfl rfl (congrArg (Prod.mk 1) (sU e3)) (by kernel_rfl),hK⟩⟩
 by_cases e4:x.at'=4
 ·refine aIq (aT.unpack (.doer t n x) 0 1 (iD t n x) [1] rfl (congrArg (Prod.mk 1) (sV e4)) (by kernel_rfl) rfl) ?_
  exact aEt t n t2 n2 x st _ ⟨⟨_,_,aF.pack [some (.abs (.doer t n x) [1]),some (.abs (.store t2 n2 st) [])] (.doer t n x) 0 1 (iD t n x) [1] rfl rfl (congrArg (Prod.mk 1) (sV e4)) (by kernel_rfl),hK⟩⟩
 by_cases e6:x.at'=6
 ·refine aIq (aT.unpack (.doer t n x) 0 1 (iE t n x) [1] rfl (congrArg (Prod.mk 1) (sX e6)) (by kernel_rfl) rfl) ?_
  exact aEu t n t2 n2 x st _ ⟨⟨_,_,aF.pack [some (.abs (.doer t n x) [1]),some (.abs (.store t2 n2 st) [])] (.doer t n x) 0 1 (iE t n x) [1] rfl rfl (congrArg (Prod.mk 1) (sX e6)) (by kernel_rfl),hK⟩⟩
 by_cases e7:x.at'=7
 ·refine aIq (aT.unpack (.doer t n x) 0 1 (iH t n x) [1] rfl (congrArg (Prod.mk 1) (sY e7)) (by kernel_rfl) rfl) ?_
  exact aEx t n t2 n2 x st _ ⟨⟨_,_,aF.pack [some (.abs (.doer t n x) [1]),some (.abs (.store t2 n2 st) [])] (.doer t n x) 0 1 (iH t n x) [1] rfl rfl (congrArg (Prod.mk 1) (sY e7)) (by kernel_rfl),hK⟩⟩
 by_cases e8:x.at'=8
 ·refine aIq (aT.unpack (.doer t n x) 0 1 (iF t n x) [1] rfl (congrArg (Prod.mk 1) (sZ e8)) (by kernel_rfl) rfl) ?_
  exact aEv t n t2 n2 x st _ ⟨⟨_,_,aF.pack [some (.abs (.doer t n x) [1]),some (.abs (.store t2 n2 st) [])] (.doer t n x) 0 1 (iF t n x) [1] rfl rfl (congrArg (Prod.mk 1) (sZ e8)) (by kernel_rfl),hK⟩⟩
 by_cases e9:x.at'=9
 ·refine aIq (aT.unpack (.doer t n x) 0 1 (iJ t n x) [1] rfl (congrArg (Prod.mk 1) (s6 e9)) (by kernel_rfl) rfl) ?_
  exact aEB t n t2 n2 x st _ ⟨⟨_,_,aF.pack [some (.abs (.doer t n x) [1]),some (.abs (.store t2 n2 st) [])] (.doer t n x) 0 1 (iJ t n x) [1] rfl rfl (congrArg (Prod.mk 1) (s6 e9)) (by kernel_rfl),hK⟩⟩
 refine aIq (aT.unpack (.doer t n x) 0 1 (oX t n x) [1] rfl (congrArg (Prod.mk 1) (t8 ⟨e0,e1,e5,e2,e3,e4,e6,e7,e8,e9⟩)) (by kernel_rfl) rfl) ?_
 exact aGF t n t2 n2 x st _ ⟨⟨_,_,aF.pack [some (.abs (.doer t n x) [1]),some (.abs (.store t2 n2 st) [])] (.doer t n x) 0 1 (oX t n x) [1] rfl rfl (congrArg (Prod.mk 1) (t8 ⟨e0,e1,e5,e2,e3,e4,e6,e7,e8,e9⟩)) (by kernel_rfl),hK⟩⟩
noncomputable def EW4:=EW3.addS 96 dtS aEA
abbrev egH(x:EGS):aC Ob:=[some (.abs (.engine x) [])]
theorem kI(n:Nat)(hn:n≤1)(v:AVal)(hv:v.within (upto 0 1)=true)(x:EGS):aF (obI tbl) n v (egG x) v (egH x):=by
 refine aF.pack (egH x) (.engine x) 0 0 (egG x) [] (by kernel_rfl) rfl rfl ?_
 have h1:obOk 0 (egG x)=true:=by kernel_rfl
 have h2:lB (egH x) 0 []=true:=by kernel_rfl
 have h3:Nat.ble n (egH x).length =true:=Nat.ble_eq_true_of_le hn;have h4:v.within (upto 0 (egH x).length)=true:=hv;rw [h1,h2,h3,h4];rfl
def aEK(g:aC Ob):Option (Prop×EGS):=match g with
 | [some (.cells [.int .i64 sh,.int .i64 th,.int .i64 nd,.int .i64 tr,.ptr 1 0,.ptr 3 0,.slice 4 0 len 1,.int .i64 k]),e1,e2,some (.abs (.hist h) []),some (.abs (.whole ws i) [5]),some (.abs (.worker w) [])]=>(match cO 2 [e1,e2]with
   | some (l,s)=>some (len=ws.length∧i<ws.length∧l=s.xs.length,⟨sh,th,nd,tr,s,h,dF ws i w,k⟩)
   | none=>none)
 | _=>none
def aEJ(g:aC Ob):Option (Prop×EGS):=match g with
 | [some (.cells [.int .i64 sh,.int .i64 th,.int .i64 nd,.int .i64 tr,.ptr 1 0,.ptr 3 0,.slice 4 0 len 1,.int .i64 k]),e1,e2,some (.abs (.hist h) []),some (.abs (.wrow ws) [])]=>(match cO 2 [e1,e2]with
   | some (l,s)=>some (len=ws.length∧l=s.xs.length,⟨sh,th,nd,tr,s,h,ws,k⟩)
   | none=>none)
 | _=>none
def egP(g:aC Ob):Option (Prop×EGS):=match aEK g with
 | some r=>some r
 | none=>aEJ g
theorem BB(v:AVal)(hv:v.within (upto 0 1)=true)(hv5:kD (upto 0 5) v=v)(n:Nat)(hn:n≤1){g:aC Ob}{p:Prop}{x:EGS}(hp:egP g=some (p,x))(hq:p):aF (obI tbl) n v g v (egH x):=by
 unfold egP at hp;split at hp
 ·rename_i r hr;cases hp;unfold aEK at hr;split at hr
  case h_2=>cases hr
  rename_i sh th nd tr len k e1 e2 h ws i w;split at hr
  case h_2=>cases hr
  rename_i l s hm;simp only [sI',pI']at hr;obtain⟨rfl,rfl⟩:=hr;obtain⟨rfl,hi,hl⟩:=hq;cases bB hm hl;refine(aF.back (l:=4) (k:=5) (i:=i) (ws:=ws) (w:=w) rfl rfl (by decide) hi).trans ?_
  have hlen:ws.length=(dF ws i w).length :=by simp [dF]
  have t1:=aF.pick (I:=obI tbl) (n:=n) (v:=v) (g:=([cE' [.I sh,.I th,.I nd,.I tr,.ptr 1 0,.ptr 3 0,.slice 4 0 ws.length 1,.I k],aZ 2 s,bA s,some (.abs (.hist h) []),some (.abs (.wrow (dF ws i w)) []),none]:aC Ob)) (upto 0 5) (by
   have h1:dX (upto 0 5) 6=true:=by decide
   have h2:iN (upto 0 5) 0 n=true:=by
    match n,hn with
    | 0,_=>rfl
    | 1,_=>rfl
   show(dX (upto 0 5) 6&&iN (upto 0 5) 0 n)=true;rw [h1,h2];rfl)
  rw [hv5]at t1;refine t1.trans ?_;have t2:=kI n hn v hv ⟨sh,th,nd,tr,s,h,dF ws i w,k⟩;refine aF.trans (aIt rfl ?_) t2;show _=[some (aG.cells [.I sh,.I th,.I nd,.I tr,.ptr 1 0,.ptr 3 0,.slice 4 0 (dF ws i w).length 1,.I k]),_,_,_,_];rw [←hlen];rfl
 ·unfold aEJ at hp;split at hp
  case h_2=>cases hp
  rename_i sh th nd tr len k e1 e2 h ws hno;split at hp
  case h_2=>cases hp
  rename_i l s hm;cases hp;obtain⟨rfl,hl⟩:=hq;cases bB hm hl;exact kI n hn v hv ⟨sh,th,nd,tr,s,h,ws,k⟩
def pkP(v:AVal)(g:aC Ob):Option (Prop×(Bool×EGS)):=match v with
 | .bool d=>(match egP g with
   | some (p,x)=>some (p,(d,x))
   | none=>none)
 | _=>none
theorem aCU:bM (obI tbl) 1 pkP (fun y=>.ret (.bool y.1) (egH y.2)):=by
 intro v g p x hp hq K hK;unfold pkP at hp;split at hp
 case h_2=>cases hp
 rename_i d;split at hp
 case h_2=>cases hp
 rename_i p' x' hx;cases hp;exact⟨⟨_,_,BB (.bool d) rfl rfl 1 (Nat.le_refl 1) hx hq,hK⟩⟩
instance:Inhabited EGS:=⟨⟨0,0,0,0,⟨0,0,[],0,0,0,0,0,false⟩,default,[],0⟩⟩
abbrev w2o(th:Int)(x:EGS):=bC x.7 (0+Int.toNat th*1)
abbrev w2n(th:Int)(x:EGS):=wbF x.4 (w2o th x)
def pkT(th:Int)(x:EGS):Tr (Bool×EGS):=.ite (ilt th 0) (.pre (lE' x.7∧lE' (EGS.s x).3) (.ret (false,x))) (.ite (ile (↑x.7.length:Int) th) (.pre (lE' x.7∧lE' (EGS.s x).3) (.ret (false,x))) (.pre ((0:Int)≤th∧th<(↑x.7.length:Int)) (.pre (0+Int.toNat th*(1:Nat)<x.7.length) (.pre True (.ite (ieq (W ((↑(List.length (w2o th x).4):Int) - (w2o th x).5)) 0) (.pre (lE' x.7∧0+Int.toNat th*(1:Nat)<x.7.length∧lE' (EGS.s x).3) (.ret (false,{x with ws:=dF x.7 (0+Int.toNat th*1) (w2o th x)}))) (.ite (ile 60000 x.8) (.pre (lE' x.7∧0+Int.toNat th*(1:Nat)<x.7.length∧lE' (EGS.s x).3) (.ret (false,{x with ws:=dF x.7 (0+Int.toNat th*1) (w2o th x)}))) (.pre (R8 x.4 (w2o th x)) (.ite (!(w2o th x).6) (.pre (True∧True) (.pre (hbOk th x.6 (WK1.d (w2n th x)).6 (WK1.d (w2n th x)).7∧True) (.pre ((lE' (w2n th x).4∧lE' (w2n th x).7∧lE' (w2n th x).8∧(w2n th x).1=(w2n th x).1∧(w2n th x).2=(w2n th x).2∧lE' (EGS.s x).3)∧Y5 (w2n th x) x.5) (.ite (wsF (w2n th x) x.5).4 (.pre (heOk th (hbF th x.6 (WK1.d (w2n th x)).6 (WK1.d (w2n th x)).7).2 (wsF (w2n th x) x.5).1 (wsF (w2n th x) x.5).2 (wsF (w2n th x) x.5).3∧True) (.pre (lE' x.7∧0+Int.toNat th*(1:Nat)<x.7.length∧lE' (WkO.s (wsF (w2n th x) x.5)).3) (.ret (true,{x with s:=(wsF (w2n th x) x.5).6,h:=(heF th (hbF th x.6 (WK1.d (w2n th x)).6 (WK1.d (w2n th x)).7).2 (wsF (w2n th x) x.5).1 (wsF (w2n th x) x.5).2 (wsF (w2n th x) x.5).3).2,ws:=dF x.7 (0+Int.toNat th*1) (wsF (w2n th x) x.5).5,k:=W (x.8+1) })))) (.pre (lE' x.7∧0+Int.toNat th*(1:Nat)<x.7.length∧lE' (WkO.s (wsF (w2n th x) x.5)).3) (.ret (true,{x with s:=(wsF (w2n th x) x.5).6,h:=(hbF th x.6 (WK1.d (w2n th x)).6 (WK1.d (w2n th x)).7).2,ws:=dF x.7 (0+Int.toNat th*1) (wsF (w2n th x) x.5).5,k:=W (x.8+1) }))))))) (.pre ((lE' (w2n th x).4∧lE' (w2n th x).7∧lE' (w2n th x).8∧(w2n th x).1=(w2n th x).1∧(w2n th x).2=(w2n th x).2∧lE' (EGS.s x).3)∧Y5 (w2n th x) x.5) (.ite (wsF (w2n th x) x.5).4 (.pre (heOk th x.6 (wsF (w2n th x) x.5).1 (wsF (w2n th x) x.5).2 (wsF (w2n th x) x.5).3∧True) (.pre (lE' x.7∧0+Int.toNat th*(1:Nat)<x.7.length∧lE' (WkO.s (wsF (w2n th x) x.5)).3) (.ret (true,{x with s:=(wsF (w2n th x) x.5).6,h:=(heF th x.6 (wsF (w2n th x) x.5).1 (wsF (w2n th x) x.5).2 (wsF (w2n th x) x.5).3).2,ws:=dF x.7 (0+Int.toNat th*1) (wsF (w2n th x) x.5).5,k:=W (x.8+1) })))) (.pre (lE' x.7∧0+Int.toNat th*(1:Nat)<x.7.length∧lE' (WkO.s (wsF (w2n th x) x.5)).3) (.ret (true,{x with s:=(wsF (w2n th x) x.5).6,ws:=dF x.7 (0+Int.toNat th*1) (wsF (w2n th x) x.5).5,k:=W (x.8+1) })))))))))))))
theorem aCV(th:Int)(x:EGS)(K:Bool×EGS→Prop)(h:(pkT th x).run K):cT' 41 [.ptr 0 0,.I th] [cE' [.I x.sh,.I x.th,.I x.nd,.I x.tr,.ptr 1 0,.ptr 3 0,.slice 4 0 x.ws.length 1,.I x.k],aZ 2 x.s,bA x.s,some (.abs (.hist x.h) []),some (.abs (.wrow x.ws) [])] (bR 1 0 [] [] pkP K):=by
 exact cM' (E:=EW4) (by kernel_rfl) h
def pkF(th:Int)(x:EGS):Bool×EGS:=(pkT th x).val
def XX(th:Int)(x:EGS):Prop:=(pkT th x).ok
def pkS:aH Ob:=fun args h=>match args,h with
 | [.ptr 0 0,.int .i64 th],[some (.abs (.engine x) [])]=>some (.pre (XX th x) (.ret (.bool (pkF th x).1) (egH (pkF th x).2)))
 | _,_=>none
theorem aFO:sT' 41 pkS:=by
 intro args h o ho K hK;unfold pkS at ho;split at ho<;>cases ho
 rename_i th x;obtain⟨ok,hK⟩:=hK;exact aIm (root:=0) (pos:=[]) (cs:=[]) (parse:=pkP) (fin:=fun y=>.ret (.bool y.1) (egH y.2)) aCU (aT.unpack (.engine x) 0 0 (egG x) [] rfl rfl rfl rfl) (aCV th x _ (aIp ok hK))
noncomputable def EP1:=EW4.addS 41 pkS aFO
def rI:AVal→Int
 | .int _ n=>n
 | _=>0
def rK(row:Nat→List AVal)(i:Nat):Int:=rI ((row i).getD 0 .O)
def rY(row:Nat→List AVal)(i:Nat):Int:=rI ((row i).getD 1 .O)
structure y6 (row:Nat→List AVal):Prop where
 h:row=fun i=>[.I (rK row i),.I (rY row i)]
def kC(sh:Int)(m:Nat)(f g:Nat→Int):List (List Int):=(List.range m).map fun j=>[sh,f j,g j]
def eR(sh:Int)(m:Nat)(f g:Nat→Int):Bool:=(List.range m).all fun j=>bU sh (f j) (g j)
theorem RQ(sh:Int)(m:Nat)(f g:Nat→Int):kC sh (m+1) f g=kC sh m f g++ [[sh,f m,g m]]:=by
 unfold kC;rw [List.range_succ];simp
theorem pI(sh:Int)(m:Nat)(f g:Nat→Int):(kC sh m f g).length =m:=by unfold kC;simp
theorem oA{k:Int}{m:Nat}{f g:Nat→Int} :eR k m f g=true↔ ∀j,j<m→bU k (f j) (g j)=true:=by
 unfold eR;simp
def ST(sh:Int)(m:Nat)(f g:Nat→Int):Hint Ob:= {X:=Nat,st:=fun x=>([.I sh,.O,.O,.O,.O,.I 0,.tslice 0 0 x 3,.O,.O,.view m 2 (fun i=>[.I (f i),.I (g i)]),.I (m:Int),.I (x:Int)]++List.replicate 15 .O,[some (.tab cK3 (kC sh x f g))]),ok:=fun x=>x≤m∧ ∀j,j<x→bU sh (f j) (g j)=true,mu:=fun x=>m - x,keep:=[0,5,6,9,10,11],casts:=[(.slot 6,.tab cK3)] }
def aCS(sh:Int)(m:Nat)(f g:Nat→Int)(K:AVal→aC Ob→Prop):Prop:=cN (ST sh m f g) (Hint.ok (ST sh m f g)) (.I sh::.O::.O::.O::.O::.I 0::.tslice 0 0 0 3::.O::.O::(.view m 2 fun i=>[.I (f i),.I (g i)])::.I (↑m:Int)::.I 0::(tO' 15 [])) [some (.tab cK3 [])]∧ ∀(x:Nat),(x≤m∧ ∀(j:Nat),j<x→bU sh (f j) (g j)=true)→bif ilt (↑x:Int) (↑m:Int)then((0:Int)≤(↑x:Int)∧(↑x:Int)<(↑m:Int))∧True∧bif !bU sh (f (Int.toNat (↑x:Int))) (g (Int.toNat (↑x:Int)))then K (.tup [.raw (Value.slice none 0 0),.I 1]) []else(0=0∧x=List.length (kC sh x f g)∧x+(1:Nat)≤(4294967296:Nat))∧cN (ST sh m f g) (fun x'=>Hint.ok (ST sh m f g) x'∧Hint.mu (ST sh m f g) x'<Hint.mu (ST sh m f g) x) (.I sh::.O::.O::.O::.O::.I 0::.tslice 0 0 (x+1) 3::.O::.O::(.view m 2 fun i=>[.I (f i),.I (g i)])::.I (↑m:Int)::.I (W ((↑x:Int)+1))::(tO' 15 [])) [some (.tab cK3 (kC sh x f g++ [[sh,f (Int.toNat (↑x:Int)),g (Int.toNat (↑x:Int))]]))]else K (.tup [.tslice 0 0 x 3,.I 0]) [some (.tab cK3 (kC sh x f g))]
theorem P1(sh:Int)(m:Nat)(f g:Nat→Int)(K:AVal→aC Ob→Prop)(h:aCS sh m f g K):cT' 82 [.I sh,.view m 2 (fun i=>[.I (f i),.I (g i)])] [] K:=by
 refine aIl (aD (E:=EP1) Tryz.checked.mixed (L:=fun _ _=>some (.states (ST sh m f g))) (n:=10) (aK (by kernel_rfl) h))
def lgB(th:Int)(m:Nat)(ln:Nat→Nat):Bool:=(List.range m).any (fun i=>decide (40<ln i))||ilt th (m:Int)
theorem PS{th:Int}{m:Nat}{ln:Nat→Nat} :lgB th m ln=false↔(∀i,i<m→ln i≤40)∧(m:Int)≤th:=by
 unfold lgB;rw [bG];simp
theorem IJ{th:Int}{m:Nat}{ln:Nat→Nat}(h:(∃i,i<m∧40<ln i)∨th<(m:Int)):lgB th m ln=true:=by
 unfold lgB;rw [bG];simp;exact h
def S4(sh th nd tr:Int)(m:Nat)(ln:Nat→Nat)(f g:Nat→Nat→Int):Hint Ob:= {X:=Nat,st:=fun x=>([.O,.view m 1 (fun i=>[.view (ln i) 2 (fun j=>[.I (f i j),.I (g i j)])]),.ptr 0 0,.O,.O,.O,.O,.view m 1 (fun i=>[.view (ln i) 2 (fun j=>[.I (f i j),.I (g i j)])]),.I (m:Int),.I (x:Int)]++List.replicate 12 .O,[cE' [.I sh,.I th,.I nd,.I tr]]),ok:=fun x=>x≤m∧ ∀j,j<x→ln j≤40,mu:=fun x=>m - x,keep:=[1,2,7,8,9] }
def aCH(sh th nd tr:Int)(m:Nat)(ln:Nat→Nat)(f g:Nat→Nat→Int)(K:AVal→aC Ob→Prop):Prop:=cN (S4 sh th nd tr m ln f g) (Hint.ok (S4 sh th nd tr m ln f g)) [.O,.view m 1 fun i=>[.view (ln i) 2 fun j=>[.I (f i j),.I (g i j)]],.ptr 0 0,.O,.O,.O,.O,.view m 1 fun i=>[.view (ln i) 2 fun j=>[.I (f i j),.I (g i j)]],.I (↑m:Int),.I 0,.O,.O,.O,.O,.O,.O,.O,.O,.O,.O,.O,.O] [cE' [.I sh,.I th,.I nd,.I tr]]∧ ∀(x:Nat),(x≤m∧ ∀(j:Nat),j<x→ln j≤(40:Nat))→bif ilt (↑x:Int) (↑m:Int)then((0:Int)≤(↑x:Int)∧(↑x:Int)<(↑m:Int))∧bif ilt 40 (↑(ln (Int.toNat (↑x:Int))):Int)then K (.bool true) []else cN (S4 sh th nd tr m ln f g) (fun x'=>Hint.ok (S4 sh th nd tr m ln f g) x'∧Hint.mu (S4 sh th nd tr m ln f g) x'<Hint.mu (S4 sh th nd tr m ln f g) x) [.O,.view m 1 fun i=>[.view (ln i) 2 fun j=>[.I (f i j),.I (g i j)]],.ptr 0 0,.O,.O,.O,.O,.view m 1 fun i=>[.view (ln i) 2 fun j=>[.I (f i j),.I (g i j)]],.I (↑m:Int),.I (W ((↑x:Int)+1)),.O,.O,.O,.O,.O,.O,.O,.O,.O,.O,.O,.O] [cE' [.I sh,.I th,.I nd,.I tr]]else K (.bool (ilt th (↑m:Int))) []
theorem PT(sh th nd tr:Int)(m:Nat)(ln:Nat→Nat)(f g:Nat→Nat→Int)(K:AVal→aC Ob→Prop)(h:aCH sh th nd tr m ln f g K):cT' 80 [.agg [.I sh,.I th,.I nd,.I tr],.view m 1 (fun i=>[.view (ln i) 2 (fun j=>[.I (f i j),.I (g i j)])])] [] K:=by
 refine aIl (aD (E:=EP1) Tryz.checked.mixed (L:=fun _ _=>some (.states (S4 sh th nd tr m ln f g))) (n:=10) (aK (by kernel_rfl) h))
def wrO(sh th nd tr:Int):Out Ob:=.ite (ilt sh 1) (.ret (.I 1) []) (.ite (ilt 4 sh) (.ret (.I 1) []) (.pre True (.ite (!eH th nd) (.ret (.I 2) []) (.ite (ilt tr 0) (.ret (.I 2) []) (.ite (ilt 50 tr) (.ret (.I 2) []) (.ret (.I 0) []))))))
theorem aF.castTup{I:Itp Ob}{n:Nat}{K:f6}{a a' b:AVal}{g g':aC Ob}(hc:AR K a g=some (a',g')):aF I n (.tup [a,b]) g (.tup [a',b]) g':=by
 intro V hR w x h1 h2 h3 h4;obtain⟨cs,rfl,va,vs,e,ra,vb,vs2,e2,rb,r3⟩:=h4;obtain⟨V',⟨c1,c2,c3,c4⟩,r⟩:=tV hc h1 h2 ra;exact⟨V',fun l y _ hy=>c1 l y hy,c2,by omega,⟨cs,rfl,va,vs,e,r,vb,vs2,e2,Rep.mono c1 _ _ rb,r3⟩,c4⟩
def ofR(sh:Int)(m:Nat)(f g:Nat→Int):List (List Int):=bif eR sh m f g then kC sh m f g else []
def ofC(sh:Int)(m:Nat)(f g:Nat→Int):Int:=bif eR sh m f g then 0 else 1
theorem aFJ(sh:Int)(m:Nat)(f g:Nat→Int)(K:AVal→aC Ob→Prop)(hm:m≤1000000)(hK:K (.tup [.tslice 0 0 (ofR sh m f g).length 3,.I (ofC sh m f g)]) [some (.tab cK3 (ofR sh m f g))]):aCS sh m f g (dA (obI tbl) 0 K):=by
 refine⟨aN (H:=ST sh m f g) (0:Nat) rfl ⟨Nat.zero_le _,fun j hj=>by omega⟩,?_⟩
 rintro x ⟨hx,hj⟩;refine aM (fun e=>?_) (fun e=>?_)
 ·rw [bG,dT']at e;refine⟨⟨by omega,by omega⟩,trivial,aM (fun e2=>?_) (fun e2=>?_)⟩
  ·have hf:eR sh m f g=false:=by
    cases h:eR sh m f g with
    | false=>rfl
    | true=>
      have:=oA.1 h x (by omega)
      rw [Int.toNat_natCast]at e2;rw [this]at e2;cases e2
   unfold ofR ofC at hK;rw [hf]at hK;exact⟨⟨_,_,aF.castTup (K:=.tab cK3) rfl,hK⟩⟩
  ·have e4:W ((x:Int)+1)=((x+1:Nat):Int):=by rw [W,cW (by omega)];rfl
   refine⟨⟨rfl,(pI sh x f g).symm,by omega⟩,aN (H:=ST sh m f g) (x+1:Nat) ?_ ⟨⟨by show x+1≤m;omega,?_⟩,by show m - (x+1)<m - x;omega⟩⟩
   ·simp only [ST,RQ,e4,Int.toNat_natCast]<;>rfl
   intro j hj2
   by_cases hjx:j=x
   ·subst hjx;rw [Int.toNat_natCast]at e2
    simpa using e2
   ·exact hj j (by omega)
 ·rw [bG,dF']at e;have ht:eR sh m f g=true:=oA.2 fun j hj3=>hj j (by omega)
  have hxm:x=m:=by omega
  subst hxm;unfold ofR ofC at hK;rw [ht]at hK;have hl:=pI sh x f g;simp only [cond_true]at hK;rw [hl]at hK;exact⟨⟨_,_,aIF _ _ _,hK⟩⟩
def ofS:aH Ob:=fun args h=>match args,h with
 | [.int .i64 sh,.view m 2 row],[]=>some (.pre (m≤1000000∧y6 row) (.ret (.tup [.tslice 0 0 (ofR sh m (rK row) (rY row)).length 3,.I (ofC sh m (rK row) (rY row))]) [some (.tab cK3 (ofR sh m (rK row) (rY row)))]))
 | _,_=>none
theorem aFI:sT' 82 ofS:=by
 intro args h o ho K hK;unfold ofS at ho;split at ho<;>cases ho
 rename_i sh m row;obtain⟨⟨hm,⟨hr⟩⟩,hK⟩:=hK;rw [hr];refine aIz ?_;exact P1 sh m (rK row) (rY row) _ (aFJ sh m (rK row) (rY row) K hm hK)
def vL(vr:Nat→List AVal)(i:Nat):Nat:=match vr i with
 | [.view n _ _]=>n
 | _=>0
def vR(vr:Nat→List AVal)(i:Nat):Nat→List AVal:=match vr i with
 | [.view _ _ r]=>r
 | _=>fun _=>[]
def vK(vr:Nat→List AVal)(i j:Nat):Int:=rK (vR vr i) j
def vY(vr:Nat→List AVal)(i j:Nat):Int:=rY (vR vr i) j
structure pF (vr:Nat→List AVal):Prop where
 h:vr=fun i=>[.view (vL vr i) 2 (fun j=>[.I (vK vr i j),.I (vY vr i j)])]
theorem aFz(sh th nd tr:Int)(m:Nat)(ln:Nat→Nat)(f g:Nat→Nat→Int)(K:AVal→aC Ob→Prop)(hm:m≤1000000)(hK:K (.bool (lgB th m ln)) []):aCH sh th nd tr m ln f g K:=by
 refine⟨aN (H:=S4 sh th nd tr m ln f g) (0:Nat) rfl ⟨Nat.zero_le _,fun j hj=>by omega⟩,?_⟩
 rintro x ⟨hx,hj⟩;refine aM (fun e=>?_) (fun e=>?_)
 ·rw [bG,dT']at e;refine⟨⟨by omega,by omega⟩,aM (fun e2=>?_) (fun e2=>?_)⟩
  ·rw [bG,dT',Int.toNat_natCast]at e2;rw [IJ (.inl ⟨x,by omega,by omega⟩)]at hK
   exact hK
  ·rw [bG,dF',Int.toNat_natCast]at e2;have e4:W ((x:Int)+1)=((x+1:Nat):Int):=by rw [W,cW (by omega)];rfl
   refine aN (H:=S4 sh th nd tr m ln f g) (x+1:Nat) (by simp only [e4]<;>rfl) ⟨⟨by show x+1≤m;omega,?_⟩,by show m - (x+1)<m - x;omega⟩
   intro j hj2
   by_cases hjx:j=x
   ·subst hjx;omega
   ·exact hj j (by omega)
 ·rw [bG,dF']at e
  have e2:lgB th m ln=ilt th (m:Int):=by
   cases h:ilt th (m:Int)with
   | true=>rw [bG,dT']at h;exact IJ (.inr h)
   | false=>rw [bG,dF']at h;exact PS.2 ⟨fun j hj3=>hj j (by omega),by omega⟩
  rw [e2]at hK;exact hK
def lgS:aH Ob:=fun args h=>match args,h with
 | [.agg [.int .i64 sh,.int .i64 th,.int .i64 nd,.int .i64 tr],.view m 1 vr],[]=>some (.pre (m≤1000000∧pF vr) (.ret (.bool (lgB th m (vL vr))) []))
 | _,_=>none
theorem aFy:sT' 80 lgS:=by
 intro args h o ho K hK;unfold lgS at ho;split at ho<;>cases ho
 rename_i sh th nd tr m vr;obtain⟨⟨hm,⟨hr⟩⟩,hK⟩:=hK;rw [hr];exact PT sh th nd tr m (vL vr) (vK vr) (vY vr) K (aFz sh th nd tr m (vL vr) (vK vr) (vY vr) K hm hK)
def wrE(sh th nd tr:Int):Int:=bif ilt sh 1 then 1 else bif ilt 4 sh then 1 else bif !eH th nd then 2 else bif ilt tr 0 then 2 else bif ilt 50 tr then 2 else 0
def wrS:aH Ob:=fun args h=>match args,h with
 | [.agg [.int .i64 sh,.int .i64 th,.int .i64 nd,.int .i64 tr]],[]=>some (.pre True (.ret (.I (wrE sh th nd tr)) []))
 | _,_=>none
theorem aF7:sT' 79 wrS:=by
 intro args h o ho K hK;unfold wrS at ho;split at ho<;>cases ho
 rename_i sh th nd tr;obtain⟨_,hK⟩:=hK;have hK:K (.I (wrE sh th nd tr)) []:=hK;refine aIl (cM' (E:=EP1) (q:=(wrO sh th nd tr).run K) (by kernel_rfl) ?_)
 unfold wrE at hK
 refine aM (fun e1=>?_) (fun e1=>aM (fun e2=>?_) (fun e2=>⟨trivial,aM (fun e3=>?_) (fun e3=>aM (fun e4=>?_) (fun e4=>aM (fun e5=>?_) (fun e5=>?_)))⟩))<;>
  (simp only [*,cond_true,cond_false]at hK;exact hK)
def nwP(t n u:Int)(v:AVal)(g:aC Ob):Option (Prop×WKS):=match v,g with
 | .ptr 1 0,[some (.tab [some .i64,some .i64,some .i64] tk),some (.cells [.ptr 2 0,.tslice 0 0 k 3,.int .i64 en,.raw (.pointer none),.slice 4 0 a 1,.slice 5 0 b 1]),some (.cells [.int .i64 t1,.int .i64 n1,.int .i64 me,.int .i64 sp,.slice 3 0 c 1]),some (.ints (some .i64) R),some (.ints (some .i64) tl),some (.ints (some .i64) sl)]=>
   some (k=tk.length∧a=tl.length∧b=sl.length∧c=R.length,⟨t1,n1,⟨me,sp,R⟩,tk,en,false,eS,tl,sl⟩)
 | _,_=>none
theorem aCP(t n u:Int):bM (obI tbl) 1 (nwP t n u) (fun y=>.ret (.ptr 1 0) [none,some (.abs (.worker y) [])]):=by
 intro v g p x hp hq K hK;unfold nwP at hp;split at hp
 case h_2=>cases hp
 rename_i tk k en a b t1 n1 me sp c R tl sl;cases hp;obtain⟨rfl,rfl,rfl,rfl⟩:=hq;have hK:K (.ptr 1 0) [none,some (.abs (.worker (⟨t1,n1,⟨me,sp,R⟩,tk,en,false,eS,tl,sl⟩:WKS)) [])]:=hK
 exact⟨⟨_,_,(aF.move 3 (of_decide_eq_true rfl)).trans ((aIt (v2:=.ptr 1 0) (g2:=aQ [some (.tab cK3 tk),cE' [.ptr 2 0,.tslice 0 0 tk.length 3,.I en,.raw (.pointer none),.slice 4 0 tl.length 1,.slice 5 0 sl.length 1],some (.abs (.store t1 n1 ⟨me,sp,R⟩) []),none,iI' tl,iI' sl] 2 0 (dM t1 n1 ⟨me,sp,R⟩) []) (by kernel_rfl) (by kernel_rfl)).trans
  ((aF.pack [some (.tab cK3 tk),cE' [.ptr 2 0,.tslice 0 0 tk.length 3,.I en,.raw (.pointer none),.slice 4 0 tl.length 1,.slice 5 0 sl.length 1],some (.abs (.store t1 n1 ⟨me,sp,R⟩) []),none,iI' tl,iI' sl] (.store t1 n1 ⟨me,sp,R⟩) 2 0 (dM t1 n1 ⟨me,sp,R⟩) [] rfl rfl rfl (by kernel_rfl)).trans
  ((aF.move 0 (of_decide_eq_true rfl)).trans ((aF.move 4 (of_decide_eq_true rfl)).trans ((aF.move 5 (of_decide_eq_true rfl)).trans ((aF.pick [0,1,2,6,7,8] rfl).trans
  ((aIt (v2:=.ptr 1 0) (g2:=aQ [none,some (.abs (.worker (⟨t1,n1,⟨me,sp,R⟩,tk,en,false,eS,tl,sl⟩:WKS)) [])] 1 0 (mF (⟨t1,n1,⟨me,sp,R⟩,tk,en,false,eS,tl,sl⟩:WKS)) []) (by kernel_rfl) (by kernel_rfl)).trans
  (aF.pack [none,some (.abs (.worker (⟨t1,n1,⟨me,sp,R⟩,tk,en,false,eS,tl,sl⟩:WKS)) [])] (.worker (⟨t1,n1,⟨me,sp,R⟩,tk,en,false,eS,tl,sl⟩:WKS)) 1 0 (mF (⟨t1,n1,⟨me,sp,R⟩,tk,en,false,eS,tl,sl⟩:WKS)) [] rfl rfl (congrArg (Prod.mk 0) (oQ rfl)) (by kernel_rfl))))))))),hK⟩⟩
def nvP(t n u:Int)(v:AVal)(g:aC Ob):Option (Prop×WKS):=match v,g with
 | .ptr 0 0,[some (.cells [.ptr 1 0,.tslice 3 0 k 3,.int .i64 en,.raw (.pointer none),.slice 4 0 a 1,.slice 5 0 b 1]),some (.cells [.int .i64 t1,.int .i64 n1,.int .i64 me,.int .i64 sp,.slice 2 0 c 1]),some (.ints (some .i64) R),some (.tab [some .i64,some .i64,some .i64] tk),some (.ints (some .i64) tl),some (.ints (some .i64) sl)]=>
   some (k=tk.length∧a=tl.length∧b=sl.length∧c=R.length,⟨t1,n1,⟨me,sp,R⟩,tk,en,false,eS,tl,sl⟩)
 | _,_=>none
theorem aCN(t n u:Int):bM (obI tbl) 0 (nvP t n u) (fun y=>.ret (.ptr 0 0) [some (.abs (.worker y) [])]):=by
 intro v g p x hp hq K hK;unfold nvP at hp;split at hp
 case h_2=>cases hp
 rename_i k en a b t1 n1 me sp c R tk tl sl;cases hp;obtain⟨rfl,rfl,rfl,rfl⟩:=hq;have hK:K (.ptr 0 0) [some (.abs (.worker (⟨t1,n1,⟨me,sp,R⟩,tk,en,false,eS,tl,sl⟩:WKS)) [])]:=hK
 exact⟨⟨_,_,(aF.move 2 (of_decide_eq_true rfl)).trans ((aIt (v2:=.ptr 0 0) (g2:=aQ [cE' [.ptr 1 0,.tslice 3 0 tk.length 3,.I en,.raw (.pointer none),.slice 4 0 tl.length 1,.slice 5 0 sl.length 1],some (.abs (.store t1 n1 ⟨me,sp,R⟩) []),none,some (.tab cK3 tk),iI' tl,iI' sl] 1 0 (dM t1 n1 ⟨me,sp,R⟩) []) (by kernel_rfl) (by kernel_rfl)).trans
  ((aF.pack [cE' [.ptr 1 0,.tslice 3 0 tk.length 3,.I en,.raw (.pointer none),.slice 4 0 tl.length 1,.slice 5 0 sl.length 1],some (.abs (.store t1 n1 ⟨me,sp,R⟩) []),none,some (.tab cK3 tk),iI' tl,iI' sl] (.store t1 n1 ⟨me,sp,R⟩) 1 0 (dM t1 n1 ⟨me,sp,R⟩) [] rfl rfl rfl (by kernel_rfl)).trans
  ((aF.pick [0,1,3,4,5] rfl).trans
  ((aIt (v2:=.ptr 0 0) (g2:=aQ [some (.abs (.worker (⟨t1,n1,⟨me,sp,R⟩,tk,en,false,eS,tl,sl⟩:WKS)) [])] 0 0 (mF (⟨t1,n1,⟨me,sp,R⟩,tk,en,false,eS,tl,sl⟩:WKS)) []) (by kernel_rfl) (by kernel_rfl)).trans
  (aF.pack [some (.abs (.worker (⟨t1,n1,⟨me,sp,R⟩,tk,en,false,eS,tl,sl⟩:WKS)) [])] (.worker (⟨t1,n1,⟨me,sp,R⟩,tk,en,false,eS,tl,sl⟩:WKS)) 0 0 (mF (⟨t1,n1,⟨me,sp,R⟩,tk,en,false,eS,tl,sl⟩:WKS)) [] rfl rfl (congrArg (Prod.mk 0) (oQ rfl)) (by kernel_rfl)))))),hK⟩⟩
def nwT(t n u:Int)(tk:List (List Int)):Tr WKS:=.pre (lE' tk∧0=0∧0=0∧0=0) (.ret {t:=t,n:=n,st:= {me:=u,sp:=0,R:=[] },tk:=tk,en:=0,b:=false,d:=eS,tl:=[],sl:=[] })
theorem aCQ(t n u:Int)(tk:List (List Int))(K:AVal→aC Ob→Prop)(h:(nwT t n u tk).run (fun y=>(Out.ret (.ptr 1 0) [none,some (.abs (.worker y) [])]).run K)):cT' 83 [.agg [.I t,.I n],.I u,.tslice 0 0 tk.length 3] [some (.tab cK3 tk)] K:=by
 refine aIy (root:=1) (pos:=[]) (cs:=[(.cell 1 4,.ints (some .i64)),(.cell 1 5,.ints (some .i64)),(.cell 2 4,.ints (some .i64))]) (parse:=nwP t n u) (aCP t n u) ?_;exact cM' (E:=EP1) (by kernel_rfl) h
def nvT(t n u:Int):Tr WKS:=.pre (0=0∧0=0∧0=0∧0=0) (.ret {t:=t,n:=n,st:= {me:=u,sp:=0,R:=[] },tk:=[],en:=0,b:=false,d:=eS,tl:=[],sl:=[] })
theorem aCO(t n u:Int)(K:AVal→aC Ob→Prop)(h:(nvT t n u).run (fun y=>(Out.ret (.ptr 0 0) [some (.abs (.worker y) [])]).run K)):cT' 83 [.agg [.I t,.I n],.I u,.raw (.slice none 0 0)] [] K:=by
 refine aIy (root:=0) (pos:=[]) (cs:=[(.cell 0 1,.tab cK3),(.cell 0 4,.ints (some .i64)),(.cell 0 5,.ints (some .i64)),(.cell 1 4,.ints (some .i64))]) (parse:=nvP t n u) (aCN t n u) ?_;exact cM' (E:=EP1) (by kernel_rfl) h
def XQ(t n u:Int)(tk:List (List Int)):WKS:=(nwT t n u tk).val
def nwS:aH Ob:=fun args h=>match args,h with
 | [.agg [.int .i64 t,.int .i64 n],.int .i64 u,.tslice 0 0 k 3],[some (.tab [some .i64,some .i64,some .i64] tk)]=>some (.pre (k=tk.length) (.ret (.ptr 1 0) [none,some (.abs (.worker (XQ t n u tk)) [])]))
 | _,_=>none
theorem aFF:sT' 83 nwS:=by
 intro args h o ho K hK;unfold nwS at ho;split at ho<;>cases ho
 rename_i t n u k tk;obtain⟨rfl,hK⟩:=hK;exact aCQ t n u tk K (aIp ⟨⟨rfl,rfl,rfl,rfl⟩,trivial⟩ hK)
def nvS:aH Ob:=fun args h=>match args,h with
 | [.agg [.int .i64 t,.int .i64 n],.int .i64 u,.raw (.slice none 0 0)],[]=>some (.pre True (.ret (.ptr 0 0) [some (.abs (.worker (XQ t n u [])) [])]))
 | _,_=>none
theorem aFE:sT' 83 nvS:=by
 intro args h o ho K hK;unfold nvS at ho;split at ho<;>cases ho
 rename_i t n u;obtain⟨_,hK⟩:=hK;exact aCO t n u K (aIp ⟨⟨rfl,rfl,rfl,rfl⟩,trivial⟩ hK)
noncomputable def EU1:=(((EP1.addS 82 ofS aFI).addS 80 lgS aFy).addS 79 wrS aF7).addS 83 (aH.or nwS nvS) (aIJ aFF aFE)
structure uL (sh th:Int) (m:Nat) (ln:Nat→Nat) (f g:Nat→Nat→Int) (u:Int):Prop where
 hu:u≤th
 hg: ∀j:Nat,(j:Int)<u→j<m→eR sh (ln j) (f j) (g j)=true
def GC(a k:Nat):List AVal:=(List.range k).map fun j=>.ptr (a+j) 0
def zY(wf:Nat→WKS)(k:Nat):aC Ob:=(List.range k).map fun j=>some (.abs (.worker (wf j)) [])
abbrev mO:Option (aG Ob):=some (.abs (.hist ⟨[],[],0,0,0,0,0,0,0,0⟩) [])
def FN(th:Int)(m:Nat)(ln:Nat→Nat)(f g:Nat→Nat→Int)(x:Int):List AVal:=[.O,.view m 1 (fun i=>[.view (ln i) 2 (fun j=>[.I (f i j),.I (g i j)])]),.ptr 0 0,.O,.O,.O,.O,.ptr 1 0,.ptr 2 0]++List.replicate 24 .O ++ [.I th,.I x]++List.replicate 45 .O
def HN0(sh th nd tr:Int)(m:Nat)(ln:Nat→Nat)(f g:Nat→Nat→Int)(wf:Nat→WKS):Hint Ob:= {X:=Unit,st:=fun _=>(FN th m ln f g 0,[some (.cells [.int .i64 sh,.int .i64 th,.int .i64 nd,.int .i64 tr]),some (.cells [.int .i64 th,.int .i64 nd]),some (.cells [.int .i64 sh,.int .i64 th,.int .i64 nd,.int .i64 tr,.raw (.pointer none),.ptr 3 0,.raw (.slice none 0 0),.int .i64 0]),mO]),ok:=fun _=>uL sh th m ln f g 0,mu:=fun _=>9,keep:=[1,2,7,8,33,34],sel:=fun tm _=>match tm.getD 34 .O with
 | .int _ n=>Nat.beq n.toNat 0
 | _=>false}
def HNk(k:Nat)(sh th nd tr:Int)(m:Nat)(ln:Nat→Nat)(f g:Nat→Nat→Int)(wf:Nat→WKS):Hint Ob:= {X:=Unit,st:=fun _=>(FN th m ln f g k,[some (.cells [.int .i64 sh,.int .i64 th,.int .i64 nd,.int .i64 tr]),some (.cells [.int .i64 th,.int .i64 nd]),some (.cells [.int .i64 sh,.int .i64 th,.int .i64 nd,.int .i64 tr,.raw (.pointer none),.ptr 3 0,.slice 4 0 k 1,.int .i64 0]),mO,some (.cells (GC 5 k))]++zY wf k),ok:=fun _=>uL sh th m ln f g k,mu:=fun _=>9 - k,keep:=[1,2,7,8,33,34],sel:=fun tm _=>match tm.getD 34 .O with
 | .int _ n=>Nat.beq n.toNat k
 | _=>false}
abbrev w2p(k:Nat):=Int.toNat (k:Int)
abbrev w2q(k:Nat)(nd sh th tr:Int):aC Ob:=[cE' [.I sh,.I th,.I nd,.I tr],cE' [.I th,.I nd],cE' [.I sh,.I th,.I nd,.I tr,.N,.ptr 3 0,.slice 4 0 (k+1) 1,.I 0],mO,some (.cells (GC 5 (k+1)))]
def B7(k:Nat)(sh th nd tr:Int)(m:Nat)(ln:Nat→Nat)(f g:Nat→Nat→Int)(wf:Nat→WKS)(K:AVal→aC Ob→Prop):Prop:=uL sh th m ln f g (k:Int)→bif ilt (k:Int) th then bif ilt (k:Int) (↑m:Int)then((0:Int)≤(k:Int)∧(k:Int)<(↑m:Int))∧((ln (w2p k)≤(1000000:Nat)∧y6 fun j=>[.I (f (w2p k) j),.I (g (w2p k) j)])∧True)∧bif !ieq (ofC sh (ln (w2p k)) (rK fun j=>[.I (f (w2p k) j),.I (g (w2p k) j)]) (rY fun j=>[.I (f (w2p k) j),.I (g (w2p k) j)])) 0 then K (.tup [.N,.I (ofC sh (ln (w2p k)) (rK fun j=>[.I (f (w2p k) j),.I (g (w2p k) j)]) (rY fun j=>[.I (f (w2p k) j),.I (g (w2p k) j)]))]) []else(lE' (ofR sh (ln (w2p k)) (rK fun j=>[.I (f (w2p k) j),.I (g (w2p k) j)]) (rY fun j=>[.I (f (w2p k) j),.I (g (w2p k) j)]))∧True)∧k+(1:Nat)≤(4294967296:Nat)∧cN (HNk (k+1) sh th nd tr m ln f g wf) (fun x_1=>Hint.ok (HNk (k+1) sh th nd tr m ln f g wf) x_1∧mH (some (Hint.mu (HNk (k) sh th nd tr m ln f g wf) ())) (Hint.mu (HNk (k+1) sh th nd tr m ln f g wf) x_1)) (FN th m ln f g (W ((k:Int)+1))) ((w2q k nd sh th tr)++(zY wf k++ [some (.abs (.worker (XQ th nd (k:Int) (ofR sh (ln (w2p k)) (rK fun j=>[.I (f (w2p k) j),.I (g (w2p k) j)]) (rY fun j=>[.I (f (w2p k) j),.I (g (w2p k) j)])))) [])]))else(True∧True)∧k+(1:Nat)≤(4294967296:Nat)∧cN (HNk (k+1) sh th nd tr m ln f g wf) (fun x_1=>Hint.ok (HNk (k+1) sh th nd tr m ln f g wf) x_1∧mH (some (Hint.mu (HNk (k) sh th nd tr m ln f g wf) ())) (Hint.mu (HNk (k+1) sh th nd tr m ln f g wf) x_1)) (FN th m ln f g (W ((k:Int)+1))) ((w2q k nd sh th tr)++(zY wf k++ [some (.abs (.worker (XQ th nd (k:Int) [])) [])]))else True∧bif !eH th nd then K (.tup [.ptr 0 0,.I 1]) ([cE' [.I sh,.I th,.I nd,.I tr,.N,.ptr 1 0,.slice 2 0 k 1,.I 0],mO,some (.cells (GC 3 k))]++zY wf k)else(((0:Int)≤th∧th≤(100000:Int))∧(0:Int)≤nd∧nd≤(100000:Int))∧bif ilt (2*nd+5*th+6) (↑0:Int)then K (.tup [.ptr 0 0,.I 6]) ([cE' [.I sh,.I th,.I nd,.I tr,.N,.ptr 1 0,.slice 2 0 k 1,.I 0],mO,some (.cells (GC 3 k))]++zY wf k)else((((0:Int)≤th∧th≤(100000:Int))∧(0:Int)≤nd∧nd≤(100000:Int))∧True)∧((0:Int)≤(2:Int)*nd+5*th+6∧2*nd+5*th+(6:Int)=(2:Int)*nd+5*th+6∧2*nd+5*th+(6:Int)≤(4294967296:Int))∧K (.tup [.ptr 0 0,.I 0]) ([cE' [.I sh,.I th,.I nd,.I tr,.ptr 1 0,.ptr 3 0,.slice 4 0 k 1,.I 0],cE' [.I th,.I nd,.slice 2 0 (Int.toNat (2*nd+5*th+6)) 1,.I 0,.I 0,.I 0,.int .u64 0,.int .u64 0,.bool false],some (.ints (some .u64) (List.replicate (Int.toNat (2*nd+5*th+6)) 0)),mO,some (.cells (GC 5 k))]++zY wf k)
abbrev w2r(nd sh th tr:Int)(wf:Nat→WKS):aC Ob:=[cE' [.I sh,.I th,.I nd,.I tr,.N,.ptr 1 0,.slice 2 0 8 1,.I 0],mO,cE' [.ptr 3 0,.ptr 4 0,.ptr 5 0,.ptr 6 0,.ptr 7 0,.ptr 8 0,.ptr 9 0,.ptr 10 0],some (.abs (.worker (wf 0)) []),some (.abs (.worker (wf 1)) []),some (.abs (.worker (wf 2)) []),some (.abs (.worker (wf 3)) []),some (.abs (.worker (wf 4)) []),some (.abs (.worker (wf 5)) []),some (.abs (.worker (wf 6)) []),some (.abs (.worker (wf 7)) [])]
abbrev w2s(nd th:Int):=((0:Int)≤th∧th≤(100000:Int))∧(0:Int)≤nd∧nd≤(100000:Int)
abbrev w2t(nd th:Int):=(0:Int)≤(2:Int)*nd+5*th+6∧2*nd+5*th+(6:Int)=(2:Int)*nd+5*th+6∧2*nd+5*th+(6:Int)≤(4294967296:Int)
abbrev w2u(nd th:Int):Option (aG Ob):=cE' [.I th,.I nd,.slice 2 0 (Int.toNat (2*nd+5*th+6)) 1,.I 0,.I 0,.I 0,.int .u64 0,.int .u64 0,.bool false]
abbrev w2v:=Value.slice none 0 0
def aB8(sh th nd tr:Int)(m:Nat)(ln:Nat→Nat)(f g:Nat→Nat→Int)(wf:Nat→WKS)(K:AVal→aC Ob→Prop):Prop:=True∧bif !ieq (wrE sh th nd tr) 0 then K (.tup [.N,.I (wrE sh th nd tr)]) []else(m≤(1000000:Nat)∧pF fun i=>[.view (ln i) 2 fun j=>[.I (f i j),.I (g i j)]])∧bif lgB th m (vL fun i=>[.view (ln i) 2 fun j=>[.I (f i j),.I (g i j)]])then K (.tup [.N,.I 6]) []else(True∧True)∧cN (HN0 sh th nd tr m ln f g wf) (fun x=>Hint.ok (HN0 sh th nd tr m ln f g wf) x∧mH none (Hint.mu (HN0 sh th nd tr m ln f g wf) x)) (FN th m ln f g 0) [cE' [.I sh,.I th,.I nd,.I tr],cE' [.I th,.I nd],cE' [.I sh,.I th,.I nd,.I tr,.N,.ptr 3 0,.raw w2v,.I 0],mO]∧(∀(x:Hint.X (HN0 sh th nd tr m ln f g wf)),uL sh th m ln f g 0→bif ilt 0 th then bif ilt 0 (↑m:Int)then((0:Int)≤(0:Int)∧(0:Int)<(↑m:Int))∧((ln (Int.toNat 0)≤(1000000:Nat)∧y6 fun j=>[.I (f (Int.toNat 0) j),.I (g (Int.toNat 0) j)])∧True)∧bif !ieq (ofC sh (ln (Int.toNat 0)) (rK fun j=>[.I (f (Int.toNat 0) j),.I (g (Int.toNat 0) j)]) (rY fun j=>[.I (f (Int.toNat 0) j),.I (g (Int.toNat 0) j)])) 0 then K (.tup [.N,.I (ofC sh (ln (Int.toNat 0)) (rK fun j=>[.I (f (Int.toNat 0) j),.I (g (Int.toNat 0) j)]) (rY fun j=>[.I (f (Int.toNat 0) j),.I (g (Int.toNat 0) j)]))]) []else(lE' (ofR sh (ln (Int.toNat 0)) (rK fun j=>[.I (f (Int.toNat 0) j),.I (g (Int.toNat 0) j)]) (rY fun j=>[.I (f (Int.toNat 0) j),.I (g (Int.toNat 0) j)]))∧True)∧(1:Nat)≤(4294967296:Nat)∧cN (HNk 1 sh th nd tr m ln f g wf) (fun x_1=>Hint.ok (HNk 1 sh th nd tr m ln f g wf) x_1∧mH (some (Hint.mu (HN0 sh th nd tr m ln f g wf) x)) (Hint.mu (HNk 1 sh th nd tr m ln f g wf) x_1)) (FN th m ln f g (W (0+1))) [cE' [.I sh,.I th,.I nd,.I tr],cE' [.I th,.I nd],cE' [.I sh,.I th,.I nd,.I tr,.N,.ptr 3 0,.slice 4 0 1 1,.I 0],mO,cE' [.ptr 5 0],some (.abs (.worker (XQ th nd 0 (ofR sh (ln (Int.toNat 0)) (rK fun j=>[.I (f (Int.toNat 0) j),.I (g (Int.toNat 0) j)]) (rY fun j=>[.I (f (Int.toNat 0) j),.I (g (Int.toNat 0) j)])))) [])]else(True∧True)∧(1:Nat)≤(4294967296:Nat)∧cN (HNk 1 sh th nd tr m ln f g wf) (fun x_1=>Hint.ok (HNk 1 sh th nd tr m ln f g wf) x_1∧mH (some (Hint.mu (HN0 sh th nd tr m ln f g wf) x)) (Hint.mu (HNk 1 sh th nd tr m ln f g wf) x_1)) (FN th m ln f g (W (0+1))) [cE' [.I sh,.I th,.I nd,.I tr],cE' [.I th,.I nd],cE' [.I sh,.I th,.I nd,.I tr,.N,.ptr 3 0,.slice 4 0 1 1,.I 0],mO,cE' [.ptr 5 0],some (.abs (.worker (XQ th nd 0 [])) [])]else True∧bif !eH th nd then K (.tup [.ptr 0 0,.I 1]) [cE' [.I sh,.I th,.I nd,.I tr,.N,.ptr 1 0,.raw w2v,.I 0],mO]else(w2s nd th)∧bif ilt (2*nd+5*th+6) (↑0:Int)then K (.tup [.ptr 0 0,.I 6]) [cE' [.I sh,.I th,.I nd,.I tr,.N,.ptr 1 0,.raw w2v,.I 0],mO]else((w2s nd th)∧True)∧(w2t nd th)∧K (.tup [.ptr 0 0,.I 0]) [cE' [.I sh,.I th,.I nd,.I tr,.ptr 1 0,.ptr 3 0,.raw w2v,.I 0],w2u nd th,some (.ints (some .u64) (List.replicate (Int.toNat (2*nd+5*th+6)) 0)),mO])∧(∀(x:Hint.X (HNk 1 sh th nd tr m ln f g wf)),B7 1 sh th nd tr m ln f g wf K)∧(∀(x:Hint.X (HNk 2 sh th nd tr m ln f g wf)),B7 2 sh th nd tr m ln f g wf K)∧(∀(x:Hint.X (HNk 3 sh th nd tr m ln f g wf)),B7 3 sh th nd tr m ln f g wf K)∧(∀(x:Hint.X (HNk 4 sh th nd tr m ln f g wf)),B7 4 sh th nd tr m ln f g wf K)∧(∀(x:Hint.X (HNk 5 sh th nd tr m ln f g wf)),B7 5 sh th nd tr m ln f g wf K)∧(∀(x:Hint.X (HNk 6 sh th nd tr m ln f g wf)),B7 6 sh th nd tr m ln f g wf K)∧(∀(x:Hint.X (HNk 7 sh th nd tr m ln f g wf)),B7 7 sh th nd tr m ln f g wf K)∧(∀(x:Hint.X (HNk 8 sh th nd tr m ln f g wf)),uL sh th m ln f g 8→bif ilt 8 th then bif ilt 8 (↑m:Int)then((0:Int)≤(8:Int)∧(8:Int)<(↑m:Int))∧((ln (Int.toNat 8)≤(1000000:Nat)∧y6 fun j=>[.I (f (Int.toNat 8) j),.I (g (Int.toNat 8) j)])∧True)∧bif !ieq (ofC sh (ln (Int.toNat 8)) (rK fun j=>[.I (f (Int.toNat 8) j),.I (g (Int.toNat 8) j)]) (rY fun j=>[.I (f (Int.toNat 8) j),.I (g (Int.toNat 8) j)])) 0 then K (.tup [.N,.I (ofC sh (ln (Int.toNat 8)) (rK fun j=>[.I (f (Int.toNat 8) j),.I (g (Int.toNat 8) j)]) (rY fun j=>[.I (f (Int.toNat 8) j),.I (g (Int.toNat 8) j)]))]) []else(lE' (ofR sh (ln (Int.toNat 8)) (rK fun j=>[.I (f (Int.toNat 8) j),.I (g (Int.toNat 8) j)]) (rY fun j=>[.I (f (Int.toNat 8) j),.I (g (Int.toNat 8) j)]))∧True)∧8+(1:Nat)≤(4294967296:Nat)∧False else(True∧True)∧8+(1:Nat)≤(4294967296:Nat)∧False else True∧bif !eH th nd then K (.tup [.ptr 0 0,.I 1]) (w2r nd sh th tr wf)else(w2s nd th)∧bif ilt (2*nd+5*th+6) (↑0:Int)then K (.tup [.ptr 0 0,.I 6]) (w2r nd sh th tr wf)else((w2s nd th)∧True)∧(w2t nd th)∧K (.tup [.ptr 0 0,.I 0]) [cE' [.I sh,.I th,.I nd,.I tr,.ptr 1 0,.ptr 3 0,.slice 4 0 8 1,.I 0],w2u nd th,some (.ints (some .u64) (List.replicate (Int.toNat (2*nd+5*th+6)) 0)),mO,cE' [.ptr 5 0,.ptr 6 0,.ptr 7 0,.ptr 8 0,.ptr 9 0,.ptr 10 0,.ptr 11 0,.ptr 12 0],some (.abs (.worker (wf 0)) []),some (.abs (.worker (wf 1)) []),some (.abs (.worker (wf 2)) []),some (.abs (.worker (wf 3)) []),some (.abs (.worker (wf 4)) []),some (.abs (.worker (wf 5)) []),some (.abs (.worker (wf 6)) []),some (.abs (.worker (wf 7)) [])])∧True
theorem O3(sh th nd tr:Int)(m:Nat)(ln:Nat→Nat)(f g:Nat→Nat→Int)(wf:Nat→WKS)(K:AVal→aC Ob→Prop)(h:aB8 sh th nd tr m ln f g wf K):cT' 25 [.agg [.I sh,.I th,.I nd,.I tr],.view m 1 (fun i=>[.view (ln i) 2 (fun j=>[.I (f i j),.I (g i j)])])] [] K:=by
 refine aIl (aD (E:=EU1) Tryz.checked.mixed (L:=(fun _ _=>some (.cases [HN0 sh th nd tr m ln f g wf,HNk 1 sh th nd tr m ln f g wf,HNk 2 sh th nd tr m ln f g wf,HNk 3 sh th nd tr m ln f g wf,HNk 4 sh th nd tr m ln f g wf,HNk 5 sh th nd tr m ln f g wf,HNk 6 sh th nd tr m ln f g wf,HNk 7 sh th nd tr m ln f g wf,HNk 8 sh th nd tr m ln f g wf]))) (n:=10) (aK (by kernel_rfl) h))
theorem vH{t n:Int} :eH t n=true↔1≤t∧t≤8∧1≤n∧n≤200:=by
 unfold eH;simp only [bX,Bool.and_eq_true,dT',and_assoc]
theorem SL{sh th nd tr:Int}(h:ieq (wrE sh th nd tr) 0=true):1≤sh∧sh≤4∧(1≤th∧th≤8∧1≤nd∧nd≤200)∧0≤tr∧tr≤50:=by
 unfold wrE at h;cases h1:ilt sh 1<;>rw [h1]at h<;>simp only [cond_true,cond_false]at h
 case true=>exact absurd h (by decide)
 cases h2:ilt 4 sh<;>rw [h2]at h<;>simp only [cond_true,cond_false]at h
 case true=>exact absurd h (by decide)
 cases h3:eH th nd<;>rw [h3]at h<;>simp only [Bool.not_false,Bool.not_true,cond_true,cond_false]at h
 case false=>exact absurd h (by decide)
 cases h4:ilt tr 0<;>rw [h4]at h<;>simp only [cond_true,cond_false]at h
 case true=>exact absurd h (by decide)
 cases h5:ilt 50 tr<;>rw [h5]at h<;>simp only [cond_true,cond_false]at h
 case true=>exact absurd h (by decide)
 rw [bG,dF']at h1 h2 h4 h5;exact⟨by omega,by omega,vH.1 h3,by omega,by omega⟩
def XL(t n:Int):MS:= {t:=t,n:=n,xs:=List.replicate (2*n+5*t+6).toNat 0,c:=0,k:=0,a:=0,o:=0,w:=0,ok:=false}
def gO(sh th nd:Int)(m:Nat)(ln:Nat→Nat)(f g:Nat→Nat→Int)(j:Nat):WKS:=XQ th nd (j:Int) (bif ilt (j:Int) (m:Int)then ofR sh (ln j) (f j) (g j)else [])
def eY(sh th nd tr:Int)(m:Nat)(ln:Nat→Nat)(f g:Nat→Nat→Int):EGS:=⟨sh,th,nd,tr,XL th nd,⟨[],[],0,0,0,0,0,0,0,0⟩,(List.range th.toNat).map (gO sh th nd m ln f g),0⟩
def gnC(sh th nd tr:Int)(m:Nat)(ln:Nat→Nat)(f g:Nat→Nat→Int):Int:=bif !ieq (wrE sh th nd tr) 0 then wrE sh th nd tr else bif lgB th m ln then 6 else bif (List.range m).all (fun j=>eR sh (ln j) (f j) (g j))then 0 else 1
abbrev mI(sh th nd tr:Int)(m:Nat)(ln:Nat→Nat)(f g:Nat→Nat→Int):Out Ob:=.ite (ieq (gnC sh th nd tr m ln f g) 0) (.ret (.tup [.ptr 0 0,.I 0]) (egH (eY sh th nd tr m ln f g))) (.ret (.tup [.raw (.pointer none),.I (gnC sh th nd tr m ln f g)]) [])
theorem Z4{sh:Int}{m:Nat}{f g:Nat→Int}(h:ieq (ofC sh m f g) 0=false):eR sh m f g=false∧ofC sh m f g=1:=by
 unfold ofC at h⊢;cases e:eR sh m f g with
 | true=>rw [e]at h;exact absurd h (by decide)
 | false=>exact⟨rfl,rfl⟩
theorem Z3{sh:Int}{m:Nat}{f g:Nat→Int}(h:ieq (ofC sh m f g) 0=true):eR sh m f g=true:=by
 unfold ofC at h;cases e:eR sh m f g with
 | true=>rfl
 | false=>rw [e]at h;exact absurd h (by decide)
theorem yX(sh th nd tr:Int)(m:Nat)(ln:Nat→Nat)(f g:Nat→Nat→Int)(K:AVal→aC Ob→Prop)(hK:(mI sh th nd tr m ln f g).run K)(c:Int)(hc:gnC sh th nd tr m ln f g=c)(h0:ieq c 0=false):K (.tup [.raw (.pointer none),.I c]) []:=by
 have hK:(Out.ite (ieq (gnC sh th nd tr m ln f g) 0) _ _).run K:=hK;rw [hc,h0]at hK;exact hK
theorem HU(sh th nd tr:Int)(m:Nat)(ln:Nat→Nat)(f g:Nat→Nat→Int)(K:AVal→aC Ob→Prop)(hK:(mI sh th nd tr m ln f g).run K)(hc:gnC sh th nd tr m ln f g=0):K (.tup [.ptr 0 0,.I 0]) (egH (eY sh th nd tr m ln f g)):=by
 have hK:(Out.ite (ieq (gnC sh th nd tr m ln f g) 0) _ _).run K:=hK;rw [hc]at hK;exact hK
abbrev uK(sh th nd tr:Int)(W:List WKS):EGS:=⟨sh,th,nd,tr,XL th nd,⟨[],[],0,0,0,0,0,0,0,0⟩,W,0⟩
abbrev yW(sh th nd tr:Int)(k:Nat)(ps:List AVal)(ws:aC Ob):aC Ob:=[cE' [.I sh,.I th,.I nd,.I tr,.ptr 1 0,.ptr 3 0,.slice 4 0 k 1,.I 0],cE' [.I th,.I nd,.slice 2 0 (Int.toNat (2*nd+5*th+6)) 1,.I 0,.I 0,.I 0,.int .u64 0,.int .u64 0,.bool false],some (.ints (some .u64) (List.replicate (Int.toNat (2*nd+5*th+6)) 0)),mO,some (.cells ps)]++ws
abbrev aE0(sh th nd tr:Int)(W:List WKS):aC Ob:=[cE' [.I sh,.I th,.I nd,.I tr,.ptr 1 0,.ptr 3 0,.slice 4 0 W.length 1,.I 0],cE' [.I th,.I nd,.slice 2 0 (Int.toNat (2*nd+5*th+6)) 1,.I 0,.I 0,.I 0,.int .u64 0,.int .u64 0,.bool false],some (.ints (some .u64) (List.replicate (Int.toNat (2*nd+5*th+6)) 0)),mO,some (.abs (.wrow W) [])]
theorem sB{sh th nd tr:Int}(W:List WKS){g:aC Ob}(h:g=aQ (aE0 sh th nd tr W) 4 0 (rowE (List.map (fun w=>some (Mc.worker w)) W)) [])(hb:obOk 0 (rowE (List.map (fun w=>some (Mc.worker w)) W))=true):aF (obI tbl) 0 (.tup [.ptr 0 0,.I 0]) g (.tup [.ptr 0 0,.I 0]) (egH (uK sh th nd tr W)):=by
 refine(aF.pack (aE0 sh th nd tr W) (.wrow W) 4 0 (rowE (List.map (fun w=>some (Mc.worker w)) W)) [] h rfl rfl (by rw [hb];rfl)).trans ?_
 refine aF.trans (aIt rfl ?_) (kI 0 (Nat.zero_le _) _ rfl (uK sh th nd tr W))
 first | (simp only [egG,XL,List.length_replicate];done) | (simp only [egG,XL,List.length_replicate]<;>rfl)
theorem aE2(sh nd tr:Int)(wf:Nat→WKS):aF (obI tbl) 0 (.tup [.ptr 0 0,.I 0]) (yW sh (1:Nat) nd tr 1 (GC 5 1) (zY wf 1)) (.tup [.ptr 0 0,.I 0]) (egH (uK sh (1:Nat) nd tr ((List.range 1).map wf))):=sB ((List.range 1).map wf) (by kernel_rfl) (by kernel_rfl)
theorem aE3(sh nd tr:Int)(wf:Nat→WKS):aF (obI tbl) 0 (.tup [.ptr 0 0,.I 0]) (yW sh (2:Nat) nd tr 2 (GC 5 2) (zY wf 2)) (.tup [.ptr 0 0,.I 0]) (egH (uK sh (2:Nat) nd tr ((List.range 2).map wf))):=sB ((List.range 2).map wf) (by kernel_rfl) (by kernel_rfl)
theorem aE4(sh nd tr:Int)(wf:Nat→WKS):aF (obI tbl) 0 (.tup [.ptr 0 0,.I 0]) (yW sh (3:Nat) nd tr 3 (GC 5 3) (zY wf 3)) (.tup [.ptr 0 0,.I 0]) (egH (uK sh (3:Nat) nd tr ((List.range 3).map wf))):=sB ((List.range 3).map wf) (by kernel_rfl) (by kernel_rfl)
theorem aE5(sh nd tr:Int)(wf:Nat→WKS):aF (obI tbl) 0 (.tup [.ptr 0 0,.I 0]) (yW sh (4:Nat) nd tr 4 (GC 5 4) (zY wf 4)) (.tup [.ptr 0 0,.I 0]) (egH (uK sh (4:Nat) nd tr ((List.range 4).map wf))):=sB ((List.range 4).map wf) (by kernel_rfl) (by kernel_rfl)
theorem aE6(sh nd tr:Int)(wf:Nat→WKS):aF (obI tbl) 0 (.tup [.ptr 0 0,.I 0]) (yW sh (5:Nat) nd tr 5 (GC 5 5) (zY wf 5)) (.tup [.ptr 0 0,.I 0]) (egH (uK sh (5:Nat) nd tr ((List.range 5).map wf))):=sB ((List.range 5).map wf) (by kernel_rfl) (by kernel_rfl)
theorem aE7(sh nd tr:Int)(wf:Nat→WKS):aF (obI tbl) 0 (.tup [.ptr 0 0,.I 0]) (yW sh (6:Nat) nd tr 6 (GC 5 6) (zY wf 6)) (.tup [.ptr 0 0,.I 0]) (egH (uK sh (6:Nat) nd tr ((List.range 6).map wf))):=sB ((List.range 6).map wf) (by kernel_rfl) (by kernel_rfl)
theorem aE8(sh nd tr:Int)(wf:Nat→WKS):aF (obI tbl) 0 (.tup [.ptr 0 0,.I 0]) (yW sh (7:Nat) nd tr 7 (GC 5 7) (zY wf 7)) (.tup [.ptr 0 0,.I 0]) (egH (uK sh (7:Nat) nd tr ((List.range 7).map wf))):=sB ((List.range 7).map wf) (by kernel_rfl) (by kernel_rfl)
theorem aE9(sh nd tr:Int)(wf:Nat→WKS):aF (obI tbl) 0 (.tup [.ptr 0 0,.I 0]) (yW sh (8:Nat) nd tr 8 (GC 5 8) (zY wf 8)) (.tup [.ptr 0 0,.I 0]) (egH (uK sh (8:Nat) nd tr ((List.range 8).map wf))):=sB ((List.range 8).map wf) (by kernel_rfl) (by kernel_rfl)
theorem aE1(sh nd tr:Int)(wf:Nat→WKS){k:Nat}(h1:1≤k)(h8:k≤8):aF (obI tbl) 0 (.tup [.ptr 0 0,.I 0]) (yW sh (k:Int) nd tr k (GC 5 k) (zY wf k)) (.tup [.ptr 0 0,.I 0]) (egH (uK sh (k:Int) nd tr ((List.range k).map wf))):=by
 match k,h1,h8 with
 | 1,_,_=>exact aE2 sh nd tr wf
 | 2,_,_=>exact aE3 sh nd tr wf
 | 3,_,_=>exact aE4 sh nd tr wf
 | 4,_,_=>exact aE5 sh nd tr wf
 | 5,_,_=>exact aE6 sh nd tr wf
 | 6,_,_=>exact aE7 sh nd tr wf
 | 7,_,_=>exact aE8 sh nd tr wf
 | 8,_,_=>exact aE9 sh nd tr wf
 | k+9,_,h=>omega
theorem lS(wf:Nat→WKS)(k:Nat):zY wf (k+1)=zY wf k++ [some (.abs (.worker (wf k)) [])]:=by
 unfold zY;rw [List.range_succ,List.map_append];rfl
theorem aFa(sh th nd tr:Int)(m:Nat)(ln:Nat→Nat)(f g:Nat→Nat→Int)(K:AVal→aC Ob→Prop)(hm:m≤1000000)(hK:(mI sh th nd tr m ln f g).run K):aB8 sh th nd tr m ln f g (gO sh th nd m ln f g) (dA (obI tbl) 0 K):=by
 refine⟨trivial,aM (fun e0=>?_) fun e0=>⟨⟨hm,⟨rfl⟩⟩,aM (fun e1=>?_) fun e1=>?_⟩⟩
 ·have hc:gnC sh th nd tr m ln f g=wrE sh th nd tr:=by unfold gnC;rw [e0];rfl
  have e0':ieq (wrE sh th nd tr) 0=false:=by simpa using e0
  exact⟨⟨_,_,aIF _ _ _,yX sh th nd tr m ln f g K hK _ hc e0'⟩⟩
 ·have hc:gnC sh th nd tr m ln f g=6:=by
   have e1:lgB th m ln=true:=e1;unfold gnC;rw [e0,e1];rfl
  exact⟨⟨_,_,aIF _ _ _,yX sh th nd tr m ln f g K hK _ hc rfl⟩⟩
 have e0':ieq (wrE sh th nd tr) 0=true:=by simpa using e0
 have e1:lgB th m ln=false:=e1;obtain⟨hs1,hs2,⟨ht1,ht2,hn1,hn2⟩,hr1,hr2⟩:=SL e0';obtain⟨hln,hmt⟩:=PS.1 e1;have hrb:eH th nd=true:=vH.2 ⟨ht1,ht2,hn1,hn2⟩
 have hbad: ∀j:Nat,j<m→eR sh (ln j) (f j) (g j)=false→gnC sh th nd tr m ln f g=1:=by
  intro j hj hf
  have:(List.range m).all (fun j=>eR sh (ln j) (f j) (g j))=false:=by
   cases h:(List.range m).all (fun j=>eR sh (ln j) (f j) (g j))with
   | false=>rfl
   | true=>
     have:=List.all_eq_true.1 h j (List.mem_range.2 hj);rw [hf]at this;cases this
  unfold gnC;rw [e0,e1,this];rfl
 have hgood:(∀j:Nat,j<m→eR sh (ln j) (f j) (g j)=true)→gnC sh th nd tr m ln f g=0:=by
  intro h;have:(List.range m).all (fun j=>eR sh (ln j) (f j) (g j))=true:=List.all_eq_true.2 fun j hj=>h j (List.mem_range.1 hj);unfold gnC;rw [e0,e1,this];rfl
 have hwt: ∀u:Nat,ilt (u:Int) (m:Int)=true→gO sh th nd m ln f g u=XQ th nd (u:Int) (ofR sh (ln u) (f u) (g u)):=fun u h=>by unfold gO;rw [h];rfl
 have hwf: ∀u:Nat,ilt (u:Int) (m:Int)=false→gO sh th nd m ln f g u=XQ th nd (u:Int) []:=fun u h=>by unfold gO;rw [h];rfl
 have bd: ∀k:Nat,1≤k→k≤7→B7 k sh th nd tr m ln f g (gO sh th nd m ln f g) (dA (obI tbl) 0 K):=by
  rintro k h1 h7 ⟨hu,hg⟩;refine aM (fun e=>aM (fun e2=>?_) (fun e2=>?_)) (fun e=>?_)
  ·have e2':=e2;rw [bG,dT']at e e2;have hum:k<m:=by omega
   refine⟨⟨by omega,by omega⟩,⟨⟨by have:=hln k hum;show ln k≤1000000;omega,⟨rfl⟩⟩,trivial⟩,aM (fun e3=>?_) (fun e3=>?_)⟩
   ·have e3:(!ieq (ofC sh (ln k) (f k) (g k)) 0)=true:=e3;obtain⟨q1,q2⟩:=Z4 (by simpa using e3)
    have:=yX sh th nd tr m ln f g K hK 1 (hbad k hum q1) rfl;rw [←q2]at this;exact⟨⟨_,_,aIF _ _ _,this⟩⟩
   ·have e3:(!ieq (ofC sh (ln k) (f k) (g k)) 0)=false:=e3;have q:=Z3 (sh:=sh) (m:=ln k) (f:=f k) (g:=g k) (by simpa using e3)
    have hw:=hwt k e2';have hW:W ((k:Int)+1)=((k+1:Nat):Int):=(cW ⟨by omega,by omega⟩).trans (by omega)
    refine⟨⟨rfl,trivial⟩,by omega,aN (H:=HNk (k+1) sh th nd tr m ln f g (gO sh th nd m ln f g)) () (by first | (simp only [HNk,lS,hw,hW];done) | (simp only [HNk,lS,hw,hW]<;>rfl)) ⟨⟨by omega,fun j h1 h2=>by
     by_cases hj:j=k
     ·subst hj;exact q
     ·exact hg j (by omega) h2⟩,by show 9 - (k+1)<9 - k;omega⟩⟩
  ·have hw:=hwf k e2;rw [bG,dT']at e;rw [bG,dF']at e2;have hW:W ((k:Int)+1)=((k+1:Nat):Int):=(cW ⟨by omega,by omega⟩).trans (by omega)
   refine⟨⟨trivial,trivial⟩,by omega,aN (H:=HNk (k+1) sh th nd tr m ln f g (gO sh th nd m ln f g)) () (by first | (simp only [HNk,lS,hw,hW];done) | (simp only [HNk,lS,hw,hW]<;>rfl)) ⟨⟨by omega,fun j h1 h2=>hg j (by omega) h2⟩,by show 9 - (k+1)<9 - k;omega⟩⟩
  ·rw [bG,dF']at e;have hth:th=k:=by omega
   subst hth;rw [hrb];refine⟨trivial,aM (fun e3=>by cases e3) (fun _=>⟨⟨⟨by omega,by omega⟩,by omega,by omega⟩,aM (fun e4=>?_) (fun _=>⟨⟨⟨⟨by omega,by omega⟩,by omega,by omega⟩,trivial⟩,⟨by omega,rfl,by omega⟩,?_⟩)⟩)⟩
   ·rw [bG,dT']at e4;have e4:(2*nd+5*(k:Int)+6:Int)<0:=e4;omega
   ·have:=HU sh k nd tr m ln f g K hK (hgood fun j hj=>hg j (by omega) hj)
    exact⟨⟨_,_,aE1 sh nd tr (gO sh k nd m ln f g) h1 (by omega),this⟩⟩
 refine⟨⟨trivial,trivial⟩,aN (H:=HN0 sh th nd tr m ln f g (gO sh th nd m ln f g)) () rfl ⟨⟨by omega,fun j h1 _=>by omega⟩,trivial⟩,?_,?_,?_,?_,?_,?_,?_,?_,?_,trivial⟩
 ·rintro x ⟨hu,hg⟩;refine aM (fun e=>aM (fun e2=>?_) (fun e2=>?_)) (fun e=>?_)
  ·have e2':=e2;rw [bG,dT']at e e2;have hum:0<m:=by omega
   refine⟨⟨by omega,by omega⟩,⟨⟨by have:=hln 0 hum;show ln 0≤1000000;omega,⟨rfl⟩⟩,trivial⟩,aM (fun e3=>?_) (fun e3=>?_)⟩
   ·have e3:(!ieq (ofC sh (ln 0) (f 0) (g 0)) 0)=true:=e3;obtain⟨q1,q2⟩:=Z4 (by simpa using e3)
    have:=yX sh th nd tr m ln f g K hK 1 (hbad 0 hum q1) rfl;rw [←q2]at this;exact⟨⟨_,_,aIF _ _ _,this⟩⟩
   ·have e3:(!ieq (ofC sh (ln 0) (f 0) (g 0)) 0)=false:=e3;have q:=Z3 (sh:=sh) (m:=ln 0) (f:=f 0) (g:=g 0) (by simpa using e3)
    have hw:=hwt 0 e2'
    refine⟨⟨rfl,trivial⟩,by decide,aN (H:=HNk 1 sh th nd tr m ln f g (gO sh th nd m ln f g)) () (by simp only [HNk,lS,hw]<;>rfl) ⟨⟨by omega,fun j h1 h2=>by
     by_cases hj:j=0
     ·subst hj;exact q
     ·exact hg j (by omega) h2⟩,by show(8:Nat)<9;decide⟩⟩
  ·have hw:=hwf 0 e2;rw [bG,dT']at e;rw [bG,dF']at e2;refine⟨⟨trivial,trivial⟩,by decide,aN (H:=HNk 1 sh th nd tr m ln f g (gO sh th nd m ln f g)) () (by simp only [HNk,lS,hw]<;>rfl) ⟨⟨by omega,fun j h1 h2=>hg j (by omega) h2⟩,by show(8:Nat)<9;decide⟩⟩
  ·rw [bG,dF']at e;omega
 ·exact fun x=>bd 1 (by decide) (by decide)
 ·exact fun x=>bd 2 (by decide) (by decide)
 ·exact fun x=>bd 3 (by decide) (by decide)
 ·exact fun x=>bd 4 (by decide) (by decide)
 ·exact fun x=>bd 5 (by decide) (by decide)
 ·exact fun x=>bd 6 (by decide) (by decide)
 ·exact fun x=>bd 7 (by decide) (by decide)
 ·rintro x ⟨hu,hg⟩;refine aM (fun e=>?_) (fun e=>?_)
  ·rw [bG,dT']at e;omega
  ·rw [bG,dF']at e;have hth:th=8:=by omega
   subst hth;rw [hrb];refine⟨trivial,aM (fun e3=>by cases e3) (fun _=>⟨⟨⟨by omega,by omega⟩,by omega,by omega⟩,aM (fun e4=>?_) (fun _=>⟨⟨⟨⟨by omega,by omega⟩,by omega,by omega⟩,trivial⟩,⟨by omega,rfl,by omega⟩,?_⟩)⟩)⟩
   ·rw [bG,dT']at e4;have e4:(2*nd+5*8+6:Int)<0:=e4;omega
   ·have:=HU sh 8 nd tr m ln f g K hK (hgood fun j hj=>hg j (by omega) hj)
    exact⟨⟨_,_,aE1 sh nd tr (gO sh 8 nd m ln f g) (k:=8) (by decide) (by decide),this⟩⟩
def gnS:aH Ob:=fun args h=>match args,h with
 | [.agg [.int .i64 sh,.int .i64 th,.int .i64 nd,.int .i64 tr],.view m 1 vr],[]=>some (.pre (m≤1000000∧pF vr) (mI sh th nd tr m (vL vr) (vK vr) (vY vr)))
 | _,_=>none
theorem uM:sT' 25 gnS:=by
 intro args h o ho K hK;unfold gnS at ho;split at ho<;>cases ho
 rename_i sh th nd tr m vr;obtain⟨⟨hm,⟨hr⟩⟩,hK⟩:=hK;rw [hr];refine aIz ?_;exact O3 sh th nd tr m (vL vr) (vK vr) (vY vr) _ _ (aFa sh th nd tr m (vL vr) (vK vr) (vY vr) K hm hK)
noncomputable def EU2:=EU1.addS 25 gnS uM
theorem aT.lend{h:aC Ob}{l i:Nat}{ws:List WKS}(hl:aJ h l=some (.abs (.wrow ws) []))(hi:i<ws.length):aT (obI tbl) h (h.set l (some (.abs (.whole ws i) [h.length]))++ [some (.abs (.worker (bC ws i)) [])]):=by
 intro V hR w h1 hf;obtain⟨V',x,b,k,cs,T,a1,a2,a3,_⟩:=h1.lend RKW (ws:=ws) hf hl (DQ hi);exact⟨V',a1,by simpa using a2,by simp,a3⟩
theorem cT{ws:List WKS}{i:Nat}(hi:i<ws.length):dF ws i (bC ws i)=ws:=by
 unfold dF bC;apply List.ext_getElem
 ·simp
 ·intro j h1 h2;rw [List.getElem_set];split
  ·rename_i e;subst e;rw [gD',gE' hi];rfl
  ·rfl
abbrev w2w(x:EGS):Option (aG Ob):=cE' [.I x.sh,.I x.th,.I x.nd,.I x.tr,.ptr 1 0,.ptr 3 0,.slice 4 0 x.ws.length 1,.I x.k]
abbrev w2x(w:WKS):List AVal:=[.ptr 6 0,.tslice 7 0 w.tk.length 3,.I w.en,.raw (.pointer none),.slice 8 0 w.tl.length 1,.slice 9 0 w.sl.length 1]
abbrev eg0(x:EGS)(i:Nat)(w:WKS):aC Ob:=[w2w x,aZ 2 x.s,bA x.s,some (.abs (.hist x.h) []),some (.abs (.whole x.ws i) [5]),cE' (w2x w),some (.abs (.store w.t w.n w.st) []),some (.tab [some .i64,some .i64,some .i64] w.tk),iI' w.tl,iI' w.sl]
abbrev aEG(x:EGS)(i:Nat)(w:WKS):aC Ob:=[w2w x,aZ 2 x.s,bA x.s,some (.abs (.hist x.h) []),some (.abs (.whole x.ws i) [5]),cE' (w2x w),gV 10 w.t w.n w.st,some (.tab [some .i64,some .i64,some .i64] w.tk),iI' w.tl,iI' w.sl,gW w.st]
theorem uC{x:EGS}{i:Nat}(hi:i<x.ws.length)(hb:(bC x.ws i).b =false):aT (obI tbl) (egH x) (eg0 x i (bC x.ws i)):=by
 refine(aT.unpack (.engine x) 0 0 (egG x) [] rfl rfl rfl rfl).trans ((aT.lend (l:=4) (i:=i) (ws:=x.ws) rfl hi).trans ((aT.unpack (.worker (bC x.ws i)) 5 0 (mF (bC x.ws i)) [] rfl (congrArg (Prod.mk 0) (oQ hb)) rfl rfl).trans (aJd ?_)))
 kernel_rfl
theorem J3{x:EGS}{i:Nat}(hi:i<x.ws.length)(hb:(bC x.ws i).b =false):aT (obI tbl) (egH x) (aEG x i (bC x.ws i)):=by
 refine(uC hi hb).trans ((aT.unpack (.store (bC x.ws i).t (bC x.ws i).n (bC x.ws i).st) 6 0 (dM (bC x.ws i).t (bC x.ws i).n (bC x.ws i).st) [] rfl rfl rfl rfl).trans (aJd ?_))
 kernel_rfl
abbrev w2y(w:WKS):List AVal:=[.ptr 6 0,.tslice 7 0 w.tk.length 3,.I w.en,.ptr 8 0,.slice 9 0 w.tl.length 1,.slice 10 0 w.sl.length 1]
abbrev eg1(x:EGS)(i:Nat)(w:WKS):aC Ob:=[w2w x,aZ 2 x.s,bA x.s,some (.abs (.hist x.h) []),some (.abs (.whole x.ws i) [5]),cE' (w2y w),some (.abs (.store w.t w.n w.st) []),some (.tab [some .i64,some .i64,some .i64] w.tk),some (.abs (.doer w.t w.n w.d) [6]),iI' w.tl,iI' w.sl]
abbrev aEH(x:EGS)(i:Nat)(w:WKS):aC Ob:=[w2w x,aZ 2 x.s,bA x.s,some (.abs (.hist x.h) []),some (.abs (.whole x.ws i) [5]),cE' (w2y w),gV 11 w.t w.n w.st,some (.tab [some .i64,some .i64,some .i64] w.tk),some (.abs (.doer w.t w.n w.d) [6]),iI' w.tl,iI' w.sl,gW w.st]
theorem uD{x:EGS}{i:Nat}(hi:i<x.ws.length)(hb:(bC x.ws i).b =true):aT (obI tbl) (egH x) (eg1 x i (bC x.ws i)):=by
 refine(aT.unpack (.engine x) 0 0 (egG x) [] rfl rfl rfl rfl).trans ((aT.lend (l:=4) (i:=i) (ws:=x.ws) rfl hi).trans ((aT.unpack (.worker (bC x.ws i)) 5 0 (pK (bC x.ws i)) [] rfl (congrArg (Prod.mk 0) (v7 hb)) rfl rfl).trans (aJd ?_)))
 kernel_rfl
theorem J4{x:EGS}{i:Nat}(hi:i<x.ws.length)(hb:(bC x.ws i).b =true):aT (obI tbl) (egH x) (aEH x i (bC x.ws i)):=by
 refine(uD hi hb).trans ((aT.unpack (.store (bC x.ws i).t (bC x.ws i).n (bC x.ws i).st) 6 0 (dM (bC x.ws i).t (bC x.ws i).n (bC x.ws i).st) [] rfl rfl rfl rfl).trans (aJd ?_))
 kernel_rfl
abbrev w2z(x:EGS):Option (aG Ob):=cE' [.I x.sh,.I x.th,.I x.nd,.I x.tr,.ptr 1 0,.ptr 3 0,.slice 4 0 x.ws.length 1,.I x.k]
abbrev aEC(x:EGS)(i:Nat)(w:WKS)(xs:List Int):aC Ob:=[w2z x,aZ 2 x.s,bA x.s,some (.abs (.hist x.h) []),some (.abs (.whole x.ws i) [5]),cE' [.ptr 6 0,.tslice 7 0 w.tk.length 3,.I w.en,.raw (.pointer none),.slice 8 0 w.tl.length 1,.slice 9 0 w.sl.length 1],some (.abs (.store w.t w.n w.st) []),some (.tab [some .i64,some .i64,some .i64] w.tk),iI' w.tl,iI' w.sl,iI' xs]
abbrev w30(x:EGS):Option (aG Ob):=cE' [.I x.sh,.I x.th,.I x.nd,.I x.tr,.ptr 1 0,.ptr 3 0,.slice 4 0 x.ws.length 1,.I x.k]
theorem J1(x:EGS)(i:Nat)(w:WKS)(xs:List Int)(hi:i<x.ws.length)(hw:dF x.ws i w=x.ws)(hb:w.b=false):aF (obI tbl) 1 (.slice 10 0 xs.length 1) (aEC x i w xs) (.slice 1 0 xs.length 1) [some (.abs (.engine x) []),iI' xs]:=by
 exact((aF.move 6 (of_decide_eq_true rfl)).trans ((aF.move 7 (of_decide_eq_true rfl)).trans ((aF.move 8 (of_decide_eq_true rfl)).trans ((aF.move 9 (of_decide_eq_true rfl)).trans ((aIt (v2:=.slice 10 0 xs.length 1) (g2:=aQ [w30 x,aZ 2 x.s,bA x.s,some (.abs (.hist x.h) []),some (.abs (.whole x.ws i) [5]),some (.abs (.worker w) []),none,none,none,none,iI' xs] 5 0 (mF w) []) (by kernel_rfl) (by kernel_rfl)).trans ((aF.pack [w30 x,aZ 2 x.s,bA x.s,some (.abs (.hist x.h) []),some (.abs (.whole x.ws i) [5]),some (.abs (.worker w) []),none,none,none,none,iI' xs] (.worker w) 5 0 (mF w) [] rfl rfl (congrArg (Prod.mk 0) (oQ hb)) (by kernel_rfl)).trans ((aF.back (l:=4) (k:=5) (i:=i) (ws:=x.ws) (w:=w) rfl rfl (by decide) hi).trans ((aIt (v2:=.slice 10 0 xs.length 1) (g2:=[w30 x,aZ 2 x.s,bA x.s,some (.abs (.hist x.h) []),some (.abs (.wrow x.ws) []),none,none,none,none,none,iI' xs]) rfl (by rw [hw];rfl)).trans ((aF.move 1 (of_decide_eq_true rfl)).trans ((aF.move 2 (of_decide_eq_true rfl)).trans ((aF.move 3 (of_decide_eq_true rfl)).trans ((aF.move 4 (of_decide_eq_true rfl)).trans ((aIt (v2:=.slice 10 0 xs.length 1) (g2:=aQ [some (.abs (.engine x) []),none,none,none,none,none,none,none,none,none,iI' xs] 0 0 (egG x) []) (by kernel_rfl) (by kernel_rfl)).trans ((aF.pack [some (.abs (.engine x) []),none,none,none,none,none,none,none,none,none,iI' xs] (.engine x) 0 0 (egG x) [] rfl rfl rfl (by kernel_rfl)).trans (aF.pick [0,10] rfl)))))))))))))))
abbrev aEE(x:EGS)(i:Nat)(w:WKS)(xs:List Int):aC Ob:=[w2z x,aZ 2 x.s,bA x.s,some (.abs (.hist x.h) []),some (.abs (.whole x.ws i) [5]),cE' [.ptr 6 0,.tslice 8 0 w.tk.length 3,.I w.en,.raw (.pointer none),.slice 9 0 w.tl.length 1,.slice 10 0 w.sl.length 1],gV 7 w.t w.n w.st,gW w.st,some (.tab [some .i64,some .i64,some .i64] w.tk),iI' w.tl,iI' w.sl,iI' xs]
abbrev w31(w:WKS):List AVal:=[.ptr 6 0,.tslice 8 0 w.tk.length 3,.I w.en,.raw (.pointer none),.slice 9 0 w.tl.length 1,.slice 10 0 w.sl.length 1]
abbrev w32(x:EGS)(xs:List Int):aC Ob:=[some (.abs (.engine x) []),none,none,none,none,none,none,none,none,none,none,iI' xs]
theorem aBl(x:EGS)(i:Nat)(w:WKS)(xs:List Int)(hi:i<x.ws.length)(hw:dF x.ws i w=x.ws)(hb:w.b=false):aF (obI tbl) 1 (.slice 11 0 xs.length 1) (aEE x i w xs) (.slice 1 0 xs.length 1) [some (.abs (.engine x) []),iI' xs]:=by
 exact((aF.move 7 (of_decide_eq_true rfl)).trans ((aIt (v2:=.slice 11 0 xs.length 1) (g2:=aQ [w30 x,aZ 2 x.s,bA x.s,some (.abs (.hist x.h) []),some (.abs (.whole x.ws i) [5]),cE' (w31 w),some (.abs (.store w.t w.n w.st) []),none,some (.tab cK3 w.tk),iI' w.tl,iI' w.sl,iI' xs] 6 0 (dM w.t w.n w.st) []) (by kernel_rfl) (by kernel_rfl)).trans ((aF.pack [w30 x,aZ 2 x.s,bA x.s,some (.abs (.hist x.h) []),some (.abs (.whole x.ws i) [5]),cE' (w31 w),some (.abs (.store w.t w.n w.st) []),none,some (.tab cK3 w.tk),iI' w.tl,iI' w.sl,iI' xs] (.store w.t w.n w.st) 6 0 (dM w.t w.n w.st) [] rfl rfl rfl (by kernel_rfl)).trans ((aF.move 6 (of_decide_eq_true rfl)).trans ((aF.move 8 (of_decide_eq_true rfl)).trans ((aF.move 9 (of_decide_eq_true rfl)).trans ((aF.move 10 (of_decide_eq_true rfl)).trans ((aIt (v2:=.slice 11 0 xs.length 1) (g2:=aQ [w30 x,aZ 2 x.s,bA x.s,some (.abs (.hist x.h) []),some (.abs (.whole x.ws i) [5]),some (.abs (.worker w) []),none,none,none,none,none,iI' xs] 5 0 (mF w) []) (by kernel_rfl) (by kernel_rfl)).trans ((aF.pack [w30 x,aZ 2 x.s,bA x.s,some (.abs (.hist x.h) []),some (.abs (.whole x.ws i) [5]),some (.abs (.worker w) []),none,none,none,none,none,iI' xs] (.worker w) 5 0 (mF w) [] rfl rfl (congrArg (Prod.mk 0) (oQ hb)) (by kernel_rfl)).trans ((aF.back (l:=4) (k:=5) (i:=i) (ws:=x.ws) (w:=w) rfl rfl (by decide) hi).trans ((aIt (v2:=.slice 11 0 xs.length 1) (g2:=[w30 x,aZ 2 x.s,bA x.s,some (.abs (.hist x.h) []),some (.abs (.wrow x.ws) []),none,none,none,none,none,none,iI' xs]) rfl (by rw [hw];rfl)).trans ((aF.move 1 (of_decide_eq_true rfl)).trans ((aF.move 2 (of_decide_eq_true rfl)).trans ((aF.move 3 (of_decide_eq_true rfl)).trans ((aF.move 4 (of_decide_eq_true rfl)).trans ((aIt (v2:=.slice 11 0 xs.length 1) (g2:=aQ (w32 x xs) 0 0 (egG x) []) (by kernel_rfl) (by kernel_rfl)).trans ((aF.pack (w32 x xs) (.engine x) 0 0 (egG x) [] rfl rfl rfl (by kernel_rfl)).trans (aF.pick [0,11] rfl))))))))))))))))))
abbrev aED(x:EGS)(i:Nat)(w:WKS)(xs:List Int):aC Ob:=[w2z x,aZ 2 x.s,bA x.s,some (.abs (.hist x.h) []),some (.abs (.whole x.ws i) [5]),cE' [.ptr 6 0,.tslice 7 0 w.tk.length 3,.I w.en,.ptr 8 0,.slice 9 0 w.tl.length 1,.slice 10 0 w.sl.length 1],some (.abs (.store w.t w.n w.st) []),some (.tab [some .i64,some .i64,some .i64] w.tk),some (.abs (.doer w.t w.n w.d) [6]),iI' w.tl,iI' w.sl,iI' xs]
abbrev w33(x:EGS):Option (aG Ob):=cE' [.I x.sh,.I x.th,.I x.nd,.I x.tr,.ptr 1 0,.ptr 3 0,.slice 4 0 x.ws.length 1,.I x.k]
abbrev w36(x:EGS)(xs:List Int):aC Ob:=[some (.abs (.engine x) []),none,none,none,none,none,none,none,none,none,none,iI' xs]
theorem J2(x:EGS)(i:Nat)(w:WKS)(xs:List Int)(hi:i<x.ws.length)(hw:dF x.ws i w=x.ws)(hb:w.b=true):aF (obI tbl) 1 (.slice 11 0 xs.length 1) (aED x i w xs) (.slice 1 0 xs.length 1) [some (.abs (.engine x) []),iI' xs]:=by
 exact((aF.move 6 (of_decide_eq_true rfl)).trans ((aF.move 7 (of_decide_eq_true rfl)).trans ((aF.move 8 (of_decide_eq_true rfl)).trans ((aF.move 9 (of_decide_eq_true rfl)).trans ((aF.move 10 (of_decide_eq_true rfl)).trans ((aIt (v2:=.slice 11 0 xs.length 1) (g2:=aQ [w33 x,aZ 2 x.s,bA x.s,some (.abs (.hist x.h) []),some (.abs (.whole x.ws i) [5]),some (.abs (.worker w) []),none,none,none,none,none,iI' xs] 5 0 (pK w) []) (by kernel_rfl) (by kernel_rfl)).trans ((aF.pack [w33 x,aZ 2 x.s,bA x.s,some (.abs (.hist x.h) []),some (.abs (.whole x.ws i) [5]),some (.abs (.worker w) []),none,none,none,none,none,iI' xs] (.worker w) 5 0 (pK w) [] rfl rfl (congrArg (Prod.mk 0) (v7 hb)) (by kernel_rfl)).trans ((aF.back (l:=4) (k:=5) (i:=i) (ws:=x.ws) (w:=w) rfl rfl (by decide) hi).trans ((aIt (v2:=.slice 11 0 xs.length 1) (g2:=[w33 x,aZ 2 x.s,bA x.s,some (.abs (.hist x.h) []),some (.abs (.wrow x.ws) []),none,none,none,none,none,none,iI' xs]) rfl (by rw [hw];rfl)).trans ((aF.move 1 (of_decide_eq_true rfl)).trans ((aF.move 2 (of_decide_eq_true rfl)).trans ((aF.move 3 (of_decide_eq_true rfl)).trans ((aF.move 4 (of_decide_eq_true rfl)).trans ((aIt (v2:=.slice 11 0 xs.length 1) (g2:=aQ (w36 x xs) 0 0 (egG x) []) (by kernel_rfl) (by kernel_rfl)).trans ((aF.pack (w36 x xs) (.engine x) 0 0 (egG x) [] rfl rfl rfl (by kernel_rfl)).trans (aF.pick [0,11] rfl))))))))))))))))
abbrev aEF(x:EGS)(i:Nat)(w:WKS)(xs:List Int):aC Ob:=[w2z x,aZ 2 x.s,bA x.s,some (.abs (.hist x.h) []),some (.abs (.whole x.ws i) [5]),cE' [.ptr 6 0,.tslice 8 0 w.tk.length 3,.I w.en,.ptr 9 0,.slice 10 0 w.tl.length 1,.slice 11 0 w.sl.length 1],gV 7 w.t w.n w.st,gW w.st,some (.tab [some .i64,some .i64,some .i64] w.tk),some (.abs (.doer w.t w.n w.d) [6]),iI' w.tl,iI' w.sl,iI' xs]
abbrev w34(w:WKS):List AVal:=[.ptr 6 0,.tslice 8 0 w.tk.length 3,.I w.en,.ptr 9 0,.slice 10 0 w.tl.length 1,.slice 11 0 w.sl.length 1]
abbrev w35(x:EGS)(xs:List Int):aC Ob:=[some (.abs (.engine x) []),none,none,none,none,none,none,none,none,none,none,none,iI' xs]
theorem aBm(x:EGS)(i:Nat)(w:WKS)(xs:List Int)(hi:i<x.ws.length)(hw:dF x.ws i w=x.ws)(hb:w.b=true):aF (obI tbl) 1 (.slice 12 0 xs.length 1) (aEF x i w xs) (.slice 1 0 xs.length 1) [some (.abs (.engine x) []),iI' xs]:=by
 exact((aF.move 7 (of_decide_eq_true rfl)).trans ((aIt (v2:=.slice 12 0 xs.length 1) (g2:=aQ [w33 x,aZ 2 x.s,bA x.s,some (.abs (.hist x.h) []),some (.abs (.whole x.ws i) [5]),cE' (w34 w),some (.abs (.store w.t w.n w.st) []),none,some (.tab cK3 w.tk),some (.abs (.doer w.t w.n w.d) [6]),iI' w.tl,iI' w.sl,iI' xs] 6 0 (dM w.t w.n w.st) []) (by kernel_rfl) (by kernel_rfl)).trans ((aF.pack [w33 x,aZ 2 x.s,bA x.s,some (.abs (.hist x.h) []),some (.abs (.whole x.ws i) [5]),cE' (w34 w),some (.abs (.store w.t w.n w.st) []),none,some (.tab cK3 w.tk),some (.abs (.doer w.t w.n w.d) [6]),iI' w.tl,iI' w.sl,iI' xs] (.store w.t w.n w.st) 6 0 (dM w.t w.n w.st) [] rfl rfl rfl (by kernel_rfl)).trans ((aF.move 6 (of_decide_eq_true rfl)).trans ((aF.move 8 (of_decide_eq_true rfl)).trans ((aF.move 9 (of_decide_eq_true rfl)).trans ((aF.move 10 (of_decide_eq_true rfl)).trans ((aF.move 11 (of_decide_eq_true rfl)).trans ((aIt (v2:=.slice 12 0 xs.length 1) (g2:=aQ [w33 x,aZ 2 x.s,bA x.s,some (.abs (.hist x.h) []),some (.abs (.whole x.ws i) [5]),some (.abs (.worker w) []),none,none,none,none,none,none,iI' xs] 5 0 (pK w) []) (by kernel_rfl) (by kernel_rfl)).trans ((aF.pack [w33 x,aZ 2 x.s,bA x.s,some (.abs (.hist x.h) []),some (.abs (.whole x.ws i) [5]),some (.abs (.worker w) []),none,none,none,none,none,none,iI' xs] (.worker w) 5 0 (pK w) [] rfl rfl (congrArg (Prod.mk 0) (v7 hb)) (by kernel_rfl)).trans ((aF.back (l:=4) (k:=5) (i:=i) (ws:=x.ws) (w:=w) rfl rfl (by decide) hi).trans ((aIt (v2:=.slice 12 0 xs.length 1) (g2:=[w33 x,aZ 2 x.s,bA x.s,some (.abs (.hist x.h) []),some (.abs (.wrow x.ws) []),none,none,none,none,none,none,none,iI' xs]) rfl (by rw [hw];rfl)).trans ((aF.move 1 (of_decide_eq_true rfl)).trans ((aF.move 2 (of_decide_eq_true rfl)).trans ((aF.move 3 (of_decide_eq_true rfl)).trans ((aF.move 4 (of_decide_eq_true rfl)).trans ((aIt (v2:=.slice 12 0 xs.length 1) (g2:=aQ (w35 x xs) 0 0 (egG x) []) (by kernel_rfl) (by kernel_rfl)).trans ((aF.pack (w35 x xs) (.engine x) 0 0 (egG x) [] rfl rfl rfl (by kernel_rfl)).trans (aF.pick [0,12] rfl)))))))))))))))))))
abbrev w37(x:EGS):Option (aG Ob):=cE' [.I (EGS.s x).1,.I (EGS.s x).2,.slice 2 0 (List.length (EGS.s x).3) 1,.I (EGS.s x).4,.I (EGS.s x).5,.I (EGS.s x).6,.int .u64 (EGS.s x).7,.int .u64 (EGS.s x).8,.bool (EGS.s x).9]
abbrev w38(x:EGS):Option (aG Ob):=cE' [.I x.1,.I x.2,.I x.3,.I x.4,.ptr 1 0,.ptr 3 0,.slice 4 0 x.7.length 1,.I x.8]
abbrev w3a(w:WKS):List AVal:=[.ptr 6 0,.tslice 7 0 w.4.length 3,.I w.5,.N,.slice 8 0 w.8.length 1,.slice 9 0 w.9.length 1]
def GZ(x:EGS)(i:Nat)(w:WKS)(th:Int)(K:AVal→aC Ob→Prop):Prop:=bif ilt th 0 then K (.raw (Value.slice none 0 0)) [w38 x,w37 x,some (.ints (some .u64) (EGS.s x).3),some (.abs (.hist x.6) []),some (.abs (.whole x.7 i) [5]),cE' (w3a w),some (.abs (.store w.1 w.2 w.3) []),some (.tab cK3 w.4),iI' w.8,iI' w.9]else bif ile (↑x.7.length:Int) th then K (.raw (Value.slice none 0 0)) [w38 x,w37 x,some (.ints (some .u64) (EGS.s x).3),some (.abs (.hist x.6) []),some (.abs (.whole x.7 i) [5]),cE' (w3a w),some (.abs (.store w.1 w.2 w.3) []),some (.tab cK3 w.4),iI' w.8,iI' w.9]else((0:Int)≤th∧th<(↑x.7.length:Int))∧(i<x.7.length∧0+Int.toNat th*(1:Nat)=i)∧(lE' w.8∧w.8.length≤(4294967296:Nat))∧K (.slice 10 0 w.8.length 1) [w38 x,w37 x,some (.ints (some .u64) (EGS.s x).3),some (.abs (.hist x.6) []),some (.abs (.whole x.7 i) [5]),cE' (w3a w),some (.abs (.store w.1 w.2 w.3) []),some (.tab cK3 w.4),iI' w.8,iI' w.9,iI' w.8]
theorem G0(x:EGS)(i:Nat)(w:WKS)(th:Int)(K:AVal→aC Ob→Prop)(h:GZ x i w th K):cT' 32 [.ptr 0 0,.I th] (eg0 x i w) (f9 1 K):=by
 exact cM' (E:=EU2) (by kernel_rfl) h
abbrev w39(w:WKS):List AVal:=[.ptr 6 0,.tslice 7 0 w.4.length 3,.I w.5,.ptr 8 0,.slice 9 0 w.8.length 1,.slice 10 0 w.9.length 1]
def G1(x:EGS)(i:Nat)(w:WKS)(th:Int)(K:AVal→aC Ob→Prop):Prop:=bif ilt th 0 then K (.raw (Value.slice none 0 0)) [w38 x,w37 x,some (.ints (some .u64) (EGS.s x).3),some (.abs (.hist x.6) []),some (.abs (.whole x.7 i) [5]),cE' (w39 w),some (.abs (.store w.1 w.2 w.3) []),some (.tab cK3 w.4),some (.abs (.doer w.1 w.2 w.7) [6]),iI' w.8,iI' w.9]else bif ile (↑x.7.length:Int) th then K (.raw (Value.slice none 0 0)) [w38 x,w37 x,some (.ints (some .u64) (EGS.s x).3),some (.abs (.hist x.6) []),some (.abs (.whole x.7 i) [5]),cE' (w39 w),some (.abs (.store w.1 w.2 w.3) []),some (.tab cK3 w.4),some (.abs (.doer w.1 w.2 w.7) [6]),iI' w.8,iI' w.9]else((0:Int)≤th∧th<(↑x.7.length:Int))∧(i<x.7.length∧0+Int.toNat th*(1:Nat)=i)∧(lE' w.8∧w.8.length≤(4294967296:Nat))∧K (.slice 11 0 w.8.length 1) [w38 x,w37 x,some (.ints (some .u64) (EGS.s x).3),some (.abs (.hist x.6) []),some (.abs (.whole x.7 i) [5]),cE' (w39 w),some (.abs (.store w.1 w.2 w.3) []),some (.tab cK3 w.4),some (.abs (.doer w.1 w.2 w.7) [6]),iI' w.8,iI' w.9,iI' w.8]
theorem G2(x:EGS)(i:Nat)(w:WKS)(th:Int)(K:AVal→aC Ob→Prop)(h:G1 x i w th K):cT' 32 [.ptr 0 0,.I th] (eg1 x i w) (f9 1 K):=by
 exact cM' (E:=EU2) (by kernel_rfl) h
def GU(x:EGS)(i:Nat)(w:WKS)(th:Int)(K:AVal→aC Ob→Prop):Prop:=bif ilt th 0 then K (.raw (Value.slice none 0 0)) [w38 x,w37 x,some (.ints (some .u64) (EGS.s x).3),some (.abs (.hist x.6) []),some (.abs (.whole x.7 i) [5]),cE' (w3a w),some (.abs (.store w.1 w.2 w.3) []),some (.tab cK3 w.4),iI' w.8,iI' w.9]else bif ile (↑x.7.length:Int) th then K (.raw (Value.slice none 0 0)) [w38 x,w37 x,some (.ints (some .u64) (EGS.s x).3),some (.abs (.hist x.6) []),some (.abs (.whole x.7 i) [5]),cE' (w3a w),some (.abs (.store w.1 w.2 w.3) []),some (.tab cK3 w.4),iI' w.8,iI' w.9]else((0:Int)≤th∧th<(↑x.7.length:Int))∧(i<x.7.length∧0+Int.toNat th*(1:Nat)=i)∧(lE' w.9∧w.9.length≤(4294967296:Nat))∧K (.slice 10 0 w.9.length 1) [w38 x,w37 x,some (.ints (some .u64) (EGS.s x).3),some (.abs (.hist x.6) []),some (.abs (.whole x.7 i) [5]),cE' (w3a w),some (.abs (.store w.1 w.2 w.3) []),some (.tab cK3 w.4),iI' w.8,iI' w.9,iI' w.9]
theorem GV(x:EGS)(i:Nat)(w:WKS)(th:Int)(K:AVal→aC Ob→Prop)(h:GU x i w th K):cT' 35 [.ptr 0 0,.I th] (eg0 x i w) (f9 1 K):=by
 exact cM' (E:=EU2) (by kernel_rfl) h
def GW(x:EGS)(i:Nat)(w:WKS)(th:Int)(K:AVal→aC Ob→Prop):Prop:=bif ilt th 0 then K (.raw (Value.slice none 0 0)) [w38 x,w37 x,some (.ints (some .u64) (EGS.s x).3),some (.abs (.hist x.6) []),some (.abs (.whole x.7 i) [5]),cE' (w39 w),some (.abs (.store w.1 w.2 w.3) []),some (.tab cK3 w.4),some (.abs (.doer w.1 w.2 w.7) [6]),iI' w.8,iI' w.9]else bif ile (↑x.7.length:Int) th then K (.raw (Value.slice none 0 0)) [w38 x,w37 x,some (.ints (some .u64) (EGS.s x).3),some (.abs (.hist x.6) []),some (.abs (.whole x.7 i) [5]),cE' (w39 w),some (.abs (.store w.1 w.2 w.3) []),some (.tab cK3 w.4),some (.abs (.doer w.1 w.2 w.7) [6]),iI' w.8,iI' w.9]else((0:Int)≤th∧th<(↑x.7.length:Int))∧(i<x.7.length∧0+Int.toNat th*(1:Nat)=i)∧(lE' w.9∧w.9.length≤(4294967296:Nat))∧K (.slice 11 0 w.9.length 1) [w38 x,w37 x,some (.ints (some .u64) (EGS.s x).3),some (.abs (.hist x.6) []),some (.abs (.whole x.7 i) [5]),cE' (w39 w),some (.abs (.store w.1 w.2 w.3) []),some (.tab cK3 w.4),some (.abs (.doer w.1 w.2 w.7) [6]),iI' w.8,iI' w.9,iI' w.9]
theorem GY(x:EGS)(i:Nat)(w:WKS)(th:Int)(K:AVal→aC Ob→Prop)(h:GW x i w th K):cT' 35 [.ptr 0 0,.I th] (eg1 x i w) (f9 1 K):=by
 exact cM' (E:=EU2) (by kernel_rfl) h
abbrev w3b(w:WKS):List AVal:=[.I w.1,.I w.2,.I (WKS.st w).1,.I (WKS.st w).2,.slice 7 0 (List.length (WKS.st w).3) 1]
abbrev w3d(w:WKS):List AVal:=[.ptr 6 0,.tslice 8 0 w.4.length 3,.I w.5,.N,.slice 9 0 w.8.length 1,.slice 10 0 w.9.length 1]
def GL(x:EGS)(i:Nat)(w:WKS)(th:Int)(K:AVal→aC Ob→Prop):Prop:=bif ilt th 0 then K (.raw (Value.slice none 0 0)) [w38 x,w37 x,some (.ints (some .u64) (EGS.s x).3),some (.abs (.hist x.6) []),some (.abs (.whole x.7 i) [5]),cE' (w3d w),cE' (w3b w),iI' (WKS.st w).3,some (.tab cK3 w.4),iI' w.8,iI' w.9]else bif ile (↑x.7.length:Int) th then K (.raw (Value.slice none 0 0)) [w38 x,w37 x,some (.ints (some .u64) (EGS.s x).3),some (.abs (.hist x.6) []),some (.abs (.whole x.7 i) [5]),cE' (w3d w),cE' (w3b w),iI' (WKS.st w).3,some (.tab cK3 w.4),iI' w.8,iI' w.9]else((0:Int)≤th∧th<(↑x.7.length:Int))∧(i<x.7.length∧0+Int.toNat th*(1:Nat)=i)∧(lE' (WKS.st w).3∧List.length (WKS.st w).3≤(1000000:Nat))∧K (.slice 11 0 (List.length (lK (WKS.st w).2 (WKS.st w).3)) 1) [w38 x,w37 x,some (.ints (some .u64) (EGS.s x).3),some (.abs (.hist x.6) []),some (.abs (.whole x.7 i) [5]),cE' (w3d w),cE' (w3b w),iI' (WKS.st w).3,some (.tab cK3 w.4),iI' w.8,iI' w.9,iI' (lK (WKS.st w).2 (WKS.st w).3)]
theorem GM(x:EGS)(i:Nat)(w:WKS)(th:Int)(K:AVal→aC Ob→Prop)(h:GL x i w th K):cT' 69 [.ptr 0 0,.I th] (aEG x i w) (f9 1 K):=by
 exact cM' (E:=EU2) (by kernel_rfl) h
abbrev w3c(w:WKS):List AVal:=[.ptr 6 0,.tslice 8 0 w.4.length 3,.I w.5,.ptr 9 0,.slice 10 0 w.8.length 1,.slice 11 0 w.9.length 1]
def GN(x:EGS)(i:Nat)(w:WKS)(th:Int)(K:AVal→aC Ob→Prop):Prop:=bif ilt th 0 then K (.raw (Value.slice none 0 0)) [w38 x,w37 x,some (.ints (some .u64) (EGS.s x).3),some (.abs (.hist x.6) []),some (.abs (.whole x.7 i) [5]),cE' (w3c w),cE' (w3b w),iI' (WKS.st w).3,some (.tab cK3 w.4),some (.abs (.doer w.1 w.2 w.7) [6]),iI' w.8,iI' w.9]else bif ile (↑x.7.length:Int) th then K (.raw (Value.slice none 0 0)) [w38 x,w37 x,some (.ints (some .u64) (EGS.s x).3),some (.abs (.hist x.6) []),some (.abs (.whole x.7 i) [5]),cE' (w3c w),cE' (w3b w),iI' (WKS.st w).3,some (.tab cK3 w.4),some (.abs (.doer w.1 w.2 w.7) [6]),iI' w.8,iI' w.9]else((0:Int)≤th∧th<(↑x.7.length:Int))∧(i<x.7.length∧0+Int.toNat th*(1:Nat)=i)∧(lE' (WKS.st w).3∧List.length (WKS.st w).3≤(1000000:Nat))∧K (.slice 12 0 (List.length (lK (WKS.st w).2 (WKS.st w).3)) 1) [w38 x,w37 x,some (.ints (some .u64) (EGS.s x).3),some (.abs (.hist x.6) []),some (.abs (.whole x.7 i) [5]),cE' (w3c w),cE' (w3b w),iI' (WKS.st w).3,some (.tab cK3 w.4),some (.abs (.doer w.1 w.2 w.7) [6]),iI' w.8,iI' w.9,iI' (lK (WKS.st w).2 (WKS.st w).3)]
theorem GO(x:EGS)(i:Nat)(w:WKS)(th:Int)(K:AVal→aC Ob→Prop)(h:GN x i w th K):cT' 69 [.ptr 0 0,.I th] (aEH x i w) (f9 1 K):=by
 exact cM' (E:=EU2) (by kernel_rfl) h
abbrev w3f(x:EGS):List AVal:=[.I (EGS.s x).1,.I (EGS.s x).2,.slice 2 0 (List.length (EGS.s x).3) 1,.I (EGS.s x).4,.I (EGS.s x).5,.I (EGS.s x).6,.int .u64 (EGS.s x).7,.int .u64 (EGS.s x).8,.bool (EGS.s x).9]
abbrev w3g(x:EGS):List AVal:=[.I x.1,.I x.2,.I x.3,.I x.4,.ptr 1 0,.ptr 3 0,.slice 4 0 x.7.length 1,.I x.8]
abbrev w3e(x:EGS):aC Ob:=[cE' (w3g x),cE' (w3f x),some (.ints (some .u64) (EGS.s x).3),some (.abs (.hist x.6) []),some (.abs (.wrow x.7) [])]
def aAc(x:EGS)(th:Int)(K:AVal→aC Ob→Prop):Prop:=bif ilt th 0 then K (.I 0) (w3e x)else bif ile (↑x.7.length:Int) th then K (.I 0) (w3e x)else((0:Int)≤th∧th<(↑x.7.length:Int))∧0+Int.toNat th*(1:Nat)<x.7.length∧True∧K (.I (W ((↑(List.length (bC x.7 (0+Int.toNat th*1)).4):Int) - (bC x.7 (0+Int.toNat th*1)).5))) [cE' (w3g x),cE' (w3f x),some (.ints (some .u64) (EGS.s x).3),some (.abs (.hist x.6) []),some (.abs (.whole x.7 (0+Int.toNat th*1)) [5]),some (.abs (.worker (bC x.7 (0+Int.toNat th*1))) [])]
theorem L5(x:EGS)(th:Int)(K:AVal→aC Ob→Prop)(h:aAc x th K):cT' 33 [.ptr 0 0,.I th] (egG x) (f9 1 K):=by
 exact cM' (E:=EU2) (by kernel_rfl) h
abbrev w3h(x:EGS):aC Ob:=[cE' [.I x.1,.I x.2,.I x.3,.I x.4,.ptr 1 0,.ptr 3 0,.slice 4 0 x.7.length 1,.I x.8],cE' [.I (EGS.s x).1,.I (EGS.s x).2,.slice 2 0 (List.length (EGS.s x).3) 1,.I (EGS.s x).4,.I (EGS.s x).5,.I (EGS.s x).6,.int .u64 (EGS.s x).7,.int .u64 (EGS.s x).8,.bool (EGS.s x).9],some (.ints (some .u64) (EGS.s x).3),some (.abs (.hist x.6) []),some (.abs (.wrow x.7) [])]
def aAf(x:EGS)(K:AVal→aC Ob→Prop):Prop:=K (.I x.8) (w3h x)
theorem L9(x:EGS)(K:AVal→aC Ob→Prop)(h:aAf x K):cT' 34 [.ptr 0 0] (egG x) (f9 1 K):=by
 exact cM' (E:=EU2) (by kernel_rfl) h
def aAd(x:EGS)(K:AVal→aC Ob→Prop):Prop:=K (.agg [.I (EGS.s x).1,.I (EGS.s x).2]) (w3h x)
theorem L6(x:EGS)(K:AVal→aC Ob→Prop)(h:aAd x K):cT' 38 [.ptr 0 0] (egG x) (f9 1 K):=by
 exact cM' (E:=EU2) (by kernel_rfl) h
def aAe(x:EGS)(a:Int)(K:AVal→aC Ob→Prop):Prop:=(lE' (EGS.s x).3∧True)∧K (.int .u64 (aE (EGS.s x).3 a)) [cE' [.I x.1,.I x.2,.I x.3,.I x.4,.ptr 1 0,.ptr 3 0,.slice 4 0 x.7.length 1,.I x.8],cE' [.I (EGS.s x).1,.I (EGS.s x).2,.slice 2 0 (List.length (EGS.s x).3) 1,.I (EGS.s x).4,.I (EGS.s x).5,.I (EGS.s x).6,.int .u64 (EGS.s x).7,.int .u64 (EGS.s x).8,.bool (EGS.s x).9],some (.ints (some .u64) (EGS.s x).3),some (.abs (.hist x.6) []),some (.abs (.wrow x.7) [])]
theorem L8(x:EGS)(a:Int)(K:AVal→aC Ob→Prop)(h:aAe x a K):cT' 37 [.ptr 0 0,.I a] (egG x) (f9 1 K):=by
 exact cM' (E:=EU2) (by kernel_rfl) h
theorem aB.keep{P:Program}{f:FuncId}{args:List AVal}{h:aC Ob}{n:Nat}{K:AVal→aC Ob→Prop}(h0:aB (obI tbl) P f args h (f9 n (dA (obI tbl) n K))):aB (obI tbl) P f args h (dA (obI tbl) n K):=by
 intro V hR w args' hi hf hr;refine(h0 V hR w args' hi hf hr).mono ?_;rintro e w' ⟨v,v',V',h',ht,rest⟩;obtain⟨g0,hK⟩:=bK.1 ht;obtain⟨v2,g2,t,k⟩:=hK.ex;exact⟨v,v',V',h',⟨⟨v2,g2,(aF.pick _ g0).trans t,k⟩⟩,rest⟩
def cY(th:Int)(x:EGS):Int:=bif ilt th 0 then 0 else bif ile (x.ws.length:Int) th then 0 else W (((bC x.ws th.toNat).tk.length :Int) - (bC x.ws th.toNat).en)
def gM(th:Int)(x:EGS):List Int:=bif ilt th 0 then []else bif ile (x.ws.length:Int) th then []else(bC x.ws th.toNat).tl
def gJ(th:Int)(x:EGS):List Int:=bif ilt th 0 then []else bif ile (x.ws.length:Int) th then []else(bC x.ws th.toNat).sl
def gB(th:Int)(x:EGS):List Int:=bif ilt th 0 then []else bif ile (x.ws.length:Int) th then []else lK (bC x.ws th.toNat).st.sp (bC x.ws th.toNat).st.R
structure iY (x:EGS):Prop where
 h0:0<x.ws.length
 ht: ∀i,i<x.ws.length→(bC x.ws i).tl.length ≤1000000
 hs: ∀i,i<x.ws.length→(bC x.ws i).sl.length ≤1000000
 hr: ∀i,i<x.ws.length→(bC x.ws i).st.R.length ≤1000000
theorem aEL(x:EGS)(i:Nat)(hi:i<x.ws.length):({x with ws:=dF x.ws i (bC x.ws i) } :EGS)=x:=by
 rw [cT hi]
def rlfS:aH Ob:=fun args h=>match args,h with
 | [.ptr 0 0,.int .i64 th],[some (.abs (.engine x) [])]=>some (.pre True (.ret (.I (cY th x)) (egH x)))
 | _,_=>none
theorem QU:sT' 33 rlfS:=by
 intro args h o ho K hK;unfold rlfS at ho;split at ho<;>cases ho
 rename_i th x;obtain⟨_,hK⟩:=hK;have hK:K (.I (cY th x)) (egH x):=hK;refine aIz ?_;refine aIq (h2:=egG x) (aT.unpack (.engine x) 0 0 (egG x) [] rfl rfl rfl rfl) ?_;refine aB.keep (L5 x th _ ?_);refine aM (fun e1=>?_) (fun e1=>aM (fun e2=>?_) (fun e2=>?_))
 ·have hv:cY th x=0:=by unfold cY;rw [e1];rfl
  rw [hv]at hK;exact⟨⟨_,_,kI 1 (Nat.le_refl 1) _ rfl x,hK⟩⟩
 ·have hv:cY th x=0:=by unfold cY;rw [e1,e2];rfl
  rw [hv]at hK;exact⟨⟨_,_,kI 1 (Nat.le_refl 1) _ rfl x,hK⟩⟩
 ·have hv:cY th x=W (((bC x.ws th.toNat).tk.length :Int) - (bC x.ws th.toNat).en):=by unfold cY;rw [e1,e2];rfl
  rw [bG,dF']at e1;rw [bX,dF']at e2;have hi:0+th.toNat*1<x.ws.length:=by omega
  have ht:0+th.toNat*1=th.toNat:=by omega
  refine⟨⟨by omega,by omega⟩,hi,trivial,?_⟩
  rw [hv]at hK;refine⟨⟨_,_,BB (x:= {x with ws:=dF x.ws (0+th.toNat*1) (bC x.ws (0+th.toNat*1)) }) _ rfl rfl 1 (Nat.le_refl 1) rfl ⟨rfl,hi,rfl⟩,?_⟩⟩
  rw [aEL x _ hi,ht];exact hK
theorem RR(x:EGS)(i:Nat)(th:Int)(hi:i<x.ws.length)(K:AVal→aC Ob→Prop)(h0:(bC x.ws i).b =false→GZ x i (bC x.ws i) th (dA (obI tbl) 1 K))(h1:(bC x.ws i).b =true→G1 x i (bC x.ws i) th (dA (obI tbl) 1 K)):
 cT' 32 [.ptr 0 0,.I th] (egH x) K:=by
 refine aIz ?_;cases hb:(bC x.ws i).b with
 | false=>exact aIq (uC hi hb) (aB.keep (G0 x i _ th _ (h0 hb)))
 | true=>exact aIq (uD hi hb) (aB.keep (G2 x i _ th _ (h1 hb)))
def rtkS:aH Ob:=fun args h=>match args,h with
 | [.ptr 0 0,.int .i64 th],[some (.abs (.engine x) [])]=>some (.pre (iY x) (.ret (.slice 1 0 (gM th x).length 1) [some (.abs (.engine x) []),iI' (gM th x)]))
 | _,_=>none
theorem Q0:sT' 32 rtkS:=by
 intro args h o ho K hK;unfold rtkS at ho;split at ho<;>cases ho
 rename_i th x;obtain⟨⟨hl,ht,hs,hr⟩,hK⟩:=hK;have hK:K (.slice 1 0 (gM th x).length 1) [some (.abs (.engine x) []),iI' (gM th x)]:=hK
 have nilt: ∀(b:Bool) (g g2:aC Ob) (e1:ilt th 0=true∨(ilt th 0=false∧ile (x.ws.length:Int) th=true)),gM th x=[]:=by
  intro b g g2 e;unfold gM;rcases e with e | ⟨e,e2⟩
  ·rw [e];rfl
  ·rw [e,e2];rfl
 cases e1:ilt th 0 with
 | true=>
   have hv:=nilt true [] [] (.inl e1);rw [hv]at hK;refine RR x 0 th hl K (fun hb=>?_) (fun hb=>?_)
   ·exact aM (fun _=>⟨⟨_,_,(aF.cast (cs:=[(.slot 0,.ints (some .i64))]) rfl).trans (J1 x 0 _ [] hl (cT hl) hb),hK⟩⟩) (fun e=>by rw [e1]at e;cases e)
   ·exact aM (fun _=>⟨⟨_,_,(aF.cast (cs:=[(.slot 0,.ints (some .i64))]) rfl).trans (J2 x 0 _ [] hl (cT hl) hb),hK⟩⟩) (fun e=>by rw [e1]at e;cases e)
 | false=>
   cases e2:ile (x.ws.length:Int) th with
   | true=>
     have hv:=nilt true [] [] (.inr ⟨e1,e2⟩);rw [hv]at hK;refine RR x 0 th hl K (fun hb=>?_) (fun hb=>?_)
     ·exact aM (fun e=>by rw [e1]at e;cases e) (fun _=>aM (fun _=>⟨⟨_,_,(aF.cast (cs:=[(.slot 0,.ints (some .i64))]) rfl).trans (J1 x 0 _ [] hl (cT hl) hb),hK⟩⟩) (fun e=>by rw [e2]at e;cases e))
     ·exact aM (fun e=>by rw [e1]at e;cases e) (fun _=>aM (fun _=>⟨⟨_,_,(aF.cast (cs:=[(.slot 0,.ints (some .i64))]) rfl).trans (J2 x 0 _ [] hl (cT hl) hb),hK⟩⟩) (fun e=>by rw [e2]at e;cases e))
   | false=>
     have hv:gM th x=(bC x.ws th.toNat).tl :=by unfold gM;rw [e1,e2];rfl
     have e1':=e1;have e2':=e2;rw [bG,dF']at e1';rw [bX,dF']at e2';have hi:th.toNat<x.ws.length:=by omega
     have hf:=ht _ hi;rw [hv]at hK;refine RR x th.toNat th hi K (fun hb=>?_) (fun hb=>?_)
     ·exact aM (fun e=>by rw [e1]at e;cases e) (fun _=>aM (fun e=>by rw [e2]at e;cases e) (fun _=>⟨⟨by omega,by omega⟩,⟨hi,by omega⟩,⟨rfl,by omega⟩,⟨⟨_,_,J1 x th.toNat _ _ hi (cT hi) hb,hK⟩⟩⟩))
     ·exact aM (fun e=>by rw [e1]at e;cases e) (fun _=>aM (fun e=>by rw [e2]at e;cases e) (fun _=>⟨⟨by omega,by omega⟩,⟨hi,by omega⟩,⟨rfl,by omega⟩,⟨⟨_,_,J2 x th.toNat _ _ hi (cT hi) hb,hK⟩⟩⟩))
theorem RK(x:EGS)(i:Nat)(th:Int)(hi:i<x.ws.length)(K:AVal→aC Ob→Prop)(h0:(bC x.ws i).b =false→GU x i (bC x.ws i) th (dA (obI tbl) 1 K))(h1:(bC x.ws i).b =true→GW x i (bC x.ws i) th (dA (obI tbl) 1 K)):
 cT' 35 [.ptr 0 0,.I th] (egH x) K:=by
 refine aIz ?_;cases hb:(bC x.ws i).b with
 | false=>exact aIq (uC hi hb) (aB.keep (GV x i _ th _ (h0 hb)))
 | true=>exact aIq (uD hi hb) (aB.keep (GY x i _ th _ (h1 hb)))
def rswS:aH Ob:=fun args h=>match args,h with
 | [.ptr 0 0,.int .i64 th],[some (.abs (.engine x) [])]=>some (.pre (iY x) (.ret (.slice 1 0 (gJ th x).length 1) [some (.abs (.engine x) []),iI' (gJ th x)]))
 | _,_=>none
theorem QZ:sT' 35 rswS:=by
 intro args h o ho K hK;unfold rswS at ho;split at ho<;>cases ho
 rename_i th x;obtain⟨⟨hl,ht,hs,hr⟩,hK⟩:=hK;have hK:K (.slice 1 0 (gJ th x).length 1) [some (.abs (.engine x) []),iI' (gJ th x)]:=hK
 have nilt: ∀(b:Bool) (g g2:aC Ob) (e1:ilt th 0=true∨(ilt th 0=false∧ile (x.ws.length:Int) th=true)),gJ th x=[]:=by
  intro b g g2 e;unfold gJ;rcases e with e | ⟨e,e2⟩
  ·rw [e];rfl
  ·rw [e,e2];rfl
 cases e1:ilt th 0 with
 | true=>
   have hv:=nilt true [] [] (.inl e1);rw [hv]at hK;refine RK x 0 th hl K (fun hb=>?_) (fun hb=>?_)
   ·exact aM (fun _=>⟨⟨_,_,(aF.cast (cs:=[(.slot 0,.ints (some .i64))]) rfl).trans (J1 x 0 _ [] hl (cT hl) hb),hK⟩⟩) (fun e=>by rw [e1]at e;cases e)
   ·exact aM (fun _=>⟨⟨_,_,(aF.cast (cs:=[(.slot 0,.ints (some .i64))]) rfl).trans (J2 x 0 _ [] hl (cT hl) hb),hK⟩⟩) (fun e=>by rw [e1]at e;cases e)
 | false=>
   cases e2:ile (x.ws.length:Int) th with
   | true=>
     have hv:=nilt true [] [] (.inr ⟨e1,e2⟩);rw [hv]at hK;refine RK x 0 th hl K (fun hb=>?_) (fun hb=>?_)
     ·exact aM (fun e=>by rw [e1]at e;cases e) (fun _=>aM (fun _=>⟨⟨_,_,(aF.cast (cs:=[(.slot 0,.ints (some .i64))]) rfl).trans (J1 x 0 _ [] hl (cT hl) hb),hK⟩⟩) (fun e=>by rw [e2]at e;cases e))
     ·exact aM (fun e=>by rw [e1]at e;cases e) (fun _=>aM (fun _=>⟨⟨_,_,(aF.cast (cs:=[(.slot 0,.ints (some .i64))]) rfl).trans (J2 x 0 _ [] hl (cT hl) hb),hK⟩⟩) (fun e=>by rw [e2]at e;cases e))
   | false=>
     have hv:gJ th x=(bC x.ws th.toNat).sl :=by unfold gJ;rw [e1,e2];rfl
     have e1':=e1;have e2':=e2;rw [bG,dF']at e1';rw [bX,dF']at e2';have hi:th.toNat<x.ws.length:=by omega
     have hf:=hs _ hi;rw [hv]at hK;refine RK x th.toNat th hi K (fun hb=>?_) (fun hb=>?_)
     ·exact aM (fun e=>by rw [e1]at e;cases e) (fun _=>aM (fun e=>by rw [e2]at e;cases e) (fun _=>⟨⟨by omega,by omega⟩,⟨hi,by omega⟩,⟨rfl,by omega⟩,⟨⟨_,_,J1 x th.toNat _ _ hi (cT hi) hb,hK⟩⟩⟩))
     ·exact aM (fun e=>by rw [e1]at e;cases e) (fun _=>aM (fun e=>by rw [e2]at e;cases e) (fun _=>⟨⟨by omega,by omega⟩,⟨hi,by omega⟩,⟨rfl,by omega⟩,⟨⟨_,_,J2 x th.toNat _ _ hi (cT hi) hb,hK⟩⟩⟩))
theorem O9(x:EGS)(i:Nat)(th:Int)(hi:i<x.ws.length)(K:AVal→aC Ob→Prop)(h0:(bC x.ws i).b =false→GL x i (bC x.ws i) th (dA (obI tbl) 1 K))(h1:(bC x.ws i).b =true→GN x i (bC x.ws i) th (dA (obI tbl) 1 K)):
 cT' 69 [.ptr 0 0,.I th] (egH x) K:=by
 refine aIz ?_;cases hb:(bC x.ws i).b with
 | false=>exact aIq (J3 hi hb) (aB.keep (GM x i _ th _ (h0 hb)))
 | true=>exact aIq (J4 hi hb) (aB.keep (GO x i _ th _ (h1 hb)))
def rhdS:aH Ob:=fun args h=>match args,h with
 | [.ptr 0 0,.int .i64 th],[some (.abs (.engine x) [])]=>some (.pre (iY x) (.ret (.slice 1 0 (gB th x).length 1) [some (.abs (.engine x) []),iI' (gB th x)]))
 | _,_=>none
theorem QS:sT' 69 rhdS:=by
 intro args h o ho K hK;unfold rhdS at ho;split at ho<;>cases ho
 rename_i th x;obtain⟨⟨hl,ht,hs,hr⟩,hK⟩:=hK;have hK:K (.slice 1 0 (gB th x).length 1) [some (.abs (.engine x) []),iI' (gB th x)]:=hK
 have nilt: ∀(b:Bool) (g g2:aC Ob) (e1:ilt th 0=true∨(ilt th 0=false∧ile (x.ws.length:Int) th=true)),gB th x=[]:=by
  intro b g g2 e;unfold gB;rcases e with e | ⟨e,e2⟩
  ·rw [e];rfl
  ·rw [e,e2];rfl
 cases e1:ilt th 0 with
 | true=>
   have hv:=nilt true [] [] (.inl e1);rw [hv]at hK;refine O9 x 0 th hl K (fun hb=>?_) (fun hb=>?_)
   ·exact aM (fun _=>⟨⟨_,_,(aF.cast (cs:=[(.slot 0,.ints (some .i64))]) rfl).trans (aBl x 0 _ [] hl (cT hl) hb),hK⟩⟩) (fun e=>by rw [e1]at e;cases e)
   ·exact aM (fun _=>⟨⟨_,_,(aF.cast (cs:=[(.slot 0,.ints (some .i64))]) rfl).trans (aBm x 0 _ [] hl (cT hl) hb),hK⟩⟩) (fun e=>by rw [e1]at e;cases e)
 | false=>
   cases e2:ile (x.ws.length:Int) th with
   | true=>
     have hv:=nilt true [] [] (.inr ⟨e1,e2⟩);rw [hv]at hK;refine O9 x 0 th hl K (fun hb=>?_) (fun hb=>?_)
     ·exact aM (fun e=>by rw [e1]at e;cases e) (fun _=>aM (fun _=>⟨⟨_,_,(aF.cast (cs:=[(.slot 0,.ints (some .i64))]) rfl).trans (aBl x 0 _ [] hl (cT hl) hb),hK⟩⟩) (fun e=>by rw [e2]at e;cases e))
     ·exact aM (fun e=>by rw [e1]at e;cases e) (fun _=>aM (fun _=>⟨⟨_,_,(aF.cast (cs:=[(.slot 0,.ints (some .i64))]) rfl).trans (aBm x 0 _ [] hl (cT hl) hb),hK⟩⟩) (fun e=>by rw [e2]at e;cases e))
   | false=>
     have hv:gB th x=(lK (bC x.ws th.toNat).st.sp (bC x.ws th.toNat).st.R):=by unfold gB;rw [e1,e2];rfl
     have e1':=e1;have e2':=e2;rw [bG,dF']at e1';rw [bX,dF']at e2';have hi:th.toNat<x.ws.length:=by omega
     have hf:=hr _ hi;rw [hv]at hK;refine O9 x th.toNat th hi K (fun hb=>?_) (fun hb=>?_)
     ·exact aM (fun e=>by rw [e1]at e;cases e) (fun _=>aM (fun e=>by rw [e2]at e;cases e) (fun _=>⟨⟨by omega,by omega⟩,⟨hi,by omega⟩,⟨rfl,hf⟩,⟨⟨_,_,aBl x th.toNat _ _ hi (cT hi) hb,hK⟩⟩⟩))
     ·exact aM (fun e=>by rw [e1]at e;cases e) (fun _=>aM (fun e=>by rw [e2]at e;cases e) (fun _=>⟨⟨by omega,by omega⟩,⟨hi,by omega⟩,⟨rfl,hf⟩,⟨⟨_,_,aBm x th.toNat _ _ hi (cT hi) hb,hK⟩⟩⟩))
def estS:aH Ob:=fun args h=>match args,h with
 | [.ptr 0 0],[some (.abs (.engine x) [])]=>some (.pre True (.ret (.I x.k) (egH x)))
 | _,_=>none
theorem OR:sT' 34 estS:=by
 intro args h o ho K hK;unfold estS at ho;split at ho<;>cases ho
 rename_i x;obtain⟨_,hK⟩:=hK;have hK:K (.I x.k) (egH x):=hK;refine aIz ?_;refine aIq (h2:=egG x) (aT.unpack (.engine x) 0 0 (egG x) [] rfl rfl rfl rfl) ?_;refine aB.keep (L9 x _ ?_);exact⟨⟨_,_,kI 1 (Nat.le_refl 1) _ rfl x,hK⟩⟩
def elyS:aH Ob:=fun args h=>match args,h with
 | [.ptr 0 0],[some (.abs (.engine x) [])]=>some (.pre True (.ret (.agg [.I x.s.t,.I x.s.n]) (egH x)))
 | _,_=>none
theorem OL:sT' 38 elyS:=by
 intro args h o ho K hK;unfold elyS at ho;split at ho<;>cases ho
 rename_i x;obtain⟨_,hK⟩:=hK;have hK:K (.agg [.I x.s.t,.I x.s.n]) (egH x):=hK;refine aIz ?_;refine aIq (h2:=egG x) (aT.unpack (.engine x) 0 0 (egG x) [] rfl rfl rfl rfl) ?_;refine aB.keep (L6 x _ ?_);exact⟨⟨_,_,kI 1 (Nat.le_refl 1) _ rfl x,hK⟩⟩
def epeS:aH Ob:=fun args h=>match args,h with
 | [.ptr 0 0,.int .i64 a],[some (.abs (.engine x) [])]=>some (.pre True (.ret (.int .u64 (aE x.s.xs a)) (egH x)))
 | _,_=>none
theorem OP:sT' 37 epeS:=by
 intro args h o ho K hK;unfold epeS at ho;split at ho<;>cases ho
 rename_i a x;obtain⟨_,hK⟩:=hK;have hK:K (.int .u64 (aE x.s.xs a)) (egH x):=hK;refine aIz ?_;refine aIq (h2:=egG x) (aT.unpack (.engine x) 0 0 (egG x) [] rfl rfl rfl rfl) ?_;refine aB.keep (L8 x a _ ?_);exact⟨⟨rfl,trivial⟩,⟨⟨_,_,kI 1 (Nat.le_refl 1) _ rfl x,hK⟩⟩⟩
noncomputable def EU3:=((((((((EU2.addS 33 rlfS QU).addS 32 rtkS Q0).addS 35 rswS QZ).addS 69 rhdS QS).addS 34 estS OR).addS 38 elyS OL).addS 37 epeS OP))
def y0(xs:List Int)(nd:Int):Nat→Int→List Int→List Int
 | 0,_,out=>out
 | k+1,n,out=>bif bN nd n then bif !hasB out n then y0 xs nd k (aA (aE xs n) 10 9) (out++ [n])else out else out
def ndF(xs:List Int)(nd hd:Int):List Int:=y0 xs nd (nd.toNat+1) (aA (aE xs (nd+1+hd)) 10 9) []
def iW(nd:Int)(out:List Int):Nat:=((List.range nd.toNat).filter (fun(j:Nat)=>!hasB out ((j:Int)+1))).length
theorem F2{p q:Nat→Bool}(hpq: ∀j,p j=true→q j=true)(l:List Nat):(l.filter p).length ≤(l.filter q).length :=by
 induction l with
 | nil=>exact Nat.le_refl _
 | cons b l ih=>
   simp only [List.filter_cons];cases hp:p b with
   | true=>rw [hpq b hp];simp;exact ih
   | false=>cases hq:q b<;>simp<;>omega
theorem F3{p q:Nat→Bool}(l:List Nat)(hpq: ∀j,p j=true→q j=true)(h: ∃j,j∈l∧q j=true∧p j=false):(l.filter p).length <(l.filter q).length :=by
 induction l with
 | nil=>obtain⟨j,hj,_⟩:=h;cases hj
 | cons a l ih=>
   have hle:=F2 hpq l;simp only [List.filter_cons];obtain⟨j,hj,hq,hp⟩:=h;rcases List.mem_cons.1 hj with rfl | hj
   ·rw [hp,hq];simp;omega
   ·have:=ih ⟨j,hj,hq,hp⟩;cases hp2:p a with
    | true=>rw [hpq a hp2];simp;exact this
    | false=>cases hq2:q a<;>simp<;>omega
theorem LH{nd n:Int}{out:List Int}(h1:bN nd n=true)(h2:hasB out n=false):iW nd (out++ [n])<iW nd out:=by
 have h1:=uY.1 h1;have h2:n∉out:=by intro hm;rw [jI.2 hm]at h2;cases h2
 unfold iW;refine F3 _ (fun j hj=>?_) ⟨(n - 1).toNat,?_,?_,?_⟩
 ·cases e:hasB out ((j:Int)+1)with
  | false=>rfl
  | true=>
    have:hasB (out++ [n]) ((j:Int)+1)=true:=jI.2 (List.mem_append_left _ (jI.1 e));rw [this]at hj;cases hj
 ·rw [List.mem_range];omega
 ·have e:(((n - 1).toNat :Nat):Int)+1=n:=by omega
  rw [e];cases e2:hasB out n with
  | false=>rfl
  | true=>exact absurd (jI.1 e2) h2
 ·have e:(((n - 1).toNat :Nat):Int)+1=n:=by omega
  rw [e,jI.2 (List.mem_append_right _ (List.mem_singleton.2 rfl))];rfl
theorem CS(nd:Int):iW nd []≤nd.toNat:=by
 unfold iW;exact Nat.le_trans (List.length_filter_le _ _) (by simp)
structure aFB (xs:List Int) (nd:Int) (R:List Int) (x:Int×List Int):Prop where
 hb:(x.2.length:Int)≤nd.toNat
 ex: ∃k,iW nd x.2<k∧y0 xs nd k x.1 x.2=R
 hc:x.2.length+iW nd x.2≤nd.toNat
def SS(s:MS)(lt ln:Int)(R:List Int):Hint Ob:= {X:=Int×List Int,st:=fun x=>([.ptr 0 0,.O,.O,.O,.ptr 2 0,.O,.O,.slice 3 0 x.2.length 1,.I x.1]++List.replicate 26 .O,[aZ 1 s,bA s,cE' [.I lt,.I ln],iI' x.2]),ok:=aFB s.xs ln R,mu:=fun x=>iW ln x.2,keep:=[0,4,7,8],casts:=[(.slot 7,.ints (some .i64))] }
abbrev w3i(s:MS):Option (aG Ob):=cE' [.I s.1,.I s.2,.slice 1 0 s.3.length 1,.I s.4,.I s.5,.I s.6,.int .u64 s.7,.int .u64 s.8,.bool s.9]
def aCK(s:MS)(lt ln hd:Int)(R:List Int)(K:AVal→aC Ob→Prop):Prop:=(((0:Int)≤ln∧ln≤(100000:Int))∧(-1000000:Int)≤hd∧hd≤(1000000:Int))∧(lE' s.3∧True)∧True∧cN (SS s lt ln R) (Hint.ok (SS s lt ln R)) (.ptr 0 0::.O::.O::.O::.ptr 2 0::.O::.O::.slice 3 0 0 1::.I (aA (aE s.3 (ln+1+hd)) 10 9)::(tO' 26 [])) [w3i s,some (.ints (some .u64) s.3),cE' [.I lt,.I ln],some (.ints (some .i64) [])]∧ ∀(x:(Int×List Int)),aFB s.3 ln R x→True∧bif bN ln x.1 then(lE' x.2∧x.2.length≤(4294967296:Nat))∧bif !hasB x.2 x.1 then(0=0∧lE' x.2∧1=1∧x.2.length+(1:Nat)≤(4294967296:Nat))∧(lE' s.3∧True)∧True∧cN (SS s lt ln R) (fun x'=>Hint.ok (SS s lt ln R) x'∧Hint.mu (SS s lt ln R) x'<Hint.mu (SS s lt ln R) x) (.ptr 0 0::.O::.O::.O::.ptr 2 0::.O::.O::.slice 3 0 (x.2.length+1) 1::.I (aA (aE s.3 x.1) 10 9)::(tO' 26 [])) [w3i s,some (.ints (some .u64) s.3),cE' [.I lt,.I ln],iI' (x.2++ [x.1])]else K (.slice 2 0 x.2.length 1) [w3i s,some (.ints (some .u64) s.3),iI' x.2]else K (.slice 2 0 x.2.length 1) [w3i s,some (.ints (some .u64) s.3),iI' x.2]
theorem PW(s:MS)(lt ln hd:Int)(R:List Int)(K:AVal→aC Ob→Prop)(h:aCK s lt ln hd R K):cT' 132 [.ptr 0 0,.agg [.I lt,.I ln],.I hd] [aZ 1 s,bA s] K:=by
 exact aIl (aD (E:=EU3) Tryz.checked.mixed (L:=fun _ _=>some (.states (SS s lt ln R))) (n:=10) (aK (by kernel_rfl) h))
theorem aFD(s:MS)(lt ln hd:Int)(K:AVal→aC Ob→Prop)(h1:0≤ln∧ln≤100000)(h2: -1000000≤hd∧hd≤1000000)(hK:K (.slice 2 0 (ndF s.xs ln hd).length 1) [aZ 1 s,bA s,iI' (ndF s.xs ln hd)]):aCK s lt ln hd (ndF s.xs ln hd) K:=by
 refine⟨⟨h1,h2⟩,⟨rfl,trivial⟩,trivial,aN (H:=SS s lt ln (ndF s.xs ln hd)) (aA (aE s.xs (ln+1+hd)) 10 9,[]) rfl ⟨by show((0:Nat):Int)≤_;omega,⟨ln.toNat+1,by have:=CS ln;show iW ln []<ln.toNat+1;omega,rfl⟩,by have:=CS ln;show 0+iW ln []≤ln.toNat;omega⟩,?_⟩
 rintro⟨n,out⟩ ⟨hb,⟨k,hk,hR⟩,hc⟩;dsimp only at hb hk hR hc⊢;have stop: ∀(h:bif bN ln n then !hasB out n else false),True:=fun _=>trivial;refine⟨trivial,aM (fun e1=>⟨⟨rfl,by omega⟩,aM (fun e2=>?_) (fun e2=>?_)⟩) (fun e1=>?_)⟩
 ·have e2':hasB out n=false:=by simpa using e2
  have hlt:=LH (nd:=ln) e1 e2';cases k with
  | zero=>omega
  | succ k=>
    unfold y0 at hR;rw [e1,e2]at hR;simp only [cond_true]at hR;refine⟨⟨rfl,rfl,rfl,by omega⟩,⟨rfl,trivial⟩,trivial,aN (H:=SS s lt ln (ndF s.xs ln hd)) (aA (aE s.xs n) 10 9,out++ [n]) (by simp only [SS,List.length_append,List.length_singleton]<;>rfl) ⟨⟨?_,⟨k,by show iW ln (out++ [n])<k;omega,hR⟩,?_⟩,hlt⟩⟩
    ·show((out++ [n]).length :Int)≤_;rw [List.length_append,List.length_singleton];omega
    ·show(out++ [n]).length +iW ln (out++ [n])≤_;rw [List.length_append,List.length_singleton];omega
 ·have hR2:out=ndF s.xs ln hd:=by
   cases k with
   | zero=>omega
   | succ k=>
     unfold y0 at hR;rw [e1,e2]at hR;exact hR
  rw [←hR2]at hK;exact hK
 ·have hR2:out=ndF s.xs ln hd:=by
   cases k with
   | zero=>omega
   | succ k=>
     unfold y0 at hR;rw [e1]at hR;exact hR
  rw [←hR2]at hK;exact hK
theorem PV(xs:List Int)(nd:Int)(k:Nat): ∀(n:Int) (out:List Int),(y0 xs nd k n out).length ≤out.length+k:=by
 induction k with
 | zero=>intro n out;unfold y0;omega
 | succ k ih=>
   intro n out;unfold y0;cases bN nd n<;>cases hasB out n<;>simp only [cond_true,cond_false,Bool.not_true,Bool.not_false]<;>try omega
   have:=ih (aA (aE xs n) 10 9) (out++ [n]);rw [List.length_append,List.length_singleton]at this;omega
theorem IL(xs:List Int)(nd hd:Int):(ndF xs nd hd).length ≤nd.toNat+1:=by
 have:=PV xs nd (nd.toNat+1) (aA (aE xs (nd+1+hd)) 10 9) [];unfold ndF
 simpa using this
def ndS:aH Ob:=fun args h=>match args,h with
 | [.ptr 0 0,.agg [.int .i64 lt,.int .i64 ln],.int .i64 hd],[e1,e2]=>(match cO 1 [e1,e2]with
   | some (l,s)=>some (.pre (l=s.xs.length∧(0≤ln∧ln≤100000)∧(-1000000≤hd∧hd≤1000000)) (.ret (.slice 2 0 (ndF s.xs ln hd).length 1) [aZ 1 s,bA s,iI' (ndF s.xs ln hd)]))
   | none=>none)
 | _,_=>none
theorem aFC:sT' 132 ndS:=by
 intro args h o ho K hK;unfold ndS at ho;split at ho
 case h_2=>cases ho
 rename_i lt ln hd e1 e2;split at ho<;>cases ho
 rename_i l s hm;obtain⟨⟨hl,h1,h2⟩,hK⟩:=hK;have hh:=bB hm hl;cases hh;exact PW s lt ln hd _ K (aFD s lt ln hd K h1 h2 hK)
noncomputable def EU4:=EU3.addS 132 ndS aFC
def kyL(xs ns:List Int):List Int:=(ns.filter fun a=>!ieq (aA (aE xs a) 19 1) 1).map fun a=>aA (aE xs a) 0 10
structure aFt (xs ns:List Int) (x:Nat×List Int):Prop where
 hi:x.1≤ns.length
 eq:x.2=kyL xs (ns.take x.1)
def HKY(s:MS)(ns:List Int):Hint Ob:= {X:=Nat×List Int,st:=fun x=>([.ptr 0 0,.O,.O,.O,.O,.O,.O,.slice 2 0 x.2.length 1,.O,.O,.O,.O,.O,.O,.slice 3 0 ns.length 1,.I (ns.length:Int),.I (x.1:Int)]++List.replicate 17 .O,[aZ 1 s,bA s,iI' x.2,iI' ns]),ok:=aFt s.xs ns,mu:=fun x=>ns.length - x.1,keep:=[0,7,14,15,16],casts:=[(.slot 7,.ints (some .i64))] }
abbrev w3j(s:MS):Option (aG Ob):=cE' [.I s.1,.I s.2,.slice 1 0 s.3.length 1,.I s.4,.I s.5,.I s.6,.int .u64 s.7,.int .u64 s.8,.bool s.9]
def aCD(s:MS)(lt ln hd:Int)(K:AVal→aC Ob→Prop):Prop:=(lE' s.3∧((0:Int)≤ln∧ln≤(100000:Int))∧(-1000000:Int)≤hd∧hd≤(1000000:Int))∧cN (HKY s (ndF (MS.xs s) ln hd)) (Hint.ok (HKY s (ndF (MS.xs s) ln hd))) (.ptr 0 0::.O::.O::.O::.O::.O::.O::.slice 2 0 0 1::.O::.O::.O::.O::.O::.O::.slice 3 0 (List.length (ndF s.3 ln hd)) 1::.I (↑(List.length (ndF s.3 ln hd)):Int)::.I 0::(tO' 17 [])) [w3j s,some (.ints (some .u64) s.3),some (.ints (some .i64) []),iI' (ndF s.3 ln hd)]∧ ∀(x:Hint.X (HKY s (ndF (MS.xs s) ln hd))),aFt s.3 (ndF s.3 ln hd) x→bif ilt (↑x.1:Int) (↑(List.length (ndF s.3 ln hd)):Int)then((0:Int)≤(↑x.1:Int)∧(↑x.1:Int)<(↑(List.length (ndF s.3 ln hd)):Int))∧0+Int.toNat (↑x.1:Int)*(1:Nat)<List.length (ndF s.3 ln hd)∧(lE' s.3∧True)∧True∧bif !ieq (aA (aE s.3 (List.getD (ndF s.3 ln hd) (0+Int.toNat (↑x.1:Int)*1) 0)) 19 1) 1 then(0=0∧lE' x.2∧1=1∧x.2.length+(1:Nat)≤(4294967296:Nat))∧cN (HKY s (ndF (MS.xs s) ln hd)) (fun x'=>Hint.ok (HKY s (ndF (MS.xs s) ln hd)) x'∧Hint.mu (HKY s (ndF (MS.xs s) ln hd)) x'<Hint.mu (HKY s (ndF (MS.xs s) ln hd)) x) (.ptr 0 0::.O::.O::.O::.O::.O::.O::.slice 2 0 (x.2.length+1) 1::.O::.O::.O::.O::.O::.O::.slice 3 0 (List.length (ndF s.3 ln hd)) 1::.I (↑(List.length (ndF s.3 ln hd)):Int)::.I (W ((↑x.1:Int)+1))::(tO' 17 [])) [w3j s,some (.ints (some .u64) s.3),iI' (x.2++ [aA (aE s.3 (List.getD (ndF s.3 ln hd) (0+Int.toNat (↑x.1:Int)*1) 0)) 0 10]),iI' (ndF s.3 ln hd)]else cN (HKY s (ndF (MS.xs s) ln hd)) (fun x'=>Hint.ok (HKY s (ndF (MS.xs s) ln hd)) x'∧Hint.mu (HKY s (ndF (MS.xs s) ln hd)) x'<Hint.mu (HKY s (ndF (MS.xs s) ln hd)) x) (.ptr 0 0::.O::.O::.O::.O::.O::.O::.slice 2 0 x.2.length 1::.O::.O::.O::.O::.O::.O::.slice 3 0 (List.length (ndF s.3 ln hd)) 1::.I (↑(List.length (ndF s.3 ln hd)):Int)::.I (W ((↑x.1:Int)+1))::(tO' 17 [])) [w3j s,some (.ints (some .u64) s.3),iI' x.2,iI' (ndF s.3 ln hd)]else K (.slice 2 0 x.2.length 1) [w3j s,some (.ints (some .u64) s.3),iI' x.2]
theorem PN(s:MS)(lt ln hd:Int)(K:AVal→aC Ob→Prop)(h:aCD s lt ln hd K):cT' 110 [.ptr 0 0,.agg [.I lt,.I ln],.I hd] [aZ 1 s,bA s] K:=by
 exact aIl (aD (E:=EU4) Tryz.checked.mixed (L:=fun _ _=>some (.states (HKY s (ndF s.xs ln hd)))) (n:=10) (aK (by kernel_rfl) h))
theorem RM{ns:List Int}{i:Nat}(hi:i<ns.length):ns.take (i+1)=ns.take i++ [ns.getD i 0]:=by
 rw [List.take_succ,gD',gE' hi];rfl
theorem Z0{xs ns:List Int}{i:Nat}(hi:i<ns.length)(h:(!ieq (aA (aE xs (ns.getD i 0)) 19 1) 1)=true):kyL xs (ns.take (i+1))=kyL xs (ns.take i)++ [aA (aE xs (ns.getD i 0)) 0 10]:=by
 unfold kyL;rw [RM hi,List.filter_append,List.map_append];simp only [List.filter_cons,List.filter_nil,h,if_true,List.map_cons,List.map_nil]
theorem aFu{xs ns:List Int}{i:Nat}(hi:i<ns.length)(h:(!ieq (aA (aE xs (ns.getD i 0)) 19 1) 1)=false):kyL xs (ns.take (i+1))=kyL xs (ns.take i):=by
 unfold kyL;rw [RM hi,List.filter_append,List.map_append];simp only [List.filter_cons,List.filter_nil,h,Bool.false_eq_true,if_false,List.map_nil,List.append_nil]
theorem II(xs ns:List Int):(kyL xs ns).length ≤ns.length:=by
 unfold kyL;rw [List.length_map];exact List.length_filter_le _ _
def keyF(xs:List Int)(nd hd:Int):List Int:=kyL xs (ndF xs nd hd)
theorem iO(xs:List Int)(nd hd:Int):(keyF xs nd hd).length ≤nd.toNat+1:=Nat.le_trans (II _ _) (IL _ _ _)
theorem aFv(s:MS)(lt ln hd:Int)(K:AVal→aC Ob→Prop)(h1:0≤ln∧ln≤100000)(h2: -1000000≤hd∧hd≤1000000)(hK:K (.slice 2 0 (keyF s.xs ln hd).length 1) [aZ 1 s,bA s,iI' (keyF s.xs ln hd)]):aCD s lt ln hd K:=by
 have hlen:=IL s.xs ln hd;unfold keyF at hK;refine⟨⟨rfl,h1,h2⟩,aN (H:=HKY s (ndF s.xs ln hd)) ((0:Nat),[]) rfl ⟨Nat.zero_le _,rfl⟩,?_⟩;have hlen':(ndF s.3 ln hd).length ≤ln.toNat+1:=hlen;generalize ndF s.xs ln hd=ns at hK hlen⊢;rintro⟨i,out⟩ ⟨hi,heq⟩;dsimp only at hi heq;subst heq;have hkl:(kyL s.xs (ns.take i)).length ≤i:=Nat.le_trans (II _ _) (List.length_take_le _ _);refine aM (fun e=>?_) (fun e=>?_)
 ·rw [bG,dT']at e;have e:(i:Int)<(ns.length:Int):=e;have hil:i<ns.length:=by omega
  have e4:W ((i:Int)+1)=((i+1:Nat):Int):=by rw [W,cW (by omega)];rfl
  have e0:0+Int.toNat (i:Int)*1=i:=by omega
  have hk1:(kyL s.xs (ns.take i)).length +1≤4294967296:=by omega
  refine⟨⟨by show(0:Int)≤(i:Int);omega,e⟩,by show 0+Int.toNat (i:Int)*1<ns.length;omega,⟨rfl,trivial⟩,trivial,aM (fun e2=>⟨⟨rfl,rfl,rfl,hk1⟩,?_⟩) (fun e2=>?_)⟩
  ·have e2:(!ieq (aA (aE s.xs (ns.getD (0+Int.toNat (i:Int)*1) 0)) 19 1) 1)=true:=e2;rw [e0]at e2;refine aN (H:=HKY s ns) (i+1,kyL s.xs (ns.take (i+1))) ?_ ⟨⟨hil,rfl⟩,by show ns.length - (i+1)<ns.length - i;omega⟩
   show((HKY s ns).st (i+1,kyL s.xs (ns.take (i+1))))=_;have hl:(kyL s.xs (ns.take (i+1))).length =(kyL s.xs (ns.take i)).length +1:=by rw [Z0 hil e2];simp
   simp only [HKY,hl];rw [Z0 hil e2];simp only [e4,e0];rfl
  ·have e2:(!ieq (aA (aE s.xs (ns.getD (0+Int.toNat (i:Int)*1) 0)) 19 1) 1)=false:=e2;rw [e0]at e2;refine aN (H:=HKY s ns) (i+1,kyL s.xs (ns.take (i+1))) ?_ ⟨⟨hil,rfl⟩,by show ns.length - (i+1)<ns.length - i;omega⟩
   rw [aFu hil e2];simp only [HKY,e4];rfl
 ·rw [bG,dF']at e;have e: ¬(i:Int)<(ns.length:Int):=e;have hil:i=ns.length:=by omega
  subst hil;rw [List.take_length];exact hK
def kyS:aH Ob:=fun args h=>match args,h with
 | [.ptr 0 0,.agg [.int .i64 lt,.int .i64 ln],.int .i64 hd],[e1,e2]=>(match cO 1 [e1,e2]with
   | some (l,s)=>some (.pre (l=s.xs.length∧(0≤ln∧ln≤100000)∧(-1000000≤hd∧hd≤1000000)) (.ret (.slice 2 0 (keyF s.xs ln hd).length 1) [aZ 1 s,bA s,iI' (keyF s.xs ln hd)]))
   | none=>none)
 | _,_=>none
theorem Z1:sT' 110 kyS:=by
 intro args h o ho K hK;unfold kyS at ho;split at ho
 case h_2=>cases ho
 rename_i lt ln hd e1 e2;split at ho<;>cases ho
 rename_i l s hm;obtain⟨⟨hl,h1,h2⟩,hK⟩:=hK;have hh:=bB hm hl;cases hh;exact PN s lt ln hd K (aFv s lt ln hd K h1 h2 hK)
noncomputable def EU5:=EU4.addS 110 kyS Z1
end Go.Sh
namespace Go.Proofs
open Go.Shelf
def Tryz.lays189_ren:Go.Shelf.Ren:=⟨fun | 189=>111 | 125=>135 | 257=>134 | 128=>180 | 129=>181 | 294=>172 | 295=>173 | 296=>174 | 297=>175 | 298=>176 | 299=>177 | 216=>140 | 300=>178 | 301=>179 | 328=>236 | 329=>237 | 330=>238 | 331=>239 | 332=>240 | 215=>186 | 343=>276 | n=>n,fun | 28=>67 | 3=>3 | 46=>212 | 0=>0 | 51=>250 | 53=>72 | 4=>4 | 183=>244 | 182=>243 | 131=>195 | 5=>5 | 9=>9 | 218=>306 | 222=>309 | 228=>336 | 229=>337 | n=>n,fun | n=>n⟩
theorem Tryz.lays189:Go.Proofs.Lays.n189 Tryz.prog Tryz.lays189_ren:= {
 mixed:=by kernel_rfl,
 f125:=Tryz.func135.trans (congrArg some (by kernel_rfl)),
 f128:=Tryz.func180.trans (congrArg some (by kernel_rfl)),
 f129:=Tryz.func181.trans (congrArg some (by kernel_rfl)),
 f189:=Tryz.func111.trans (congrArg some (by kernel_rfl)),
 f215:=Tryz.func186.trans (congrArg some (by kernel_rfl)),
 f216:=Tryz.func140.trans (congrArg some (by kernel_rfl)),
 f257:=Tryz.func134.trans (congrArg some (by kernel_rfl)),
 f294:=Tryz.func172.trans (congrArg some (by kernel_rfl)),
 f295:=Tryz.func173.trans (congrArg some (by kernel_rfl)),
 f296:=Tryz.func174.trans (congrArg some (by kernel_rfl)),
 f297:=Tryz.func175.trans (congrArg some (by kernel_rfl)),
 f298:=Tryz.func176.trans (congrArg some (by kernel_rfl)),
 f299:=Tryz.func177.trans (congrArg some (by kernel_rfl)),
 f300:=Tryz.func178.trans (congrArg some (by kernel_rfl)),
 f301:=Tryz.func179.trans (congrArg some (by kernel_rfl)),
 f328:=Tryz.func236.trans (congrArg some (by kernel_rfl)),
 f329:=Tryz.func237.trans (congrArg some (by kernel_rfl)),
 f330:=Tryz.func238.trans (congrArg some (by kernel_rfl)),
 f331:=Tryz.func239.trans (congrArg some (by kernel_rfl)),
 f332:=Tryz.func240.trans (congrArg some (by kernel_rfl)),
 f343:=Tryz.func276.trans (congrArg some (by kernel_rfl)),
 t0:=Tryz.underlying0,
 a0:=Tryz.isAgg0,
 z0:=Tryz.sizeOf0,
 v0:=Tryz.zeroValue0,
 t3:=Tryz.underlying3,
 a3:=Tryz.isAgg3,
 z3:=Tryz.sizeOf3,
 v3:=Tryz.zeroValue3,
 t4:=Tryz.underlying4,
 a4:=Tryz.isAgg4,
 z4:=Tryz.sizeOf4,
 v4:=Tryz.zeroValue4,
 t5:=Tryz.underlying5,
 a5:=Tryz.isAgg5,
 z5:=Tryz.sizeOf5,
 v5:=Tryz.zeroValue5,
 t9:=Tryz.underlying9,
 a9:=Tryz.isAgg9,
 z9:=Tryz.sizeOf9,
 v9:=Tryz.zeroValue9,
 t28:=Tryz.underlying67,
 a28:=Tryz.isAgg67,
 z28:=Tryz.sizeOf67,
 v28:=Tryz.zeroValue67,
 t46:=Tryz.underlying212,
 a46:=Tryz.isAgg212,
 z46:=Tryz.sizeOf212,
 v46:=Tryz.zeroValue212,
 t51:=Tryz.underlying250,
 a51:=Tryz.isAgg250,
 z51:=Tryz.sizeOf250,
 v51:=Tryz.zeroValue250,
 t53:=Tryz.underlying72,
 a53:=Tryz.isAgg72,
 z53:=Tryz.sizeOf72,
 v53:=Tryz.zeroValue72,
 t131:=Tryz.underlying195,
 a131:=Tryz.isAgg195,
 z131:=Tryz.sizeOf195,
 v131:=Tryz.zeroValue195,
 t182:=Tryz.underlying243,
 a182:=Tryz.isAgg243,
 z182:=Tryz.sizeOf243,
 v182:=Tryz.zeroValue243,
 t183:=Tryz.underlying244,
 a183:=Tryz.isAgg244,
 z183:=Tryz.sizeOf244,
 v183:=Tryz.zeroValue244,
 t218:=Tryz.underlying306,
 a218:=Tryz.isAgg306,
 z218:=Tryz.sizeOf306,
 v218:=Tryz.zeroValue306,
 t222:=Tryz.underlying309,
 a222:=Tryz.isAgg309,
 z222:=Tryz.sizeOf309,
 v222:=Tryz.zeroValue309,
 t228:=Tryz.underlying336,
 a228:=Tryz.isAgg336,
 z228:=Tryz.sizeOf336,
 v228:=Tryz.zeroValue336,
 t229:=Tryz.underlying337,
 a229:=Tryz.isAgg337,
 z229:=Tryz.sizeOf337,
 v229:=Tryz.zeroValue337}
end Go.Proofs
namespace Go.Sh
open Go Go.Proofs
variable [Con]
def mK(xs:List Int):List Int:=xs.mergeSort fun x y=>decide (x≤y)
theorem n8(xs:List Int):(mK xs).length =xs.length:=by unfold mK;exact List.length_mergeSort xs
theorem wK(ys:List Int)(cs:Array Value)(tail:List Value)(xs:List Int)(hl:ys.length=xs.length)(hcs:cs.toList=xs.map (Code1.val (some .i64))++tail):
 (Go.Sort.putCells (Value.int .i64) 0 ys.toArray cs).toList =ys.map (Code1.val (some .i64))++tail:=by
 apply List.ext_getElem?;intro k;rw [Array.getElem?_toList];unfold Go.Sort.putCells;rw [Array.getElem?_mapIdx];have hk:cs[k]? =(xs.map (Code1.val (some .i64))++tail)[k]? :=by rw [←hcs,Array.getElem?_toList]
 rw [hk]
 by_cases hlt:k<xs.length
 ·rw [List.getElem?_append_left (by rw [List.length_map];exact hlt),List.getElem?_append_left (by rw [List.length_map];omega),List.getElem?_map,List.getElem?_map,gE' hlt,gE' (by omega:k<ys.length)]
  have hc:0≤k∧k<0+ys.toArray.size:=by simp;omega
  simp only [Option.map_some];rw [if_pos hc]
  have:ys.toArray[k - 0]! =ys[k]'(by omega):=by
   rw [getElem!_pos ys.toArray (k - 0) (by simp;omega)];simp
  rw [this];rfl
 ·rw [List.getElem?_append_right (by rw [List.length_map];omega),List.getElem?_append_right (by rw [List.length_map];omega),List.length_map,List.length_map,hl]
  cases tail[k - xs.length]? with
  | none=>rfl
  | some y=>
    have hc: ¬(0≤k∧k<0+ys.toArray.size):=by simp;omega
    simp only [Option.map_some];rw [if_neg hc]
def srS:aH Ob:=fun args h=>match args,h with
 | [.slice 0 0 k 1],[some (.ints (some .i64) xs)]=>some (.pre (k=xs.length∧k≤1000000) (.ret (.tup []) [some (.ints (some .i64) (mK xs))]))
 | _,_=>none
theorem aAg:sT' 111 srS:=by
 intro args h o ho K hK;unfold srS at ho;split at ho<;>cases ho
 rename_i k xs;obtain⟨⟨rfl,hk⟩,hK⟩:=hK;have hK:K (.tup []) [some (.ints (some .i64) (mK xs))]:=hK;intro V hR w args' hi hf hr;obtain⟨v,vs,e,⟨base,cap,rfl,hcap,hb⟩,e2⟩:=hr;have e2:vs=[]:=e2;subst e2;have ha:args'= #[.slice base xs.length cap]:=by apply Array.ext';simpa using e
 subst ha
 by_cases hx:xs=[]
 ·subst hx;refine(Go.Proofs.Any.slices_Sort_int_none Go.Proofs.Tryz.lays189 base cap w).mono ?_;rintro e w' ⟨rfl,rfl⟩;exact⟨.tup [],.tuple #[],V,_,hK,rfl,⟨#[],rfl,rfl⟩,V.le_refl,hf,Nat.le_refl _,(by rw [show mK []=[]from by simp [mK]];exact hi),aII _⟩
 ·have hpos:0<xs.length:=List.length_pos_iff.2 hx;obtain⟨hs,h1,h2,h3,h4,h5,h6,h7⟩:=hi;rcases h1 0 _ rfl with⟨q,_⟩ | ⟨b,k,hV,cs,T,tail,hone,hsz,hcs⟩
  ·exact absurd q hx
  rcases hb with⟨b',k',hV',rfl,hle⟩ | ⟨hn,_⟩
  case inr=>omega
  rw [hV]at hV';simp only [sI',pI']at hV';obtain⟨rfl,rfl⟩:=hV';have hwb:w.heap[b]? =some (.cells cs T):=h5 0 b _ (by rw [hone];simp [PHeap.one])
  have hbl:b<w.heap.size:=(Array.getElem?_eq_some_iff.1 hwb).1
  have hH:Go.Sort.Holds (Value.int .i64) w b 0 xs.toArray:=by
   intro j hj;have hj:j<xs.length:=by simpa using hj
   constructor
   ·have:cs[j]? =some (.int .i64 xs[j]):=by
     rw [←Array.getElem?_toList,hcs,List.getElem?_append_left (by rw [List.length_map];exact hj),List.getElem?_map,gE' hj];rfl
    have h0:xs.toArray[j]! =xs[j]:=by rw [getElem!_pos xs.toArray j (by simpa using hj)];simp
    simp only [World.cell?,hwb,Nat.zero_add,h0];exact this
   ·simp [World.frozen?,hwb]
  have hwe:w.heap.size=w.heap.size:=rfl;have hcall:=Go.Proofs.Any.slices_Sort_int Go.Proofs.Tryz.lays189 b 0 cap xs w hH hbl (by omega)
  refine hcall.mono ?_;rintro e w' ⟨rfl,n,os,rfl⟩;have hys:(xs.mergeSort fun x y=>decide (x≤y))=mK xs:=rfl;rw [hys];have hyl:=n8 xs;generalize hyg:mK xs=ys at hK hyl;have hcl:=wK ys cs tail xs hyl hcs;generalize hcg:Go.Sort.putCells (Value.int .i64) 0 ys.toArray cs=cs2 at hcl
  have hw2b:(Go.Sort.putRow (Value.int .i64) (Go.Sort.ahead w n) b 0 ys.toArray).heap[b]? =some (.cells cs2 T):=by
   unfold Go.Sort.putRow Go.Sort.mapBlock;show(w.heap.modify b _)[b]? =_;rw [Array.getElem?_modify,if_pos rfl,hwb,←hcg];rfl
  have hw2o: ∀c,c≠b→(Go.Sort.putRow (Value.int .i64) (Go.Sort.ahead w n) b 0 ys.toArray).heap[c]? =w.heap[c]? :=by
   intro c hc;unfold Go.Sort.putRow Go.Sort.mapBlock;show(w.heap.modify b _)[c]? =_;rw [Array.getElem?_modify,if_neg (fun e=>hc e.symm)]
  have hsz2:(Go.Sort.putRow (Value.int .i64) (Go.Sort.ahead w n) b 0 ys.toArray).heap.size =w.heap.size:=by
   unfold Go.Sort.putRow Go.Sort.mapBlock;show(w.heap.modify b _).size =_;exact Array.size_modify
  have hos:(Go.Sort.putRow (Value.int .i64) (Go.Sort.ahead w n) b 0 ys.toArray).os =w.os:=rfl;have hout:(Go.Sort.putRow (Value.int .i64) (Go.Sort.ahead w n) b 0 ys.toArray).output =w.output:=rfl;generalize Go.Sort.putRow (Value.int .i64) (Go.Sort.ahead w n) b 0 ys.toArray=w2 at hw2b hw2o hsz2 hos hout;have hg: ∀c,c<w.heap.size→(Go.Sort.grow w2 os).heap[c]? =w2.heap[c]? :=fun c hc=>Go.Sort.heap_grow_old w2 os (by omega)
  have hlt: ∀(c:Nat) (o:Obj),w.heap[c]? =some o→c<w.heap.size:=fun c o h=>(Array.getElem?_eq_some_iff.1 h).1
  have hRb:hR b=none:=by
   rcases h4 0 b with q | q
   ·rw [hone]at q;simp [PHeap.one]at q
   ·exact q
  have hemp: ∀l,l≠0→hs l=.emp :=by
   intro l hl;refine h2 l ?_;cases l with
   | zero=>exact absurd rfl hl
   | succ l=>simp [toF,aJ]
  refine⟨.tup [],.tuple #[],V,_,hK,rfl,⟨#[],rfl,rfl⟩,V.le_refl,hf,Nat.le_refl _,⟨fun l=>if l=0 then .one b (.cells cs2 T)else .emp,?_,?_,?_,?_,?_,?_,h7⟩,⟨hos,hout,by simp;omega,?_⟩⟩
  ·intro l e he;cases l with
   | zero=>
     have he:some (aG.ints (some .i64) ys)=some e:=he;cases he;refine .inr ⟨b,k,hV,cs2,T,tail,by simp,?_,hcl⟩
     rw [←hsz,←Array.length_toList,←Array.length_toList,hcl,hcs];simp [hyl]
   | succ l=>simp [toF,aJ]at he
  ·intro l hl;cases l with
   | zero=>exact absurd hl (by simp [toF,aJ])
   | succ l=>simp
  ·intro l m hlm c
   by_cases hl:l=0
   ·subst hl;right;simp [Ne.symm hlm,PHeap.emp]
   ·left;simp [hl,PHeap.emp]
  ·intro l c
   by_cases hl:l=0
   ·subst hl
    by_cases hc:c=b
    ·right;rw [hc];exact hRb
    ·left;simp [PHeap.one,hc]
   ·left;simp [hl,PHeap.emp]
  ·intro l c o hc
   by_cases hl:l=0
   ·subst hl;have hc:PHeap.one b (.cells cs2 T) c=some o:=hc
    by_cases hcb:c=b
    ·subst hcb;rw [hg c hbl,hw2b]
     simpa [PHeap.one]using hc
    ·simp [PHeap.one,hcb]at hc
   ·simp [hl,PHeap.emp]at hc
  ·intro c o hc;have hw:=h6 c o hc;have hcb:c≠b:=by intro e;rw [e,hRb]at hc;cases hc
   rw [hg c (hlt c o hw),hw2o c hcb];exact hw
  ·intro a ha;have h1:(Go.Sort.grow w2 os).frozen? a=w2.frozen? a:=Go.Sort.frozen?_grow w2 os a (by omega)
   rw [h1];unfold World.frozen?
   by_cases hab:a.block=b
   ·rw [hab,hw2b,hwb]
   ·rw [hw2o _ hab]
noncomputable def EU6:=EU5.addS 111 srS aAg
end Go.Sh
