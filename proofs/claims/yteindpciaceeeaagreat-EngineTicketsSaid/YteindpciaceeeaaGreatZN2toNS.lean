import Derived.Shelf.Sort.Plain
import Derived.Shelf.Slices.In.SortNone
import Derived.Test.YteindpciaceeeaaGreatZSh29
set_option linter.all false
set_option maxHeartbeats 8000000
namespace Go.Sh
open Go Go.Proofs
variable [Con]
def wlS:aI Ob:=fun args h=>match args,h with
 | [.ptr 0 0],[some (.abs (.worker x) [])]=>some (.pre True (.ret (.I (W ((x.tk.length:Int) - x.en))) [some (.abs (.worker x) [])]))
 | _,_=>none
abbrev w2g(x:WKS):Option (aH Ob):=cE' [.ptr 1 0,.tslice 2 0 x.tk.length 3,.I x.en,.raw (.pointer none),.slice 3 0 x.tl.length 1,.slice 4 0 x.sl.length 1]
theorem aGg(x:WKS)(K:AVal→aC Ob→Prop)(hK:K (.I (W ((x.tk.length:Int) - x.en))) [w2g x,some (.abs (.store x.t x.n x.st) []),some (.tab cK3 x.tk),iI' x.tl,iI' x.sl]):cT' 91 [.ptr 0 0] [w2g x,some (.abs (.store x.t x.n x.st) []),some (.tab cK3 x.tk),iI' x.tl,iI' x.sl] K:=by
 refine aHa (cM' (E:=EN1) (q:=K (.I (W ((↑x.4.length:Int) - x.5))) [cE' [.ptr 1 0,.tslice 2 0 x.4.length 3,.I x.5,.N,.slice 3 0 x.8.length 1,.slice 4 0 x.9.length 1],some (.abs (.store x.1 x.2 x.3) []),some (.tab cK3 x.4),iI' x.8,iI' x.9]) (by kernel_rfl) ?_)
 exact hK
abbrev w2h(x:WKS):Option (aH Ob):=cE' [.ptr 1 0,.tslice 2 0 x.tk.length 3,.I x.en,.ptr 3 0,.slice 4 0 x.tl.length 1,.slice 5 0 x.sl.length 1]
theorem aGh(x:WKS)(K:AVal→aC Ob→Prop)(hK:K (.I (W ((x.tk.length:Int) - x.en))) [w2h x,some (.abs (.store x.t x.n x.st) []),some (.tab cK3 x.tk),some (.abs (.doer x.t x.n x.d) [1]),iI' x.tl,iI' x.sl]):cT' 91 [.ptr 0 0] [w2h x,some (.abs (.store x.t x.n x.st) []),some (.tab cK3 x.tk),some (.abs (.doer x.t x.n x.d) [1]),iI' x.tl,iI' x.sl] K:=by
 refine aHa (cM' (E:=EN1) (q:=K (.I (W ((↑x.4.length:Int) - x.5))) [cE' [.ptr 1 0,.tslice 2 0 x.4.length 3,.I x.5,.ptr 3 0,.slice 4 0 x.8.length 1,.slice 5 0 x.9.length 1],some (.abs (.store x.1 x.2 x.3) []),some (.tab cK3 x.4),some (.abs (.doer x.1 x.2 x.7) [1]),iI' x.8,iI' x.9]) (by kernel_rfl) ?_)
 exact hK
theorem aFj:sT' 91 wlS:=by
 intro args h o ho K hK;unfold wlS at ho;split at ho<;>cases ho
 rename_i x;obtain⟨ok,hK⟩:=hK;have hK:K (.I (W ((x.tk.length:Int) - x.en))) [some (.abs (.worker x) [])]:=hK;refine aHn ?_;cases e:x.b with
 | false=>
   refine aHi (h2:=nH x) (aR.unpack (.worker x) 0 0 (nH x) [] rfl (congrArg (Prod.mk 0) (qJ e)) rfl rfl) ?_;refine aGg x _ ⟨⟨_,_,aF.pack [some (.abs (.worker x) [])] (.worker x) 0 0 (nH x) [] (by kernel_rfl) rfl (congrArg (Prod.mk 0) (qJ e)) (by kernel_rfl),hK⟩⟩
 | true=>
   refine aHi (h2:=rL x) (aR.unpack (.worker x) 0 0 (rL x) [] rfl (congrArg (Prod.mk 0) (xG e)) rfl rfl) ?_;refine aGh x _ ⟨⟨_,_,aF.pack [some (.abs (.worker x) [])] (.worker x) 0 0 (rL x) [] (by kernel_rfl) rfl (congrArg (Prod.mk 0) (xG e)) (by kernel_rfl),hK⟩⟩
noncomputable def EW1:=EN1.addS 91 wlS aFj
structure WK1 where
 t:Int
 n:Int
 st:STS
 tk:List (List Int)
 en:Int
 d:DOS
 tl:List Int
 sl:List Int
instance:Inhabited WK1:=⟨⟨0,0,⟨0,0,[]⟩,[],0,d3,[],[]⟩⟩
abbrev IC(x:WK1):aC Ob:=[cE' [.ptr 1 0,.tslice 2 0 x.tk.length 3,.I x.en,.ptr 3 0,.slice 4 0 x.tl.length 1,.slice 5 0 x.sl.length 1],some (.abs (.store x.t x.n x.st) []),some (.tab tkK x.tk),some (.abs (.doer x.t x.n x.d) [1]),iI' x.tl,iI' x.sl]
def aFi(x:WKS):WK1:=⟨x.t,x.n,x.st,x.tk,x.en,x.d,x.tl,x.sl⟩
def wbP(v:AVal)(g:aC Ob):Option (Prop×WK1):=match v,g with
 | .bool true,[some (.cells [.ptr 1 0,.tslice 2 0 k 3,.int .i64 en,.ptr 3 0,.slice 4 0 a 1,.slice 5 0 b 1]),some (.abs (.store t n st) []),some (.tab [some .i64,some .i64,some .i64] tk),some (.abs (.doer t1 n1 d) [1]),some (.ints (some .i64) tl),some (.ints (some .i64) sl)]=>some (k=tk.length∧a=tl.length∧b=sl.length∧t1=t∧n1=n,⟨t,n,st,tk,en,d,tl,sl⟩)
 | _,_=>none
theorem aC5:bM (obI tbl) 1 wbP (fun y=>.ret (.bool true) (IC y)):=by
 intro v g p x hp hq K hK;unfold wbP at hp;split at hp
 case h_2=>cases hp
 cases hp;obtain⟨rfl,rfl,rfl,rfl,rfl⟩:=hq;exact⟨⟨_,_,aHr _ _ _,hK⟩⟩
abbrev w2i(x:WKS):=List.getD x.4 (0+Int.toNat x.5) []
def LO(tr:Int)(x:WKS):Tr WK1:=.pre ((0:Int)≤x.5∧x.5<(↑x.4.length:Int)) (.pre (0+Int.toNat x.5<x.4.length) (.pre (MZ x.1 x.2 (List.headD (w2i x) 0) (List.headD (List.tail (w2i x)) 0) (List.headD (List.tail (List.tail (w2i x))) 0) tr x.3∧True) (.pre (0=0∧lE' x.8∧1=1∧x.8.length+(1:Nat)≤(4294967296:Nat)) (.pre (lE' x.4∧x.8.length+(1:Nat)=List.length (x.8++ [0])∧lE' x.9∧x.1=x.1∧x.2=x.2) (.ret {x with st:=(dqNF x.1 x.2 (List.headD (w2i x) 0) (List.headD (List.tail (w2i x)) 0) (List.headD (List.tail (List.tail (w2i x))) 0) tr x.3).2,d:=(dqNF x.1 x.2 (List.headD (w2i x) 0) (List.headD (List.tail (w2i x)) 0) (List.headD (List.tail (List.tail (w2i x))) 0) tr x.3).1,tl:=x.8++ [0],sl:=x.9})))))
theorem XU(tr:Int)(x:WKS)(K:WK1→Prop)(h:(LO tr x).run K):cT' 95 [.ptr 0 0,.I tr] [cE' [.ptr 1 0,.tslice 2 0 x.tk.length 3,.I x.en,.raw (.pointer none),.slice 3 0 x.tl.length 1,.slice 4 0 x.sl.length 1],some (.abs (.store x.t x.n x.st) []),some (.tab cK3 x.tk),iI' x.tl,iI' x.sl] (bU 1 0 [] [] wbP K):=by
 exact cM' (E:=EW1) (by kernel_rfl) h
theorem aGf(tr:Int)(x:WKS)(K:AVal→aC Ob→Prop)(hK:K (.bool false) (rL x)):cT' 95 [.ptr 0 0,.I tr] [cE' [.ptr 1 0,.tslice 2 0 x.tk.length 3,.I x.en,.ptr 3 0,.slice 4 0 x.tl.length 1,.slice 5 0 x.sl.length 1],some (.abs (.store x.t x.n x.st) []),some (.tab cK3 x.tk),some (.abs (.doer x.t x.n x.d) [1]),iI' x.tl,iI' x.sl] K:=by
 refine aHa (cM' (E:=EW1) (q:=K (.bool false) [cE' [.ptr 1 0,.tslice 2 0 x.4.length 3,.I x.5,.ptr 3 0,.slice 4 0 x.8.length 1,.slice 5 0 x.9.length 1],some (.abs (.store x.1 x.2 x.3) []),some (.tab cK3 x.4),some (.abs (.doer x.1 x.2 x.7) [1]),iI' x.8,iI' x.9]) (by kernel_rfl) ?_)
 exact hK
def wbF(tr:Int)(x:WKS):WK1:=bif x.b then aFi x else(LO tr x).val
def RH(tr:Int)(x:WKS):Prop:=bif x.b then True else(LO tr x).ok
def wbS:aI Ob:=fun args h=>match args,h with
 | [.ptr 0 0,.int .i64 tr],[some (.abs (.worker x) [])]=>some (.pre (RH tr x) (.ret (.bool (!x.b)) (IC (wbF tr x))))
 | _,_=>none
theorem aFf:sT' 95 wbS:=by
 intro args h o ho K hK;unfold wbS at ho;split at ho<;>cases ho
 rename_i tr x;obtain⟨ok,hK⟩:=hK;have hK:K (.bool (!x.b)) (IC (wbF tr x)):=hK;unfold wbF at hK;unfold RH at ok;cases e:x.b with
 | false=>
   rw [e]at ok hK;exact aHb (root:=0) (pos:=[]) (cs:=[]) (parse:=wbP) (fin:=fun y=>.ret (.bool true) (IC y)) aC5 (aR.unpack (.worker x) 0 0 (nH x) [] rfl (congrArg (Prod.mk 0) (qJ e)) rfl rfl) (XU tr x _ (aHe ok hK))
 | true=>
   rw [e]at hK;exact aHi (h2:=rL x) (aR.unpack (.worker x) 0 0 (rL x) [] rfl (congrArg (Prod.mk 0) (xG e)) rfl rfl) (aGf tr x K hK)
noncomputable def EW2:=EW1.addS 95 wbS aFf
structure WkO where
 code:Int
 okk:Bool
 val:Int
 d:Bool
 x:WKS
 s:MS
instance:Inhabited WkO:=⟨⟨0,false,0,false,default,⟨0,0,[],0,0,0,0,0,false⟩⟩⟩
abbrev LW(y:WkO):aC Ob:=[some (.abs (.worker y.x) []),none,none,none,none,none,aZ 7 y.s,a8 y.s]
abbrev XX(y:WkO):AVal:=.tup [.agg [.I y.code,.bool y.okk,.I y.val],.bool y.d]
def aC9(v:AVal)(g:aC Ob):Option (Prop×WkO):=match v,g with
 | .tup [.agg [.int .i64 code,.bool okk,.int .i64 val],.bool dn],[some (.cells [.ptr 1 0,.tslice 2 0 k 3,.int .i64 en,.ptr 3 0,.slice 4 0 a 1,.slice 5 0 b 1]),some (.abs (.store t n st) []),some (.tab [some .i64,some .i64,some .i64] tk),some (.abs (.doer t1 n1 d) [1]),some (.ints (some .i64) tl),some (.ints (some .i64) sl),e1,e2]=>(match cH 7 [e1,e2]with
   | some (l,s)=>some (k=tk.length∧a=tl.length∧b=sl.length∧t1=t∧n1=n∧l=s.xs.length,⟨code,okk,val,dn,⟨t,n,st,tk,en,true,d,tl,sl⟩,s⟩)
   | none=>none)
 | _,_=>none
def aC8(v:AVal)(g:aC Ob):Option (Prop×WkO):=match v,g with
 | .tup [.agg [.int .i64 code,.bool okk,.int .i64 val],.bool dn],[some (.cells [.ptr 1 0,.tslice 2 0 k 3,.int .i64 en,.raw (.pointer none),.slice 4 0 a 1,.slice 5 0 b 1]),some (.abs (.store t n st) []),some (.tab [some .i64,some .i64,some .i64] tk),_,some (.ints (some .i64) tl),some (.ints (some .i64) sl),e1,e2]=>(match cH 7 [e1,e2]with
   | some (l,s)=>some (k=tk.length∧a=tl.length∧b=sl.length∧l=s.xs.length,⟨code,okk,val,dn,⟨t,n,st,tk,en,false,d3,tl,sl⟩,s⟩)
   | none=>none)
 | _,_=>none
def aDa(v:AVal)(g:aC Ob):Option (Prop×WkO):=match v,g with
 | .tup [.agg [.int .i64 code,.bool okk,.int .i64 val],.bool dn],[some (.cells [.ptr 1 0,.tslice 2 0 k 3,.int .i64 en,.raw (.pointer none),.slice 4 0 a 1,.slice 8 0 b 1]),some (.abs (.store t n st) []),some (.tab [some .i64,some .i64,some .i64] tk),_,some (.ints (some .i64) tl),_,e1,e2,some (.ints (some .i64) sl)]=>(match cH 7 [e1,e2]with
   | some (l,s)=>some (k=tk.length∧a=tl.length∧b=sl.length∧l=s.xs.length,⟨code,okk,val,dn,⟨t,n,st,tk,en,false,d3,tl,sl⟩,s⟩)
   | none=>none)
 | _,_=>none
def wsP(v:AVal)(g:aC Ob):Option (Prop×WkO):=match aC9 v g with
 | some r=>some r
 | none=>(match aC8 v g with
   | some r=>some r
   | none=>aDa v g)
theorem X1:bM (obI tbl) 8 aC9 (fun y=>.ret (XX y) (LW y)):=by
 intro v g p x hp hq K hK;unfold aC9 at hp;split at hp
 case h_2=>cases hp
 rename_i code okk val dn k en a b t n st tk t1 n1 d tl sl e1 e2;split at hp
 case h_2=>cases hp
 rename_i l s hm;cases hp;obtain⟨rfl,rfl,rfl,rfl,rfl,hl⟩:=hq;cases aY hm hl;exact⟨⟨_,_,((aF.move 1 (of_decide_eq_true rfl)).trans ((aF.move 2 (of_decide_eq_true rfl)).trans ((aF.move 3 (of_decide_eq_true rfl)).trans ((aF.move 4 (of_decide_eq_true rfl)).trans ((aF.move 5 (of_decide_eq_true rfl)).trans ((aHl (v2:=XX ⟨code,okk,val,dn,⟨t1,n1,st,tk,en,true,d,tl,sl⟩,s⟩) (g2:=aP (LW ⟨code,okk,val,dn,⟨t1,n1,st,tk,en,true,d,tl,sl⟩,s⟩) 0 0 (rL ⟨t1,n1,st,tk,en,true,d,tl,sl⟩) []) (by kernel_rfl) (by kernel_rfl)).trans (aF.pack (LW ⟨code,okk,val,dn,⟨t1,n1,st,tk,en,true,d,tl,sl⟩,s⟩) (.worker ⟨t1,n1,st,tk,en,true,d,tl,sl⟩) 0 0 (rL ⟨t1,n1,st,tk,en,true,d,tl,sl⟩) [] rfl rfl (congrArg (Prod.mk 0) (xG rfl)) (by kernel_rfl)))))))),hK⟩⟩
theorem X0:bM (obI tbl) 8 aC8 (fun y=>.ret (XX y) (LW y)):=by
 intro v g p x hp hq K hK;unfold aC8 at hp;split at hp
 case h_2=>cases hp
 rename_i code okk val dn k en a b t n st tk e3 tl sl e1 e2;split at hp
 case h_2=>cases hp
 rename_i l s hm;cases hp;obtain⟨rfl,rfl,rfl,hl⟩:=hq;cases aY hm hl;exact⟨⟨_,_,((aF.weak (jH _ 3 none trivial)).trans ((aF.move 1 (of_decide_eq_true rfl)).trans ((aF.move 2 (of_decide_eq_true rfl)).trans ((aF.move 4 (of_decide_eq_true rfl)).trans ((aF.move 5 (of_decide_eq_true rfl)).trans ((aHl (v2:=XX ⟨code,okk,val,dn,⟨t,n,st,tk,en,false,d3,tl,sl⟩,s⟩) (g2:=aP (LW ⟨code,okk,val,dn,⟨t,n,st,tk,en,false,d3,tl,sl⟩,s⟩) 0 0 (nH ⟨t,n,st,tk,en,false,d3,tl,sl⟩) []) (by kernel_rfl) (by kernel_rfl)).trans (aF.pack (LW ⟨code,okk,val,dn,⟨t,n,st,tk,en,false,d3,tl,sl⟩,s⟩) (.worker ⟨t,n,st,tk,en,false,d3,tl,sl⟩) 0 0 (nH ⟨t,n,st,tk,en,false,d3,tl,sl⟩) [] rfl rfl (congrArg (Prod.mk 0) (qJ rfl)) (by kernel_rfl)))))))),hK⟩⟩
theorem X2:bM (obI tbl) 8 aDa (fun y=>.ret (XX y) (LW y)):=by
 intro v g p x hp hq K hK;unfold aDa at hp;split at hp
 case h_2=>cases hp
 rename_i code okk val dn k en a b t n st tk e3 tl e4 e1 e2 sl;split at hp
 case h_2=>cases hp
 rename_i l s hm;cases hp;obtain⟨rfl,rfl,rfl,hl⟩:=hq;cases aY hm hl;exact⟨⟨_,_,((aF.weak (jH _ 3 none trivial)).trans ((aF.weak (jH _ 5 none trivial)).trans ((aF.move 1 (of_decide_eq_true rfl)).trans ((aF.move 2 (of_decide_eq_true rfl)).trans ((aF.move 4 (of_decide_eq_true rfl)).trans ((aF.move 8 (of_decide_eq_true rfl)).trans ((aF.pick [0,1,2,3,4,5,6,7,9,10,11,12] rfl).trans ((aHl (v2:=XX ⟨code,okk,val,dn,⟨t,n,st,tk,en,false,d3,tl,sl⟩,s⟩) (g2:=aP (LW ⟨code,okk,val,dn,⟨t,n,st,tk,en,false,d3,tl,sl⟩,s⟩) 0 0 (nH ⟨t,n,st,tk,en,false,d3,tl,sl⟩) []) (by kernel_rfl) (by kernel_rfl)).trans (aF.pack (LW ⟨code,okk,val,dn,⟨t,n,st,tk,en,false,d3,tl,sl⟩,s⟩) (.worker ⟨t,n,st,tk,en,false,d3,tl,sl⟩) 0 0 (nH ⟨t,n,st,tk,en,false,d3,tl,sl⟩) [] rfl rfl (congrArg (Prod.mk 0) (qJ rfl)) (by kernel_rfl)))))))))),hK⟩⟩
theorem aDb:bM (obI tbl) 8 wsP (fun y=>.ret (XX y) (LW y)):=by
 intro v g p x hp hq K hK;unfold wsP at hp;split at hp
 ·rename_i r hr;cases hp;exact X1 v g p x hr hq K hK
 split at hp
 ·rename_i r hr;cases hp;exact X0 v g p x hr hq K hK
 exact X2 v g p x hp hq K hK
abbrev w2j(s:MS)(x:WK1):=rS x.1 x.2 x.6 x.3 s
abbrev w2k(x:WK1):=W (List.getD x.7 (0+Int.toNat x.5*1) 0+1)
def wsT(x:WK1)(s:MS):Tr WkO:=.pre ((0:Int)≤x.5∧x.5<(↑x.7.length:Int)) (.pre (0+Int.toNat x.5*(1:Nat)<x.7.length) (.pre ((0:Int)≤x.5∧x.5<(↑x.7.length:Int)) (.pre (0+Int.toNat x.5*(1:Nat)<x.7.length) (.pre ((lE' s.3∧x.1=x.1∧x.2=x.2)∧TC x.1 x.2 x.6 x.3 s) (.ite (w2j s x).1 (.ite (DqO.x (w2j s x)).4 (.pre (0=0∧lE' x.8∧1=1∧x.8.length+(1:Nat)≤(4294967296:Nat)) (.pre (lE' x.4∧x.7.length=List.length (List.set x.7 (0+Int.toNat x.5*1) (w2k x))∧x.8.length+(1:Nat)=List.length (x.8++ [x.5])∧lE' (DqO.s (w2j s x)).3) (.ret {code:=(DqO.x (w2j s x)).1,okk:=(DqO.x (w2j s x)).2,val:=(DqO.x (w2j s x)).3,d:=true,x:= {x with st:=(w2j s x).3,en:=W (x.5+1),b:=false,d:=d3,tl:=List.set x.7 (0+Int.toNat x.5*1) (w2k x),sl:=x.8++ [x.5] },s:=(w2j s x).4}))) (.pre (lE' x.4∧x.7.length=List.length (List.set x.7 (0+Int.toNat x.5*1) (w2k x))∧lE' x.8∧lE' (DqO.s (w2j s x)).3) (.ret {code:=(DqO.x (w2j s x)).1,okk:=(DqO.x (w2j s x)).2,val:=(DqO.x (w2j s x)).3,d:=true,x:= {x with st:=(w2j s x).3,en:=W (x.5+1),b:=false,d:=d3,tl:=List.set x.7 (0+Int.toNat x.5*1) (w2k x),sl:=x.8},s:=(w2j s x).4}))) (.pre (lE' x.4∧x.7.length=List.length (List.set x.7 (0+Int.toNat x.5*1) (w2k x))∧lE' x.8∧x.1=x.1∧x.2=x.2∧lE' (DqO.s (w2j s x)).3) (.ret {code:=0,okk:=false,val:=0,d:=false,x:= {x with st:=(w2j s x).3,b:=true,d:=(w2j s x).2,tl:=List.set x.7 (0+Int.toNat x.5*1) (w2k x),sl:=x.8},s:=(w2j s x).4})))))))
theorem aDc(x:WK1)(s:MS)(K:WkO→Prop)(h:(wsT x s).run K):cT' 97 [.ptr 0 0,.ptr 6 0] [cE' [.ptr 1 0,.tslice 2 0 x.tk.length 3,.I x.en,.ptr 3 0,.slice 4 0 x.tl.length 1,.slice 5 0 x.sl.length 1],some (.abs (.store x.t x.n x.st) []),some (.tab cK3 x.tk),some (.abs (.doer x.t x.n x.d) [1]),iI' x.tl,iI' x.sl,aZ 7 s,a8 s] (bU 8 0 [] [] wsP K):=by
 exact cM' (E:=EW2) (by kernel_rfl) h
def wsF(x:WK1)(s:MS):WkO:=(wsT x s).val
def XZ(x:WK1)(s:MS):Prop:=(wsT x s).ok
def wsS:aI Ob:=fun args h=>match args,h with
 | [.ptr 0 0,.ptr 6 0],[some (.cells [.ptr 1 0,.tslice 2 0 k 3,.int .i64 en,.ptr 3 0,.slice 4 0 a 1,.slice 5 0 b 1]),some (.abs (.store t n st) []),some (.tab [some .i64,some .i64,some .i64] tk),some (.abs (.doer t1 n1 d) [1]),some (.ints (some .i64) tl),some (.ints (some .i64) sl),e1,e2]=>(match cH 7 [e1,e2]with
   | some (l,s)=>some (.pre ((k=tk.length∧a=tl.length∧b=sl.length∧t1=t∧n1=n∧l=s.xs.length)∧XZ ⟨t,n,st,tk,en,d,tl,sl⟩ s) (.ret (XX (wsF ⟨t,n,st,tk,en,d,tl,sl⟩ s)) (LW (wsF ⟨t,n,st,tk,en,d,tl,sl⟩ s))))
   | none=>none)
 | _,_=>none
theorem aFm:sT' 97 wsS:=by
 intro args h o ho K hK;unfold wsS at ho;split at ho
 case h_2=>cases ho
 rename_i k en a b t n st tk t1 n1 d tl sl e1 e2;split at ho<;>cases ho
 rename_i l s hm;obtain⟨⟨⟨rfl,rfl,rfl,rfl,rfl,hl⟩,ok⟩,hK⟩:=hK;cases aY hm hl;refine aHm (root:=0) (pos:=[]) (cs:=[]) (parse:=wsP) (fin:=fun y=>.ret (XX y) (LW y)) aDb ?_;exact aDc ⟨t1,n1,st,tk,en,d,tl,sl⟩ s _ (aHe ok hK)
noncomputable def EW3:=EW2.addS 97 wsS aFm
def dtS:aI Ob:=fun args h=>match args,h with
 | [.ptr 0 0],[some (.abs (.doer t n x) [1]),some (.abs (.store t2 n2 st) [])]=>some (.pre True (.ret (.agg [.I x.sh,.I x.kd,.I x.ky]) [some (.abs (.doer t n x) [1]),some (.abs (.store t2 n2 st) [])]))
 | _,_=>none
abbrev w2l(n n2:Int)(st:STS)(t t2:Int)(x:DOS):aC Ob:=[some (.abs (.doer t n x) [1]),some (.abs (.store t2 n2 st) [])]
abbrev w2m(x:DOS):List AVal:=[.I x.sh,.I x.kd,.I x.ky]
theorem aDS(t n t2 n2:Int)(x:DOS)(st:STS)(K:AVal→aC Ob→Prop)(hK:K (.agg (w2m x)) (aP (w2l n n2 st t t2 x) 0 1 (gV t n x) [1])):cT' 96 [.ptr 0 0] (aP (w2l n n2 st t t2 x) 0 1 (gV t n x) [1]) K:=by
 refine aHa ?_;exact cM' (E:=EW3) (by kernel_rfl) hK
theorem aDT(t n t2 n2:Int)(x:DOS)(st:STS)(K:AVal→aC Ob→Prop)(hK:K (.agg (w2m x)) (aP (w2l n n2 st t t2 x) 0 1 (gW t n x) [1])):cT' 96 [.ptr 0 0] (aP (w2l n n2 st t t2 x) 0 1 (gW t n x) [1]) K:=by
 refine aHa ?_;exact cM' (E:=EW3) (by kernel_rfl) hK
theorem aDU(t n t2 n2:Int)(x:DOS)(st:STS)(K:AVal→aC Ob→Prop)(hK:K (.agg (w2m x)) (aP (w2l n n2 st t t2 x) 0 1 (gX t n x) [1])):cT' 96 [.ptr 0 0] (aP (w2l n n2 st t t2 x) 0 1 (gX t n x) [1]) K:=by
 refine aHa ?_;exact cM' (E:=EW3) (by kernel_rfl) hK
theorem aDV(t n t2 n2:Int)(x:DOS)(st:STS)(K:AVal→aC Ob→Prop)(hK:K (.agg (w2m x)) (aP (w2l n n2 st t t2 x) 0 1 (gY t n x) [1])):cT' 96 [.ptr 0 0] (aP (w2l n n2 st t t2 x) 0 1 (gY t n x) [1]) K:=by
 refine aHa ?_;exact cM' (E:=EW3) (by kernel_rfl) hK
theorem aDW(t n t2 n2:Int)(x:DOS)(st:STS)(K:AVal→aC Ob→Prop)(hK:K (.agg (w2m x)) (aP (w2l n n2 st t t2 x) 0 1 (gZ t n x) [1])):cT' 96 [.ptr 0 0] (aP (w2l n n2 st t t2 x) 0 1 (gZ t n x) [1]) K:=by
 refine aHa ?_;exact cM' (E:=EW3) (by kernel_rfl) hK
theorem aDX(t n t2 n2:Int)(x:DOS)(st:STS)(K:AVal→aC Ob→Prop)(hK:K (.agg (w2m x)) (aP (w2l n n2 st t t2 x) 0 1 (hJ t n x) [1])):cT' 96 [.ptr 0 0] (aP (w2l n n2 st t t2 x) 0 1 (hJ t n x) [1]) K:=by
 refine aHa ?_;exact cM' (E:=EW3) (by kernel_rfl) hK
theorem aDY(t n t2 n2:Int)(x:DOS)(st:STS)(K:AVal→aC Ob→Prop)(hK:K (.agg (w2m x)) (aP (w2l n n2 st t t2 x) 0 1 (fW t n x) [1])):cT' 96 [.ptr 0 0] (aP (w2l n n2 st t t2 x) 0 1 (fW t n x) [1]) K:=by
 refine aHa ?_;exact cM' (E:=EW3) (by kernel_rfl) hK
theorem YJ(t n t2 n2:Int)(x:DOS)(st:STS)(K:AVal→aC Ob→Prop)(hK:K (.agg (w2m x)) (aP (w2l n n2 st t t2 x) 0 1 (dQ t n x) [1])):cT' 96 [.ptr 0 0] (aP (w2l n n2 st t t2 x) 0 1 (dQ t n x) [1]) K:=by
 refine aHa ?_;exact cM' (E:=EW3) (by kernel_rfl) hK
theorem aD0(t n t2 n2:Int)(x:DOS)(st:STS)(K:AVal→aC Ob→Prop)(hK:K (.agg (w2m x)) (aP (w2l n n2 st t t2 x) 0 1 (hM t n x) [1])):cT' 96 [.ptr 0 0] (aP (w2l n n2 st t t2 x) 0 1 (hM t n x) [1]) K:=by
 refine aHa ?_;exact cM' (E:=EW3) (by kernel_rfl) hK
theorem aFM(t n t2 n2:Int)(x:DOS)(st:STS)(K:AVal→aC Ob→Prop)(hK:K (.agg (w2m x)) (aP (w2l n n2 st t t2 x) 0 1 (oS t n x) [1])):cT' 96 [.ptr 0 0] (aP (w2l n n2 st t t2 x) 0 1 (oS t n x) [1]) K:=by
 refine aHa ?_;exact cM' (E:=EW3) (by kernel_rfl) hK
theorem aDZ:sT' 96 dtS:=by
 intro args h o ho K hK;unfold dtS at ho;split at ho<;>cases ho
 rename_i t n x t2 n2 st;obtain⟨_,hK⟩:=hK;have hK:K (.agg [.I x.sh,.I x.kd,.I x.ky]) [some (.abs (.doer t n x) [1]),some (.abs (.store t2 n2 st) [])]:=hK;refine aHn ?_
 by_cases e0:x.at'=0
 ·refine aHi (aR.unpack (.doer t n x) 0 1 (fW t n x) [1] rfl (congrArg (Prod.mk 1) (pM e0)) (by kernel_rfl) rfl) ?_
  exact aDY t n t2 n2 x st _ ⟨⟨_,_,aF.pack [some (.abs (.doer t n x) [1]),some (.abs (.store t2 n2 st) [])] (.doer t n x) 0 1 (fW t n x) [1] rfl rfl (congrArg (Prod.mk 1) (pM e0)) (by kernel_rfl),hK⟩⟩
 by_cases e1:x.at'=1
 ·refine aHi (aR.unpack (.doer t n x) 0 1 (dQ t n x) [1] rfl (congrArg (Prod.mk 1) (sS e1)) (by kernel_rfl) rfl) ?_
  exact YJ t n t2 n2 x st _ ⟨⟨_,_,aF.pack [some (.abs (.doer t n x) [1]),some (.abs (.store t2 n2 st) [])] (.doer t n x) 0 1 (dQ t n x) [1] rfl rfl (congrArg (Prod.mk 1) (sS e1)) (by kernel_rfl),hK⟩⟩
 by_cases e5:x.at'=5
 ·refine aHi (aR.unpack (.doer t n x) 0 1 (dQ t n x) [1] rfl (congrArg (Prod.mk 1) (sW e5)) (by kernel_rfl) rfl) ?_
  exact YJ t n t2 n2 x st _ ⟨⟨_,_,aF.pack [some (.abs (.doer t n x) [1]),some (.abs (.store t2 n2 st) [])] (.doer t n x) 0 1 (dQ t n x) [1] rfl rfl (congrArg (Prod.mk 1) (sW e5)) (by kernel_rfl),hK⟩⟩
 by_cases e2:x.at'=2
 ·refine aHi (aR.unpack (.doer t n x) 0 1 (gY t n x) [1] rfl (congrArg (Prod.mk 1) (sT e2)) (by kernel_rfl) rfl) ?_
  exact aDV t n t2 n2 x st _ ⟨⟨_,_,aF.pack [some (.abs (.doer t n x) [1]),some (.abs (.store t2 n2 st) [])] (.doer t n x) 0 1 (gY t n x) [1] rfl rfl (congrArg (Prod.mk 1) (sT e2)) (by kernel_rfl),hK⟩⟩
 by_cases e3:x.at'=3
 ·refine aHi (aR.unpack (.doer t n x) 0 1 (hJ t n x) [1] rfl (congrArg (Prod.mk 1) (sU e3)) (by kernel_rfl) rfl) ?_
  exact aDX t n t2 n2 x st _ ⟨⟨_,_,aF.pack [some (.abs (.doer t n x) [1]),some (.abs (.store t2 n2 st) [])] (.doer t n x) 0 1 (hJ t n x) [1] rfl rfl (congrArg (Prod.mk 1) (sU e3)) (by kernel_rfl),hK⟩⟩
 by_cases e4:x.at'=4
 ·refine aHi (aR.unpack (.doer t n x) 0 1 (gV t n x) [1] rfl (congrArg (Prod.mk 1) (sV e4)) (by kernel_rfl) rfl) ?_
  exact aDS t n t2 n2 x st _ ⟨⟨_,_,aF.pack [some (.abs (.doer t n x) [1]),some (.abs (.store t2 n2 st) [])] (.doer t n x) 0 1 (gV t n x) [1] rfl rfl (congrArg (Prod.mk 1) (sV e4)) (by kernel_rfl),hK⟩⟩
 by_cases e6:x.at'=6
 ·refine aHi (aR.unpack (.doer t n x) 0 1 (gW t n x) [1] rfl (congrArg (Prod.mk 1) (sX e6)) (by kernel_rfl) rfl) ?_
  exact aDT t n t2 n2 x st _ ⟨⟨_,_,aF.pack [some (.abs (.doer t n x) [1]),some (.abs (.store t2 n2 st) [])] (.doer t n x) 0 1 (gW t n x) [1] rfl rfl (congrArg (Prod.mk 1) (sX e6)) (by kernel_rfl),hK⟩⟩
 by_cases e7:x.at'=7
 ·refine aHi (aR.unpack (.doer t n x) 0 1 (gZ t n x) [1] rfl (congrArg (Prod.mk 1) (sY e7)) (by kernel_rfl) rfl) ?_
  exact aDW t n t2 n2 x st _ ⟨⟨_,_,aF.pack [some (.abs (.doer t n x) [1]),some (.abs (.store t2 n2 st) [])] (.doer t n x) 0 1 (gZ t n x) [1] rfl rfl (congrArg (Prod.mk 1) (sY e7)) (by kernel_rfl),hK⟩⟩
 by_cases e8:x.at'=8
 ·refine aHi (aR.unpack (.doer t n x) 0 1 (gX t n x) [1] rfl (congrArg (Prod.mk 1) (sZ e8)) (by kernel_rfl) rfl) ?_
  exact aDU t n t2 n2 x st _ ⟨⟨_,_,aF.pack [some (.abs (.doer t n x) [1]),some (.abs (.store t2 n2 st) [])] (.doer t n x) 0 1 (gX t n x) [1] rfl rfl (congrArg (Prod.mk 1) (sZ e8)) (by kernel_rfl),hK⟩⟩
 by_cases e9:x.at'=9
 ·refine aHi (aR.unpack (.doer t n x) 0 1 (hM t n x) [1] rfl (congrArg (Prod.mk 1) (s5 e9)) (by kernel_rfl) rfl) ?_
  exact aD0 t n t2 n2 x st _ ⟨⟨_,_,aF.pack [some (.abs (.doer t n x) [1]),some (.abs (.store t2 n2 st) [])] (.doer t n x) 0 1 (hM t n x) [1] rfl rfl (congrArg (Prod.mk 1) (s5 e9)) (by kernel_rfl),hK⟩⟩
 refine aHi (aR.unpack (.doer t n x) 0 1 (oS t n x) [1] rfl (congrArg (Prod.mk 1) (tU ⟨e0,e1,e5,e2,e3,e4,e6,e7,e8,e9⟩)) (by kernel_rfl) rfl) ?_
 exact aFM t n t2 n2 x st _ ⟨⟨_,_,aF.pack [some (.abs (.doer t n x) [1]),some (.abs (.store t2 n2 st) [])] (.doer t n x) 0 1 (oS t n x) [1] rfl rfl (congrArg (Prod.mk 1) (tU ⟨e0,e1,e5,e2,e3,e4,e6,e7,e8,e9⟩)) (by kernel_rfl),hK⟩⟩
noncomputable def EW4:=EW3.addS 96 dtS aDZ
abbrev egH(x:EGS):aC Ob:=[some (.abs (.engine x) [])]
theorem kH(n:Nat)(hn:n≤1)(v:AVal)(hv:v.within (upto 0 1)=true)(x:EGS):aF (obI tbl) n v (egG x) v (egH x):=by
 refine aF.pack (egH x) (.engine x) 0 0 (egG x) [] (by kernel_rfl) rfl rfl ?_
 have h1:obOk 0 (egG x)=true:=by kernel_rfl
 have h2:kZ (egH x) 0 []=true:=by kernel_rfl
 have h3:Nat.ble n (egH x).length =true:=Nat.ble_eq_true_of_le hn;have h4:v.within (upto 0 (egH x).length)=true:=hv;rw [h1,h2,h3,h4];rfl
def aD4(g:aC Ob):Option (Prop×EGS):=match g with
 | [some (.cells [.int .i64 sh,.int .i64 th,.int .i64 nd,.int .i64 tr,.ptr 1 0,.ptr 3 0,.slice 4 0 len 1,.int .i64 k]),e1,e2,some (.abs (.hist h) []),some (.abs (.whole ws i) [5]),some (.abs (.worker w) [])]=>(match cH 2 [e1,e2]with
   | some (l,s)=>some (len=ws.length∧i<ws.length∧l=s.xs.length,⟨sh,th,nd,tr,s,h,cG ws i w,k⟩)
   | none=>none)
 | _=>none
def aD3(g:aC Ob):Option (Prop×EGS):=match g with
 | [some (.cells [.int .i64 sh,.int .i64 th,.int .i64 nd,.int .i64 tr,.ptr 1 0,.ptr 3 0,.slice 4 0 len 1,.int .i64 k]),e1,e2,some (.abs (.hist h) []),some (.abs (.wrow ws) [])]=>(match cH 2 [e1,e2]with
   | some (l,s)=>some (len=ws.length∧l=s.xs.length,⟨sh,th,nd,tr,s,h,ws,k⟩)
   | none=>none)
 | _=>none
def egP(g:aC Ob):Option (Prop×EGS):=match aD4 g with
 | some r=>some r
 | none=>aD3 g
theorem AR(v:AVal)(hv:v.within (upto 0 1)=true)(hv5:kD (upto 0 5) v=v)(n:Nat)(hn:n≤1){g:aC Ob}{p:Prop}{x:EGS}(hp:egP g=some (p,x))(hq:p):aF (obI tbl) n v g v (egH x):=by
 unfold egP at hp;split at hp
 ·rename_i r hr;cases hp;unfold aD4 at hr;split at hr
  case h_2=>cases hr
  rename_i sh th nd tr len k e1 e2 h ws i w;split at hr
  case h_2=>cases hr
  rename_i l s hm;simp only [sI',pI']at hr;obtain⟨rfl,rfl⟩:=hr;obtain⟨rfl,hi,hl⟩:=hq;cases aY hm hl;refine(aF.back (l:=4) (k:=5) (i:=i) (ws:=ws) (w:=w) rfl rfl (by decide) hi).trans ?_
  have hlen:ws.length=(cG ws i w).length :=by simp [cG]
  have t1:=aF.pick (I:=obI tbl) (n:=n) (v:=v) (g:=([cE' [.I sh,.I th,.I nd,.I tr,.ptr 1 0,.ptr 3 0,.slice 4 0 ws.length 1,.I k],aZ 2 s,a8 s,some (.abs (.hist h) []),some (.abs (.wrow (cG ws i w)) []),none]:aC Ob)) (upto 0 5) (by
   have h1:dO (upto 0 5) 6=true:=by decide
   have h2:iC (upto 0 5) 0 n=true:=by
    match n,hn with
    | 0,_=>rfl
    | 1,_=>rfl
   show(dO (upto 0 5) 6&&iC (upto 0 5) 0 n)=true;rw [h1,h2];rfl)
  rw [hv5]at t1;refine t1.trans ?_;have t2:=kH n hn v hv ⟨sh,th,nd,tr,s,h,cG ws i w,k⟩;refine aF.trans (aHl rfl ?_) t2;show _=[some (aH.cells [.I sh,.I th,.I nd,.I tr,.ptr 1 0,.ptr 3 0,.slice 4 0 (cG ws i w).length 1,.I k]),_,_,_,_];rw [←hlen];rfl
 ·unfold aD3 at hp;split at hp
  case h_2=>cases hp
  rename_i sh th nd tr len k e1 e2 h ws hno;split at hp
  case h_2=>cases hp
  rename_i l s hm;cases hp;obtain⟨rfl,hl⟩:=hq;cases aY hm hl;exact kH n hn v hv ⟨sh,th,nd,tr,s,h,ws,k⟩
def pkP(v:AVal)(g:aC Ob):Option (Prop×(Bool×EGS)):=match v with
 | .bool d=>(match egP g with
   | some (p,x)=>some (p,(d,x))
   | none=>none)
 | _=>none
theorem aCw:bM (obI tbl) 1 pkP (fun y=>.ret (.bool y.1) (egH y.2)):=by
 intro v g p x hp hq K hK;unfold pkP at hp;split at hp
 case h_2=>cases hp
 rename_i d;split at hp
 case h_2=>cases hp
 rename_i p' x' hx;cases hp;exact⟨⟨_,_,AR (.bool d) rfl rfl 1 (Nat.le_refl 1) hx hq,hK⟩⟩
instance:Inhabited EGS:=⟨⟨0,0,0,0,⟨0,0,[],0,0,0,0,0,false⟩,default,[],0⟩⟩
abbrev w2o(th:Int)(x:EGS):=aX x.7 (0+Int.toNat th*1)
abbrev w2n(th:Int)(x:EGS):=wbF x.4 (w2o th x)
def pkT(th:Int)(x:EGS):Tr (Bool×EGS):=.ite (ilt th 0) (.pre (lE' x.7∧lE' (EGS.s x).3) (.ret (false,x))) (.ite (ile (↑x.7.length:Int) th) (.pre (lE' x.7∧lE' (EGS.s x).3) (.ret (false,x))) (.pre ((0:Int)≤th∧th<(↑x.7.length:Int)) (.pre (0+Int.toNat th*(1:Nat)<x.7.length) (.pre True (.ite (ieq (W ((↑(List.length (w2o th x).4):Int) - (w2o th x).5)) 0) (.pre (lE' x.7∧0+Int.toNat th*(1:Nat)<x.7.length∧lE' (EGS.s x).3) (.ret (false,{x with ws:=cG x.7 (0+Int.toNat th*1) (w2o th x)}))) (.ite (ile 60000 x.8) (.pre (lE' x.7∧0+Int.toNat th*(1:Nat)<x.7.length∧lE' (EGS.s x).3) (.ret (false,{x with ws:=cG x.7 (0+Int.toNat th*1) (w2o th x)}))) (.pre (RH x.4 (w2o th x)) (.ite (!(w2o th x).6) (.pre (True∧True) (.pre (hbOk th x.6 (WK1.d (w2n th x)).6 (WK1.d (w2n th x)).7∧True) (.pre ((lE' (w2n th x).4∧lE' (w2n th x).7∧lE' (w2n th x).8∧(w2n th x).1=(w2n th x).1∧(w2n th x).2=(w2n th x).2∧lE' (EGS.s x).3)∧XZ (w2n th x) x.5) (.ite (wsF (w2n th x) x.5).4 (.pre (heOk th (hbF th x.6 (WK1.d (w2n th x)).6 (WK1.d (w2n th x)).7).2 (wsF (w2n th x) x.5).1 (wsF (w2n th x) x.5).2 (wsF (w2n th x) x.5).3∧True) (.pre (lE' x.7∧0+Int.toNat th*(1:Nat)<x.7.length∧lE' (WkO.s (wsF (w2n th x) x.5)).3) (.ret (true,{x with s:=(wsF (w2n th x) x.5).6,h:=(heF th (hbF th x.6 (WK1.d (w2n th x)).6 (WK1.d (w2n th x)).7).2 (wsF (w2n th x) x.5).1 (wsF (w2n th x) x.5).2 (wsF (w2n th x) x.5).3).2,ws:=cG x.7 (0+Int.toNat th*1) (wsF (w2n th x) x.5).5,k:=W (x.8+1) })))) (.pre (lE' x.7∧0+Int.toNat th*(1:Nat)<x.7.length∧lE' (WkO.s (wsF (w2n th x) x.5)).3) (.ret (true,{x with s:=(wsF (w2n th x) x.5).6,h:=(hbF th x.6 (WK1.d (w2n th x)).6 (WK1.d (w2n th x)).7).2,ws:=cG x.7 (0+Int.toNat th*1) (wsF (w2n th x) x.5).5,k:=W (x.8+1) }))))))) (.pre ((lE' (w2n th x).4∧lE' (w2n th x).7∧lE' (w2n th x).8∧(w2n th x).1=(w2n th x).1∧(w2n th x).2=(w2n th x).2∧lE' (EGS.s x).3)∧XZ (w2n th x) x.5) (.ite (wsF (w2n th x) x.5).4 (.pre (heOk th x.6 (wsF (w2n th x) x.5).1 (wsF (w2n th x) x.5).2 (wsF (w2n th x) x.5).3∧True) (.pre (lE' x.7∧0+Int.toNat th*(1:Nat)<x.7.length∧lE' (WkO.s (wsF (w2n th x) x.5)).3) (.ret (true,{x with s:=(wsF (w2n th x) x.5).6,h:=(heF th x.6 (wsF (w2n th x) x.5).1 (wsF (w2n th x) x.5).2 (wsF (w2n th x) x.5).3).2,ws:=cG x.7 (0+Int.toNat th*1) (wsF (w2n th x) x.5).5,k:=W (x.8+1) })))) (.pre (lE' x.7∧0+Int.toNat th*(1:Nat)<x.7.length∧lE' (WkO.s (wsF (w2n th x) x.5)).3) (.ret (true,{x with s:=(wsF (w2n th x) x.5).6,ws:=cG x.7 (0+Int.toNat th*1) (wsF (w2n th x) x.5).5,k:=W (x.8+1) })))))))))))))
theorem aCx(th:Int)(x:EGS)(K:Bool×EGS→Prop)(h:(pkT th x).run K):cT' 41 [.ptr 0 0,.I th] [cE' [.I x.sh,.I x.th,.I x.nd,.I x.tr,.ptr 1 0,.ptr 3 0,.slice 4 0 x.ws.length 1,.I x.k],aZ 2 x.s,a8 x.s,some (.abs (.hist x.h) []),some (.abs (.wrow x.ws) [])] (bU 1 0 [] [] pkP K):=by
 exact cM' (E:=EW4) (by kernel_rfl) h
def pkF(th:Int)(x:EGS):Bool×EGS:=(pkT th x).val
def WQ(th:Int)(x:EGS):Prop:=(pkT th x).ok
def pkS:aI Ob:=fun args h=>match args,h with
 | [.ptr 0 0,.int .i64 th],[some (.abs (.engine x) [])]=>some (.pre (WQ th x) (.ret (.bool (pkF th x).1) (egH (pkF th x).2)))
 | _,_=>none
theorem aE4:sT' 41 pkS:=by
 intro args h o ho K hK;unfold pkS at ho;split at ho<;>cases ho
 rename_i th x;obtain⟨ok,hK⟩:=hK;exact aHb (root:=0) (pos:=[]) (cs:=[]) (parse:=pkP) (fin:=fun y=>.ret (.bool y.1) (egH y.2)) aCw (aR.unpack (.engine x) 0 0 (egG x) [] rfl rfl rfl rfl) (aCx th x _ (aHe ok hK))
noncomputable def EP1:=EW4.addS 41 pkS aE4
def rI:AVal→Int
 | .int _ n=>n
 | _=>0
def rK(row:Nat→List AVal)(i:Nat):Int:=rI ((row i).getD 0 .O)
def rY(row:Nat→List AVal)(i:Nat):Int:=rI ((row i).getD 1 .O)
structure yF (row:Nat→List AVal):Prop where
 h:row=fun i=>[.I (rK row i),.I (rY row i)]
def kC(sh:Int)(m:Nat)(f g:Nat→Int):List (List Int):=(List.range m).map fun j=>[sh,f j,g j]
def d6(sh:Int)(m:Nat)(f g:Nat→Int):Bool:=(List.range m).all fun j=>bS sh (f j) (g j)
theorem RA(sh:Int)(m:Nat)(f g:Nat→Int):kC sh (m+1) f g=kC sh m f g++ [[sh,f m,g m]]:=by
 unfold kC;rw [List.range_succ];simp
theorem l4(sh:Int)(m:Nat)(f g:Nat→Int):(kC sh m f g).length =m:=by unfold kC;simp
theorem nX{k:Int}{m:Nat}{f g:Nat→Int} :d6 k m f g=true↔ ∀j,j<m→bS k (f j) (g j)=true:=by
 unfold d6;simp
def RS(sh:Int)(m:Nat)(f g:Nat→Int):Hint Ob:= {X:=Nat,st:=fun x=>([.I sh,.O,.O,.O,.O,.I 0,.tslice 0 0 x 3,.O,.O,.view m 2 (fun i=>[.I (f i),.I (g i)]),.I (m:Int),.I (x:Int)]++List.replicate 15 .O,[some (.tab cK3 (kC sh x f g))]),ok:=fun x=>x≤m∧ ∀j,j<x→bS sh (f j) (g j)=true,mu:=fun x=>m - x,keep:=[0,5,6,9,10,11],casts:=[(.slot 6,.tab cK3)] }
def aCt(sh:Int)(m:Nat)(f g:Nat→Int)(K:AVal→aC Ob→Prop):Prop:=okSt (RS sh m f g) (Hint.ok (RS sh m f g)) (.I sh::.O::.O::.O::.O::.I 0::.tslice 0 0 0 3::.O::.O::(.view m 2 fun i=>[.I (f i),.I (g i)])::.I (↑m:Int)::.I 0::(tO' 15 [])) [some (.tab cK3 [])]∧ ∀(x:Nat),(x≤m∧ ∀(j:Nat),j<x→bS sh (f j) (g j)=true)→bif ilt (↑x:Int) (↑m:Int)then((0:Int)≤(↑x:Int)∧(↑x:Int)<(↑m:Int))∧True∧bif !bS sh (f (Int.toNat (↑x:Int))) (g (Int.toNat (↑x:Int)))then K (.tup [.raw (Value.slice none 0 0),.I 1]) []else(0=0∧x=List.length (kC sh x f g)∧x+(1:Nat)≤(4294967296:Nat))∧okSt (RS sh m f g) (fun x'=>Hint.ok (RS sh m f g) x'∧Hint.mu (RS sh m f g) x'<Hint.mu (RS sh m f g) x) (.I sh::.O::.O::.O::.O::.I 0::.tslice 0 0 (x+1) 3::.O::.O::(.view m 2 fun i=>[.I (f i),.I (g i)])::.I (↑m:Int)::.I (W ((↑x:Int)+1))::(tO' 15 [])) [some (.tab cK3 (kC sh x f g++ [[sh,f (Int.toNat (↑x:Int)),g (Int.toNat (↑x:Int))]]))]else K (.tup [.tslice 0 0 x 3,.I 0]) [some (.tab cK3 (kC sh x f g))]
theorem PN(sh:Int)(m:Nat)(f g:Nat→Int)(K:AVal→aC Ob→Prop)(h:aCt sh m f g K):cT' 82 [.I sh,.view m 2 (fun i=>[.I (f i),.I (g i)])] [] K:=by
 refine aHa (aE (E:=EP1) Tryz.checked.mixed (L:=fun _ _=>some (.states (RS sh m f g))) (n:=10) (aJ (by kernel_rfl) h))
def lgB(th:Int)(m:Nat)(ln:Nat→Nat):Bool:=(List.range m).any (fun i=>decide (40<ln i))||ilt th (m:Int)
theorem PC{th:Int}{m:Nat}{ln:Nat→Nat} :lgB th m ln=false↔(∀i,i<m→ln i≤40)∧(m:Int)≤th:=by
 unfold lgB;rw [bB];simp
theorem HZ{th:Int}{m:Nat}{ln:Nat→Nat}(h:(∃i,i<m∧40<ln i)∨th<(m:Int)):lgB th m ln=true:=by
 unfold lgB;rw [bB];simp;exact h
def R8(sh th nd tr:Int)(m:Nat)(ln:Nat→Nat)(f g:Nat→Nat→Int):Hint Ob:= {X:=Nat,st:=fun x=>([.O,.view m 1 (fun i=>[.view (ln i) 2 (fun j=>[.I (f i j),.I (g i j)])]),.ptr 0 0,.O,.O,.O,.O,.view m 1 (fun i=>[.view (ln i) 2 (fun j=>[.I (f i j),.I (g i j)])]),.I (m:Int),.I (x:Int)]++List.replicate 12 .O,[cE' [.I sh,.I th,.I nd,.I tr]]),ok:=fun x=>x≤m∧ ∀j,j<x→ln j≤40,mu:=fun x=>m - x,keep:=[1,2,7,8,9] }
def aCh(sh th nd tr:Int)(m:Nat)(ln:Nat→Nat)(f g:Nat→Nat→Int)(K:AVal→aC Ob→Prop):Prop:=okSt (R8 sh th nd tr m ln f g) (Hint.ok (R8 sh th nd tr m ln f g)) [.O,.view m 1 fun i=>[.view (ln i) 2 fun j=>[.I (f i j),.I (g i j)]],.ptr 0 0,.O,.O,.O,.O,.view m 1 fun i=>[.view (ln i) 2 fun j=>[.I (f i j),.I (g i j)]],.I (↑m:Int),.I 0,.O,.O,.O,.O,.O,.O,.O,.O,.O,.O,.O,.O] [cE' [.I sh,.I th,.I nd,.I tr]]∧ ∀(x:Nat),(x≤m∧ ∀(j:Nat),j<x→ln j≤(40:Nat))→bif ilt (↑x:Int) (↑m:Int)then((0:Int)≤(↑x:Int)∧(↑x:Int)<(↑m:Int))∧bif ilt 40 (↑(ln (Int.toNat (↑x:Int))):Int)then K (.bool true) []else okSt (R8 sh th nd tr m ln f g) (fun x'=>Hint.ok (R8 sh th nd tr m ln f g) x'∧Hint.mu (R8 sh th nd tr m ln f g) x'<Hint.mu (R8 sh th nd tr m ln f g) x) [.O,.view m 1 fun i=>[.view (ln i) 2 fun j=>[.I (f i j),.I (g i j)]],.ptr 0 0,.O,.O,.O,.O,.view m 1 fun i=>[.view (ln i) 2 fun j=>[.I (f i j),.I (g i j)]],.I (↑m:Int),.I (W ((↑x:Int)+1)),.O,.O,.O,.O,.O,.O,.O,.O,.O,.O,.O,.O] [cE' [.I sh,.I th,.I nd,.I tr]]else K (.bool (ilt th (↑m:Int))) []
theorem PD(sh th nd tr:Int)(m:Nat)(ln:Nat→Nat)(f g:Nat→Nat→Int)(K:AVal→aC Ob→Prop)(h:aCh sh th nd tr m ln f g K):cT' 80 [.agg [.I sh,.I th,.I nd,.I tr],.view m 1 (fun i=>[.view (ln i) 2 (fun j=>[.I (f i j),.I (g i j)])])] [] K:=by
 refine aHa (aE (E:=EP1) Tryz.checked.mixed (L:=fun _ _=>some (.states (R8 sh th nd tr m ln f g))) (n:=10) (aJ (by kernel_rfl) h))
def wrO(sh th nd tr:Int):Out Ob:=.ite (ilt sh 1) (.ret (.I 1) []) (.ite (ilt 4 sh) (.ret (.I 1) []) (.pre True (.ite (!d0 th nd) (.ret (.I 2) []) (.ite (ilt tr 0) (.ret (.I 2) []) (.ite (ilt 50 tr) (.ret (.I 2) []) (.ret (.I 0) []))))))
theorem aF.castTup{I:Itp Ob}{n:Nat}{K:fT}{a a' b:AVal}{g g':aC Ob}(hc:zX K a g=some (a',g')):aF I n (.tup [a,b]) g (.tup [a',b]) g':=by
 intro V hR w x h1 h2 h3 h4;obtain⟨cs,rfl,va,vs,e,ra,vb,vs2,e2,rb,r3⟩:=h4;obtain⟨V',⟨c1,c2,c3,c4⟩,r⟩:=tQ hc h1 h2 ra;exact⟨V',fun l y _ hy=>c1 l y hy,c2,by omega,⟨cs,rfl,va,vs,e,r,vb,vs2,e2,Rep.mono c1 _ _ rb,r3⟩,c4⟩
def ofR(sh:Int)(m:Nat)(f g:Nat→Int):List (List Int):=bif d6 sh m f g then kC sh m f g else []
def ofC(sh:Int)(m:Nat)(f g:Nat→Int):Int:=bif d6 sh m f g then 0 else 1
theorem aE1(sh:Int)(m:Nat)(f g:Nat→Int)(K:AVal→aC Ob→Prop)(hm:m≤1000000)(hK:K (.tup [.tslice 0 0 (ofR sh m f g).length 3,.I (ofC sh m f g)]) [some (.tab cK3 (ofR sh m f g))]):aCt sh m f g (dJ (obI tbl) 0 K):=by
 refine⟨bC (H:=RS sh m f g) (0:Nat) rfl ⟨Nat.zero_le _,fun j hj=>by omega⟩,?_⟩
 rintro x ⟨hx,hj⟩;refine aO (fun e=>?_) (fun e=>?_)
 ·rw [bB,dT']at e;refine⟨⟨by omega,by omega⟩,trivial,aO (fun e2=>?_) (fun e2=>?_)⟩
  ·have hf:d6 sh m f g=false:=by
    cases h:d6 sh m f g with
    | false=>rfl
    | true=>
      have:=nX.1 h x (by omega)
      rw [Int.toNat_natCast]at e2;rw [this]at e2;cases e2
   unfold ofR ofC at hK;rw [hf]at hK;exact⟨⟨_,_,aF.castTup (K:=.tab cK3) rfl,hK⟩⟩
  ·have e4:W ((x:Int)+1)=((x+1:Nat):Int):=by rw [W,cP (by omega)];rfl
   refine⟨⟨rfl,(l4 sh x f g).symm,by omega⟩,bC (H:=RS sh m f g) (x+1:Nat) ?_ ⟨⟨by show x+1≤m;omega,?_⟩,by show m - (x+1)<m - x;omega⟩⟩
   ·simp only [RS,RA,e4,Int.toNat_natCast]<;>rfl
   intro j hj2
   by_cases hjx:j=x
   ·subst hjx;rw [Int.toNat_natCast]at e2
    simpa using e2
   ·exact hj j (by omega)
 ·rw [bB,dF']at e;have ht:d6 sh m f g=true:=nX.2 fun j hj3=>hj j (by omega)
  have hxm:x=m:=by omega
  subst hxm;unfold ofR ofC at hK;rw [ht]at hK;have hl:=l4 sh x f g;simp only [cond_true]at hK;rw [hl]at hK;exact⟨⟨_,_,aHr _ _ _,hK⟩⟩
def ofS:aI Ob:=fun args h=>match args,h with
 | [.int .i64 sh,.view m 2 row],[]=>some (.pre (m≤1000000∧yF row) (.ret (.tup [.tslice 0 0 (ofR sh m (rK row) (rY row)).length 3,.I (ofC sh m (rK row) (rY row))]) [some (.tab cK3 (ofR sh m (rK row) (rY row)))]))
 | _,_=>none
theorem aE0:sT' 82 ofS:=by
 intro args h o ho K hK;unfold ofS at ho;split at ho<;>cases ho
 rename_i sh m row;obtain⟨⟨hm,⟨hr⟩⟩,hK⟩:=hK;rw [hr];refine aHn ?_;exact PN sh m (rK row) (rY row) _ (aE1 sh m (rK row) (rY row) K hm hK)
def vL(vr:Nat→List AVal)(i:Nat):Nat:=match vr i with
 | [.view n _ _]=>n
 | _=>0
def vR(vr:Nat→List AVal)(i:Nat):Nat→List AVal:=match vr i with
 | [.view _ _ r]=>r
 | _=>fun _=>[]
def vK(vr:Nat→List AVal)(i j:Nat):Int:=rK (vR vr i) j
def vY(vr:Nat→List AVal)(i j:Nat):Int:=rY (vR vr i) j
structure iO (vr:Nat→List AVal):Prop where
 h:vr=fun i=>[.view (vL vr i) 2 (fun j=>[.I (vK vr i j),.I (vY vr i j)])]
theorem aEU(sh th nd tr:Int)(m:Nat)(ln:Nat→Nat)(f g:Nat→Nat→Int)(K:AVal→aC Ob→Prop)(hm:m≤1000000)(hK:K (.bool (lgB th m ln)) []):aCh sh th nd tr m ln f g K:=by
 refine⟨bC (H:=R8 sh th nd tr m ln f g) (0:Nat) rfl ⟨Nat.zero_le _,fun j hj=>by omega⟩,?_⟩
 rintro x ⟨hx,hj⟩;refine aO (fun e=>?_) (fun e=>?_)
 ·rw [bB,dT']at e;refine⟨⟨by omega,by omega⟩,aO (fun e2=>?_) (fun e2=>?_)⟩
  ·rw [bB,dT',Int.toNat_natCast]at e2;rw [HZ (.inl ⟨x,by omega,by omega⟩)]at hK
   exact hK
  ·rw [bB,dF',Int.toNat_natCast]at e2;have e4:W ((x:Int)+1)=((x+1:Nat):Int):=by rw [W,cP (by omega)];rfl
   refine bC (H:=R8 sh th nd tr m ln f g) (x+1:Nat) (by simp only [e4]<;>rfl) ⟨⟨by show x+1≤m;omega,?_⟩,by show m - (x+1)<m - x;omega⟩
   intro j hj2
   by_cases hjx:j=x
   ·subst hjx;omega
   ·exact hj j (by omega)
 ·rw [bB,dF']at e
  have e2:lgB th m ln=ilt th (m:Int):=by
   cases h:ilt th (m:Int)with
   | true=>rw [bB,dT']at h;exact HZ (.inr h)
   | false=>rw [bB,dF']at h;exact PC.2 ⟨fun j hj3=>hj j (by omega),by omega⟩
  rw [e2]at hK;exact hK
def lgS:aI Ob:=fun args h=>match args,h with
 | [.agg [.int .i64 sh,.int .i64 th,.int .i64 nd,.int .i64 tr],.view m 1 vr],[]=>some (.pre (m≤1000000∧iO vr) (.ret (.bool (lgB th m (vL vr))) []))
 | _,_=>none
theorem aET:sT' 80 lgS:=by
 intro args h o ho K hK;unfold lgS at ho;split at ho<;>cases ho
 rename_i sh th nd tr m vr;obtain⟨⟨hm,⟨hr⟩⟩,hK⟩:=hK;rw [hr];exact PD sh th nd tr m (vL vr) (vK vr) (vY vr) K (aEU sh th nd tr m (vL vr) (vK vr) (vY vr) K hm hK)
def wrE(sh th nd tr:Int):Int:=bif ilt sh 1 then 1 else bif ilt 4 sh then 1 else bif !d0 th nd then 2 else bif ilt tr 0 then 2 else bif ilt 50 tr then 2 else 0
def wrS:aI Ob:=fun args h=>match args,h with
 | [.agg [.int .i64 sh,.int .i64 th,.int .i64 nd,.int .i64 tr]],[]=>some (.pre True (.ret (.I (wrE sh th nd tr)) []))
 | _,_=>none
theorem aFk:sT' 79 wrS:=by
 intro args h o ho K hK;unfold wrS at ho;split at ho<;>cases ho
 rename_i sh th nd tr;obtain⟨_,hK⟩:=hK;have hK:K (.I (wrE sh th nd tr)) []:=hK;refine aHa (cM' (E:=EP1) (q:=(wrO sh th nd tr).run K) (by kernel_rfl) ?_)
 unfold wrE at hK
 refine aO (fun e1=>?_) (fun e1=>aO (fun e2=>?_) (fun e2=>⟨trivial,aO (fun e3=>?_) (fun e3=>aO (fun e4=>?_) (fun e4=>aO (fun e5=>?_) (fun e5=>?_)))⟩))<;>
  (simp only [*,cond_true,cond_false]at hK;exact hK)
def nwP(t n u:Int)(v:AVal)(g:aC Ob):Option (Prop×WKS):=match v,g with
 | .ptr 1 0,[some (.tab [some .i64,some .i64,some .i64] tk),some (.cells [.ptr 2 0,.tslice 0 0 k 3,.int .i64 en,.raw (.pointer none),.slice 4 0 a 1,.slice 5 0 b 1]),some (.cells [.int .i64 t1,.int .i64 n1,.int .i64 me,.int .i64 sp,.slice 3 0 c 1]),some (.ints (some .i64) R),some (.ints (some .i64) tl),some (.ints (some .i64) sl)]=>
   some (k=tk.length∧a=tl.length∧b=sl.length∧c=R.length,⟨t1,n1,⟨me,sp,R⟩,tk,en,false,d3,tl,sl⟩)
 | _,_=>none
theorem aCq(t n u:Int):bM (obI tbl) 1 (nwP t n u) (fun y=>.ret (.ptr 1 0) [none,some (.abs (.worker y) [])]):=by
 intro v g p x hp hq K hK;unfold nwP at hp;split at hp
 case h_2=>cases hp
 rename_i tk k en a b t1 n1 me sp c R tl sl;cases hp;obtain⟨rfl,rfl,rfl,rfl⟩:=hq;have hK:K (.ptr 1 0) [none,some (.abs (.worker (⟨t1,n1,⟨me,sp,R⟩,tk,en,false,d3,tl,sl⟩:WKS)) [])]:=hK
 exact⟨⟨_,_,(aF.move 3 (of_decide_eq_true rfl)).trans ((aHl (v2:=.ptr 1 0) (g2:=aP [some (.tab cK3 tk),cE' [.ptr 2 0,.tslice 0 0 tk.length 3,.I en,.raw (.pointer none),.slice 4 0 tl.length 1,.slice 5 0 sl.length 1],some (.abs (.store t1 n1 ⟨me,sp,R⟩) []),none,iI' tl,iI' sl] 2 0 (dN t1 n1 ⟨me,sp,R⟩) []) (by kernel_rfl) (by kernel_rfl)).trans
  ((aF.pack [some (.tab cK3 tk),cE' [.ptr 2 0,.tslice 0 0 tk.length 3,.I en,.raw (.pointer none),.slice 4 0 tl.length 1,.slice 5 0 sl.length 1],some (.abs (.store t1 n1 ⟨me,sp,R⟩) []),none,iI' tl,iI' sl] (.store t1 n1 ⟨me,sp,R⟩) 2 0 (dN t1 n1 ⟨me,sp,R⟩) [] rfl rfl rfl (by kernel_rfl)).trans
  ((aF.move 0 (of_decide_eq_true rfl)).trans ((aF.move 4 (of_decide_eq_true rfl)).trans ((aF.move 5 (of_decide_eq_true rfl)).trans ((aF.pick [0,1,2,6,7,8] rfl).trans
  ((aHl (v2:=.ptr 1 0) (g2:=aP [none,some (.abs (.worker (⟨t1,n1,⟨me,sp,R⟩,tk,en,false,d3,tl,sl⟩:WKS)) [])] 1 0 (nH (⟨t1,n1,⟨me,sp,R⟩,tk,en,false,d3,tl,sl⟩:WKS)) []) (by kernel_rfl) (by kernel_rfl)).trans
  (aF.pack [none,some (.abs (.worker (⟨t1,n1,⟨me,sp,R⟩,tk,en,false,d3,tl,sl⟩:WKS)) [])] (.worker (⟨t1,n1,⟨me,sp,R⟩,tk,en,false,d3,tl,sl⟩:WKS)) 1 0 (nH (⟨t1,n1,⟨me,sp,R⟩,tk,en,false,d3,tl,sl⟩:WKS)) [] rfl rfl (congrArg (Prod.mk 0) (qJ rfl)) (by kernel_rfl))))))))),hK⟩⟩
def nvP(t n u:Int)(v:AVal)(g:aC Ob):Option (Prop×WKS):=match v,g with
 | .ptr 0 0,[some (.cells [.ptr 1 0,.tslice 3 0 k 3,.int .i64 en,.raw (.pointer none),.slice 4 0 a 1,.slice 5 0 b 1]),some (.cells [.int .i64 t1,.int .i64 n1,.int .i64 me,.int .i64 sp,.slice 2 0 c 1]),some (.ints (some .i64) R),some (.tab [some .i64,some .i64,some .i64] tk),some (.ints (some .i64) tl),some (.ints (some .i64) sl)]=>
   some (k=tk.length∧a=tl.length∧b=sl.length∧c=R.length,⟨t1,n1,⟨me,sp,R⟩,tk,en,false,d3,tl,sl⟩)
 | _,_=>none
theorem aCo(t n u:Int):bM (obI tbl) 0 (nvP t n u) (fun y=>.ret (.ptr 0 0) [some (.abs (.worker y) [])]):=by
 intro v g p x hp hq K hK;unfold nvP at hp;split at hp
 case h_2=>cases hp
 rename_i k en a b t1 n1 me sp c R tk tl sl;cases hp;obtain⟨rfl,rfl,rfl,rfl⟩:=hq;have hK:K (.ptr 0 0) [some (.abs (.worker (⟨t1,n1,⟨me,sp,R⟩,tk,en,false,d3,tl,sl⟩:WKS)) [])]:=hK
 exact⟨⟨_,_,(aF.move 2 (of_decide_eq_true rfl)).trans ((aHl (v2:=.ptr 0 0) (g2:=aP [cE' [.ptr 1 0,.tslice 3 0 tk.length 3,.I en,.raw (.pointer none),.slice 4 0 tl.length 1,.slice 5 0 sl.length 1],some (.abs (.store t1 n1 ⟨me,sp,R⟩) []),none,some (.tab cK3 tk),iI' tl,iI' sl] 1 0 (dN t1 n1 ⟨me,sp,R⟩) []) (by kernel_rfl) (by kernel_rfl)).trans
  ((aF.pack [cE' [.ptr 1 0,.tslice 3 0 tk.length 3,.I en,.raw (.pointer none),.slice 4 0 tl.length 1,.slice 5 0 sl.length 1],some (.abs (.store t1 n1 ⟨me,sp,R⟩) []),none,some (.tab cK3 tk),iI' tl,iI' sl] (.store t1 n1 ⟨me,sp,R⟩) 1 0 (dN t1 n1 ⟨me,sp,R⟩) [] rfl rfl rfl (by kernel_rfl)).trans
  ((aF.pick [0,1,3,4,5] rfl).trans
  ((aHl (v2:=.ptr 0 0) (g2:=aP [some (.abs (.worker (⟨t1,n1,⟨me,sp,R⟩,tk,en,false,d3,tl,sl⟩:WKS)) [])] 0 0 (nH (⟨t1,n1,⟨me,sp,R⟩,tk,en,false,d3,tl,sl⟩:WKS)) []) (by kernel_rfl) (by kernel_rfl)).trans
  (aF.pack [some (.abs (.worker (⟨t1,n1,⟨me,sp,R⟩,tk,en,false,d3,tl,sl⟩:WKS)) [])] (.worker (⟨t1,n1,⟨me,sp,R⟩,tk,en,false,d3,tl,sl⟩:WKS)) 0 0 (nH (⟨t1,n1,⟨me,sp,R⟩,tk,en,false,d3,tl,sl⟩:WKS)) [] rfl rfl (congrArg (Prod.mk 0) (qJ rfl)) (by kernel_rfl)))))),hK⟩⟩
def nwT(t n u:Int)(tk:List (List Int)):Tr WKS:=.pre (lE' tk∧0=0∧0=0∧0=0) (.ret {t:=t,n:=n,st:= {me:=u,sp:=0,R:=[] },tk:=tk,en:=0,b:=false,d:=d3,tl:=[],sl:=[] })
theorem aCr(t n u:Int)(tk:List (List Int))(K:AVal→aC Ob→Prop)(h:(nwT t n u tk).run (fun y=>(Out.ret (.ptr 1 0) [none,some (.abs (.worker y) [])]).run K)):cT' 83 [.agg [.I t,.I n],.I u,.tslice 0 0 tk.length 3] [some (.tab cK3 tk)] K:=by
 refine aHm (root:=1) (pos:=[]) (cs:=[(.cell 1 4,.ints (some .i64)),(.cell 1 5,.ints (some .i64)),(.cell 2 4,.ints (some .i64))]) (parse:=nwP t n u) (aCq t n u) ?_;exact cM' (E:=EP1) (by kernel_rfl) h
def nvT(t n u:Int):Tr WKS:=.pre (0=0∧0=0∧0=0∧0=0) (.ret {t:=t,n:=n,st:= {me:=u,sp:=0,R:=[] },tk:=[],en:=0,b:=false,d:=d3,tl:=[],sl:=[] })
theorem aCp(t n u:Int)(K:AVal→aC Ob→Prop)(h:(nvT t n u).run (fun y=>(Out.ret (.ptr 0 0) [some (.abs (.worker y) [])]).run K)):cT' 83 [.agg [.I t,.I n],.I u,.raw (.slice none 0 0)] [] K:=by
 refine aHm (root:=0) (pos:=[]) (cs:=[(.cell 0 1,.tab cK3),(.cell 0 4,.ints (some .i64)),(.cell 0 5,.ints (some .i64)),(.cell 1 4,.ints (some .i64))]) (parse:=nvP t n u) (aCo t n u) ?_;exact cM' (E:=EP1) (by kernel_rfl) h
def WK(t n u:Int)(tk:List (List Int)):WKS:=(nwT t n u tk).val
def nwS:aI Ob:=fun args h=>match args,h with
 | [.agg [.int .i64 t,.int .i64 n],.int .i64 u,.tslice 0 0 k 3],[some (.tab [some .i64,some .i64,some .i64] tk)]=>some (.pre (k=tk.length) (.ret (.ptr 1 0) [none,some (.abs (.worker (WK t n u tk)) [])]))
 | _,_=>none
theorem aEZ:sT' 83 nwS:=by
 intro args h o ho K hK;unfold nwS at ho;split at ho<;>cases ho
 rename_i t n u k tk;obtain⟨rfl,hK⟩:=hK;exact aCr t n u tk K (aHe ⟨⟨rfl,rfl,rfl,rfl⟩,trivial⟩ hK)
def nvS:aI Ob:=fun args h=>match args,h with
 | [.agg [.int .i64 t,.int .i64 n],.int .i64 u,.raw (.slice none 0 0)],[]=>some (.pre True (.ret (.ptr 0 0) [some (.abs (.worker (WK t n u [])) [])]))
 | _,_=>none
theorem aEY:sT' 83 nvS:=by
 intro args h o ho K hK;unfold nvS at ho;split at ho<;>cases ho
 rename_i t n u;obtain⟨_,hK⟩:=hK;exact aCp t n u K (aHe ⟨⟨rfl,rfl,rfl,rfl⟩,trivial⟩ hK)
noncomputable def EU1:=(((EP1.addS 82 ofS aE0).addS 80 lgS aET).addS 79 wrS aFk).addS 83 (aI.or nwS nvS) (aHA aEZ aEY)
structure uC (sh th:Int) (m:Nat) (ln:Nat→Nat) (f g:Nat→Nat→Int) (u:Int):Prop where
 hu:u≤th
 hg: ∀j:Nat,(j:Int)<u→j<m→d6 sh (ln j) (f j) (g j)=true
def FT(a k:Nat):List AVal:=(List.range k).map fun j=>.ptr (a+j) 0
def zC(wf:Nat→WKS)(k:Nat):aC Ob:=(List.range k).map fun j=>some (.abs (.worker (wf j)) [])
abbrev mC:Option (aH Ob):=some (.abs (.hist ⟨[],[],0,0,0,0,0,0,0,0⟩) [])
def EK(th:Int)(m:Nat)(ln:Nat→Nat)(f g:Nat→Nat→Int)(x:Int):List AVal:=[.O,.view m 1 (fun i=>[.view (ln i) 2 (fun j=>[.I (f i j),.I (g i j)])]),.ptr 0 0,.O,.O,.O,.O,.ptr 1 0,.ptr 2 0]++List.replicate 24 .O ++ [.I th,.I x]++List.replicate 45 .O
def HN0(sh th nd tr:Int)(m:Nat)(ln:Nat→Nat)(f g:Nat→Nat→Int)(wf:Nat→WKS):Hint Ob:= {X:=Unit,st:=fun _=>(EK th m ln f g 0,[some (.cells [.int .i64 sh,.int .i64 th,.int .i64 nd,.int .i64 tr]),some (.cells [.int .i64 th,.int .i64 nd]),some (.cells [.int .i64 sh,.int .i64 th,.int .i64 nd,.int .i64 tr,.raw (.pointer none),.ptr 3 0,.raw (.slice none 0 0),.int .i64 0]),mC]),ok:=fun _=>uC sh th m ln f g 0,mu:=fun _=>9,keep:=[1,2,7,8,33,34],sel:=fun tm _=>match tm.getD 34 .O with
 | .int _ n=>Nat.beq n.toNat 0
 | _=>false}
def HNk(k:Nat)(sh th nd tr:Int)(m:Nat)(ln:Nat→Nat)(f g:Nat→Nat→Int)(wf:Nat→WKS):Hint Ob:= {X:=Unit,st:=fun _=>(EK th m ln f g k,[some (.cells [.int .i64 sh,.int .i64 th,.int .i64 nd,.int .i64 tr]),some (.cells [.int .i64 th,.int .i64 nd]),some (.cells [.int .i64 sh,.int .i64 th,.int .i64 nd,.int .i64 tr,.raw (.pointer none),.ptr 3 0,.slice 4 0 k 1,.int .i64 0]),mC,some (.cells (FT 5 k))]++zC wf k),ok:=fun _=>uC sh th m ln f g k,mu:=fun _=>9 - k,keep:=[1,2,7,8,33,34],sel:=fun tm _=>match tm.getD 34 .O with
 | .int _ n=>Nat.beq n.toNat k
 | _=>false}
abbrev w2p(k:Nat):=Int.toNat (k:Int)
abbrev w2q(k:Nat)(nd sh th tr:Int):aC Ob:=[cE' [.I sh,.I th,.I nd,.I tr],cE' [.I th,.I nd],cE' [.I sh,.I th,.I nd,.I tr,.N,.ptr 3 0,.slice 4 0 (k+1) 1,.I 0],mC,some (.cells (FT 5 (k+1)))]
def BJ(k:Nat)(sh th nd tr:Int)(m:Nat)(ln:Nat→Nat)(f g:Nat→Nat→Int)(wf:Nat→WKS)(K:AVal→aC Ob→Prop):Prop:=uC sh th m ln f g (k:Int)→bif ilt (k:Int) th then bif ilt (k:Int) (↑m:Int)then((0:Int)≤(k:Int)∧(k:Int)<(↑m:Int))∧((ln (w2p k)≤(1000000:Nat)∧yF fun j=>[.I (f (w2p k) j),.I (g (w2p k) j)])∧True)∧bif !ieq (ofC sh (ln (w2p k)) (rK fun j=>[.I (f (w2p k) j),.I (g (w2p k) j)]) (rY fun j=>[.I (f (w2p k) j),.I (g (w2p k) j)])) 0 then K (.tup [.N,.I (ofC sh (ln (w2p k)) (rK fun j=>[.I (f (w2p k) j),.I (g (w2p k) j)]) (rY fun j=>[.I (f (w2p k) j),.I (g (w2p k) j)]))]) []else(lE' (ofR sh (ln (w2p k)) (rK fun j=>[.I (f (w2p k) j),.I (g (w2p k) j)]) (rY fun j=>[.I (f (w2p k) j),.I (g (w2p k) j)]))∧True)∧k+(1:Nat)≤(4294967296:Nat)∧okSt (HNk (k+1) sh th nd tr m ln f g wf) (fun x_1=>Hint.ok (HNk (k+1) sh th nd tr m ln f g wf) x_1∧wF (some (Hint.mu (HNk (k) sh th nd tr m ln f g wf) ())) (Hint.mu (HNk (k+1) sh th nd tr m ln f g wf) x_1)) (EK th m ln f g (W ((k:Int)+1))) ((w2q k nd sh th tr)++(zC wf k++ [some (.abs (.worker (WK th nd (k:Int) (ofR sh (ln (w2p k)) (rK fun j=>[.I (f (w2p k) j),.I (g (w2p k) j)]) (rY fun j=>[.I (f (w2p k) j),.I (g (w2p k) j)])))) [])]))else(True∧True)∧k+(1:Nat)≤(4294967296:Nat)∧okSt (HNk (k+1) sh th nd tr m ln f g wf) (fun x_1=>Hint.ok (HNk (k+1) sh th nd tr m ln f g wf) x_1∧wF (some (Hint.mu (HNk (k) sh th nd tr m ln f g wf) ())) (Hint.mu (HNk (k+1) sh th nd tr m ln f g wf) x_1)) (EK th m ln f g (W ((k:Int)+1))) ((w2q k nd sh th tr)++(zC wf k++ [some (.abs (.worker (WK th nd (k:Int) [])) [])]))else True∧bif !d0 th nd then K (.tup [.ptr 0 0,.I 1]) ([cE' [.I sh,.I th,.I nd,.I tr,.N,.ptr 1 0,.slice 2 0 k 1,.I 0],mC,some (.cells (FT 3 k))]++zC wf k)else(((0:Int)≤th∧th≤(100000:Int))∧(0:Int)≤nd∧nd≤(100000:Int))∧bif ilt (2*nd+5*th+6) (↑0:Int)then K (.tup [.ptr 0 0,.I 6]) ([cE' [.I sh,.I th,.I nd,.I tr,.N,.ptr 1 0,.slice 2 0 k 1,.I 0],mC,some (.cells (FT 3 k))]++zC wf k)else((((0:Int)≤th∧th≤(100000:Int))∧(0:Int)≤nd∧nd≤(100000:Int))∧True)∧((0:Int)≤(2:Int)*nd+5*th+6∧2*nd+5*th+(6:Int)=(2:Int)*nd+5*th+6∧2*nd+5*th+(6:Int)≤(4294967296:Int))∧K (.tup [.ptr 0 0,.I 0]) ([cE' [.I sh,.I th,.I nd,.I tr,.ptr 1 0,.ptr 3 0,.slice 4 0 k 1,.I 0],cE' [.I th,.I nd,.slice 2 0 (Int.toNat (2*nd+5*th+6)) 1,.I 0,.I 0,.I 0,.int .u64 0,.int .u64 0,.bool false],some (.ints (some .u64) (List.replicate (Int.toNat (2*nd+5*th+6)) 0)),mC,some (.cells (FT 5 k))]++zC wf k)
abbrev w2r(nd sh th tr:Int)(wf:Nat→WKS):aC Ob:=[cE' [.I sh,.I th,.I nd,.I tr,.N,.ptr 1 0,.slice 2 0 8 1,.I 0],mC,cE' [.ptr 3 0,.ptr 4 0,.ptr 5 0,.ptr 6 0,.ptr 7 0,.ptr 8 0,.ptr 9 0,.ptr 10 0],some (.abs (.worker (wf 0)) []),some (.abs (.worker (wf 1)) []),some (.abs (.worker (wf 2)) []),some (.abs (.worker (wf 3)) []),some (.abs (.worker (wf 4)) []),some (.abs (.worker (wf 5)) []),some (.abs (.worker (wf 6)) []),some (.abs (.worker (wf 7)) [])]
abbrev w2s(nd th:Int):=((0:Int)≤th∧th≤(100000:Int))∧(0:Int)≤nd∧nd≤(100000:Int)
abbrev w2t(nd th:Int):=(0:Int)≤(2:Int)*nd+5*th+6∧2*nd+5*th+(6:Int)=(2:Int)*nd+5*th+6∧2*nd+5*th+(6:Int)≤(4294967296:Int)
abbrev w2u(nd th:Int):Option (aH Ob):=cE' [.I th,.I nd,.slice 2 0 (Int.toNat (2*nd+5*th+6)) 1,.I 0,.I 0,.I 0,.int .u64 0,.int .u64 0,.bool false]
abbrev w2v:=Value.slice none 0 0
def aBH(sh th nd tr:Int)(m:Nat)(ln:Nat→Nat)(f g:Nat→Nat→Int)(wf:Nat→WKS)(K:AVal→aC Ob→Prop):Prop:=True∧bif !ieq (wrE sh th nd tr) 0 then K (.tup [.N,.I (wrE sh th nd tr)]) []else(m≤(1000000:Nat)∧iO fun i=>[.view (ln i) 2 fun j=>[.I (f i j),.I (g i j)]])∧bif lgB th m (vL fun i=>[.view (ln i) 2 fun j=>[.I (f i j),.I (g i j)]])then K (.tup [.N,.I 6]) []else(True∧True)∧okSt (HN0 sh th nd tr m ln f g wf) (fun x=>Hint.ok (HN0 sh th nd tr m ln f g wf) x∧wF none (Hint.mu (HN0 sh th nd tr m ln f g wf) x)) (EK th m ln f g 0) [cE' [.I sh,.I th,.I nd,.I tr],cE' [.I th,.I nd],cE' [.I sh,.I th,.I nd,.I tr,.N,.ptr 3 0,.raw w2v,.I 0],mC]∧(∀(x:Hint.X (HN0 sh th nd tr m ln f g wf)),uC sh th m ln f g 0→bif ilt 0 th then bif ilt 0 (↑m:Int)then((0:Int)≤(0:Int)∧(0:Int)<(↑m:Int))∧((ln (Int.toNat 0)≤(1000000:Nat)∧yF fun j=>[.I (f (Int.toNat 0) j),.I (g (Int.toNat 0) j)])∧True)∧bif !ieq (ofC sh (ln (Int.toNat 0)) (rK fun j=>[.I (f (Int.toNat 0) j),.I (g (Int.toNat 0) j)]) (rY fun j=>[.I (f (Int.toNat 0) j),.I (g (Int.toNat 0) j)])) 0 then K (.tup [.N,.I (ofC sh (ln (Int.toNat 0)) (rK fun j=>[.I (f (Int.toNat 0) j),.I (g (Int.toNat 0) j)]) (rY fun j=>[.I (f (Int.toNat 0) j),.I (g (Int.toNat 0) j)]))]) []else(lE' (ofR sh (ln (Int.toNat 0)) (rK fun j=>[.I (f (Int.toNat 0) j),.I (g (Int.toNat 0) j)]) (rY fun j=>[.I (f (Int.toNat 0) j),.I (g (Int.toNat 0) j)]))∧True)∧(1:Nat)≤(4294967296:Nat)∧okSt (HNk 1 sh th nd tr m ln f g wf) (fun x_1=>Hint.ok (HNk 1 sh th nd tr m ln f g wf) x_1∧wF (some (Hint.mu (HN0 sh th nd tr m ln f g wf) x)) (Hint.mu (HNk 1 sh th nd tr m ln f g wf) x_1)) (EK th m ln f g (W (0+1))) [cE' [.I sh,.I th,.I nd,.I tr],cE' [.I th,.I nd],cE' [.I sh,.I th,.I nd,.I tr,.N,.ptr 3 0,.slice 4 0 1 1,.I 0],mC,cE' [.ptr 5 0],some (.abs (.worker (WK th nd 0 (ofR sh (ln (Int.toNat 0)) (rK fun j=>[.I (f (Int.toNat 0) j),.I (g (Int.toNat 0) j)]) (rY fun j=>[.I (f (Int.toNat 0) j),.I (g (Int.toNat 0) j)])))) [])]else(True∧True)∧(1:Nat)≤(4294967296:Nat)∧okSt (HNk 1 sh th nd tr m ln f g wf) (fun x_1=>Hint.ok (HNk 1 sh th nd tr m ln f g wf) x_1∧wF (some (Hint.mu (HN0 sh th nd tr m ln f g wf) x)) (Hint.mu (HNk 1 sh th nd tr m ln f g wf) x_1)) (EK th m ln f g (W (0+1))) [cE' [.I sh,.I th,.I nd,.I tr],cE' [.I th,.I nd],cE' [.I sh,.I th,.I nd,.I tr,.N,.ptr 3 0,.slice 4 0 1 1,.I 0],mC,cE' [.ptr 5 0],some (.abs (.worker (WK th nd 0 [])) [])]else True∧bif !d0 th nd then K (.tup [.ptr 0 0,.I 1]) [cE' [.I sh,.I th,.I nd,.I tr,.N,.ptr 1 0,.raw w2v,.I 0],mC]else(w2s nd th)∧bif ilt (2*nd+5*th+6) (↑0:Int)then K (.tup [.ptr 0 0,.I 6]) [cE' [.I sh,.I th,.I nd,.I tr,.N,.ptr 1 0,.raw w2v,.I 0],mC]else((w2s nd th)∧True)∧(w2t nd th)∧K (.tup [.ptr 0 0,.I 0]) [cE' [.I sh,.I th,.I nd,.I tr,.ptr 1 0,.ptr 3 0,.raw w2v,.I 0],w2u nd th,some (.ints (some .u64) (List.replicate (Int.toNat (2*nd+5*th+6)) 0)),mC])∧(∀(x:Hint.X (HNk 1 sh th nd tr m ln f g wf)),BJ 1 sh th nd tr m ln f g wf K)∧(∀(x:Hint.X (HNk 2 sh th nd tr m ln f g wf)),BJ 2 sh th nd tr m ln f g wf K)∧(∀(x:Hint.X (HNk 3 sh th nd tr m ln f g wf)),BJ 3 sh th nd tr m ln f g wf K)∧(∀(x:Hint.X (HNk 4 sh th nd tr m ln f g wf)),BJ 4 sh th nd tr m ln f g wf K)∧(∀(x:Hint.X (HNk 5 sh th nd tr m ln f g wf)),BJ 5 sh th nd tr m ln f g wf K)∧(∀(x:Hint.X (HNk 6 sh th nd tr m ln f g wf)),BJ 6 sh th nd tr m ln f g wf K)∧(∀(x:Hint.X (HNk 7 sh th nd tr m ln f g wf)),BJ 7 sh th nd tr m ln f g wf K)∧(∀(x:Hint.X (HNk 8 sh th nd tr m ln f g wf)),uC sh th m ln f g 8→bif ilt 8 th then bif ilt 8 (↑m:Int)then((0:Int)≤(8:Int)∧(8:Int)<(↑m:Int))∧((ln (Int.toNat 8)≤(1000000:Nat)∧yF fun j=>[.I (f (Int.toNat 8) j),.I (g (Int.toNat 8) j)])∧True)∧bif !ieq (ofC sh (ln (Int.toNat 8)) (rK fun j=>[.I (f (Int.toNat 8) j),.I (g (Int.toNat 8) j)]) (rY fun j=>[.I (f (Int.toNat 8) j),.I (g (Int.toNat 8) j)])) 0 then K (.tup [.N,.I (ofC sh (ln (Int.toNat 8)) (rK fun j=>[.I (f (Int.toNat 8) j),.I (g (Int.toNat 8) j)]) (rY fun j=>[.I (f (Int.toNat 8) j),.I (g (Int.toNat 8) j)]))]) []else(lE' (ofR sh (ln (Int.toNat 8)) (rK fun j=>[.I (f (Int.toNat 8) j),.I (g (Int.toNat 8) j)]) (rY fun j=>[.I (f (Int.toNat 8) j),.I (g (Int.toNat 8) j)]))∧True)∧8+(1:Nat)≤(4294967296:Nat)∧False else(True∧True)∧8+(1:Nat)≤(4294967296:Nat)∧False else True∧bif !d0 th nd then K (.tup [.ptr 0 0,.I 1]) (w2r nd sh th tr wf)else(w2s nd th)∧bif ilt (2*nd+5*th+6) (↑0:Int)then K (.tup [.ptr 0 0,.I 6]) (w2r nd sh th tr wf)else((w2s nd th)∧True)∧(w2t nd th)∧K (.tup [.ptr 0 0,.I 0]) [cE' [.I sh,.I th,.I nd,.I tr,.ptr 1 0,.ptr 3 0,.slice 4 0 8 1,.I 0],w2u nd th,some (.ints (some .u64) (List.replicate (Int.toNat (2*nd+5*th+6)) 0)),mC,cE' [.ptr 5 0,.ptr 6 0,.ptr 7 0,.ptr 8 0,.ptr 9 0,.ptr 10 0,.ptr 11 0,.ptr 12 0],some (.abs (.worker (wf 0)) []),some (.abs (.worker (wf 1)) []),some (.abs (.worker (wf 2)) []),some (.abs (.worker (wf 3)) []),some (.abs (.worker (wf 4)) []),some (.abs (.worker (wf 5)) []),some (.abs (.worker (wf 6)) []),some (.abs (.worker (wf 7)) [])])∧True
theorem OR(sh th nd tr:Int)(m:Nat)(ln:Nat→Nat)(f g:Nat→Nat→Int)(wf:Nat→WKS)(K:AVal→aC Ob→Prop)(h:aBH sh th nd tr m ln f g wf K):cT' 25 [.agg [.I sh,.I th,.I nd,.I tr],.view m 1 (fun i=>[.view (ln i) 2 (fun j=>[.I (f i j),.I (g i j)])])] [] K:=by
 refine aHa (aE (E:=EU1) Tryz.checked.mixed (L:=(fun _ _=>some (.cases [HN0 sh th nd tr m ln f g wf,HNk 1 sh th nd tr m ln f g wf,HNk 2 sh th nd tr m ln f g wf,HNk 3 sh th nd tr m ln f g wf,HNk 4 sh th nd tr m ln f g wf,HNk 5 sh th nd tr m ln f g wf,HNk 6 sh th nd tr m ln f g wf,HNk 7 sh th nd tr m ln f g wf,HNk 8 sh th nd tr m ln f g wf]))) (n:=10) (aJ (by kernel_rfl) h))
theorem u4{t n:Int} :d0 t n=true↔1≤t∧t≤8∧1≤n∧n≤200:=by
 unfold d0;simp only [cA,Bool.and_eq_true,dT',and_assoc]
theorem ZN{sh th nd tr:Int}(h:ieq (wrE sh th nd tr) 0=true):1≤sh∧sh≤4∧(1≤th∧th≤8∧1≤nd∧nd≤200)∧0≤tr∧tr≤50:=by
 unfold wrE at h;cases h1:ilt sh 1<;>rw [h1]at h<;>simp only [cond_true,cond_false]at h
 case true=>exact absurd h (by decide)
 cases h2:ilt 4 sh<;>rw [h2]at h<;>simp only [cond_true,cond_false]at h
 case true=>exact absurd h (by decide)
 cases h3:d0 th nd<;>rw [h3]at h<;>simp only [Bool.not_false,Bool.not_true,cond_true,cond_false]at h
 case false=>exact absurd h (by decide)
 cases h4:ilt tr 0<;>rw [h4]at h<;>simp only [cond_true,cond_false]at h
 case true=>exact absurd h (by decide)
 cases h5:ilt 50 tr<;>rw [h5]at h<;>simp only [cond_true,cond_false]at h
 case true=>exact absurd h (by decide)
 rw [bB,dF']at h1 h2 h4 h5;exact⟨by omega,by omega,u4.1 h3,by omega,by omega⟩
def WG(t n:Int):MS:= {t:=t,n:=n,xs:=List.replicate (2*n+5*t+6).toNat 0,c:=0,k:=0,a:=0,o:=0,w:=0,ok:=false}
def d7(sh th nd:Int)(m:Nat)(ln:Nat→Nat)(f g:Nat→Nat→Int)(j:Nat):WKS:=WK th nd (j:Int) (bif ilt (j:Int) (m:Int)then ofR sh (ln j) (f j) (g j)else [])
def cW(sh th nd tr:Int)(m:Nat)(ln:Nat→Nat)(f g:Nat→Nat→Int):EGS:=⟨sh,th,nd,tr,WG th nd,⟨[],[],0,0,0,0,0,0,0,0⟩,(List.range th.toNat).map (d7 sh th nd m ln f g),0⟩
def gnC(sh th nd tr:Int)(m:Nat)(ln:Nat→Nat)(f g:Nat→Nat→Int):Int:=bif !ieq (wrE sh th nd tr) 0 then wrE sh th nd tr else bif lgB th m ln then 6 else bif (List.range m).all (fun j=>d6 sh (ln j) (f j) (g j))then 0 else 1
abbrev pS(sh th nd tr:Int)(m:Nat)(ln:Nat→Nat)(f g:Nat→Nat→Int):Out Ob:=.ite (ieq (gnC sh th nd tr m ln f g) 0) (.ret (.tup [.ptr 0 0,.I 0]) (egH (cW sh th nd tr m ln f g))) (.ret (.tup [.raw (.pointer none),.I (gnC sh th nd tr m ln f g)]) [])
theorem Y1{sh:Int}{m:Nat}{f g:Nat→Int}(h:ieq (ofC sh m f g) 0=false):d6 sh m f g=false∧ofC sh m f g=1:=by
 unfold ofC at h⊢;cases e:d6 sh m f g with
 | true=>rw [e]at h;exact absurd h (by decide)
 | false=>exact⟨rfl,rfl⟩
theorem Y0{sh:Int}{m:Nat}{f g:Nat→Int}(h:ieq (ofC sh m f g) 0=true):d6 sh m f g=true:=by
 unfold ofC at h;cases e:d6 sh m f g with
 | true=>rfl
 | false=>rw [e]at h;exact absurd h (by decide)
theorem x8(sh th nd tr:Int)(m:Nat)(ln:Nat→Nat)(f g:Nat→Nat→Int)(K:AVal→aC Ob→Prop)(hK:(pS sh th nd tr m ln f g).run K)(c:Int)(hc:gnC sh th nd tr m ln f g=c)(h0:ieq c 0=false):K (.tup [.raw (.pointer none),.I c]) []:=by
 have hK:(Out.ite (ieq (gnC sh th nd tr m ln f g) 0) _ _).run K:=hK;rw [hc,h0]at hK;exact hK
theorem G7(sh th nd tr:Int)(m:Nat)(ln:Nat→Nat)(f g:Nat→Nat→Int)(K:AVal→aC Ob→Prop)(hK:(pS sh th nd tr m ln f g).run K)(hc:gnC sh th nd tr m ln f g=0):K (.tup [.ptr 0 0,.I 0]) (egH (cW sh th nd tr m ln f g)):=by
 have hK:(Out.ite (ieq (gnC sh th nd tr m ln f g) 0) _ _).run K:=hK;rw [hc]at hK;exact hK
abbrev uB(sh th nd tr:Int)(W:List WKS):EGS:=⟨sh,th,nd,tr,WG th nd,⟨[],[],0,0,0,0,0,0,0,0⟩,W,0⟩
abbrev x7(sh th nd tr:Int)(k:Nat)(ps:List AVal)(ws:aC Ob):aC Ob:=[cE' [.I sh,.I th,.I nd,.I tr,.ptr 1 0,.ptr 3 0,.slice 4 0 k 1,.I 0],cE' [.I th,.I nd,.slice 2 0 (Int.toNat (2*nd+5*th+6)) 1,.I 0,.I 0,.I 0,.int .u64 0,.int .u64 0,.bool false],some (.ints (some .u64) (List.replicate (Int.toNat (2*nd+5*th+6)) 0)),mC,some (.cells ps)]++ws
abbrev aEl(sh th nd tr:Int)(W:List WKS):aC Ob:=[cE' [.I sh,.I th,.I nd,.I tr,.ptr 1 0,.ptr 3 0,.slice 4 0 W.length 1,.I 0],cE' [.I th,.I nd,.slice 2 0 (Int.toNat (2*nd+5*th+6)) 1,.I 0,.I 0,.I 0,.int .u64 0,.int .u64 0,.bool false],some (.ints (some .u64) (List.replicate (Int.toNat (2*nd+5*th+6)) 0)),mC,some (.abs (.wrow W) [])]
theorem sB{sh th nd tr:Int}(W:List WKS){g:aC Ob}(h:g=aP (aEl sh th nd tr W) 4 0 (rowE (List.map (fun w=>some (Mc.worker w)) W)) [])(hb:obOk 0 (rowE (List.map (fun w=>some (Mc.worker w)) W))=true):aF (obI tbl) 0 (.tup [.ptr 0 0,.I 0]) g (.tup [.ptr 0 0,.I 0]) (egH (uB sh th nd tr W)):=by
 refine(aF.pack (aEl sh th nd tr W) (.wrow W) 4 0 (rowE (List.map (fun w=>some (Mc.worker w)) W)) [] h rfl rfl (by rw [hb];rfl)).trans ?_
 refine aF.trans (aHl rfl ?_) (kH 0 (Nat.zero_le _) _ rfl (uB sh th nd tr W))
 first | (simp only [egG,WG,List.length_replicate];done) | (simp only [egG,WG,List.length_replicate]<;>rfl)
theorem aEn(sh nd tr:Int)(wf:Nat→WKS):aF (obI tbl) 0 (.tup [.ptr 0 0,.I 0]) (x7 sh (1:Nat) nd tr 1 (FT 5 1) (zC wf 1)) (.tup [.ptr 0 0,.I 0]) (egH (uB sh (1:Nat) nd tr ((List.range 1).map wf))):=sB ((List.range 1).map wf) (by kernel_rfl) (by kernel_rfl)
theorem aEo(sh nd tr:Int)(wf:Nat→WKS):aF (obI tbl) 0 (.tup [.ptr 0 0,.I 0]) (x7 sh (2:Nat) nd tr 2 (FT 5 2) (zC wf 2)) (.tup [.ptr 0 0,.I 0]) (egH (uB sh (2:Nat) nd tr ((List.range 2).map wf))):=sB ((List.range 2).map wf) (by kernel_rfl) (by kernel_rfl)
theorem aEp(sh nd tr:Int)(wf:Nat→WKS):aF (obI tbl) 0 (.tup [.ptr 0 0,.I 0]) (x7 sh (3:Nat) nd tr 3 (FT 5 3) (zC wf 3)) (.tup [.ptr 0 0,.I 0]) (egH (uB sh (3:Nat) nd tr ((List.range 3).map wf))):=sB ((List.range 3).map wf) (by kernel_rfl) (by kernel_rfl)
theorem aEq(sh nd tr:Int)(wf:Nat→WKS):aF (obI tbl) 0 (.tup [.ptr 0 0,.I 0]) (x7 sh (4:Nat) nd tr 4 (FT 5 4) (zC wf 4)) (.tup [.ptr 0 0,.I 0]) (egH (uB sh (4:Nat) nd tr ((List.range 4).map wf))):=sB ((List.range 4).map wf) (by kernel_rfl) (by kernel_rfl)
theorem aEr(sh nd tr:Int)(wf:Nat→WKS):aF (obI tbl) 0 (.tup [.ptr 0 0,.I 0]) (x7 sh (5:Nat) nd tr 5 (FT 5 5) (zC wf 5)) (.tup [.ptr 0 0,.I 0]) (egH (uB sh (5:Nat) nd tr ((List.range 5).map wf))):=sB ((List.range 5).map wf) (by kernel_rfl) (by kernel_rfl)
theorem aEs(sh nd tr:Int)(wf:Nat→WKS):aF (obI tbl) 0 (.tup [.ptr 0 0,.I 0]) (x7 sh (6:Nat) nd tr 6 (FT 5 6) (zC wf 6)) (.tup [.ptr 0 0,.I 0]) (egH (uB sh (6:Nat) nd tr ((List.range 6).map wf))):=sB ((List.range 6).map wf) (by kernel_rfl) (by kernel_rfl)
theorem aEt(sh nd tr:Int)(wf:Nat→WKS):aF (obI tbl) 0 (.tup [.ptr 0 0,.I 0]) (x7 sh (7:Nat) nd tr 7 (FT 5 7) (zC wf 7)) (.tup [.ptr 0 0,.I 0]) (egH (uB sh (7:Nat) nd tr ((List.range 7).map wf))):=sB ((List.range 7).map wf) (by kernel_rfl) (by kernel_rfl)
theorem aEu(sh nd tr:Int)(wf:Nat→WKS):aF (obI tbl) 0 (.tup [.ptr 0 0,.I 0]) (x7 sh (8:Nat) nd tr 8 (FT 5 8) (zC wf 8)) (.tup [.ptr 0 0,.I 0]) (egH (uB sh (8:Nat) nd tr ((List.range 8).map wf))):=sB ((List.range 8).map wf) (by kernel_rfl) (by kernel_rfl)
theorem aEm(sh nd tr:Int)(wf:Nat→WKS){k:Nat}(h1:1≤k)(h8:k≤8):aF (obI tbl) 0 (.tup [.ptr 0 0,.I 0]) (x7 sh (k:Int) nd tr k (FT 5 k) (zC wf k)) (.tup [.ptr 0 0,.I 0]) (egH (uB sh (k:Int) nd tr ((List.range k).map wf))):=by
 match k,h1,h8 with
 | 1,_,_=>exact aEn sh nd tr wf
 | 2,_,_=>exact aEo sh nd tr wf
 | 3,_,_=>exact aEp sh nd tr wf
 | 4,_,_=>exact aEq sh nd tr wf
 | 5,_,_=>exact aEr sh nd tr wf
 | 6,_,_=>exact aEs sh nd tr wf
 | 7,_,_=>exact aEt sh nd tr wf
 | 8,_,_=>exact aEu sh nd tr wf
 | k+9,_,h=>omega
theorem lK(wf:Nat→WKS)(k:Nat):zC wf (k+1)=zC wf k++ [some (.abs (.worker (wf k)) [])]:=by
 unfold zC;rw [List.range_succ,List.map_append];rfl
theorem aEv(sh th nd tr:Int)(m:Nat)(ln:Nat→Nat)(f g:Nat→Nat→Int)(K:AVal→aC Ob→Prop)(hm:m≤1000000)(hK:(pS sh th nd tr m ln f g).run K):aBH sh th nd tr m ln f g (d7 sh th nd m ln f g) (dJ (obI tbl) 0 K):=by
 refine⟨trivial,aO (fun e0=>?_) fun e0=>⟨⟨hm,⟨rfl⟩⟩,aO (fun e1=>?_) fun e1=>?_⟩⟩
 ·have hc:gnC sh th nd tr m ln f g=wrE sh th nd tr:=by unfold gnC;rw [e0];rfl
  have e0':ieq (wrE sh th nd tr) 0=false:=by simpa using e0
  exact⟨⟨_,_,aHr _ _ _,x8 sh th nd tr m ln f g K hK _ hc e0'⟩⟩
 ·have hc:gnC sh th nd tr m ln f g=6:=by
   have e1:lgB th m ln=true:=e1;unfold gnC;rw [e0,e1];rfl
  exact⟨⟨_,_,aHr _ _ _,x8 sh th nd tr m ln f g K hK _ hc rfl⟩⟩
 have e0':ieq (wrE sh th nd tr) 0=true:=by simpa using e0
 have e1:lgB th m ln=false:=e1;obtain⟨hs1,hs2,⟨ht1,ht2,hn1,hn2⟩,hr1,hr2⟩:=ZN e0';obtain⟨hln,hmt⟩:=PC.1 e1;have hrb:d0 th nd=true:=u4.2 ⟨ht1,ht2,hn1,hn2⟩
 have hbad: ∀j:Nat,j<m→d6 sh (ln j) (f j) (g j)=false→gnC sh th nd tr m ln f g=1:=by
  intro j hj hf
  have:(List.range m).all (fun j=>d6 sh (ln j) (f j) (g j))=false:=by
   cases h:(List.range m).all (fun j=>d6 sh (ln j) (f j) (g j))with
   | false=>rfl
   | true=>
     have:=List.all_eq_true.1 h j (List.mem_range.2 hj);rw [hf]at this;cases this
  unfold gnC;rw [e0,e1,this];rfl
 have hgood:(∀j:Nat,j<m→d6 sh (ln j) (f j) (g j)=true)→gnC sh th nd tr m ln f g=0:=by
  intro h;have:(List.range m).all (fun j=>d6 sh (ln j) (f j) (g j))=true:=List.all_eq_true.2 fun j hj=>h j (List.mem_range.1 hj);unfold gnC;rw [e0,e1,this];rfl
 have hwt: ∀u:Nat,ilt (u:Int) (m:Int)=true→d7 sh th nd m ln f g u=WK th nd (u:Int) (ofR sh (ln u) (f u) (g u)):=fun u h=>by unfold d7;rw [h];rfl
 have hwf: ∀u:Nat,ilt (u:Int) (m:Int)=false→d7 sh th nd m ln f g u=WK th nd (u:Int) []:=fun u h=>by unfold d7;rw [h];rfl
 have bd: ∀k:Nat,1≤k→k≤7→BJ k sh th nd tr m ln f g (d7 sh th nd m ln f g) (dJ (obI tbl) 0 K):=by
  rintro k h1 h7 ⟨hu,hg⟩;refine aO (fun e=>aO (fun e2=>?_) (fun e2=>?_)) (fun e=>?_)
  ·have e2':=e2;rw [bB,dT']at e e2;have hum:k<m:=by omega
   refine⟨⟨by omega,by omega⟩,⟨⟨by have:=hln k hum;show ln k≤1000000;omega,⟨rfl⟩⟩,trivial⟩,aO (fun e3=>?_) (fun e3=>?_)⟩
   ·have e3:(!ieq (ofC sh (ln k) (f k) (g k)) 0)=true:=e3;obtain⟨q1,q2⟩:=Y1 (by simpa using e3)
    have:=x8 sh th nd tr m ln f g K hK 1 (hbad k hum q1) rfl;rw [←q2]at this;exact⟨⟨_,_,aHr _ _ _,this⟩⟩
   ·have e3:(!ieq (ofC sh (ln k) (f k) (g k)) 0)=false:=e3;have q:=Y0 (sh:=sh) (m:=ln k) (f:=f k) (g:=g k) (by simpa using e3)
    have hw:=hwt k e2';have hW:W ((k:Int)+1)=((k+1:Nat):Int):=(cP ⟨by omega,by omega⟩).trans (by omega)
    refine⟨⟨rfl,trivial⟩,by omega,bC (H:=HNk (k+1) sh th nd tr m ln f g (d7 sh th nd m ln f g)) () (by first | (simp only [HNk,lK,hw,hW];done) | (simp only [HNk,lK,hw,hW]<;>rfl)) ⟨⟨by omega,fun j h1 h2=>by
     by_cases hj:j=k
     ·subst hj;exact q
     ·exact hg j (by omega) h2⟩,by show 9 - (k+1)<9 - k;omega⟩⟩
  ·have hw:=hwf k e2;rw [bB,dT']at e;rw [bB,dF']at e2;have hW:W ((k:Int)+1)=((k+1:Nat):Int):=(cP ⟨by omega,by omega⟩).trans (by omega)
   refine⟨⟨trivial,trivial⟩,by omega,bC (H:=HNk (k+1) sh th nd tr m ln f g (d7 sh th nd m ln f g)) () (by first | (simp only [HNk,lK,hw,hW];done) | (simp only [HNk,lK,hw,hW]<;>rfl)) ⟨⟨by omega,fun j h1 h2=>hg j (by omega) h2⟩,by show 9 - (k+1)<9 - k;omega⟩⟩
  ·rw [bB,dF']at e;have hth:th=k:=by omega
   subst hth;rw [hrb];refine⟨trivial,aO (fun e3=>by cases e3) (fun _=>⟨⟨⟨by omega,by omega⟩,by omega,by omega⟩,aO (fun e4=>?_) (fun _=>⟨⟨⟨⟨by omega,by omega⟩,by omega,by omega⟩,trivial⟩,⟨by omega,rfl,by omega⟩,?_⟩)⟩)⟩
   ·rw [bB,dT']at e4;have e4:(2*nd+5*(k:Int)+6:Int)<0:=e4;omega
   ·have:=G7 sh k nd tr m ln f g K hK (hgood fun j hj=>hg j (by omega) hj)
    exact⟨⟨_,_,aEm sh nd tr (d7 sh k nd m ln f g) h1 (by omega),this⟩⟩
 refine⟨⟨trivial,trivial⟩,bC (H:=HN0 sh th nd tr m ln f g (d7 sh th nd m ln f g)) () rfl ⟨⟨by omega,fun j h1 _=>by omega⟩,trivial⟩,?_,?_,?_,?_,?_,?_,?_,?_,?_,trivial⟩
 ·rintro x ⟨hu,hg⟩;refine aO (fun e=>aO (fun e2=>?_) (fun e2=>?_)) (fun e=>?_)
  ·have e2':=e2;rw [bB,dT']at e e2;have hum:0<m:=by omega
   refine⟨⟨by omega,by omega⟩,⟨⟨by have:=hln 0 hum;show ln 0≤1000000;omega,⟨rfl⟩⟩,trivial⟩,aO (fun e3=>?_) (fun e3=>?_)⟩
   ·have e3:(!ieq (ofC sh (ln 0) (f 0) (g 0)) 0)=true:=e3;obtain⟨q1,q2⟩:=Y1 (by simpa using e3)
    have:=x8 sh th nd tr m ln f g K hK 1 (hbad 0 hum q1) rfl;rw [←q2]at this;exact⟨⟨_,_,aHr _ _ _,this⟩⟩
   ·have e3:(!ieq (ofC sh (ln 0) (f 0) (g 0)) 0)=false:=e3;have q:=Y0 (sh:=sh) (m:=ln 0) (f:=f 0) (g:=g 0) (by simpa using e3)
    have hw:=hwt 0 e2'
    refine⟨⟨rfl,trivial⟩,by decide,bC (H:=HNk 1 sh th nd tr m ln f g (d7 sh th nd m ln f g)) () (by simp only [HNk,lK,hw]<;>rfl) ⟨⟨by omega,fun j h1 h2=>by
     by_cases hj:j=0
     ·subst hj;exact q
     ·exact hg j (by omega) h2⟩,by show(8:Nat)<9;decide⟩⟩
  ·have hw:=hwf 0 e2;rw [bB,dT']at e;rw [bB,dF']at e2;refine⟨⟨trivial,trivial⟩,by decide,bC (H:=HNk 1 sh th nd tr m ln f g (d7 sh th nd m ln f g)) () (by simp only [HNk,lK,hw]<;>rfl) ⟨⟨by omega,fun j h1 h2=>hg j (by omega) h2⟩,by show(8:Nat)<9;decide⟩⟩
  ·rw [bB,dF']at e;omega
 ·exact fun x=>bd 1 (by decide) (by decide)
 ·exact fun x=>bd 2 (by decide) (by decide)
 ·exact fun x=>bd 3 (by decide) (by decide)
 ·exact fun x=>bd 4 (by decide) (by decide)
 ·exact fun x=>bd 5 (by decide) (by decide)
 ·exact fun x=>bd 6 (by decide) (by decide)
 ·exact fun x=>bd 7 (by decide) (by decide)
 ·rintro x ⟨hu,hg⟩;refine aO (fun e=>?_) (fun e=>?_)
  ·rw [bB,dT']at e;omega
  ·rw [bB,dF']at e;have hth:th=8:=by omega
   subst hth;rw [hrb];refine⟨trivial,aO (fun e3=>by cases e3) (fun _=>⟨⟨⟨by omega,by omega⟩,by omega,by omega⟩,aO (fun e4=>?_) (fun _=>⟨⟨⟨⟨by omega,by omega⟩,by omega,by omega⟩,trivial⟩,⟨by omega,rfl,by omega⟩,?_⟩)⟩)⟩
   ·rw [bB,dT']at e4;have e4:(2*nd+5*8+6:Int)<0:=e4;omega
   ·have:=G7 sh 8 nd tr m ln f g K hK (hgood fun j hj=>hg j (by omega) hj)
    exact⟨⟨_,_,aEm sh nd tr (d7 sh 8 nd m ln f g) (k:=8) (by decide) (by decide),this⟩⟩
def gnS:aI Ob:=fun args h=>match args,h with
 | [.agg [.int .i64 sh,.int .i64 th,.int .i64 nd,.int .i64 tr],.view m 1 vr],[]=>some (.pre (m≤1000000∧iO vr) (pS sh th nd tr m (vL vr) (vK vr) (vY vr)))
 | _,_=>none
theorem G8:sT' 25 gnS:=by
 intro args h o ho K hK;unfold gnS at ho;split at ho<;>cases ho
 rename_i sh th nd tr m vr;obtain⟨⟨hm,⟨hr⟩⟩,hK⟩:=hK;rw [hr];refine aHn ?_;exact OR sh th nd tr m (vL vr) (vK vr) (vY vr) _ _ (aEv sh th nd tr m (vL vr) (vK vr) (vY vr) K hm hK)
noncomputable def EU2:=EU1.addS 25 gnS G8
theorem aR.lend{h:aC Ob}{l i:Nat}{ws:List WKS}(hl:aL h l=some (.abs (.wrow ws) []))(hi:i<ws.length):aR (obI tbl) h (h.set l (some (.abs (.whole ws i) [h.length]))++ [some (.abs (.worker (aX ws i)) [])]):=by
 intro V hR w h1 hf;obtain⟨V',x,b,k,cs,T,a1,a2,a3,_⟩:=h1.lend RKW (ws:=ws) hf hl (CY hi);exact⟨V',a1,by simpa using a2,by simp,a3⟩
theorem kE{ws:List WKS}{i:Nat}(hi:i<ws.length):cG ws i (aX ws i)=ws:=by
 unfold cG aX;apply List.ext_getElem
 ·simp
 ·intro j h1 h2;rw [List.getElem_set];split
  ·rename_i e;subst e;rw [gD',gE' hi];rfl
  ·rfl
abbrev w2w(x:EGS):Option (aH Ob):=cE' [.I x.sh,.I x.th,.I x.nd,.I x.tr,.ptr 1 0,.ptr 3 0,.slice 4 0 x.ws.length 1,.I x.k]
abbrev eg0(x:EGS)(i:Nat)(w:WKS):aC Ob:=[w2w x,aZ 2 x.s,a8 x.s,some (.abs (.hist x.h) []),some (.abs (.whole x.ws i) [5]),cE' [.ptr 6 0,.tslice 7 0 w.tk.length 3,.I w.en,.raw (.pointer none),.slice 8 0 w.tl.length 1,.slice 9 0 w.sl.length 1],some (.abs (.store w.t w.n w.st) []),some (.tab [some .i64,some .i64,some .i64] w.tk),iI' w.tl,iI' w.sl]
theorem NN{x:EGS}{i:Nat}(hi:i<x.ws.length)(hb:(aX x.ws i).b =false):aR (obI tbl) (egH x) (eg0 x i (aX x.ws i)):=by
 refine(aR.unpack (.engine x) 0 0 (egG x) [] rfl rfl rfl rfl).trans ((aR.lend (l:=4) (i:=i) (ws:=x.ws) rfl hi).trans ((aR.unpack (.worker (aX x.ws i)) 5 0 (nH (aX x.ws i)) [] rfl (congrArg (Prod.mk 0) (qJ hb)) rfl rfl).trans (aIi ?_)))
 kernel_rfl
abbrev eg1(x:EGS)(i:Nat)(w:WKS):aC Ob:=[w2w x,aZ 2 x.s,a8 x.s,some (.abs (.hist x.h) []),some (.abs (.whole x.ws i) [5]),cE' [.ptr 6 0,.tslice 7 0 w.tk.length 3,.I w.en,.ptr 8 0,.slice 9 0 w.tl.length 1,.slice 10 0 w.sl.length 1],some (.abs (.store w.t w.n w.st) []),some (.tab [some .i64,some .i64,some .i64] w.tk),some (.abs (.doer w.t w.n w.d) [6]),iI' w.tl,iI' w.sl]
theorem NO{x:EGS}{i:Nat}(hi:i<x.ws.length)(hb:(aX x.ws i).b =true):aR (obI tbl) (egH x) (eg1 x i (aX x.ws i)):=by
 refine(aR.unpack (.engine x) 0 0 (egG x) [] rfl rfl rfl rfl).trans ((aR.lend (l:=4) (i:=i) (ws:=x.ws) rfl hi).trans ((aR.unpack (.worker (aX x.ws i)) 5 0 (rL (aX x.ws i)) [] rfl (congrArg (Prod.mk 0) (xG hb)) rfl rfl).trans (aIi ?_)))
 kernel_rfl
abbrev w2x(x:EGS):Option (aH Ob):=cE' [.I x.sh,.I x.th,.I x.nd,.I x.tr,.ptr 1 0,.ptr 3 0,.slice 4 0 x.ws.length 1,.I x.k]
abbrev aD1(x:EGS)(i:Nat)(w:WKS)(xs:List Int):aC Ob:=[w2x x,aZ 2 x.s,a8 x.s,some (.abs (.hist x.h) []),some (.abs (.whole x.ws i) [5]),cE' [.ptr 6 0,.tslice 7 0 w.tk.length 3,.I w.en,.raw (.pointer none),.slice 8 0 w.tl.length 1,.slice 9 0 w.sl.length 1],some (.abs (.store w.t w.n w.st) []),some (.tab [some .i64,some .i64,some .i64] w.tk),iI' w.tl,iI' w.sl,iI' xs]
abbrev w2z(x:EGS):List AVal:=[.I x.sh,.I x.th,.I x.nd,.I x.tr,.ptr 1 0,.ptr 3 0,.slice 4 0 x.ws.length 1,.I x.k]
abbrev w2y(i:Nat)(w:WKS)(x:EGS)(xs:List Int):aC Ob:=[cE' (w2z x),aZ 2 x.s,a8 x.s,some (.abs (.hist x.h) []),some (.abs (.whole x.ws i) [5]),some (.abs (.worker w) []),none,none,none,none,iI' xs]
theorem aAT(x:EGS)(i:Nat)(w:WKS)(xs:List Int)(hi:i<x.ws.length)(hw:cG x.ws i w=x.ws)(hb:w.b=false):aF (obI tbl) 1 (.slice 10 0 xs.length 1) (aD1 x i w xs) (.slice 1 0 xs.length 1) [some (.abs (.engine x) []),iI' xs]:=by
 exact((aF.move 6 (of_decide_eq_true rfl)).trans ((aF.move 7 (of_decide_eq_true rfl)).trans ((aF.move 8 (of_decide_eq_true rfl)).trans ((aF.move 9 (of_decide_eq_true rfl)).trans ((aHl (v2:=.slice 10 0 xs.length 1) (g2:=aP (w2y i w x xs) 5 0 (nH w) []) (by kernel_rfl) (by kernel_rfl)).trans ((aF.pack (w2y i w x xs) (.worker w) 5 0 (nH w) [] rfl rfl (congrArg (Prod.mk 0) (qJ hb)) (by kernel_rfl)).trans ((aF.back (l:=4) (k:=5) (i:=i) (ws:=x.ws) (w:=w) rfl rfl (by decide) hi).trans ((aHl (v2:=.slice 10 0 xs.length 1) (g2:=[cE' (w2z x),aZ 2 x.s,a8 x.s,some (.abs (.hist x.h) []),some (.abs (.wrow x.ws) []),none,none,none,none,none,iI' xs]) rfl (by rw [hw];rfl)).trans ((aF.move 1 (of_decide_eq_true rfl)).trans ((aF.move 2 (of_decide_eq_true rfl)).trans ((aF.move 3 (of_decide_eq_true rfl)).trans ((aF.move 4 (of_decide_eq_true rfl)).trans ((aHl (v2:=.slice 10 0 xs.length 1) (g2:=aP [some (.abs (.engine x) []),none,none,none,none,none,none,none,none,none,iI' xs] 0 0 (egG x) []) (by kernel_rfl) (by kernel_rfl)).trans ((aF.pack [some (.abs (.engine x) []),none,none,none,none,none,none,none,none,none,iI' xs] (.engine x) 0 0 (egG x) [] rfl rfl rfl (by kernel_rfl)).trans (aF.pick [0,10] rfl)))))))))))))))
abbrev aD2(x:EGS)(i:Nat)(w:WKS)(xs:List Int):aC Ob:=[w2x x,aZ 2 x.s,a8 x.s,some (.abs (.hist x.h) []),some (.abs (.whole x.ws i) [5]),cE' [.ptr 6 0,.tslice 7 0 w.tk.length 3,.I w.en,.ptr 8 0,.slice 9 0 w.tl.length 1,.slice 10 0 w.sl.length 1],some (.abs (.store w.t w.n w.st) []),some (.tab [some .i64,some .i64,some .i64] w.tk),some (.abs (.doer w.t w.n w.d) [6]),iI' w.tl,iI' w.sl,iI' xs]
abbrev w31(x:EGS):List AVal:=[.I x.sh,.I x.th,.I x.nd,.I x.tr,.ptr 1 0,.ptr 3 0,.slice 4 0 x.ws.length 1,.I x.k]
abbrev w30(i:Nat)(w:WKS)(x:EGS)(xs:List Int):aC Ob:=[cE' (w31 x),aZ 2 x.s,a8 x.s,some (.abs (.hist x.h) []),some (.abs (.whole x.ws i) [5]),some (.abs (.worker w) []),none,none,none,none,none,iI' xs]
abbrev w32(x:EGS)(xs:List Int):aC Ob:=[some (.abs (.engine x) []),none,none,none,none,none,none,none,none,none,none,iI' xs]
theorem aAU(x:EGS)(i:Nat)(w:WKS)(xs:List Int)(hi:i<x.ws.length)(hw:cG x.ws i w=x.ws)(hb:w.b=true):aF (obI tbl) 1 (.slice 11 0 xs.length 1) (aD2 x i w xs) (.slice 1 0 xs.length 1) [some (.abs (.engine x) []),iI' xs]:=by
 exact((aF.move 6 (of_decide_eq_true rfl)).trans ((aF.move 7 (of_decide_eq_true rfl)).trans ((aF.move 8 (of_decide_eq_true rfl)).trans ((aF.move 9 (of_decide_eq_true rfl)).trans ((aF.move 10 (of_decide_eq_true rfl)).trans ((aHl (v2:=.slice 11 0 xs.length 1) (g2:=aP (w30 i w x xs) 5 0 (rL w) []) (by kernel_rfl) (by kernel_rfl)).trans ((aF.pack (w30 i w x xs) (.worker w) 5 0 (rL w) [] rfl rfl (congrArg (Prod.mk 0) (xG hb)) (by kernel_rfl)).trans ((aF.back (l:=4) (k:=5) (i:=i) (ws:=x.ws) (w:=w) rfl rfl (by decide) hi).trans ((aHl (v2:=.slice 11 0 xs.length 1) (g2:=[cE' (w31 x),aZ 2 x.s,a8 x.s,some (.abs (.hist x.h) []),some (.abs (.wrow x.ws) []),none,none,none,none,none,none,iI' xs]) rfl (by rw [hw];rfl)).trans ((aF.move 1 (of_decide_eq_true rfl)).trans ((aF.move 2 (of_decide_eq_true rfl)).trans ((aF.move 3 (of_decide_eq_true rfl)).trans ((aF.move 4 (of_decide_eq_true rfl)).trans ((aHl (v2:=.slice 11 0 xs.length 1) (g2:=aP (w32 x xs) 0 0 (egG x) []) (by kernel_rfl) (by kernel_rfl)).trans ((aF.pack (w32 x xs) (.engine x) 0 0 (egG x) [] rfl rfl rfl (by kernel_rfl)).trans (aF.pick [0,11] rfl))))))))))))))))
abbrev w33(x:EGS):Option (aH Ob):=cE' [.I (EGS.s x).1,.I (EGS.s x).2,.slice 2 0 (List.length (EGS.s x).3) 1,.I (EGS.s x).4,.I (EGS.s x).5,.I (EGS.s x).6,.int .u64 (EGS.s x).7,.int .u64 (EGS.s x).8,.bool (EGS.s x).9]
abbrev w34(x:EGS):Option (aH Ob):=cE' [.I x.1,.I x.2,.I x.3,.I x.4,.ptr 1 0,.ptr 3 0,.slice 4 0 x.7.length 1,.I x.8]
abbrev w36(w:WKS):List AVal:=[.ptr 6 0,.tslice 7 0 w.4.length 3,.I w.5,.N,.slice 8 0 w.8.length 1,.slice 9 0 w.9.length 1]
def F1(x:EGS)(i:Nat)(w:WKS)(th:Int)(K:AVal→aC Ob→Prop):Prop:=bif ilt th 0 then K (.raw (Value.slice none 0 0)) [w34 x,w33 x,some (.ints (some .u64) (EGS.s x).3),some (.abs (.hist x.6) []),some (.abs (.whole x.7 i) [5]),cE' (w36 w),some (.abs (.store w.1 w.2 w.3) []),some (.tab cK3 w.4),iI' w.8,iI' w.9]else bif ile (↑x.7.length:Int) th then K (.raw (Value.slice none 0 0)) [w34 x,w33 x,some (.ints (some .u64) (EGS.s x).3),some (.abs (.hist x.6) []),some (.abs (.whole x.7 i) [5]),cE' (w36 w),some (.abs (.store w.1 w.2 w.3) []),some (.tab cK3 w.4),iI' w.8,iI' w.9]else((0:Int)≤th∧th<(↑x.7.length:Int))∧(i<x.7.length∧0+Int.toNat th*(1:Nat)=i)∧(lE' w.9∧w.9.length≤(4294967296:Nat))∧K (.slice 10 0 w.9.length 1) [w34 x,w33 x,some (.ints (some .u64) (EGS.s x).3),some (.abs (.hist x.6) []),some (.abs (.whole x.7 i) [5]),cE' (w36 w),some (.abs (.store w.1 w.2 w.3) []),some (.tab cK3 w.4),iI' w.8,iI' w.9,iI' w.9]
theorem F2(x:EGS)(i:Nat)(w:WKS)(th:Int)(K:AVal→aC Ob→Prop)(h:F1 x i w th K):cT' 35 [.ptr 0 0,.I th] (eg0 x i w) (kS 1 K):=by
 exact cM' (E:=EU2) (by kernel_rfl) h
abbrev w35(w:WKS):List AVal:=[.ptr 6 0,.tslice 7 0 w.4.length 3,.I w.5,.ptr 8 0,.slice 9 0 w.8.length 1,.slice 10 0 w.9.length 1]
def F3(x:EGS)(i:Nat)(w:WKS)(th:Int)(K:AVal→aC Ob→Prop):Prop:=bif ilt th 0 then K (.raw (Value.slice none 0 0)) [w34 x,w33 x,some (.ints (some .u64) (EGS.s x).3),some (.abs (.hist x.6) []),some (.abs (.whole x.7 i) [5]),cE' (w35 w),some (.abs (.store w.1 w.2 w.3) []),some (.tab cK3 w.4),some (.abs (.doer w.1 w.2 w.7) [6]),iI' w.8,iI' w.9]else bif ile (↑x.7.length:Int) th then K (.raw (Value.slice none 0 0)) [w34 x,w33 x,some (.ints (some .u64) (EGS.s x).3),some (.abs (.hist x.6) []),some (.abs (.whole x.7 i) [5]),cE' (w35 w),some (.abs (.store w.1 w.2 w.3) []),some (.tab cK3 w.4),some (.abs (.doer w.1 w.2 w.7) [6]),iI' w.8,iI' w.9]else((0:Int)≤th∧th<(↑x.7.length:Int))∧(i<x.7.length∧0+Int.toNat th*(1:Nat)=i)∧(lE' w.9∧w.9.length≤(4294967296:Nat))∧K (.slice 11 0 w.9.length 1) [w34 x,w33 x,some (.ints (some .u64) (EGS.s x).3),some (.abs (.hist x.6) []),some (.abs (.whole x.7 i) [5]),cE' (w35 w),some (.abs (.store w.1 w.2 w.3) []),some (.tab cK3 w.4),some (.abs (.doer w.1 w.2 w.7) [6]),iI' w.8,iI' w.9,iI' w.9]
theorem F4(x:EGS)(i:Nat)(w:WKS)(th:Int)(K:AVal→aC Ob→Prop)(h:F3 x i w th K):cT' 35 [.ptr 0 0,.I th] (eg1 x i w) (kS 1 K):=by
 exact cM' (E:=EU2) (by kernel_rfl) h
abbrev w38(x:EGS):List AVal:=[.I (EGS.s x).1,.I (EGS.s x).2,.slice 2 0 (List.length (EGS.s x).3) 1,.I (EGS.s x).4,.I (EGS.s x).5,.I (EGS.s x).6,.int .u64 (EGS.s x).7,.int .u64 (EGS.s x).8,.bool (EGS.s x).9]
abbrev w39(x:EGS):List AVal:=[.I x.1,.I x.2,.I x.3,.I x.4,.ptr 1 0,.ptr 3 0,.slice 4 0 x.7.length 1,.I x.8]
abbrev w37(x:EGS):aC Ob:=[cE' (w39 x),cE' (w38 x),some (.ints (some .u64) (EGS.s x).3),some (.abs (.hist x.6) []),some (.abs (.wrow x.7) [])]
def ZC(x:EGS)(th:Int)(K:AVal→aC Ob→Prop):Prop:=bif ilt th 0 then K (.I 0) (w37 x)else bif ile (↑x.7.length:Int) th then K (.I 0) (w37 x)else((0:Int)≤th∧th<(↑x.7.length:Int))∧0+Int.toNat th*(1:Nat)<x.7.length∧True∧K (.I (W ((↑(List.length (aX x.7 (0+Int.toNat th*1)).4):Int) - (aX x.7 (0+Int.toNat th*1)).5))) [cE' (w39 x),cE' (w38 x),some (.ints (some .u64) (EGS.s x).3),some (.abs (.hist x.6) []),some (.abs (.whole x.7 (0+Int.toNat th*1)) [5]),some (.abs (.worker (aX x.7 (0+Int.toNat th*1))) [])]
theorem LA(x:EGS)(th:Int)(K:AVal→aC Ob→Prop)(h:ZC x th K):cT' 33 [.ptr 0 0,.I th] (egG x) (kS 1 K):=by
 exact cM' (E:=EU2) (by kernel_rfl) h
abbrev w3a(x:EGS):aC Ob:=[cE' [.I x.1,.I x.2,.I x.3,.I x.4,.ptr 1 0,.ptr 3 0,.slice 4 0 x.7.length 1,.I x.8],cE' [.I (EGS.s x).1,.I (EGS.s x).2,.slice 2 0 (List.length (EGS.s x).3) 1,.I (EGS.s x).4,.I (EGS.s x).5,.I (EGS.s x).6,.int .u64 (EGS.s x).7,.int .u64 (EGS.s x).8,.bool (EGS.s x).9],some (.ints (some .u64) (EGS.s x).3),some (.abs (.hist x.6) []),some (.abs (.wrow x.7) [])]
def ZG(x:EGS)(K:AVal→aC Ob→Prop):Prop:=K (.I x.8) (w3a x)
theorem LE(x:EGS)(K:AVal→aC Ob→Prop)(h:ZG x K):cT' 34 [.ptr 0 0] (egG x) (kS 1 K):=by
 exact cM' (E:=EU2) (by kernel_rfl) h
def ZD(x:EGS)(K:AVal→aC Ob→Prop):Prop:=K (.agg [.I (EGS.s x).1,.I (EGS.s x).2]) (w3a x)
theorem LB(x:EGS)(K:AVal→aC Ob→Prop)(h:ZD x K):cT' 38 [.ptr 0 0] (egG x) (kS 1 K):=by
 exact cM' (E:=EU2) (by kernel_rfl) h
def ZF(x:EGS)(a:Int)(K:AVal→aC Ob→Prop):Prop:=(lE' (EGS.s x).3∧True)∧K (.int .u64 (aD (EGS.s x).3 a)) [cE' [.I x.1,.I x.2,.I x.3,.I x.4,.ptr 1 0,.ptr 3 0,.slice 4 0 x.7.length 1,.I x.8],cE' [.I (EGS.s x).1,.I (EGS.s x).2,.slice 2 0 (List.length (EGS.s x).3) 1,.I (EGS.s x).4,.I (EGS.s x).5,.I (EGS.s x).6,.int .u64 (EGS.s x).7,.int .u64 (EGS.s x).8,.bool (EGS.s x).9],some (.ints (some .u64) (EGS.s x).3),some (.abs (.hist x.6) []),some (.abs (.wrow x.7) [])]
theorem LD(x:EGS)(a:Int)(K:AVal→aC Ob→Prop)(h:ZF x a K):cT' 37 [.ptr 0 0,.I a] (egG x) (kS 1 K):=by
 exact cM' (E:=EU2) (by kernel_rfl) h
theorem aB.keep{P:Program}{f:FuncId}{args:List AVal}{h:aC Ob}{n:Nat}{K:AVal→aC Ob→Prop}(h0:aB (obI tbl) P f args h (kS n (dJ (obI tbl) n K))):aB (obI tbl) P f args h (dJ (obI tbl) n K):=by
 intro V hR w args' hi hf hr;refine(h0 V hR w args' hi hf hr).mono ?_;rintro e w' ⟨v,v',V',h',ht,rest⟩;obtain⟨g0,hK⟩:=bG.1 ht;obtain⟨v2,g2,t,k⟩:=hK.ex;exact⟨v,v',V',h',⟨⟨v2,g2,(aF.pick _ g0).trans t,k⟩⟩,rest⟩
def gE(th:Int)(x:EGS):Int:=bif ilt th 0 then 0 else bif ile (x.ws.length:Int) th then 0 else W (((aX x.ws th.toNat).tk.length :Int) - (aX x.ws th.toNat).en)
def b9(th:Int)(x:EGS):List Int:=bif ilt th 0 then []else bif ile (x.ws.length:Int) th then []else(aX x.ws th.toNat).sl
structure wJ (x:EGS):Prop where
 h0:0<x.ws.length
 ht: ∀i,i<x.ws.length→(aX x.ws i).tl.length ≤1000000
 hs: ∀i,i<x.ws.length→(aX x.ws i).sl.length ≤1000000
 hr: ∀i,i<x.ws.length→(aX x.ws i).st.R.length ≤1000000
theorem aD5(x:EGS)(i:Nat)(hi:i<x.ws.length):({x with ws:=cG x.ws i (aX x.ws i) } :EGS)=x:=by
 rw [kE hi]
def rlfS:aI Ob:=fun args h=>match args,h with
 | [.ptr 0 0,.int .i64 th],[some (.abs (.engine x) [])]=>some (.pre True (.ret (.I (gE th x)) (egH x)))
 | _,_=>none
theorem QE:sT' 33 rlfS:=by
 intro args h o ho K hK;unfold rlfS at ho;split at ho<;>cases ho
 rename_i th x;obtain⟨_,hK⟩:=hK;have hK:K (.I (gE th x)) (egH x):=hK;refine aHn ?_;refine aHi (h2:=egG x) (aR.unpack (.engine x) 0 0 (egG x) [] rfl rfl rfl rfl) ?_;refine aB.keep (LA x th _ ?_);refine aO (fun e1=>?_) (fun e1=>aO (fun e2=>?_) (fun e2=>?_))
 ·have hv:gE th x=0:=by unfold gE;rw [e1];rfl
  rw [hv]at hK;exact⟨⟨_,_,kH 1 (Nat.le_refl 1) _ rfl x,hK⟩⟩
 ·have hv:gE th x=0:=by unfold gE;rw [e1,e2];rfl
  rw [hv]at hK;exact⟨⟨_,_,kH 1 (Nat.le_refl 1) _ rfl x,hK⟩⟩
 ·have hv:gE th x=W (((aX x.ws th.toNat).tk.length :Int) - (aX x.ws th.toNat).en):=by unfold gE;rw [e1,e2];rfl
  rw [bB,dF']at e1;rw [cA,dF']at e2;have hi:0+th.toNat*1<x.ws.length:=by omega
  have ht:0+th.toNat*1=th.toNat:=by omega
  refine⟨⟨by omega,by omega⟩,hi,trivial,?_⟩
  rw [hv]at hK;refine⟨⟨_,_,AR (x:= {x with ws:=cG x.ws (0+th.toNat*1) (aX x.ws (0+th.toNat*1)) }) _ rfl rfl 1 (Nat.le_refl 1) rfl ⟨rfl,hi,rfl⟩,?_⟩⟩
  rw [aD5 x _ hi,ht];exact hK
theorem QY(x:EGS)(i:Nat)(th:Int)(hi:i<x.ws.length)(K:AVal→aC Ob→Prop)(h0:(aX x.ws i).b =false→F1 x i (aX x.ws i) th (dJ (obI tbl) 1 K))(h1:(aX x.ws i).b =true→F3 x i (aX x.ws i) th (dJ (obI tbl) 1 K)):
 cT' 35 [.ptr 0 0,.I th] (egH x) K:=by
 refine aHn ?_;cases hb:(aX x.ws i).b with
 | false=>exact aHi (NN hi hb) (aB.keep (F2 x i _ th _ (h0 hb)))
 | true=>exact aHi (NO hi hb) (aB.keep (F4 x i _ th _ (h1 hb)))
def rswS:aI Ob:=fun args h=>match args,h with
 | [.ptr 0 0,.int .i64 th],[some (.abs (.engine x) [])]=>some (.pre (wJ x) (.ret (.slice 1 0 (b9 th x).length 1) [some (.abs (.engine x) []),iI' (b9 th x)]))
 | _,_=>none
theorem QJ:sT' 35 rswS:=by
 intro args h o ho K hK;unfold rswS at ho;split at ho<;>cases ho
 rename_i th x;obtain⟨⟨hl,ht,hs,hr⟩,hK⟩:=hK;have hK:K (.slice 1 0 (b9 th x).length 1) [some (.abs (.engine x) []),iI' (b9 th x)]:=hK
 have nilt: ∀(b:Bool) (g g2:aC Ob) (e1:ilt th 0=true∨(ilt th 0=false∧ile (x.ws.length:Int) th=true)),b9 th x=[]:=by
  intro b g g2 e;unfold b9;rcases e with e | ⟨e,e2⟩
  ·rw [e];rfl
  ·rw [e,e2];rfl
 cases e1:ilt th 0 with
 | true=>
   have hv:=nilt true [] [] (.inl e1);rw [hv]at hK;refine QY x 0 th hl K (fun hb=>?_) (fun hb=>?_)
   ·exact aO (fun _=>⟨⟨_,_,(aHB (cs:=[(.slot 0,.ints (some .i64))]) rfl).trans (aAT x 0 _ [] hl (kE hl) hb),hK⟩⟩) (fun e=>by rw [e1]at e;cases e)
   ·exact aO (fun _=>⟨⟨_,_,(aHB (cs:=[(.slot 0,.ints (some .i64))]) rfl).trans (aAU x 0 _ [] hl (kE hl) hb),hK⟩⟩) (fun e=>by rw [e1]at e;cases e)
 | false=>
   cases e2:ile (x.ws.length:Int) th with
   | true=>
     have hv:=nilt true [] [] (.inr ⟨e1,e2⟩);rw [hv]at hK;refine QY x 0 th hl K (fun hb=>?_) (fun hb=>?_)
     ·exact aO (fun e=>by rw [e1]at e;cases e) (fun _=>aO (fun _=>⟨⟨_,_,(aHB (cs:=[(.slot 0,.ints (some .i64))]) rfl).trans (aAT x 0 _ [] hl (kE hl) hb),hK⟩⟩) (fun e=>by rw [e2]at e;cases e))
     ·exact aO (fun e=>by rw [e1]at e;cases e) (fun _=>aO (fun _=>⟨⟨_,_,(aHB (cs:=[(.slot 0,.ints (some .i64))]) rfl).trans (aAU x 0 _ [] hl (kE hl) hb),hK⟩⟩) (fun e=>by rw [e2]at e;cases e))
   | false=>
     have hv:b9 th x=(aX x.ws th.toNat).sl :=by unfold b9;rw [e1,e2];rfl
     have e1':=e1;have e2':=e2;rw [bB,dF']at e1';rw [cA,dF']at e2';have hi:th.toNat<x.ws.length:=by omega
     have hf:=hs _ hi;rw [hv]at hK;refine QY x th.toNat th hi K (fun hb=>?_) (fun hb=>?_)
     ·exact aO (fun e=>by rw [e1]at e;cases e) (fun _=>aO (fun e=>by rw [e2]at e;cases e) (fun _=>⟨⟨by omega,by omega⟩,⟨hi,by omega⟩,⟨rfl,by omega⟩,⟨⟨_,_,aAT x th.toNat _ _ hi (kE hi) hb,hK⟩⟩⟩))
     ·exact aO (fun e=>by rw [e1]at e;cases e) (fun _=>aO (fun e=>by rw [e2]at e;cases e) (fun _=>⟨⟨by omega,by omega⟩,⟨hi,by omega⟩,⟨rfl,by omega⟩,⟨⟨_,_,aAU x th.toNat _ _ hi (kE hi) hb,hK⟩⟩⟩))
def estS:aI Ob:=fun args h=>match args,h with
 | [.ptr 0 0],[some (.abs (.engine x) [])]=>some (.pre True (.ret (.I x.k) (egH x)))
 | _,_=>none
theorem OB:sT' 34 estS:=by
 intro args h o ho K hK;unfold estS at ho;split at ho<;>cases ho
 rename_i x;obtain⟨_,hK⟩:=hK;have hK:K (.I x.k) (egH x):=hK;refine aHn ?_;refine aHi (h2:=egG x) (aR.unpack (.engine x) 0 0 (egG x) [] rfl rfl rfl rfl) ?_;refine aB.keep (LE x _ ?_);exact⟨⟨_,_,kH 1 (Nat.le_refl 1) _ rfl x,hK⟩⟩
def elyS:aI Ob:=fun args h=>match args,h with
 | [.ptr 0 0],[some (.abs (.engine x) [])]=>some (.pre True (.ret (.agg [.I x.s.t,.I x.s.n]) (egH x)))
 | _,_=>none
theorem NV:sT' 38 elyS:=by
 intro args h o ho K hK;unfold elyS at ho;split at ho<;>cases ho
 rename_i x;obtain⟨_,hK⟩:=hK;have hK:K (.agg [.I x.s.t,.I x.s.n]) (egH x):=hK;refine aHn ?_;refine aHi (h2:=egG x) (aR.unpack (.engine x) 0 0 (egG x) [] rfl rfl rfl rfl) ?_;refine aB.keep (LB x _ ?_);exact⟨⟨_,_,kH 1 (Nat.le_refl 1) _ rfl x,hK⟩⟩
def epeS:aI Ob:=fun args h=>match args,h with
 | [.ptr 0 0,.int .i64 a],[some (.abs (.engine x) [])]=>some (.pre True (.ret (.int .u64 (aD x.s.xs a)) (egH x)))
 | _,_=>none
theorem NZ:sT' 37 epeS:=by
 intro args h o ho K hK;unfold epeS at ho;split at ho<;>cases ho
 rename_i a x;obtain⟨_,hK⟩:=hK;have hK:K (.int .u64 (aD x.s.xs a)) (egH x):=hK;refine aHn ?_;refine aHi (h2:=egG x) (aR.unpack (.engine x) 0 0 (egG x) [] rfl rfl rfl rfl) ?_;refine aB.keep (LD x a _ ?_);exact⟨⟨rfl,trivial⟩,⟨⟨_,_,kH 1 (Nat.le_refl 1) _ rfl x,hK⟩⟩⟩
noncomputable def EU3:=((((((((EU2.addS 33 rlfS QE)).addS 35 rswS QJ)).addS 34 estS OB).addS 38 elyS NV).addS 37 epeS NZ))
def yB(xs:List Int)(nd:Int):Nat→Int→List Int→List Int
 | 0,_,out=>out
 | k+1,n,out=>bif bN nd n then bif !hasB out n then yB xs nd k (aA (aD xs n) 10 9) (out++ [n])else out else out
def ndF(xs:List Int)(nd hd:Int):List Int:=yB xs nd (nd.toNat+1) (aA (aD xs (nd+1+hd)) 10 9) []
def iN(nd:Int)(out:List Int):Nat:=((List.range nd.toNat).filter (fun(j:Nat)=>!hasB out ((j:Int)+1))).length
theorem FJ{p q:Nat→Bool}(hpq: ∀j,p j=true→q j=true)(l:List Nat):(l.filter p).length ≤(l.filter q).length :=by
 induction l with
 | nil=>exact Nat.le_refl _
 | cons b l ih=>
   simp only [List.filter_cons];cases hp:p b with
   | true=>rw [hpq b hp];simp;exact ih
   | false=>cases hq:q b<;>simp<;>omega
theorem FK{p q:Nat→Bool}(l:List Nat)(hpq: ∀j,p j=true→q j=true)(h: ∃j,j∈l∧q j=true∧p j=false):(l.filter p).length <(l.filter q).length :=by
 induction l with
 | nil=>obtain⟨j,hj,_⟩:=h;cases hj
 | cons a l ih=>
   have hle:=FJ hpq l;simp only [List.filter_cons];obtain⟨j,hj,hq,hp⟩:=h;rcases List.mem_cons.1 hj with rfl | hj
   ·rw [hp,hq];simp;omega
   ·have:=ih ⟨j,hj,hq,hp⟩;cases hp2:p a with
    | true=>rw [hpq a hp2];simp;exact this
    | false=>cases hq2:q a<;>simp<;>omega
theorem KK{nd n:Int}{out:List Int}(h1:bN nd n=true)(h2:hasB out n=false):iN nd (out++ [n])<iN nd out:=by
 have h1:=o8.1 h1;have h2:n∉out:=by intro hm;rw [jC.2 hm]at h2;cases h2
 unfold iN;refine FK _ (fun j hj=>?_) ⟨(n - 1).toNat,?_,?_,?_⟩
 ·cases e:hasB out ((j:Int)+1)with
  | false=>rfl
  | true=>
    have:hasB (out++ [n]) ((j:Int)+1)=true:=jC.2 (List.mem_append_left _ (jC.1 e));rw [this]at hj;cases hj
 ·rw [List.mem_range];omega
 ·have e:(((n - 1).toNat :Nat):Int)+1=n:=by omega
  rw [e];cases e2:hasB out n with
  | false=>rfl
  | true=>exact absurd (jC.1 e2) h2
 ·have e:(((n - 1).toNat :Nat):Int)+1=n:=by omega
  rw [e,jC.2 (List.mem_append_right _ (List.mem_singleton.2 rfl))];rfl
theorem B4(nd:Int):iN nd []≤nd.toNat:=by
 unfold iN;exact Nat.le_trans (List.length_filter_le _ _) (by simp)
structure aEV (xs:List Int) (nd:Int) (R:List Int) (x:Int×List Int):Prop where
 hb:(x.2.length:Int)≤nd.toNat
 ex: ∃k,iN nd x.2<k∧yB xs nd k x.1 x.2=R
 hc:x.2.length+iN nd x.2≤nd.toNat
def RR(s:MS)(lt ln:Int)(R:List Int):Hint Ob:= {X:=Int×List Int,st:=fun x=>([.ptr 0 0,.O,.O,.O,.ptr 2 0,.O,.O,.slice 3 0 x.2.length 1,.I x.1]++List.replicate 26 .O,[aZ 1 s,a8 s,cE' [.I lt,.I ln],iI' x.2]),ok:=aEV s.xs ln R,mu:=fun x=>iN ln x.2,keep:=[0,4,7,8],casts:=[(.slot 7,.ints (some .i64))] }
abbrev w3b(s:MS):Option (aH Ob):=cE' [.I s.1,.I s.2,.slice 1 0 s.3.length 1,.I s.4,.I s.5,.I s.6,.int .u64 s.7,.int .u64 s.8,.bool s.9]
def aCl(s:MS)(lt ln hd:Int)(R:List Int)(K:AVal→aC Ob→Prop):Prop:=(((0:Int)≤ln∧ln≤(100000:Int))∧(-1000000:Int)≤hd∧hd≤(1000000:Int))∧(lE' s.3∧True)∧True∧okSt (RR s lt ln R) (Hint.ok (RR s lt ln R)) (.ptr 0 0::.O::.O::.O::.ptr 2 0::.O::.O::.slice 3 0 0 1::.I (aA (aD s.3 (ln+1+hd)) 10 9)::(tO' 26 [])) [w3b s,some (.ints (some .u64) s.3),cE' [.I lt,.I ln],some (.ints (some .i64) [])]∧ ∀(x:(Int×List Int)),aEV s.3 ln R x→True∧bif bN ln x.1 then(lE' x.2∧x.2.length≤(4294967296:Nat))∧bif !hasB x.2 x.1 then(0=0∧lE' x.2∧1=1∧x.2.length+(1:Nat)≤(4294967296:Nat))∧(lE' s.3∧True)∧True∧okSt (RR s lt ln R) (fun x'=>Hint.ok (RR s lt ln R) x'∧Hint.mu (RR s lt ln R) x'<Hint.mu (RR s lt ln R) x) (.ptr 0 0::.O::.O::.O::.ptr 2 0::.O::.O::.slice 3 0 (x.2.length+1) 1::.I (aA (aD s.3 x.1) 10 9)::(tO' 26 [])) [w3b s,some (.ints (some .u64) s.3),cE' [.I lt,.I ln],iI' (x.2++ [x.1])]else K (.slice 2 0 x.2.length 1) [w3b s,some (.ints (some .u64) s.3),iI' x.2]else K (.slice 2 0 x.2.length 1) [w3b s,some (.ints (some .u64) s.3),iI' x.2]
theorem PH(s:MS)(lt ln hd:Int)(R:List Int)(K:AVal→aC Ob→Prop)(h:aCl s lt ln hd R K):cT' 132 [.ptr 0 0,.agg [.I lt,.I ln],.I hd] [aZ 1 s,a8 s] K:=by
 exact aHa (aE (E:=EU3) Tryz.checked.mixed (L:=fun _ _=>some (.states (RR s lt ln R))) (n:=10) (aJ (by kernel_rfl) h))
theorem aEX(s:MS)(lt ln hd:Int)(K:AVal→aC Ob→Prop)(h1:0≤ln∧ln≤100000)(h2: -1000000≤hd∧hd≤1000000)(hK:K (.slice 2 0 (ndF s.xs ln hd).length 1) [aZ 1 s,a8 s,iI' (ndF s.xs ln hd)]):aCl s lt ln hd (ndF s.xs ln hd) K:=by
 refine⟨⟨h1,h2⟩,⟨rfl,trivial⟩,trivial,bC (H:=RR s lt ln (ndF s.xs ln hd)) (aA (aD s.xs (ln+1+hd)) 10 9,[]) rfl ⟨by show((0:Nat):Int)≤_;omega,⟨ln.toNat+1,by have:=B4 ln;show iN ln []<ln.toNat+1;omega,rfl⟩,by have:=B4 ln;show 0+iN ln []≤ln.toNat;omega⟩,?_⟩
 rintro⟨n,out⟩ ⟨hb,⟨k,hk,hR⟩,hc⟩;dsimp only at hb hk hR hc⊢;have stop: ∀(h:bif bN ln n then !hasB out n else false),True:=fun _=>trivial;refine⟨trivial,aO (fun e1=>⟨⟨rfl,by omega⟩,aO (fun e2=>?_) (fun e2=>?_)⟩) (fun e1=>?_)⟩
 ·have e2':hasB out n=false:=by simpa using e2
  have hlt:=KK (nd:=ln) e1 e2';cases k with
  | zero=>omega
  | succ k=>
    unfold yB at hR;rw [e1,e2]at hR;simp only [cond_true]at hR;refine⟨⟨rfl,rfl,rfl,by omega⟩,⟨rfl,trivial⟩,trivial,bC (H:=RR s lt ln (ndF s.xs ln hd)) (aA (aD s.xs n) 10 9,out++ [n]) (by simp only [RR,List.length_append,List.length_singleton]<;>rfl) ⟨⟨?_,⟨k,by show iN ln (out++ [n])<k;omega,hR⟩,?_⟩,hlt⟩⟩
    ·show((out++ [n]).length :Int)≤_;rw [List.length_append,List.length_singleton];omega
    ·show(out++ [n]).length +iN ln (out++ [n])≤_;rw [List.length_append,List.length_singleton];omega
 ·have hR2:out=ndF s.xs ln hd:=by
   cases k with
   | zero=>omega
   | succ k=>
     unfold yB at hR;rw [e1,e2]at hR;exact hR
  rw [←hR2]at hK;exact hK
 ·have hR2:out=ndF s.xs ln hd:=by
   cases k with
   | zero=>omega
   | succ k=>
     unfold yB at hR;rw [e1]at hR;exact hR
  rw [←hR2]at hK;exact hK
theorem PG(xs:List Int)(nd:Int)(k:Nat): ∀(n:Int) (out:List Int),(yB xs nd k n out).length ≤out.length+k:=by
 induction k with
 | zero=>intro n out;unfold yB;omega
 | succ k ih=>
   intro n out;unfold yB;cases bN nd n<;>cases hasB out n<;>simp only [cond_true,cond_false,Bool.not_true,Bool.not_false]<;>try omega
   have:=ih (aA (aD xs n) 10 9) (out++ [n]);rw [List.length_append,List.length_singleton]at this;omega
theorem H1(xs:List Int)(nd hd:Int):(ndF xs nd hd).length ≤nd.toNat+1:=by
 have:=PG xs nd (nd.toNat+1) (aA (aD xs (nd+1+hd)) 10 9) [];unfold ndF
 simpa using this
def ndS:aI Ob:=fun args h=>match args,h with
 | [.ptr 0 0,.agg [.int .i64 lt,.int .i64 ln],.int .i64 hd],[e1,e2]=>(match cH 1 [e1,e2]with
   | some (l,s)=>some (.pre (l=s.xs.length∧(0≤ln∧ln≤100000)∧(-1000000≤hd∧hd≤1000000)) (.ret (.slice 2 0 (ndF s.xs ln hd).length 1) [aZ 1 s,a8 s,iI' (ndF s.xs ln hd)]))
   | none=>none)
 | _,_=>none
theorem aEW:sT' 132 ndS:=by
 intro args h o ho K hK;unfold ndS at ho;split at ho
 case h_2=>cases ho
 rename_i lt ln hd e1 e2;split at ho<;>cases ho
 rename_i l s hm;obtain⟨⟨hl,h1,h2⟩,hK⟩:=hK;have hh:=aY hm hl;cases hh;exact PH s lt ln hd _ K (aEX s lt ln hd K h1 h2 hK)
noncomputable def EU4:=EU3.addS 132 ndS aEW
def kyL(xs ns:List Int):List Int:=(ns.filter fun a=>!ieq (aA (aD xs a) 19 1) 1).map fun a=>aA (aD xs a) 0 10
structure aEQ (xs ns:List Int) (x:Nat×List Int):Prop where
 hi:x.1≤ns.length
 eq:x.2=kyL xs (ns.take x.1)
def HKY(s:MS)(ns:List Int):Hint Ob:= {X:=Nat×List Int,st:=fun x=>([.ptr 0 0,.O,.O,.O,.O,.O,.O,.slice 2 0 x.2.length 1,.O,.O,.O,.O,.O,.O,.slice 3 0 ns.length 1,.I (ns.length:Int),.I (x.1:Int)]++List.replicate 17 .O,[aZ 1 s,a8 s,iI' x.2,iI' ns]),ok:=aEQ s.xs ns,mu:=fun x=>ns.length - x.1,keep:=[0,7,14,15,16],casts:=[(.slot 7,.ints (some .i64))] }
abbrev w3c(s:MS):Option (aH Ob):=cE' [.I s.1,.I s.2,.slice 1 0 s.3.length 1,.I s.4,.I s.5,.I s.6,.int .u64 s.7,.int .u64 s.8,.bool s.9]
def aCg(s:MS)(lt ln hd:Int)(K:AVal→aC Ob→Prop):Prop:=(lE' s.3∧((0:Int)≤ln∧ln≤(100000:Int))∧(-1000000:Int)≤hd∧hd≤(1000000:Int))∧okSt (HKY s (ndF (MS.xs s) ln hd)) (Hint.ok (HKY s (ndF (MS.xs s) ln hd))) (.ptr 0 0::.O::.O::.O::.O::.O::.O::.slice 2 0 0 1::.O::.O::.O::.O::.O::.O::.slice 3 0 (List.length (ndF s.3 ln hd)) 1::.I (↑(List.length (ndF s.3 ln hd)):Int)::.I 0::(tO' 17 [])) [w3c s,some (.ints (some .u64) s.3),some (.ints (some .i64) []),iI' (ndF s.3 ln hd)]∧ ∀(x:Hint.X (HKY s (ndF (MS.xs s) ln hd))),aEQ s.3 (ndF s.3 ln hd) x→bif ilt (↑x.1:Int) (↑(List.length (ndF s.3 ln hd)):Int)then((0:Int)≤(↑x.1:Int)∧(↑x.1:Int)<(↑(List.length (ndF s.3 ln hd)):Int))∧0+Int.toNat (↑x.1:Int)*(1:Nat)<List.length (ndF s.3 ln hd)∧(lE' s.3∧True)∧True∧bif !ieq (aA (aD s.3 (List.getD (ndF s.3 ln hd) (0+Int.toNat (↑x.1:Int)*1) 0)) 19 1) 1 then(0=0∧lE' x.2∧1=1∧x.2.length+(1:Nat)≤(4294967296:Nat))∧okSt (HKY s (ndF (MS.xs s) ln hd)) (fun x'=>Hint.ok (HKY s (ndF (MS.xs s) ln hd)) x'∧Hint.mu (HKY s (ndF (MS.xs s) ln hd)) x'<Hint.mu (HKY s (ndF (MS.xs s) ln hd)) x) (.ptr 0 0::.O::.O::.O::.O::.O::.O::.slice 2 0 (x.2.length+1) 1::.O::.O::.O::.O::.O::.O::.slice 3 0 (List.length (ndF s.3 ln hd)) 1::.I (↑(List.length (ndF s.3 ln hd)):Int)::.I (W ((↑x.1:Int)+1))::(tO' 17 [])) [w3c s,some (.ints (some .u64) s.3),iI' (x.2++ [aA (aD s.3 (List.getD (ndF s.3 ln hd) (0+Int.toNat (↑x.1:Int)*1) 0)) 0 10]),iI' (ndF s.3 ln hd)]else okSt (HKY s (ndF (MS.xs s) ln hd)) (fun x'=>Hint.ok (HKY s (ndF (MS.xs s) ln hd)) x'∧Hint.mu (HKY s (ndF (MS.xs s) ln hd)) x'<Hint.mu (HKY s (ndF (MS.xs s) ln hd)) x) (.ptr 0 0::.O::.O::.O::.O::.O::.O::.slice 2 0 x.2.length 1::.O::.O::.O::.O::.O::.O::.slice 3 0 (List.length (ndF s.3 ln hd)) 1::.I (↑(List.length (ndF s.3 ln hd)):Int)::.I (W ((↑x.1:Int)+1))::(tO' 17 [])) [w3c s,some (.ints (some .u64) s.3),iI' x.2,iI' (ndF s.3 ln hd)]else K (.slice 2 0 x.2.length 1) [w3c s,some (.ints (some .u64) s.3),iI' x.2]
theorem O9(s:MS)(lt ln hd:Int)(K:AVal→aC Ob→Prop)(h:aCg s lt ln hd K):cT' 110 [.ptr 0 0,.agg [.I lt,.I ln],.I hd] [aZ 1 s,a8 s] K:=by
 exact aHa (aE (E:=EU4) Tryz.checked.mixed (L:=fun _ _=>some (.states (HKY s (ndF s.xs ln hd)))) (n:=10) (aJ (by kernel_rfl) h))
theorem QZ{ns:List Int}{i:Nat}(hi:i<ns.length):ns.take (i+1)=ns.take i++ [ns.getD i 0]:=by
 rw [List.take_succ,gD',gE' hi];rfl
theorem YX{xs ns:List Int}{i:Nat}(hi:i<ns.length)(h:(!ieq (aA (aD xs (ns.getD i 0)) 19 1) 1)=true):kyL xs (ns.take (i+1))=kyL xs (ns.take i)++ [aA (aD xs (ns.getD i 0)) 0 10]:=by
 unfold kyL;rw [QZ hi,List.filter_append,List.map_append];simp only [List.filter_cons,List.filter_nil,h,if_true,List.map_cons,List.map_nil]
theorem aER{xs ns:List Int}{i:Nat}(hi:i<ns.length)(h:(!ieq (aA (aD xs (ns.getD i 0)) 19 1) 1)=false):kyL xs (ns.take (i+1))=kyL xs (ns.take i):=by
 unfold kyL;rw [QZ hi,List.filter_append,List.map_append];simp only [List.filter_cons,List.filter_nil,h,Bool.false_eq_true,if_false,List.map_nil,List.append_nil]
theorem HY(xs ns:List Int):(kyL xs ns).length ≤ns.length:=by
 unfold kyL;rw [List.length_map];exact List.length_filter_le _ _
def keyF(xs:List Int)(nd hd:Int):List Int:=kyL xs (ndF xs nd hd)
theorem pX(xs:List Int)(nd hd:Int):(keyF xs nd hd).length ≤nd.toNat+1:=Nat.le_trans (HY _ _) (H1 _ _ _)
theorem aES(s:MS)(lt ln hd:Int)(K:AVal→aC Ob→Prop)(h1:0≤ln∧ln≤100000)(h2: -1000000≤hd∧hd≤1000000)(hK:K (.slice 2 0 (keyF s.xs ln hd).length 1) [aZ 1 s,a8 s,iI' (keyF s.xs ln hd)]):aCg s lt ln hd K:=by
 have hlen:=H1 s.xs ln hd;unfold keyF at hK;refine⟨⟨rfl,h1,h2⟩,bC (H:=HKY s (ndF s.xs ln hd)) ((0:Nat),[]) rfl ⟨Nat.zero_le _,rfl⟩,?_⟩;have hlen':(ndF s.3 ln hd).length ≤ln.toNat+1:=hlen;generalize ndF s.xs ln hd=ns at hK hlen⊢;rintro⟨i,out⟩ ⟨hi,heq⟩;dsimp only at hi heq;subst heq;have hkl:(kyL s.xs (ns.take i)).length ≤i:=Nat.le_trans (HY _ _) (List.length_take_le _ _);refine aO (fun e=>?_) (fun e=>?_)
 ·rw [bB,dT']at e;have e:(i:Int)<(ns.length:Int):=e;have hil:i<ns.length:=by omega
  have e4:W ((i:Int)+1)=((i+1:Nat):Int):=by rw [W,cP (by omega)];rfl
  have e0:0+Int.toNat (i:Int)*1=i:=by omega
  have hk1:(kyL s.xs (ns.take i)).length +1≤4294967296:=by omega
  refine⟨⟨by show(0:Int)≤(i:Int);omega,e⟩,by show 0+Int.toNat (i:Int)*1<ns.length;omega,⟨rfl,trivial⟩,trivial,aO (fun e2=>⟨⟨rfl,rfl,rfl,hk1⟩,?_⟩) (fun e2=>?_)⟩
  ·have e2:(!ieq (aA (aD s.xs (ns.getD (0+Int.toNat (i:Int)*1) 0)) 19 1) 1)=true:=e2;rw [e0]at e2;refine bC (H:=HKY s ns) (i+1,kyL s.xs (ns.take (i+1))) ?_ ⟨⟨hil,rfl⟩,by show ns.length - (i+1)<ns.length - i;omega⟩
   show((HKY s ns).st (i+1,kyL s.xs (ns.take (i+1))))=_;have hl:(kyL s.xs (ns.take (i+1))).length =(kyL s.xs (ns.take i)).length +1:=by rw [YX hil e2];simp
   simp only [HKY,hl];rw [YX hil e2];simp only [e4,e0];rfl
  ·have e2:(!ieq (aA (aD s.xs (ns.getD (0+Int.toNat (i:Int)*1) 0)) 19 1) 1)=false:=e2;rw [e0]at e2;refine bC (H:=HKY s ns) (i+1,kyL s.xs (ns.take (i+1))) ?_ ⟨⟨hil,rfl⟩,by show ns.length - (i+1)<ns.length - i;omega⟩
   rw [aER hil e2];simp only [HKY,e4];rfl
 ·rw [bB,dF']at e;have e: ¬(i:Int)<(ns.length:Int):=e;have hil:i=ns.length:=by omega
  subst hil;rw [List.take_length];exact hK
def kyS:aI Ob:=fun args h=>match args,h with
 | [.ptr 0 0,.agg [.int .i64 lt,.int .i64 ln],.int .i64 hd],[e1,e2]=>(match cH 1 [e1,e2]with
   | some (l,s)=>some (.pre (l=s.xs.length∧(0≤ln∧ln≤100000)∧(-1000000≤hd∧hd≤1000000)) (.ret (.slice 2 0 (keyF s.xs ln hd).length 1) [aZ 1 s,a8 s,iI' (keyF s.xs ln hd)]))
   | none=>none)
 | _,_=>none
theorem YY:sT' 110 kyS:=by
 intro args h o ho K hK;unfold kyS at ho;split at ho
 case h_2=>cases ho
 rename_i lt ln hd e1 e2;split at ho<;>cases ho
 rename_i l s hm;obtain⟨⟨hl,h1,h2⟩,hK⟩:=hK;have hh:=aY hm hl;cases hh;exact O9 s lt ln hd K (aES s lt ln hd K h1 h2 hK)
noncomputable def EU5:=EU4.addS 110 kyS YY
end Go.Sh
namespace Go.Proofs
open Go.Shelf
def Tryz.lays189_ren:Go.Shelf.Ren:=⟨fun | 189=>111 | 125=>135 | 257=>134 | 128=>180 | 129=>181 | 294=>172 | 295=>173 | 296=>174 | 297=>175 | 298=>176 | 299=>177 | 216=>140 | 300=>178 | 301=>179 | 328=>236 | 329=>237 | 330=>238 | 331=>239 | 332=>240 | 215=>186 | 343=>276 | n=>n,fun | 28=>67 | 3=>3 | 46=>212 | 0=>0 | 51=>250 | 53=>72 | 4=>4 | 183=>244 | 182=>243 | 131=>195 | 5=>5 | 9=>9 | 218=>306 | 222=>309 | 228=>336 | 229=>337 | n=>n,fun | n=>n⟩
theorem Tryz.lays189:Go.Proofs.Lays.n189 Tryz.prog Tryz.lays189_ren:= {
 mixed:=by kernel_rfl,
 f125:=Tryz.func135.trans (congrArg some (by kernel_rfl)),
 f128:=Tryz.func180.trans (congrArg some (by kernel_rfl)),
 f129:=Tryz.func181.trans (congrArg some (by kernel_rfl)),
 f189:=Tryz.func111.trans (congrArg some (by kernel_rfl)),
 f215:=Tryz.func186.trans (congrArg some (by kernel_rfl)),
 f216:=Tryz.func140.trans (congrArg some (by kernel_rfl)),
 f257:=Tryz.func134.trans (congrArg some (by kernel_rfl)),
 f294:=Tryz.func172.trans (congrArg some (by kernel_rfl)),
 f295:=Tryz.func173.trans (congrArg some (by kernel_rfl)),
 f296:=Tryz.func174.trans (congrArg some (by kernel_rfl)),
 f297:=Tryz.func175.trans (congrArg some (by kernel_rfl)),
 f298:=Tryz.func176.trans (congrArg some (by kernel_rfl)),
 f299:=Tryz.func177.trans (congrArg some (by kernel_rfl)),
 f300:=Tryz.func178.trans (congrArg some (by kernel_rfl)),
 f301:=Tryz.func179.trans (congrArg some (by kernel_rfl)),
 f328:=Tryz.func236.trans (congrArg some (by kernel_rfl)),
 f329:=Tryz.func237.trans (congrArg some (by kernel_rfl)),
 f330:=Tryz.func238.trans (congrArg some (by kernel_rfl)),
 f331:=Tryz.func239.trans (congrArg some (by kernel_rfl)),
 f332:=Tryz.func240.trans (congrArg some (by kernel_rfl)),
 f343:=Tryz.func276.trans (congrArg some (by kernel_rfl)),
 t0:=Tryz.underlying0,
 a0:=Tryz.isAgg0,
 z0:=Tryz.sizeOf0,
 v0:=Tryz.zeroValue0,
 t3:=Tryz.underlying3,
 a3:=Tryz.isAgg3,
 z3:=Tryz.sizeOf3,
 v3:=Tryz.zeroValue3,
 t4:=Tryz.underlying4,
 a4:=Tryz.isAgg4,
 z4:=Tryz.sizeOf4,
 v4:=Tryz.zeroValue4,
 t5:=Tryz.underlying5,
 a5:=Tryz.isAgg5,
 z5:=Tryz.sizeOf5,
 v5:=Tryz.zeroValue5,
 t9:=Tryz.underlying9,
 a9:=Tryz.isAgg9,
 z9:=Tryz.sizeOf9,
 v9:=Tryz.zeroValue9,
 t28:=Tryz.underlying67,
 a28:=Tryz.isAgg67,
 z28:=Tryz.sizeOf67,
 v28:=Tryz.zeroValue67,
 t46:=Tryz.underlying212,
 a46:=Tryz.isAgg212,
 z46:=Tryz.sizeOf212,
 v46:=Tryz.zeroValue212,
 t51:=Tryz.underlying250,
 a51:=Tryz.isAgg250,
 z51:=Tryz.sizeOf250,
 v51:=Tryz.zeroValue250,
 t53:=Tryz.underlying72,
 a53:=Tryz.isAgg72,
 z53:=Tryz.sizeOf72,
 v53:=Tryz.zeroValue72,
 t131:=Tryz.underlying195,
 a131:=Tryz.isAgg195,
 z131:=Tryz.sizeOf195,
 v131:=Tryz.zeroValue195,
 t182:=Tryz.underlying243,
 a182:=Tryz.isAgg243,
 z182:=Tryz.sizeOf243,
 v182:=Tryz.zeroValue243,
 t183:=Tryz.underlying244,
 a183:=Tryz.isAgg244,
 z183:=Tryz.sizeOf244,
 v183:=Tryz.zeroValue244,
 t218:=Tryz.underlying306,
 a218:=Tryz.isAgg306,
 z218:=Tryz.sizeOf306,
 v218:=Tryz.zeroValue306,
 t222:=Tryz.underlying309,
 a222:=Tryz.isAgg309,
 z222:=Tryz.sizeOf309,
 v222:=Tryz.zeroValue309,
 t228:=Tryz.underlying336,
 a228:=Tryz.isAgg336,
 z228:=Tryz.sizeOf336,
 v228:=Tryz.zeroValue336,
 t229:=Tryz.underlying337,
 a229:=Tryz.isAgg337,
 z229:=Tryz.sizeOf337,
 v229:=Tryz.zeroValue337}
end Go.Proofs
namespace Go.Sh
open Go Go.Proofs
variable [Con]
def mA(xs:List Int):List Int:=xs.mergeSort fun x y=>decide (x≤y)
theorem rG(xs:List Int):(mA xs).length =xs.length:=by unfold mA;exact List.length_mergeSort xs
theorem vT(ys:List Int)(cs:Array Value)(tail:List Value)(xs:List Int)(hl:ys.length=xs.length)(hcs:cs.toList=xs.map (Code1.val (some .i64))++tail):
 (Go.Sort.putCells (Value.int .i64) 0 ys.toArray cs).toList =ys.map (Code1.val (some .i64))++tail:=by
 apply List.ext_getElem?;intro k;rw [Array.getElem?_toList];unfold Go.Sort.putCells;rw [Array.getElem?_mapIdx];have hk:cs[k]? =(xs.map (Code1.val (some .i64))++tail)[k]? :=by rw [←hcs,Array.getElem?_toList]
 rw [hk]
 by_cases hlt:k<xs.length
 ·rw [List.getElem?_append_left (by rw [List.length_map];exact hlt),List.getElem?_append_left (by rw [List.length_map];omega),List.getElem?_map,List.getElem?_map,gE' hlt,gE' (by omega:k<ys.length)]
  have hc:0≤k∧k<0+ys.toArray.size:=by simp;omega
  simp only [Option.map_some];rw [if_pos hc]
  have:ys.toArray[k - 0]! =ys[k]'(by omega):=by
   rw [getElem!_pos ys.toArray (k - 0) (by simp;omega)];simp
  rw [this];rfl
 ·rw [List.getElem?_append_right (by rw [List.length_map];omega),List.getElem?_append_right (by rw [List.length_map];omega),List.length_map,List.length_map,hl]
  cases tail[k - xs.length]? with
  | none=>rfl
  | some y=>
    have hc: ¬(0≤k∧k<0+ys.toArray.size):=by simp;omega
    simp only [Option.map_some];rw [if_neg hc]
def srS:aI Ob:=fun args h=>match args,h with
 | [.slice 0 0 k 1],[some (.ints (some .i64) xs)]=>some (.pre (k=xs.length∧k≤1000000) (.ret (.tup []) [some (.ints (some .i64) (mA xs))]))
 | _,_=>none
theorem ZJ:sT' 111 srS:=by
 intro args h o ho K hK;unfold srS at ho;split at ho<;>cases ho
 rename_i k xs;obtain⟨⟨rfl,hk⟩,hK⟩:=hK;have hK:K (.tup []) [some (.ints (some .i64) (mA xs))]:=hK;intro V hR w args' hi hf hr;obtain⟨v,vs,e,⟨base,cap,rfl,hcap,hb⟩,e2⟩:=hr;have e2:vs=[]:=e2;subst e2;have ha:args'= #[.slice base xs.length cap]:=by apply Array.ext';simpa using e
 subst ha
 by_cases hx:xs=[]
 ·subst hx;refine(Go.Proofs.Any.slices_Sort_int_none Go.Proofs.Tryz.lays189 base cap w).mono ?_;rintro e w' ⟨rfl,rfl⟩;exact⟨.tup [],.tuple #[],V,_,hK,rfl,⟨#[],rfl,rfl⟩,V.le_refl,hf,Nat.le_refl _,(by rw [show mA []=[]from by simp [mA]];exact hi),aHx _⟩
 ·have hpos:0<xs.length:=List.length_pos_iff.2 hx;obtain⟨hs,h1,h2,h3,h4,h5,h6,h7⟩:=hi;rcases h1 0 _ rfl with⟨q,_⟩ | ⟨b,k,hV,cs,T,tail,hone,hsz,hcs⟩
  ·exact absurd q hx
  rcases hb with⟨b',k',hV',rfl,hle⟩ | ⟨hn,_⟩
  case inr=>omega
  rw [hV]at hV';simp only [sI',pI']at hV';obtain⟨rfl,rfl⟩:=hV';have hwb:w.heap[b]? =some (.cells cs T):=h5 0 b _ (by rw [hone];simp [PHeap.one])
  have hbl:b<w.heap.size:=(Array.getElem?_eq_some_iff.1 hwb).1
  have hH:Go.Sort.Holds (Value.int .i64) w b 0 xs.toArray:=by
   intro j hj;have hj:j<xs.length:=by simpa using hj
   constructor
   ·have:cs[j]? =some (.int .i64 xs[j]):=by
     rw [←Array.getElem?_toList,hcs,List.getElem?_append_left (by rw [List.length_map];exact hj),List.getElem?_map,gE' hj];rfl
    have h0:xs.toArray[j]! =xs[j]:=by rw [getElem!_pos xs.toArray j (by simpa using hj)];simp
    simp only [World.cell?,hwb,Nat.zero_add,h0];exact this
   ·simp [World.frozen?,hwb]
  have hwe:w.heap.size=w.heap.size:=rfl;have hcall:=Go.Proofs.Any.slices_Sort_int Go.Proofs.Tryz.lays189 b 0 cap xs w hH hbl (by omega)
  refine hcall.mono ?_;rintro e w' ⟨rfl,n,os,rfl⟩;have hys:(xs.mergeSort fun x y=>decide (x≤y))=mA xs:=rfl;rw [hys];have hyl:=rG xs;generalize hyg:mA xs=ys at hK hyl;have hcl:=vT ys cs tail xs hyl hcs;generalize hcg:Go.Sort.putCells (Value.int .i64) 0 ys.toArray cs=cs2 at hcl
  have hw2b:(Go.Sort.putRow (Value.int .i64) (Go.Sort.ahead w n) b 0 ys.toArray).heap[b]? =some (.cells cs2 T):=by
   unfold Go.Sort.putRow Go.Sort.mapBlock;show(w.heap.modify b _)[b]? =_;rw [Array.getElem?_modify,if_pos rfl,hwb,←hcg];rfl
  have hw2o: ∀c,c≠b→(Go.Sort.putRow (Value.int .i64) (Go.Sort.ahead w n) b 0 ys.toArray).heap[c]? =w.heap[c]? :=by
   intro c hc;unfold Go.Sort.putRow Go.Sort.mapBlock;show(w.heap.modify b _)[c]? =_;rw [Array.getElem?_modify,if_neg (fun e=>hc e.symm)]
  have hsz2:(Go.Sort.putRow (Value.int .i64) (Go.Sort.ahead w n) b 0 ys.toArray).heap.size =w.heap.size:=by
   unfold Go.Sort.putRow Go.Sort.mapBlock;show(w.heap.modify b _).size =_;exact Array.size_modify
  have hos:(Go.Sort.putRow (Value.int .i64) (Go.Sort.ahead w n) b 0 ys.toArray).os =w.os:=rfl;have hout:(Go.Sort.putRow (Value.int .i64) (Go.Sort.ahead w n) b 0 ys.toArray).output =w.output:=rfl;generalize Go.Sort.putRow (Value.int .i64) (Go.Sort.ahead w n) b 0 ys.toArray=w2 at hw2b hw2o hsz2 hos hout;have hg: ∀c,c<w.heap.size→(Go.Sort.grow w2 os).heap[c]? =w2.heap[c]? :=fun c hc=>Go.Sort.heap_grow_old w2 os (by omega)
  have hlt: ∀(c:Nat) (o:Obj),w.heap[c]? =some o→c<w.heap.size:=fun c o h=>(Array.getElem?_eq_some_iff.1 h).1
  have hRb:hR b=none:=by
   rcases h4 0 b with q | q
   ·rw [hone]at q;simp [PHeap.one]at q
   ·exact q
  have hemp: ∀l,l≠0→hs l=.emp :=by
   intro l hl;refine h2 l ?_;cases l with
   | zero=>exact absurd rfl hl
   | succ l=>simp [toF,aL]
  refine⟨.tup [],.tuple #[],V,_,hK,rfl,⟨#[],rfl,rfl⟩,V.le_refl,hf,Nat.le_refl _,⟨fun l=>if l=0 then .one b (.cells cs2 T)else .emp,?_,?_,?_,?_,?_,?_,h7⟩,⟨hos,hout,by simp;omega,?_⟩⟩
  ·intro l e he;cases l with
   | zero=>
     have he:some (aH.ints (some .i64) ys)=some e:=he;cases he;refine .inr ⟨b,k,hV,cs2,T,tail,by simp,?_,hcl⟩
     rw [←hsz,←Array.length_toList,←Array.length_toList,hcl,hcs];simp [hyl]
   | succ l=>simp [toF,aL]at he
  ·intro l hl;cases l with
   | zero=>exact absurd hl (by simp [toF,aL])
   | succ l=>simp
  ·intro l m hlm c
   by_cases hl:l=0
   ·subst hl;right;simp [Ne.symm hlm,PHeap.emp]
   ·left;simp [hl,PHeap.emp]
  ·intro l c
   by_cases hl:l=0
   ·subst hl
    by_cases hc:c=b
    ·right;rw [hc];exact hRb
    ·left;simp [PHeap.one,hc]
   ·left;simp [hl,PHeap.emp]
  ·intro l c o hc
   by_cases hl:l=0
   ·subst hl;have hc:PHeap.one b (.cells cs2 T) c=some o:=hc
    by_cases hcb:c=b
    ·subst hcb;rw [hg c hbl,hw2b]
     simpa [PHeap.one]using hc
    ·simp [PHeap.one,hcb]at hc
   ·simp [hl,PHeap.emp]at hc
  ·intro c o hc;have hw:=h6 c o hc;have hcb:c≠b:=by intro e;rw [e,hRb]at hc;cases hc
   rw [hg c (hlt c o hw),hw2o c hcb];exact hw
  ·intro a ha;have h1:(Go.Sort.grow w2 os).frozen? a=w2.frozen? a:=Go.Sort.frozen?_grow w2 os a (by omega)
   rw [h1];unfold World.frozen?
   by_cases hab:a.block=b
   ·rw [hab,hw2b,hwb]
   ·rw [hw2o _ hab]
noncomputable def EU6:=EU5.addS 111 srS ZJ
end Go.Sh
