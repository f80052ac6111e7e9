import Derived.Test.YtedeloeobocpiaaGreatZGC7toFR0
set_option linter.all false
set_option maxHeartbeats 8000000
namespace Go.Sh
open Go Go.Proofs
variable [Con]
def tE(t n:Int):Nat→ENS→STS→MS→Bool×ENS×STS×MS
 | 0,e,st,s=>(false,e,st,s)
 | f+1,e,st,s=>bif (enF t n e st s).d then(true,(enF t n e st s).e,(enF t n e st s).st,(enF t n e st s).s)else tE t n f (enF t n e st s).e (enF t n e st s).st (enF t n e st s).s
def qD(t n:Int):Nat→ENS→STS→MS→Prop
 | 0,_,_,_=>False
 | f+1,e,st,s=>okE t n e st s∧((enF t n e st s).d =false→qD t n f (enF t n e st s).e (enF t n e st s).st (enF t n e st s).s)
def tQ(t n:Int):Nat→FTS→STS→MS→Prop
 | 0,_,_,_=>False
 | f+1,x,st,s=>ftOk t n x st s∧((ftF t n x st s).d =false→tQ t n f (ftF t n x st s).x (ftF t n x st s).st (ftF t n x st s).s)
def pY(t n:Int):Nat→FTS→STS→MS→FTS×STS×MS
 | 0,x,st,s=>(x,st,s)
 | f+1,x,st,s=>bif (ftF t n x st s).d then((ftF t n x st s).x,(ftF t n x st s).st,(ftF t n x st s).s)else pY t n f (ftF t n x st s).x (ftF t n x st s).st (ftF t n x st s).s
def frE(t n:Int)(N:Nat)(kd:Int)(st:STS)(s:MS):STS×MS:=bif bL kd&&ieq st.sp 0 then(tE t n N qX st s).2.2 else(st,s)
def RV(t n:Int)(N:Nat)(kd:Int)(st:STS)(s:MS):Prop:=bL kd=true→st.sp=0→qD t n N qX st s
def r0(r:List Int):Int:=List.headD r 0
def r1(r:List Int):Int:=List.headD (List.tail r) 0
def r2(r:List Int):Int:=List.headD (List.tail (List.tail r)) 0
def frX(t n most:Int)(N:Nat)(r:List Int)(st:STS)(s:MS):FTS×STS×MS:=pY t n N (bG t n (r0 r) (r1 r) (r2 r) most (frE t n N (r1 r) st s).1).1 (bG t n (r0 r) (r1 r) (r2 r) most (frE t n N (r1 r) st s).1).2 (frE t n N (r1 r) st s).2
def tP(t n most:Int)(N:Nat)(r:List Int)(st:STS)(s:MS):Prop:=RV t n N (r1 r) st s∧nT t n (r0 r) (r1 r) (r2 r) most (frE t n N (r1 r) st s).1∧tQ t n N (bG t n (r0 r) (r1 r) (r2 r) most (frE t n N (r1 r) st s).1).1 (bG t n (r0 r) (r1 r) (r2 r) most (frE t n N (r1 r) st s).1).2 (frE t n N (r1 r) st s).2
def pW(x:FTS):List Int:=[x.code,bitI x.okk,x.val]
def frF(t n most:Int)(N:Nat):List (List Int)→STS→MS→List (List Int)×Bool×STS×MS
 | [],st,s=>([],true,st,s)
 | r::T,st,s=>bif (frX t n most N r st s).1.failed then([],false,(frX t n most N r st s).2)else(pW (frX t n most N r st s).1::(frF t n most N T (frX t n most N r st s).2.1 (frX t n most N r st s).2.2).1,(frF t n most N T (frX t n most N r st s).2.1 (frX t n most N r st s).2.2).2)
def zV(t n most:Int)(N:Nat):List (List Int)→STS→MS→Prop
 | [],_,_=>True
 | r::T,st,s=>tP t n most N r st s∧((frX t n most N r st s).1.failed =false→zV t n most N T (frX t n most N r st s).2.1 (frX t n most N r st s).2.2)
abbrev KT:List Code1:=[some .i64,some .i64,some .i64]
abbrev KR:List Code1:=[some .i64,none,some .i64]
structure frA (t n most:Int) (N:Nat) (T:List (List Int)) (st0:STS) (s0:MS) (x:Nat×List (List Int)×STS×MS):Prop where
 h1:x.1≤T.length
 hl:x.2.1.length=x.1
 ok:zV t n most N (T.drop x.1) x.2.2.1 x.2.2.2
 eq:frF t n most N T st0 s0=(x.2.1++(frF t n most N (T.drop x.1) x.2.2.1 x.2.2.2).1,(frF t n most N (T.drop x.1) x.2.2.1 x.2.2.2).2)
structure UJ (t n most:Int) (N:Nat) (T:List (List Int)) (st0:STS) (s0:MS) (i:Int) (x:Nat×List (List Int)×STS×MS×ENS×STS×MS):Prop where
 i0:0≤i∧i<T.length
 a:frA t n most N T st0 s0 (i.toNat,x.2.1,x.2.2.1,x.2.2.2.1)
 lk:(bL (r1 (List.getD T i.toNat []))&&ieq x.2.2.1.sp 0)=true
 ok:qD t n x.1 x.2.2.2.2.1 x.2.2.2.2.2.1 x.2.2.2.2.2.2
 eq:(tE t n N qX x.2.2.1 x.2.2.2.1).2.2=(tE t n x.1 x.2.2.2.2.1 x.2.2.2.2.2.1 x.2.2.2.2.2.2).2.2
structure S8 (t n most:Int) (N:Nat) (T:List (List Int)) (st0:STS) (s0:MS) (i:Int) (x:Nat×List (List Int)×STS×MS×FTS×STS×MS):Prop where
 i0:0≤i∧i<T.length
 a:frA t n most N T st0 s0 (i.toNat,x.2.1,x.2.2.1,x.2.2.2.1)
 ok:tQ t n x.1 x.2.2.2.2.1 x.2.2.2.2.2.1 x.2.2.2.2.2.2
 eq:frX t n most N (List.getD T i.toNat []) x.2.2.1 x.2.2.2.1=pY t n x.1 x.2.2.2.2.1 x.2.2.2.2.2.1 x.2.2.2.2.2.2
def sI(t n most:Int)(N:Nat)(T:List (List Int))(st0:STS)(s0:MS):Hint Ob:= {X:=Nat×List (List Int)×STS×MS,st:=fun x=>([.ptr 0 0,.ptr 2 0,.int .i64 most]++List.replicate 7 .O ++ [.tslice 4 0 x.2.1.length 3]++List.replicate 4 .O ++ [.tslice 3 0 T.length 3,.int .i64 (T.length:Int),.int .i64 (x.1:Int)]++List.replicate 40 .O,[bH 1 x.2.2.2,bI x.2.2.2,some (.abs (.store t n x.2.2.1) []),some (.tab KT T),some (.tab KR x.2.1)]),ok:=frA t n most N T st0 s0,mu:=fun x=>T.length - x.1,keep:=[0,1,2,10,15,16,17],casts:=[(.slot 10,.tab KR)] }
def HRb(t n most:Int)(N:Nat)(T:List (List Int))(st0:STS)(s0:MS)(i:Int):Hint Ob:= {X:=Nat×List (List Int)×STS×MS×ENS×STS×MS,st:=fun x=>([.ptr 0 0,.ptr 2 0,.int .i64 most]++List.replicate 7 .O ++ [.tslice 4 0 x.2.1.length 3]++ [.O,.ptr 5 0,.ptr 6 0,.O,.tslice 3 0 T.length 3,.int .i64 (T.length:Int),.int .i64 i]++List.replicate 40 .O,[bH 1 x.2.2.2.2.2.2,bI x.2.2.2.2.2.2,some (.abs (.store t n x.2.2.2.2.2.1) []),some (.tab KT T),some (.tab KR x.2.1),some (.cells [.int .i64 (r0 (List.getD T i.toNat [])),.int .i64 (r1 (List.getD T i.toNat [])),.int .i64 (r2 (List.getD T i.toNat []))]),some (.abs (.ensure t n x.2.2.2.2.1) [2])]),ok:=UJ t n most N T st0 s0 i,mu:=fun x=>x.1,keep:=[0,1,2,10,12,13,15,16,17],casts:=[(.slot 10,.tab KR)] }
def HRc(t n most:Int)(N:Nat)(T:List (List Int))(st0:STS)(s0:MS)(i:Int):Hint Ob:= {X:=Nat×List (List Int)×STS×MS×FTS×STS×MS,st:=fun x=>([.ptr 0 0,.ptr 2 0,.int .i64 most]++List.replicate 7 .O ++ [.tslice 4 0 x.2.1.length 3]++ [.O,.ptr 5 0,.O,.ptr 6 0,.tslice 3 0 T.length 3,.int .i64 (T.length:Int),.int .i64 i]++List.replicate 40 .O,[bH 1 x.2.2.2.2.2.2,bI x.2.2.2.2.2.2,some (.abs (.store t n x.2.2.2.2.2.1) []),some (.tab KT T),some (.tab KR x.2.1),some (.cells [.int .i64 (r0 (List.getD T i.toNat [])),.int .i64 (r1 (List.getD T i.toNat [])),.int .i64 (r2 (List.getD T i.toNat []))]),some (.abs (.fast t n x.2.2.2.2.1) [2])]),ok:=S8 t n most N T st0 s0 i,mu:=fun x=>x.1,keep:=[0,1,2,10,12,14,15,16,17],casts:=[(.slot 10,.tab KR)] }
def TN(t n most:Int)(N:Nat)(T:List (List Int))(st0:STS)(s0:MS):FuncId→Nat→Option (sK Ob):=fun _ k=>if k=3 then some (.states (sI t n most N T st0 s0))else if k=7 then some (.statesAt 17 (HRb t n most N T st0 s0))else if k=9 then some (.statesAt 17 (HRc t n most N T st0 s0))else none
def KJ(t n most:Int)(N:Nat)(T:List (List Int))(st:STS)(s:MS)(K:AVal→aB Ob→Prop):Prop:=cP (sI t n most N T st s) (Hint.ok (sI t n most N T st s)) [.ptr 0 0,.ptr 2 0,.int .i64 most,.O,.O,.O,.O,.O,.O,.O,.tslice 4 0 0 3,.O,.O,.O,.O,.tslice 3 0 (List.length T) 3,.int .i64 (↑(List.length T):Int),.int .i64 0,.O,.O,.O,.O,.O,.O,.O,.O,.O,.O,.O,.O,.O,.O,.O,.O,.O,.O,.O,.O,.O,.O,.O,.O,.O,.O,.O,.O,.O,.O,.O,.O,.O,.O,.O,.O,.O,.O,.O,.O] [some (.cells [.int .i64 s.1,.int .i64 s.2,.slice 1 0 (List.length s.3) 1,.int .i64 s.4,.int .i64 s.5,.int .i64 s.6,.int .u64 s.7,.int .u64 s.8,.bool s.9]),some (.ints (some .u64) s.3),some (.abs (.store t n st) []),some (.tab [some .i64,some .i64,some .i64] T),some (.tab [some .i64,none,some .i64] [])]∧ ∀(x:(Nat×List (List Int)×STS×MS)),frA t n most N T st s x→bif ilt (↑x.1:Int) (↑(List.length T):Int)then((0:Int)≤(↑x.1:Int)∧(↑x.1:Int)<(↑(List.length T):Int))∧0+Int.toNat (↑x.1:Int)<List.length T∧True∧bif bL (List.headD (List.tail (List.getD T (0+Int.toNat (↑x.1:Int)) [])) 0)then bif ieq (Prod.fst (Prod.snd x).2).2 0 then((t=t∧n=n∧lE' (Prod.fst (Prod.snd x).2).3)∧True)∧cP (HRb t n most N T st s (↑(Prod.fst x):Int)) (Hint.ok (HRb t n most N T st s (↑(Prod.fst x):Int))) [.ptr 0 0,.ptr 2 0,.int .i64 most,.O,.O,.O,.O,.O,.O,.O,.tslice 4 0 (List.length (Prod.snd x).1) 3,.O,.ptr 5 0,.ptr 6 0,.O,.tslice 3 0 (List.length T) 3,.int .i64 (↑(List.length T):Int),.int .i64 (↑x.1:Int),.O,.O,.O,.O,.O,.O,.O,.O,.O,.O,.O,.O,.O,.O,.O,.O,.O,.O,.O,.O,.O,.O,.O,.O,.O,.O,.O,.O,.O,.O,.O,.O,.O,.O,.O,.O,.O,.O,.O,.O] [some (.cells [.int .i64 (Prod.snd (Prod.snd x).2).1,.int .i64 (Prod.snd (Prod.snd x).2).2,.slice 1 0 (List.length (Prod.snd (Prod.snd x).2).3) 1,.int .i64 (Prod.snd (Prod.snd x).2).4,.int .i64 (Prod.snd (Prod.snd x).2).5,.int .i64 (Prod.snd (Prod.snd x).2).6,.int .u64 (Prod.snd (Prod.snd x).2).7,.int .u64 (Prod.snd (Prod.snd x).2).8,.bool (Prod.snd (Prod.snd x).2).9]),some (.ints (some .u64) (Prod.snd (Prod.snd x).2).3),some (.abs (.store t n (Prod.snd x.2).1) []),some (.tab [some .i64,some .i64,some .i64] T),some (.tab [some .i64,none,some .i64] (Prod.snd x).1),some (.cells [.int .i64 (List.headD (List.getD T (0+Int.toNat (↑x.1:Int)) []) 0),.int .i64 (List.headD (List.tail (List.getD T (0+Int.toNat (↑x.1:Int)) [])) 0),.int .i64 (List.headD (List.tail (List.tail (List.getD T (0+Int.toNat (↑x.1:Int)) []))) 0)]),some (.abs (.ensure t n qX) [2])]∧ ∀(x_1:Hint.X (HRb t n most N T st s (↑(Prod.fst x):Int))),UJ t n most N T st s (↑x.1:Int) x_1→((lE' (Prod.snd (Prod.snd (Prod.snd x_1.2).2).2).3∧t=t∧n=n)∧okE t n (Prod.fst (Prod.snd (Prod.snd (Prod.snd (Prod.snd x_1))))) (Prod.fst (Prod.snd (Prod.snd (Prod.snd (Prod.snd (Prod.snd x_1)))))) {t:=(Prod.snd (Prod.snd (Prod.snd x_1.2).2).2).1,n:=(Prod.snd (Prod.snd (Prod.snd x_1.2).2).2).2,xs:=(Prod.snd (Prod.snd (Prod.snd x_1.2).2).2).3,c:=(Prod.snd (Prod.snd (Prod.snd x_1.2).2).2).4,k:=(Prod.snd (Prod.snd (Prod.snd x_1.2).2).2).5,a:=(Prod.snd (Prod.snd (Prod.snd x_1.2).2).2).6,o:=(Prod.snd (Prod.snd (Prod.snd x_1.2).2).2).7,w:=(Prod.snd (Prod.snd (Prod.snd x_1.2).2).2).8,ok:=(Prod.snd (Prod.snd (Prod.snd x_1.2).2).2).9})∧bif (enF t n (Prod.snd (Prod.snd x_1.2).2).1 (Prod.snd (Prod.snd (Prod.snd x_1).2).2).1 (Prod.snd (Prod.snd x_1.2).2).2.2).1 then nT t n (r0 (List.getD T (Int.toNat (↑x.1:Int)) [])) (r1 (List.getD T (Int.toNat (↑x.1:Int)) [])) (r2 (List.getD T (Int.toNat (↑x.1:Int)) [])) most (enF t n (Prod.snd (Prod.snd x_1.2).2).1 (Prod.snd (Prod.snd (Prod.snd x_1).2).2).1 (Prod.snd (Prod.snd x_1.2).2).2.2).3∧cP (HRc t n most N T st s (↑(Prod.fst x):Int)) (Hint.ok (HRc t n most N T st s (↑(Prod.fst x):Int))) [.ptr 0 0,.ptr 2 0,.int .i64 most,.O,.O,.O,.O,.O,.O,.O,.tslice 4 0 (List.length (Prod.snd x_1).1) 3,.O,.ptr 5 0,.O,.ptr 6 0,.tslice 3 0 (List.length T) 3,.int .i64 (↑(List.length T):Int),.int .i64 (↑x.1:Int),.O,.O,.O,.O,.O,.O,.O,.O,.O,.O,.O,.O,.O,.O,.O,.O,.O,.O,.O,.O,.O,.O,.O,.O,.O,.O,.O,.O,.O,.O,.O,.O,.O,.O,.O,.O,.O,.O,.O,.O] [some (.cells [.int .i64 (EO.s (enF t n (Prod.snd (Prod.snd x_1.2).2).1 (Prod.snd (Prod.snd (Prod.snd x_1).2).2).1 (Prod.snd (Prod.snd x_1.2).2).2.2)).1,.int .i64 (EO.s (enF t n (Prod.snd (Prod.snd x_1.2).2).1 (Prod.snd (Prod.snd (Prod.snd x_1).2).2).1 (Prod.snd (Prod.snd x_1.2).2).2.2)).2,.slice 1 0 (List.length (EO.s (enF t n (Prod.snd (Prod.snd x_1.2).2).1 (Prod.snd (Prod.snd (Prod.snd x_1).2).2).1 (Prod.snd (Prod.snd x_1.2).2).2.2)).3) 1,.int .i64 (EO.s (enF t n (Prod.snd (Prod.snd x_1.2).2).1 (Prod.snd (Prod.snd (Prod.snd x_1).2).2).1 (Prod.snd (Prod.snd x_1.2).2).2.2)).4,.int .i64 (EO.s (enF t n (Prod.snd (Prod.snd x_1.2).2).1 (Prod.snd (Prod.snd (Prod.snd x_1).2).2).1 (Prod.snd (Prod.snd x_1.2).2).2.2)).5,.int .i64 (EO.s (enF t n (Prod.snd (Prod.snd x_1.2).2).1 (Prod.snd (Prod.snd (Prod.snd x_1).2).2).1 (Prod.snd (Prod.snd x_1.2).2).2.2)).6,.int .u64 (EO.s (enF t n (Prod.snd (Prod.snd x_1.2).2).1 (Prod.snd (Prod.snd (Prod.snd x_1).2).2).1 (Prod.snd (Prod.snd x_1.2).2).2.2)).7,.int .u64 (EO.s (enF t n (Prod.snd (Prod.snd x_1.2).2).1 (Prod.snd (Prod.snd (Prod.snd x_1).2).2).1 (Prod.snd (Prod.snd x_1.2).2).2.2)).8,.bool (EO.s (enF t n (Prod.snd (Prod.snd x_1.2).2).1 (Prod.snd (Prod.snd (Prod.snd x_1).2).2).1 (Prod.snd (Prod.snd x_1.2).2).2.2)).9]),some (.ints (some .u64) (EO.s (enF t n (Prod.snd (Prod.snd x_1.2).2).1 (Prod.snd (Prod.snd (Prod.snd x_1).2).2).1 (Prod.snd (Prod.snd x_1.2).2).2.2)).3),some (.abs (.store t n (bG t n (r0 (List.getD T (Int.toNat (↑x.1:Int)) [])) (r1 (List.getD T (Int.toNat (↑x.1:Int)) [])) (r2 (List.getD T (Int.toNat (↑x.1:Int)) [])) most (enF t n (Prod.snd (Prod.snd x_1.2).2).1 (Prod.snd (Prod.snd (Prod.snd x_1).2).2).1 (Prod.snd (Prod.snd x_1.2).2).2.2).3).2) []),some (.tab [some .i64,some .i64,some .i64] T),some (.tab [some .i64,none,some .i64] (Prod.snd x_1).1),some (.cells [.int .i64 (r0 (List.getD T (Int.toNat (↑x.1:Int)) [])),.int .i64 (r1 (List.getD T (Int.toNat (↑x.1:Int)) [])),.int .i64 (r2 (List.getD T (Int.toNat (↑x.1:Int)) []))]),some (.abs (.fast t n (bG t n (r0 (List.getD T (Int.toNat (↑x.1:Int)) [])) (r1 (List.getD T (Int.toNat (↑x.1:Int)) [])) (r2 (List.getD T (Int.toNat (↑x.1:Int)) [])) most (enF t n (Prod.snd (Prod.snd x_1.2).2).1 (Prod.snd (Prod.snd (Prod.snd x_1).2).2).1 (Prod.snd (Prod.snd x_1.2).2).2.2).3).1) [2])]∧ ∀(x_2:Hint.X (HRc t n most N T st s (↑(Prod.fst x):Int))),S8 t n most N T st s (↑x.1:Int) x_2→((lE' (Prod.snd (Prod.snd (Prod.snd x_2.2).2).2).3∧t=t∧n=n)∧ftOk t n (Prod.snd (Prod.snd x_2.2).2).1 (Prod.snd (Prod.snd (Prod.snd x_2).2).2).1 (Prod.snd (Prod.snd x_2.2).2).2.2)∧bif (ftF t n (Prod.snd (Prod.snd x_2.2).2).1 (Prod.snd (Prod.snd (Prod.snd x_2).2).2).1 (Prod.snd (Prod.snd x_2.2).2).2.2).1 then bif (FtO.x (ftF t n (Prod.snd (Prod.snd x_2.2).2).1 (Prod.snd (Prod.snd (Prod.snd x_2).2).2).1 (Prod.snd (Prod.snd x_2.2).2).2.2)).4 then K (.tup [.tslice 4 0 (List.length (Prod.snd x_2).1) 3,.bool false]) [some (.cells [.int .i64 (FtO.s (ftF t n (Prod.snd (Prod.snd x_2.2).2).1 (Prod.snd (Prod.snd (Prod.snd x_2).2).2).1 (Prod.snd (Prod.snd x_2.2).2).2.2)).1,.int .i64 (FtO.s (ftF t n (Prod.snd (Prod.snd x_2.2).2).1 (Prod.snd (Prod.snd (Prod.snd x_2).2).2).1 (Prod.snd (Prod.snd x_2.2).2).2.2)).2,.slice 1 0 (List.length (FtO.s (ftF t n (Prod.snd (Prod.snd x_2.2).2).1 (Prod.snd (Prod.snd (Prod.snd x_2).2).2).1 (Prod.snd (Prod.snd x_2.2).2).2.2)).3) 1,.int .i64 (FtO.s (ftF t n (Prod.snd (Prod.snd x_2.2).2).1 (Prod.snd (Prod.snd (Prod.snd x_2).2).2).1 (Prod.snd (Prod.snd x_2.2).2).2.2)).4,.int .i64 (FtO.s (ftF t n (Prod.snd (Prod.snd x_2.2).2).1 (Prod.snd (Prod.snd (Prod.snd x_2).2).2).1 (Prod.snd (Prod.snd x_2.2).2).2.2)).5,.int .i64 (FtO.s (ftF t n (Prod.snd (Prod.snd x_2.2).2).1 (Prod.snd (Prod.snd (Prod.snd x_2).2).2).1 (Prod.snd (Prod.snd x_2.2).2).2.2)).6,.int .u64 (FtO.s (ftF t n (Prod.snd (Prod.snd x_2.2).2).1 (Prod.snd (Prod.snd (Prod.snd x_2).2).2).1 (Prod.snd (Prod.snd x_2.2).2).2.2)).7,.int .u64 (FtO.s (ftF t n (Prod.snd (Prod.snd x_2.2).2).1 (Prod.snd (Prod.snd (Prod.snd x_2).2).2).1 (Prod.snd (Prod.snd x_2.2).2).2.2)).8,.bool (FtO.s (ftF t n (Prod.snd (Prod.snd x_2.2).2).1 (Prod.snd (Prod.snd (Prod.snd x_2).2).2).1 (Prod.snd (Prod.snd x_2.2).2).2.2)).9]),some (.ints (some .u64) (FtO.s (ftF t n (Prod.snd (Prod.snd x_2.2).2).1 (Prod.snd (Prod.snd (Prod.snd x_2).2).2).1 (Prod.snd (Prod.snd x_2.2).2).2.2)).3),some (.abs (.store t n (ftF t n (Prod.snd (Prod.snd x_2.2).2).1 (Prod.snd (Prod.snd (Prod.snd x_2).2).2).1 (Prod.snd (Prod.snd x_2.2).2).2.2).3) []),some (.tab [some .i64,some .i64,some .i64] T),some (.tab [some .i64,none,some .i64] (Prod.snd x_2).1)]else(0=0∧lE' (Prod.snd x_2).1∧List.length (Prod.snd x_2).1+(1:Nat)≤(4294967296:Nat))∧cP (sI t n most N T st s) (fun x'=>Hint.ok (sI t n most N T st s) x'∧Hint.mu (sI t n most N T st s) x'<Hint.mu (sI t n most N T st s) x) [.ptr 0 0,.ptr 2 0,.int .i64 most,.O,.O,.O,.O,.O,.O,.O,.tslice 4 0 (List.length (Prod.snd x_2).1+1) 3,.O,.O,.O,.O,.tslice 3 0 (List.length T) 3,.int .i64 (↑(List.length T):Int),.int .i64 (W ((↑x.1:Int)+1)),.O,.O,.O,.O,.O,.O,.O,.O,.O,.O,.O,.O,.O,.O,.O,.O,.O,.O,.O,.O,.O,.O,.O,.O,.O,.O,.O,.O,.O,.O,.O,.O,.O,.O,.O,.O,.O,.O,.O,.O] [some (.cells [.int .i64 (FtO.s (ftF t n (Prod.snd (Prod.snd x_2.2).2).1 (Prod.snd (Prod.snd (Prod.snd x_2).2).2).1 (Prod.snd (Prod.snd x_2.2).2).2.2)).1,.int .i64 (FtO.s (ftF t n (Prod.snd (Prod.snd x_2.2).2).1 (Prod.snd (Prod.snd (Prod.snd x_2).2).2).1 (Prod.snd (Prod.snd x_2.2).2).2.2)).2,.slice 1 0 (List.length (FtO.s (ftF t n (Prod.snd (Prod.snd x_2.2).2).1 (Prod.snd (Prod.snd (Prod.snd x_2).2).2).1 (Prod.snd (Prod.snd x_2.2).2).2.2)).3) 1,.int .i64 (FtO.s (ftF t n (Prod.snd (Prod.snd x_2.2).2).1 (Prod.snd (Prod.snd (Prod.snd x_2).2).2).1 (Prod.snd (Prod.snd x_2.2).2).2.2)).4,.int .i64 (FtO.s (ftF t n (Prod.snd (Prod.snd x_2.2).2).1 (Prod.snd (Prod.snd (Prod.snd x_2).2).2).1 (Prod.snd (Prod.snd x_2.2).2).2.2)).5,.int .i64 (FtO.s (ftF t n (Prod.snd (Prod.snd x_2.2).2).1 (Prod.snd (Prod.snd (Prod.snd x_2).2).2).1 (Prod.snd (Prod.snd x_2.2).2).2.2)).6,.int .u64 (FtO.s (ftF t n (Prod.snd (Prod.snd x_2.2).2).1 (Prod.snd (Prod.snd (Prod.snd x_2).2).2).1 (Prod.snd (Prod.snd x_2.2).2).2.2)).7,.int .u64 (FtO.s (ftF t n (Prod.snd (Prod.snd x_2.2).2).1 (Prod.snd (Prod.snd (Prod.snd x_2).2).2).1 (Prod.snd (Prod.snd x_2.2).2).2.2)).8,.bool (FtO.s (ftF t n (Prod.snd (Prod.snd x_2.2).2).1 (Prod.snd (Prod.snd (Prod.snd x_2).2).2).1 (Prod.snd (Prod.snd x_2.2).2).2.2)).9]),some (.ints (some .u64) (FtO.s (ftF t n (Prod.snd (Prod.snd x_2.2).2).1 (Prod.snd (Prod.snd (Prod.snd x_2).2).2).1 (Prod.snd (Prod.snd x_2.2).2).2.2)).3),some (.abs (.store t n (ftF t n (Prod.snd (Prod.snd x_2.2).2).1 (Prod.snd (Prod.snd (Prod.snd x_2).2).2).1 (Prod.snd (Prod.snd x_2.2).2).2.2).3) []),some (.tab [some .i64,some .i64,some .i64] T),some (.tab [some .i64,none,some .i64] ((Prod.snd x_2).1++ [[(FtO.x (ftF t n (Prod.snd (Prod.snd x_2.2).2).1 (Prod.snd (Prod.snd (Prod.snd x_2).2).2).1 (Prod.snd (Prod.snd x_2.2).2).2.2)).1,bif (FtO.x (ftF t n (Prod.snd (Prod.snd x_2.2).2).1 (Prod.snd (Prod.snd (Prod.snd x_2).2).2).1 (Prod.snd (Prod.snd x_2.2).2).2.2)).2 then 1 else 0,(FtO.x (ftF t n (Prod.snd (Prod.snd x_2.2).2).1 (Prod.snd (Prod.snd (Prod.snd x_2).2).2).1 (Prod.snd (Prod.snd x_2.2).2).2.2)).3]]))]else cP (HRc t n most N T st s (↑(Prod.fst x):Int)) (fun x'=>Hint.ok (HRc t n most N T st s (↑(Prod.fst x):Int)) x'∧Hint.mu (HRc t n most N T st s (↑(Prod.fst x):Int)) x'<Hint.mu (HRc t n most N T st s (↑(Prod.fst x):Int)) x_2) [.ptr 0 0,.ptr 2 0,.int .i64 most,.O,.O,.O,.O,.O,.O,.O,.tslice 4 0 (List.length (Prod.snd x_2).1) 3,.O,.ptr 5 0,.O,.ptr 6 0,.tslice 3 0 (List.length T) 3,.int .i64 (↑(List.length T):Int),.int .i64 (↑x.1:Int),.O,.O,.O,.O,.O,.O,.O,.O,.O,.O,.O,.O,.O,.O,.O,.O,.O,.O,.O,.O,.O,.O,.O,.O,.O,.O,.O,.O,.O,.O,.O,.O,.O,.O,.O,.O,.O,.O,.O,.O] [some (.cells [.int .i64 (FtO.s (ftF t n (Prod.snd (Prod.snd x_2.2).2).1 (Prod.snd (Prod.snd (Prod.snd x_2).2).2).1 (Prod.snd (Prod.snd x_2.2).2).2.2)).1,.int .i64 (FtO.s (ftF t n (Prod.snd (Prod.snd x_2.2).2).1 (Prod.snd (Prod.snd (Prod.snd x_2).2).2).1 (Prod.snd (Prod.snd x_2.2).2).2.2)).2,.slice 1 0 (List.length (FtO.s (ftF t n (Prod.snd (Prod.snd x_2.2).2).1 (Prod.snd (Prod.snd (Prod.snd x_2).2).2).1 (Prod.snd (Prod.snd x_2.2).2).2.2)).3) 1,.int .i64 (FtO.s (ftF t n (Prod.snd (Prod.snd x_2.2).2).1 (Prod.snd (Prod.snd (Prod.snd x_2).2).2).1 (Prod.snd (Prod.snd x_2.2).2).2.2)).4,.int .i64 (FtO.s (ftF t n (Prod.snd (Prod.snd x_2.2).2).1 (Prod.snd (Prod.snd (Prod.snd x_2).2).2).1 (Prod.snd (Prod.snd x_2.2).2).2.2)).5,.int .i64 (FtO.s (ftF t n (Prod.snd (Prod.snd x_2.2).2).1 (Prod.snd (Prod.snd (Prod.snd x_2).2).2).1 (Prod.snd (Prod.snd x_2.2).2).2.2)).6,.int .u64 (FtO.s (ftF t n (Prod.snd (Prod.snd x_2.2).2).1 (Prod.snd (Prod.snd (Prod.snd x_2).2).2).1 (Prod.snd (Prod.snd x_2.2).2).2.2)).7,.int .u64 (FtO.s (ftF t n (Prod.snd (Prod.snd x_2.2).2).1 (Prod.snd (Prod.snd (Prod.snd x_2).2).2).1 (Prod.snd (Prod.snd x_2.2).2).2.2)).8,.bool (FtO.s (ftF t n (Prod.snd (Prod.snd x_2.2).2).1 (Prod.snd (Prod.snd (Prod.snd x_2).2).2).1 (Prod.snd (Prod.snd x_2.2).2).2.2)).9]),some (.ints (some .u64) (FtO.s (ftF t n (Prod.snd (Prod.snd x_2.2).2).1 (Prod.snd (Prod.snd (Prod.snd x_2).2).2).1 (Prod.snd (Prod.snd x_2.2).2).2.2)).3),some (.abs (.store t n (ftF t n (Prod.snd (Prod.snd x_2.2).2).1 (Prod.snd (Prod.snd (Prod.snd x_2).2).2).1 (Prod.snd (Prod.snd x_2.2).2).2.2).3) []),some (.tab [some .i64,some .i64,some .i64] T),some (.tab [some .i64,none,some .i64] (Prod.snd x_2).1),some (.cells [.int .i64 (r0 (List.getD T (Int.toNat (↑x.1:Int)) [])),.int .i64 (r1 (List.getD T (Int.toNat (↑x.1:Int)) [])),.int .i64 (r2 (List.getD T (Int.toNat (↑x.1:Int)) []))]),some (.abs (.fast t n (ftF t n (Prod.snd (Prod.snd x_2.2).2).1 (Prod.snd (Prod.snd (Prod.snd x_2).2).2).1 (Prod.snd (Prod.snd x_2.2).2).2.2).2) [2])]else cP (HRb t n most N T st s (↑(Prod.fst x):Int)) (fun x'=>Hint.ok (HRb t n most N T st s (↑(Prod.fst x):Int)) x'∧Hint.mu (HRb t n most N T st s (↑(Prod.fst x):Int)) x'<Hint.mu (HRb t n most N T st s (↑(Prod.fst x):Int)) x_1) [.ptr 0 0,.ptr 2 0,.int .i64 most,.O,.O,.O,.O,.O,.O,.O,.tslice 4 0 (List.length (Prod.snd x_1).1) 3,.O,.ptr 5 0,.ptr 6 0,.O,.tslice 3 0 (List.length T) 3,.int .i64 (↑(List.length T):Int),.int .i64 (↑x.1:Int),.O,.O,.O,.O,.O,.O,.O,.O,.O,.O,.O,.O,.O,.O,.O,.O,.O,.O,.O,.O,.O,.O,.O,.O,.O,.O,.O,.O,.O,.O,.O,.O,.O,.O,.O,.O,.O,.O,.O,.O] [some (.cells [.int .i64 (EO.s (enF t n (Prod.snd (Prod.snd x_1.2).2).1 (Prod.snd (Prod.snd (Prod.snd x_1).2).2).1 (Prod.snd (Prod.snd x_1.2).2).2.2)).1,.int .i64 (EO.s (enF t n (Prod.snd (Prod.snd x_1.2).2).1 (Prod.snd (Prod.snd (Prod.snd x_1).2).2).1 (Prod.snd (Prod.snd x_1.2).2).2.2)).2,.slice 1 0 (List.length (EO.s (enF t n (Prod.snd (Prod.snd x_1.2).2).1 (Prod.snd (Prod.snd (Prod.snd x_1).2).2).1 (Prod.snd (Prod.snd x_1.2).2).2.2)).3) 1,.int .i64 (EO.s (enF t n (Prod.snd (Prod.snd x_1.2).2).1 (Prod.snd (Prod.snd (Prod.snd x_1).2).2).1 (Prod.snd (Prod.snd x_1.2).2).2.2)).4,.int .i64 (EO.s (enF t n (Prod.snd (Prod.snd x_1.2).2).1 (Prod.snd (Prod.snd (Prod.snd x_1).2).2).1 (Prod.snd (Prod.snd x_1.2).2).2.2)).5,.int .i64 (EO.s (enF t n (Prod.snd (Prod.snd x_1.2).2).1 (Prod.snd (Prod.snd (Prod.snd x_1).2).2).1 (Prod.snd (Prod.snd x_1.2).2).2.2)).6,.int .u64 (EO.s (enF t n (Prod.snd (Prod.snd x_1.2).2).1 (Prod.snd (Prod.snd (Prod.snd x_1).2).2).1 (Prod.snd (Prod.snd x_1.2).2).2.2)).7,.int .u64 (EO.s (enF t n (Prod.snd (Prod.snd x_1.2).2).1 (Prod.snd (Prod.snd (Prod.snd x_1).2).2).1 (Prod.snd (Prod.snd x_1.2).2).2.2)).8,.bool (EO.s (enF t n (Prod.snd (Prod.snd x_1.2).2).1 (Prod.snd (Prod.snd (Prod.snd x_1).2).2).1 (Prod.snd (Prod.snd x_1.2).2).2.2)).9]),some (.ints (some .u64) (EO.s (enF t n (Prod.snd (Prod.snd x_1.2).2).1 (Prod.snd (Prod.snd (Prod.snd x_1).2).2).1 (Prod.snd (Prod.snd x_1.2).2).2.2)).3),some (.abs (.store t n (enF t n (Prod.snd (Prod.snd x_1.2).2).1 (Prod.snd (Prod.snd (Prod.snd x_1).2).2).1 (Prod.snd (Prod.snd x_1.2).2).2.2).3) []),some (.tab [some .i64,some .i64,some .i64] T),some (.tab [some .i64,none,some .i64] (Prod.snd x_1).1),some (.cells [.int .i64 (r0 (List.getD T (Int.toNat (↑x.1:Int)) [])),.int .i64 (r1 (List.getD T (Int.toNat (↑x.1:Int)) [])),.int .i64 (r2 (List.getD T (Int.toNat (↑x.1:Int)) []))]),some (.abs (.ensure t n (enF t n (Prod.snd (Prod.snd x_1.2).2).1 (Prod.snd (Prod.snd (Prod.snd x_1).2).2).1 (Prod.snd (Prod.snd x_1.2).2).2.2).2) [2])]else nT t n (List.headD (List.getD T (0+Int.toNat (↑x.1:Int)) []) 0) (List.headD (List.tail (List.getD T (0+Int.toNat (↑x.1:Int)) [])) 0) (List.headD (List.tail (List.tail (List.getD T (0+Int.toNat (↑x.1:Int)) []))) 0) most (Prod.snd x.2).1∧cP (HRc t n most N T st s (↑(Prod.fst x):Int)) (Hint.ok (HRc t n most N T st s (↑(Prod.fst x):Int))) [.ptr 0 0,.ptr 2 0,.int .i64 most,.O,.O,.O,.O,.O,.O,.O,.tslice 4 0 (List.length (Prod.snd x).1) 3,.O,.ptr 5 0,.O,.ptr 6 0,.tslice 3 0 (List.length T) 3,.int .i64 (↑(List.length T):Int),.int .i64 (↑x.1:Int),.O,.O,.O,.O,.O,.O,.O,.O,.O,.O,.O,.O,.O,.O,.O,.O,.O,.O,.O,.O,.O,.O,.O,.O,.O,.O,.O,.O,.O,.O,.O,.O,.O,.O,.O,.O,.O,.O,.O,.O] [some (.cells [.int .i64 (Prod.snd (Prod.snd x).2).1,.int .i64 (Prod.snd (Prod.snd x).2).2,.slice 1 0 (List.length (Prod.snd (Prod.snd x).2).3) 1,.int .i64 (Prod.snd (Prod.snd x).2).4,.int .i64 (Prod.snd (Prod.snd x).2).5,.int .i64 (Prod.snd (Prod.snd x).2).6,.int .u64 (Prod.snd (Prod.snd x).2).7,.int .u64 (Prod.snd (Prod.snd x).2).8,.bool (Prod.snd (Prod.snd x).2).9]),some (.ints (some .u64) (Prod.snd (Prod.snd x).2).3),some (.abs (.store t n (bG t n (List.headD (List.getD T (0+Int.toNat (↑x.1:Int)) []) 0) (List.headD (List.tail (List.getD T (0+Int.toNat (↑x.1:Int)) [])) 0) (List.headD (List.tail (List.tail (List.getD T (0+Int.toNat (↑x.1:Int)) []))) 0) most (Prod.snd x.2).1).2) []),some (.tab [some .i64,some .i64,some .i64] T),some (.tab [some .i64,none,some .i64] (Prod.snd x).1),some (.cells [.int .i64 (List.headD (List.getD T (0+Int.toNat (↑x.1:Int)) []) 0),.int .i64 (List.headD (List.tail (List.getD T (0+Int.toNat (↑x.1:Int)) [])) 0),.int .i64 (List.headD (List.tail (List.tail (List.getD T (0+Int.toNat (↑x.1:Int)) []))) 0)]),some (.abs (.fast t n (bG t n (List.headD (List.getD T (0+Int.toNat (↑x.1:Int)) []) 0) (List.headD (List.tail (List.getD T (0+Int.toNat (↑x.1:Int)) [])) 0) (List.headD (List.tail (List.tail (List.getD T (0+Int.toNat (↑x.1:Int)) []))) 0) most (Prod.snd x.2).1).1) [2])]∧ ∀(x_1:Hint.X (HRc t n most N T st s (↑(Prod.fst x):Int))),S8 t n most N T st s (↑x.1:Int) x_1→((lE' (Prod.snd (Prod.snd (Prod.snd x_1.2).2).2).3∧t=t∧n=n)∧ftOk t n (Prod.snd (Prod.snd x_1.2).2).1 (Prod.snd (Prod.snd (Prod.snd x_1).2).2).1 (Prod.snd (Prod.snd x_1.2).2).2.2)∧bif (ftF t n (Prod.snd (Prod.snd x_1.2).2).1 (Prod.snd (Prod.snd (Prod.snd x_1).2).2).1 (Prod.snd (Prod.snd x_1.2).2).2.2).1 then bif (FtO.x (ftF t n (Prod.snd (Prod.snd x_1.2).2).1 (Prod.snd (Prod.snd (Prod.snd x_1).2).2).1 (Prod.snd (Prod.snd x_1.2).2).2.2)).4 then K (.tup [.tslice 4 0 (List.length (Prod.snd x_1).1) 3,.bool false]) [some (.cells [.int .i64 (FtO.s (ftF t n (Prod.snd (Prod.snd x_1.2).2).1 (Prod.snd (Prod.snd (Prod.snd x_1).2).2).1 (Prod.snd (Prod.snd x_1.2).2).2.2)).1,.int .i64 (FtO.s (ftF t n (Prod.snd (Prod.snd x_1.2).2).1 (Prod.snd (Prod.snd (Prod.snd x_1).2).2).1 (Prod.snd (Prod.snd x_1.2).2).2.2)).2,.slice 1 0 (List.length (FtO.s (ftF t n (Prod.snd (Prod.snd x_1.2).2).1 (Prod.snd (Prod.snd (Prod.snd x_1).2).2).1 (Prod.snd (Prod.snd x_1.2).2).2.2)).3) 1,.int .i64 (FtO.s (ftF t n (Prod.snd (Prod.snd x_1.2).2).1 (Prod.snd (Prod.snd (Prod.snd x_1).2).2).1 (Prod.snd (Prod.snd x_1.2).2).2.2)).4,.int .i64 (FtO.s (ftF t n (Prod.snd (Prod.snd x_1.2).2).1 (Prod.snd (Prod.snd (Prod.snd x_1).2).2).1 (Prod.snd (Prod.snd x_1.2).2).2.2)).5,.int .i64 (FtO.s (ftF t n (Prod.snd (Prod.snd x_1.2).2).1 (Prod.snd (Prod.snd (Prod.snd x_1).2).2).1 (Prod.snd (Prod.snd x_1.2).2).2.2)).6,.int .u64 (FtO.s (ftF t n (Prod.snd (Prod.snd x_1.2).2).1 (Prod.snd (Prod.snd (Prod.snd x_1).2).2).1 (Prod.snd (Prod.snd x_1.2).2).2.2)).7,.int .u64 (FtO.s (ftF t n (Prod.snd (Prod.snd x_1.2).2).1 (Prod.snd (Prod.snd (Prod.snd x_1).2).2).1 (Prod.snd (Prod.snd x_1.2).2).2.2)).8,.bool (FtO.s (ftF t n (Prod.snd (Prod.snd x_1.2).2).1 (Prod.snd (Prod.snd (Prod.snd x_1).2).2).1 (Prod.snd (Prod.snd x_1.2).2).2.2)).9]),some (.ints (some .u64) (FtO.s (ftF t n (Prod.snd (Prod.snd x_1.2).2).1 (Prod.snd (Prod.snd (Prod.snd x_1).2).2).1 (Prod.snd (Prod.snd x_1.2).2).2.2)).3),some (.abs (.store t n (ftF t n (Prod.snd (Prod.snd x_1.2).2).1 (Prod.snd (Prod.snd (Prod.snd x_1).2).2).1 (Prod.snd (Prod.snd x_1.2).2).2.2).3) []),some (.tab [some .i64,some .i64,some .i64] T),some (.tab [some .i64,none,some .i64] (Prod.snd x_1).1)]else(0=0∧lE' (Prod.snd x_1).1∧List.length (Prod.snd x_1).1+(1:Nat)≤(4294967296:Nat))∧cP (sI t n most N T st s) (fun x'=>Hint.ok (sI t n most N T st s) x'∧Hint.mu (sI t n most N T st s) x'<Hint.mu (sI t n most N T st s) x) [.ptr 0 0,.ptr 2 0,.int .i64 most,.O,.O,.O,.O,.O,.O,.O,.tslice 4 0 (List.length (Prod.snd x_1).1+1) 3,.O,.O,.O,.O,.tslice 3 0 (List.length T) 3,.int .i64 (↑(List.length T):Int),.int .i64 (W ((↑x.1:Int)+1)),.O,.O,.O,.O,.O,.O,.O,.O,.O,.O,.O,.O,.O,.O,.O,.O,.O,.O,.O,.O,.O,.O,.O,.O,.O,.O,.O,.O,.O,.O,.O,.O,.O,.O,.O,.O,.O,.O,.O,.O] [some (.cells [.int .i64 (FtO.s (ftF t n (Prod.snd (Prod.snd x_1.2).2).1 (Prod.snd (Prod.snd (Prod.snd x_1).2).2).1 (Prod.snd (Prod.snd x_1.2).2).2.2)).1,.int .i64 (FtO.s (ftF t n (Prod.snd (Prod.snd x_1.2).2).1 (Prod.snd (Prod.snd (Prod.snd x_1).2).2).1 (Prod.snd (Prod.snd x_1.2).2).2.2)).2,.slice 1 0 (List.length (FtO.s (ftF t n (Prod.snd (Prod.snd x_1.2).2).1 (Prod.snd (Prod.snd (Prod.snd x_1).2).2).1 (Prod.snd (Prod.snd x_1.2).2).2.2)).3) 1,.int .i64 (FtO.s (ftF t n (Prod.snd (Prod.snd x_1.2).2).1 (Prod.snd (Prod.snd (Prod.snd x_1).2).2).1 (Prod.snd (Prod.snd x_1.2).2).2.2)).4,.int .i64 (FtO.s (ftF t n (Prod.snd (Prod.snd x_1.2).2).1 (Prod.snd (Prod.snd (Prod.snd x_1).2).2).1 (Prod.snd (Prod.snd x_1.2).2).2.2)).5,.int .i64 (FtO.s (ftF t n (Prod.snd (Prod.snd x_1.2).2).1 (Prod.snd (Prod.snd (Prod.snd x_1).2).2).1 (Prod.snd (Prod.snd x_1.2).2).2.2)).6,.int .u64 (FtO.s (ftF t n (Prod.snd (Prod.snd x_1.2).2).1 (Prod.snd (Prod.snd (Prod.snd x_1).2).2).1 (Prod.snd (Prod.snd x_1.2).2).2.2)).7,.int .u64 (FtO.s (ftF t n (Prod.snd (Prod.snd x_1.2).2).1 (Prod.snd (Prod.snd (Prod.snd x_1).2).2).1 (Prod.snd (Prod.snd x_1.2).2).2.2)).8,.bool (FtO.s (ftF t n (Prod.snd (Prod.snd x_1.2).2).1 (Prod.snd (Prod.snd (Prod.snd x_1).2).2).1 (Prod.snd (Prod.snd x_1.2).2).2.2)).9]),some (.ints (some .u64) (FtO.s (ftF t n (Prod.snd (Prod.snd x_1.2).2).1 (Prod.snd (Prod.snd (Prod.snd x_1).2).2).1 (Prod.snd (Prod.snd x_1.2).2).2.2)).3),some (.abs (.store t n (ftF t n (Prod.snd (Prod.snd x_1.2).2).1 (Prod.snd (Prod.snd (Prod.snd x_1).2).2).1 (Prod.snd (Prod.snd x_1.2).2).2.2).3) []),some (.tab [some .i64,some .i64,some .i64] T),some (.tab [some .i64,none,some .i64] ((Prod.snd x_1).1++ [[(FtO.x (ftF t n (Prod.snd (Prod.snd x_1.2).2).1 (Prod.snd (Prod.snd (Prod.snd x_1).2).2).1 (Prod.snd (Prod.snd x_1.2).2).2.2)).1,bif (FtO.x (ftF t n (Prod.snd (Prod.snd x_1.2).2).1 (Prod.snd (Prod.snd (Prod.snd x_1).2).2).1 (Prod.snd (Prod.snd x_1.2).2).2.2)).2 then 1 else 0,(FtO.x (ftF t n (Prod.snd (Prod.snd x_1.2).2).1 (Prod.snd (Prod.snd (Prod.snd x_1).2).2).1 (Prod.snd (Prod.snd x_1.2).2).2.2)).3]]))]else cP (HRc t n most N T st s (↑(Prod.fst x):Int)) (fun x'=>Hint.ok (HRc t n most N T st s (↑(Prod.fst x):Int)) x'∧Hint.mu (HRc t n most N T st s (↑(Prod.fst x):Int)) x'<Hint.mu (HRc t n most N T st s (↑(Prod.fst x):Int)) x_1) [.ptr 0 0,.ptr 2 0,.int .i64 most,.O,.O,.O,.O,.O,.O,.O,.tslice 4 0 (List.length (Prod.snd x_1).1) 3,.O,.ptr 5 0,.O,.ptr 6 0,.tslice 3 0 (List.length T) 3,.int .i64 (↑(List.length T):Int),.int .i64 (↑x.1:Int),.O,.O,.O,.O,.O,.O,.O,.O,.O,.O,.O,.O,.O,.O,.O,.O,.O,.O,.O,.O,.O,.O,.O,.O,.O,.O,.O,.O,.O,.O,.O,.O,.O,.O,.O,.O,.O,.O,.O,.O] [some (.cells [.int .i64 (FtO.s (ftF t n (Prod.snd (Prod.snd x_1.2).2).1 (Prod.snd (Prod.snd (Prod.snd x_1).2).2).1 (Prod.snd (Prod.snd x_1.2).2).2.2)).1,.int .i64 (FtO.s (ftF t n (Prod.snd (Prod.snd x_1.2).2).1 (Prod.snd (Prod.snd (Prod.snd x_1).2).2).1 (Prod.snd (Prod.snd x_1.2).2).2.2)).2,.slice 1 0 (List.length (FtO.s (ftF t n (Prod.snd (Prod.snd x_1.2).2).1 (Prod.snd (Prod.snd (Prod.snd x_1).2).2).1 (Prod.snd (Prod.snd x_1.2).2).2.2)).3) 1,.int .i64 (FtO.s (ftF t n (Prod.snd (Prod.snd x_1.2).2).1 (Prod.snd (Prod.snd (Prod.snd x_1).2).2).1 (Prod.snd (Prod.snd x_1.2).2).2.2)).4,.int .i64 (FtO.s (ftF t n (Prod.snd (Prod.snd x_1.2).2).1 (Prod.snd (Prod.snd (Prod.snd x_1).2).2).1 (Prod.snd (Prod.snd x_1.2).2).2.2)).5,.int .i64 (FtO.s (ftF t n (Prod.snd (Prod.snd x_1.2).2).1 (Prod.snd (Prod.snd (Prod.snd x_1).2).2).1 (Prod.snd (Prod.snd x_1.2).2).2.2)).6,.int .u64 (FtO.s (ftF t n (Prod.snd (Prod.snd x_1.2).2).1 (Prod.snd (Prod.snd (Prod.snd x_1).2).2).1 (Prod.snd (Prod.snd x_1.2).2).2.2)).7,.int .u64 (FtO.s (ftF t n (Prod.snd (Prod.snd x_1.2).2).1 (Prod.snd (Prod.snd (Prod.snd x_1).2).2).1 (Prod.snd (Prod.snd x_1.2).2).2.2)).8,.bool (FtO.s (ftF t n (Prod.snd (Prod.snd x_1.2).2).1 (Prod.snd (Prod.snd (Prod.snd x_1).2).2).1 (Prod.snd (Prod.snd x_1.2).2).2.2)).9]),some (.ints (some .u64) (FtO.s (ftF t n (Prod.snd (Prod.snd x_1.2).2).1 (Prod.snd (Prod.snd (Prod.snd x_1).2).2).1 (Prod.snd (Prod.snd x_1.2).2).2.2)).3),some (.abs (.store t n (ftF t n (Prod.snd (Prod.snd x_1.2).2).1 (Prod.snd (Prod.snd (Prod.snd x_1).2).2).1 (Prod.snd (Prod.snd x_1.2).2).2.2).3) []),some (.tab [some .i64,some .i64,some .i64] T),some (.tab [some .i64,none,some .i64] (Prod.snd x_1).1),some (.cells [.int .i64 (r0 (List.getD T (Int.toNat (↑x.1:Int)) [])),.int .i64 (r1 (List.getD T (Int.toNat (↑x.1:Int)) [])),.int .i64 (r2 (List.getD T (Int.toNat (↑x.1:Int)) []))]),some (.abs (.fast t n (ftF t n (Prod.snd (Prod.snd x_1.2).2).1 (Prod.snd (Prod.snd (Prod.snd x_1).2).2).1 (Prod.snd (Prod.snd x_1.2).2).2.2).2) [2])]else nT t n (List.headD (List.getD T (0+Int.toNat (↑x.1:Int)) []) 0) (List.headD (List.tail (List.getD T (0+Int.toNat (↑x.1:Int)) [])) 0) (List.headD (List.tail (List.tail (List.getD T (0+Int.toNat (↑x.1:Int)) []))) 0) most (Prod.snd x.2).1∧cP (HRc t n most N T st s (↑(Prod.fst x):Int)) (Hint.ok (HRc t n most N T st s (↑(Prod.fst x):Int))) [.ptr 0 0,.ptr 2 0,.int .i64 most,.O,.O,.O,.O,.O,.O,.O,.tslice 4 0 (List.length (Prod.snd x).1) 3,.O,.ptr 5 0,.O,.ptr 6 0,.tslice 3 0 (List.length T) 3,.int .i64 (↑(List.length T):Int),.int .i64 (↑x.1:Int),.O,.O,.O,.O,.O,.O,.O,.O,.O,.O,.O,.O,.O,.O,.O,.O,.O,.O,.O,.O,.O,.O,.O,.O,.O,.O,.O,.O,.O,.O,.O,.O,.O,.O,.O,.O,.O,.O,.O,.O] [some (.cells [.int .i64 (Prod.snd (Prod.snd x).2).1,.int .i64 (Prod.snd (Prod.snd x).2).2,.slice 1 0 (List.length (Prod.snd (Prod.snd x).2).3) 1,.int .i64 (Prod.snd (Prod.snd x).2).4,.int .i64 (Prod.snd (Prod.snd x).2).5,.int .i64 (Prod.snd (Prod.snd x).2).6,.int .u64 (Prod.snd (Prod.snd x).2).7,.int .u64 (Prod.snd (Prod.snd x).2).8,.bool (Prod.snd (Prod.snd x).2).9]),some (.ints (some .u64) (Prod.snd (Prod.snd x).2).3),some (.abs (.store t n (bG t n (List.headD (List.getD T (0+Int.toNat (↑x.1:Int)) []) 0) (List.headD (List.tail (List.getD T (0+Int.toNat (↑x.1:Int)) [])) 0) (List.headD (List.tail (List.tail (List.getD T (0+Int.toNat (↑x.1:Int)) []))) 0) most (Prod.snd x.2).1).2) []),some (.tab [some .i64,some .i64,some .i64] T),some (.tab [some .i64,none,some .i64] (Prod.snd x).1),some (.cells [.int .i64 (List.headD (List.getD T (0+Int.toNat (↑x.1:Int)) []) 0),.int .i64 (List.headD (List.tail (List.getD T (0+Int.toNat (↑x.1:Int)) [])) 0),.int .i64 (List.headD (List.tail (List.tail (List.getD T (0+Int.toNat (↑x.1:Int)) []))) 0)]),some (.abs (.fast t n (bG t n (List.headD (List.getD T (0+Int.toNat (↑x.1:Int)) []) 0) (List.headD (List.tail (List.getD T (0+Int.toNat (↑x.1:Int)) [])) 0) (List.headD (List.tail (List.tail (List.getD T (0+Int.toNat (↑x.1:Int)) []))) 0) most (Prod.snd x.2).1).1) [2])]∧ ∀(x_1:Hint.X (HRc t n most N T st s (↑(Prod.fst x):Int))),S8 t n most N T st s (↑x.1:Int) x_1→((lE' (Prod.snd (Prod.snd (Prod.snd x_1.2).2).2).3∧t=t∧n=n)∧ftOk t n (Prod.snd (Prod.snd x_1.2).2).1 (Prod.snd (Prod.snd (Prod.snd x_1).2).2).1 (Prod.snd (Prod.snd x_1.2).2).2.2)∧bif (ftF t n (Prod.snd (Prod.snd x_1.2).2).1 (Prod.snd (Prod.snd (Prod.snd x_1).2).2).1 (Prod.snd (Prod.snd x_1.2).2).2.2).1 then bif (FtO.x (ftF t n (Prod.snd (Prod.snd x_1.2).2).1 (Prod.snd (Prod.snd (Prod.snd x_1).2).2).1 (Prod.snd (Prod.snd x_1.2).2).2.2)).4 then K (.tup [.tslice 4 0 (List.length (Prod.snd x_1).1) 3,.bool false]) [some (.cells [.int .i64 (FtO.s (ftF t n (Prod.snd (Prod.snd x_1.2).2).1 (Prod.snd (Prod.snd (Prod.snd x_1).2).2).1 (Prod.snd (Prod.snd x_1.2).2).2.2)).1,.int .i64 (FtO.s (ftF t n (Prod.snd (Prod.snd x_1.2).2).1 (Prod.snd (Prod.snd (Prod.snd x_1).2).2).1 (Prod.snd (Prod.snd x_1.2).2).2.2)).2,.slice 1 0 (List.length (FtO.s (ftF t n (Prod.snd (Prod.snd x_1.2).2).1 (Prod.snd (Prod.snd (Prod.snd x_1).2).2).1 (Prod.snd (Prod.snd x_1.2).2).2.2)).3) 1,.int .i64 (FtO.s (ftF t n (Prod.snd (Prod.snd x_1.2).2).1 (Prod.snd (Prod.snd (Prod.snd x_1).2).2).1 (Prod.snd (Prod.snd x_1.2).2).2.2)).4,.int .i64 (FtO.s (ftF t n (Prod.snd (Prod.snd x_1.2).2).1 (Prod.snd (Prod.snd (Prod.snd x_1).2).2).1 (Prod.snd (Prod.snd x_1.2).2).2.2)).5,.int .i64 (FtO.s (ftF t n (Prod.snd (Prod.snd x_1.2).2).1 (Prod.snd (Prod.snd (Prod.snd x_1).2).2).1 (Prod.snd (Prod.snd x_1.2).2).2.2)).6,.int .u64 (FtO.s (ftF t n (Prod.snd (Prod.snd x_1.2).2).1 (Prod.snd (Prod.snd (Prod.snd x_1).2).2).1 (Prod.snd (Prod.snd x_1.2).2).2.2)).7,.int .u64 (FtO.s (ftF t n (Prod.snd (Prod.snd x_1.2).2).1 (Prod.snd (Prod.snd (Prod.snd x_1).2).2).1 (Prod.snd (Prod.snd x_1.2).2).2.2)).8,.bool (FtO.s (ftF t n (Prod.snd (Prod.snd x_1.2).2).1 (Prod.snd (Prod.snd (Prod.snd x_1).2).2).1 (Prod.snd (Prod.snd x_1.2).2).2.2)).9]),some (.ints (some .u64) (FtO.s (ftF t n (Prod.snd (Prod.snd x_1.2).2).1 (Prod.snd (Prod.snd (Prod.snd x_1).2).2).1 (Prod.snd (Prod.snd x_1.2).2).2.2)).3),some (.abs (.store t n (ftF t n (Prod.snd (Prod.snd x_1.2).2).1 (Prod.snd (Prod.snd (Prod.snd x_1).2).2).1 (Prod.snd (Prod.snd x_1.2).2).2.2).3) []),some (.tab [some .i64,some .i64,some .i64] T),some (.tab [some .i64,none,some .i64] (Prod.snd x_1).1)]else(0=0∧lE' (Prod.snd x_1).1∧List.length (Prod.snd x_1).1+(1:Nat)≤(4294967296:Nat))∧cP (sI t n most N T st s) (fun x'=>Hint.ok (sI t n most N T st s) x'∧Hint.mu (sI t n most N T st s) x'<Hint.mu (sI t n most N T st s) x) [.ptr 0 0,.ptr 2 0,.int .i64 most,.O,.O,.O,.O,.O,.O,.O,.tslice 4 0 (List.length (Prod.snd x_1).1+1) 3,.O,.O,.O,.O,.tslice 3 0 (List.length T) 3,.int .i64 (↑(List.length T):Int),.int .i64 (W ((↑x.1:Int)+1)),.O,.O,.O,.O,.O,.O,.O,.O,.O,.O,.O,.O,.O,.O,.O,.O,.O,.O,.O,.O,.O,.O,.O,.O,.O,.O,.O,.O,.O,.O,.O,.O,.O,.O,.O,.O,.O,.O,.O,.O] [some (.cells [.int .i64 (FtO.s (ftF t n (Prod.snd (Prod.snd x_1.2).2).1 (Prod.snd (Prod.snd (Prod.snd x_1).2).2).1 (Prod.snd (Prod.snd x_1.2).2).2.2)).1,.int .i64 (FtO.s (ftF t n (Prod.snd (Prod.snd x_1.2).2).1 (Prod.snd (Prod.snd (Prod.snd x_1).2).2).1 (Prod.snd (Prod.snd x_1.2).2).2.2)).2,.slice 1 0 (List.length (FtO.s (ftF t n (Prod.snd (Prod.snd x_1.2).2).1 (Prod.snd (Prod.snd (Prod.snd x_1).2).2).1 (Prod.snd (Prod.snd x_1.2).2).2.2)).3) 1,.int .i64 (FtO.s (ftF t n (Prod.snd (Prod.snd x_1.2).2).1 (Prod.snd (Prod.snd (Prod.snd x_1).2).2).1 (Prod.snd (Prod.snd x_1.2).2).2.2)).4,.int .i64 (FtO.s (ftF t n (Prod.snd (Prod.snd x_1.2).2).1 (Prod.snd (Prod.snd (Prod.snd x_1).2).2).1 (Prod.snd (Prod.snd x_1.2).2).2.2)).5,.int .i64 (FtO.s (ftF t n (Prod.snd (Prod.snd x_1.2).2).1 (Prod.snd (Prod.snd (Prod.snd x_1).2).2).1 (Prod.snd (Prod.snd x_1.2).2).2.2)).6,.int .u64 (FtO.s (ftF t n (Prod.snd (Prod.snd x_1.2).2).1 (Prod.snd (Prod.snd (Prod.snd x_1).2).2).1 (Prod.snd (Prod.snd x_1.2).2).2.2)).7,.int .u64 (FtO.s (ftF t n (Prod.snd (Prod.snd x_1.2).2).1 (Prod.snd (Prod.snd (Prod.snd x_1).2).2).1 (Prod.snd (Prod.snd x_1.2).2).2.2)).8,.bool (FtO.s (ftF t n (Prod.snd (Prod.snd x_1.2).2).1 (Prod.snd (Prod.snd (Prod.snd x_1).2).2).1 (Prod.snd (Prod.snd x_1.2).2).2.2)).9]),some (.ints (some .u64) (FtO.s (ftF t n (Prod.snd (Prod.snd x_1.2).2).1 (Prod.snd (Prod.snd (Prod.snd x_1).2).2).1 (Prod.snd (Prod.snd x_1.2).2).2.2)).3),some (.abs (.store t n (ftF t n (Prod.snd (Prod.snd x_1.2).2).1 (Prod.snd (Prod.snd (Prod.snd x_1).2).2).1 (Prod.snd (Prod.snd x_1.2).2).2.2).3) []),some (.tab [some .i64,some .i64,some .i64] T),some (.tab [some .i64,none,some .i64] ((Prod.snd x_1).1++ [[(FtO.x (ftF t n (Prod.snd (Prod.snd x_1.2).2).1 (Prod.snd (Prod.snd (Prod.snd x_1).2).2).1 (Prod.snd (Prod.snd x_1.2).2).2.2)).1,bif (FtO.x (ftF t n (Prod.snd (Prod.snd x_1.2).2).1 (Prod.snd (Prod.snd (Prod.snd x_1).2).2).1 (Prod.snd (Prod.snd x_1.2).2).2.2)).2 then 1 else 0,(FtO.x (ftF t n (Prod.snd (Prod.snd x_1.2).2).1 (Prod.snd (Prod.snd (Prod.snd x_1).2).2).1 (Prod.snd (Prod.snd x_1.2).2).2.2)).3]]))]else cP (HRc t n most N T st s (↑(Prod.fst x):Int)) (fun x'=>Hint.ok (HRc t n most N T st s (↑(Prod.fst x):Int)) x'∧Hint.mu (HRc t n most N T st s (↑(Prod.fst x):Int)) x'<Hint.mu (HRc t n most N T st s (↑(Prod.fst x):Int)) x_1) [.ptr 0 0,.ptr 2 0,.int .i64 most,.O,.O,.O,.O,.O,.O,.O,.tslice 4 0 (List.length (Prod.snd x_1).1) 3,.O,.ptr 5 0,.O,.ptr 6 0,.tslice 3 0 (List.length T) 3,.int .i64 (↑(List.length T):Int),.int .i64 (↑x.1:Int),.O,.O,.O,.O,.O,.O,.O,.O,.O,.O,.O,.O,.O,.O,.O,.O,.O,.O,.O,.O,.O,.O,.O,.O,.O,.O,.O,.O,.O,.O,.O,.O,.O,.O,.O,.O,.O,.O,.O,.O] [some (.cells [.int .i64 (FtO.s (ftF t n (Prod.snd (Prod.snd x_1.2).2).1 (Prod.snd (Prod.snd (Prod.snd x_1).2).2).1 (Prod.snd (Prod.snd x_1.2).2).2.2)).1,.int .i64 (FtO.s (ftF t n (Prod.snd (Prod.snd x_1.2).2).1 (Prod.snd (Prod.snd (Prod.snd x_1).2).2).1 (Prod.snd (Prod.snd x_1.2).2).2.2)).2,.slice 1 0 (List.length (FtO.s (ftF t n (Prod.snd (Prod.snd x_1.2).2).1 (Prod.snd (Prod.snd (Prod.snd x_1).2).2).1 (Prod.snd (Prod.snd x_1.2).2).2.2)).3) 1,.int .i64 (FtO.s (ftF t n (Prod.snd (Prod.snd x_1.2).2).1 (Prod.snd (Prod.snd (Prod.snd x_1).2).2).1 (Prod.snd (Prod.snd x_1.2).2).2.2)).4,.int .i64 (FtO.s (ftF t n (Prod.snd (Prod.snd x_1.2).2).1 (Prod.snd (Prod.snd (Prod.snd x_1).2).2).1 (Prod.snd (Prod.snd x_1.2).2).2.2)).5,.int .i64 (FtO.s (ftF t n (Prod.snd (Prod.snd x_1.2).2).1 (Prod.snd (Prod.snd (Prod.snd x_1).2).2).1 (Prod.snd (Prod.snd x_1.2).2).2.2)).6,.int .u64 (FtO.s (ftF t n (Prod.snd (Prod.snd x_1.2).2).1 (Prod.snd (Prod.snd (Prod.snd x_1).2).2).1 (Prod.snd (Prod.snd x_1.2).2).2.2)).7,.int .u64 (FtO.s (ftF t n (Prod.snd (Prod.snd x_1.2).2).1 (Prod.snd (Prod.snd (Prod.snd x_1).2).2).1 (Prod.snd (Prod.snd x_1.2).2).2.2)).8,.bool (FtO.s (ftF t n (Prod.snd (Prod.snd x_1.2).2).1 (Prod.snd (Prod.snd (Prod.snd x_1).2).2).1 (Prod.snd (Prod.snd x_1.2).2).2.2)).9]),some (.ints (some .u64) (FtO.s (ftF t n (Prod.snd (Prod.snd x_1.2).2).1 (Prod.snd (Prod.snd (Prod.snd x_1).2).2).1 (Prod.snd (Prod.snd x_1.2).2).2.2)).3),some (.abs (.store t n (ftF t n (Prod.snd (Prod.snd x_1.2).2).1 (Prod.snd (Prod.snd (Prod.snd x_1).2).2).1 (Prod.snd (Prod.snd x_1.2).2).2.2).3) []),some (.tab [some .i64,some .i64,some .i64] T),some (.tab [some .i64,none,some .i64] (Prod.snd x_1).1),some (.cells [.int .i64 (r0 (List.getD T (Int.toNat (↑x.1:Int)) [])),.int .i64 (r1 (List.getD T (Int.toNat (↑x.1:Int)) [])),.int .i64 (r2 (List.getD T (Int.toNat (↑x.1:Int)) []))]),some (.abs (.fast t n (ftF t n (Prod.snd (Prod.snd x_1.2).2).1 (Prod.snd (Prod.snd (Prod.snd x_1).2).2).1 (Prod.snd (Prod.snd x_1.2).2).2.2).2) [2])]else K (.tup [.tslice 4 0 (List.length (Prod.snd x).1) 3,.bool true]) [some (.cells [.int .i64 (Prod.snd (Prod.snd x).2).1,.int .i64 (Prod.snd (Prod.snd x).2).2,.slice 1 0 (List.length (Prod.snd (Prod.snd x).2).3) 1,.int .i64 (Prod.snd (Prod.snd x).2).4,.int .i64 (Prod.snd (Prod.snd x).2).5,.int .i64 (Prod.snd (Prod.snd x).2).6,.int .u64 (Prod.snd (Prod.snd x).2).7,.int .u64 (Prod.snd (Prod.snd x).2).8,.bool (Prod.snd (Prod.snd x).2).9]),some (.ints (some .u64) (Prod.snd (Prod.snd x).2).3),some (.abs (.store t n (Prod.snd x.2).1) []),some (.tab [some .i64,some .i64,some .i64] T),some (.tab [some .i64,none,some .i64] (Prod.snd x).1)]
theorem GK(t n most:Int)(N:Nat)(T:List (List Int))(st:STS)(s:MS)(K:AVal→aB Ob→Prop)(h:KJ t n most N T st s K):cT' 31 [.ptr 0 0,.ptr 2 0,.int .i64 most,.tslice 3 0 T.length 3] [bH 1 s,bI s,some (.abs (.store t n st) []),some (.tab KT T)] K:=by
 refine VV (aE (E:=EFr) Tryz.checked.mixed (L:=TN t n most N T st s) (n:=10) (aR (by kernel_rfl) h))
theorem tO(t n most:Int)(N:Nat)(r:List Int)(T:List (List Int))(st:STS)(s:MS):frF t n most N (r::T) st s=bif (frX t n most N r st s).1.failed then([],false,(frX t n most N r st s).2)else(pW (frX t n most N r st s).1::(frF t n most N T (frX t n most N r st s).2.1 (frX t n most N r st s).2.2).1,(frF t n most N T (frX t n most N r st s).2.1 (frX t n most N r st s).2.2).2):=rfl
theorem l8(t n:Int)(f:Nat)(x:FTS)(st:STS)(s:MS):pY t n (f+1) x st s=bif (ftF t n x st s).d then((ftF t n x st s).x,(ftF t n x st s).st,(ftF t n x st s).s)else pY t n f (ftF t n x st s).x (ftF t n x st s).st (ftF t n x st s).s :=rfl
theorem BF(t n:Int)(f:Nat)(x:ENS)(st:STS)(s:MS):tE t n (f+1) x st s=bif (enF t n x st s).d then(true,(enF t n x st s).e,(enF t n x st s).st,(enF t n x st s).s)else tE t n f (enF t n x st s).e (enF t n x st s).st (enF t n x st s).s :=rfl
theorem RW(t n most:Int)(N:Nat)(T:List (List Int))(st:STS)(s:MS)(K:AVal→aB Ob→Prop)(hT:T.length≤1000000)(ok:zV t n most N T st s)
 (hK:K (.tup [.tslice 4 0 (frF t n most N T st s).1.length 3,.bool (frF t n most N T st s).2.1]) [bH 1 (frF t n most N T st s).2.2.2,bI (frF t n most N T st s).2.2.2,some (.abs (.store t n (frF t n most N T st s).2.2.1) []),some (.tab KT T),some (.tab KR (frF t n most N T st s).1)]):KJ t n most N T st s K:=by
 unfold KJ
 refine⟨aP (H:=sI t n most N T st s) (0,[],st,s) rfl ⟨Nat.zero_le _,rfl,ok,rfl⟩,?_⟩
 rintro⟨i,R,st1,s1⟩ ⟨h1,hl,ok1,eq1⟩
 dsimp only at h1 hl ok1 eq1⊢
 have hti:((i:Nat):Int).toNat =i:=rfl
 refine tU (fun hi=>?_) (fun hi=>?_)
 ·have hi':i<T.length:=by omega
  have e0:0+Int.toNat ((i:Nat):Int)=i:=by omega
  have e4:W ((i:Int)+1)=((i+1:Nat):Int):=(cO (by omega)).trans rfl
  have hdr:T.drop i=T[i]::T.drop (i+1):=List.drop_eq_getElem_cons hi'
  have hg:List.getD T i []=T[i]:=by rw [gD',gE' hi'];rfl
  have a0:frA t n most N T st s (i,R,st1,s1):=⟨h1,hl,ok1,eq1⟩
  have okr:=ok1
  rw [hdr]at okr
  have okr:tP t n most N T[i] st1 s1∧_:=okr
  obtain⟨⟨okE',okN,I8⟩,_⟩:=okr
  rw [e0]
  refine⟨⟨by omega,by omega⟩,hi',trivial,aF (fun hlk=>?_) (fun hlk=>?_)⟩
  ·have hlk:bL (r1 (List.getD T i []))=true:=hlk
   rw [hg]at hlk
   refine aF (fun hz=>?_) (fun hz=>?_)
   ·have hz:ieq st1.sp 0=true:=hz
    have hz0:st1.sp=0:=by simpa [bC]using hz
    refine⟨⟨⟨rfl,rfl,rfl⟩,trivial⟩,aP (H:=HRb t n most N T st s i) (N,R,st1,s1,qX,st1,s1) rfl ⟨⟨by omega,by omega⟩,a0,by dsimp only;rw [hti,hg,hlk,hz];rfl,okE' hlk hz0,rfl⟩,?_⟩
    rintro⟨f,R1,sq,mq,e,sr,mr⟩ ⟨i0,a,lk,oke,eqe⟩
    dsimp only at a lk oke eqe⊢
    cases f with
    | zero=>exact oke.elim
    | succ f=>
      have oke:okE t n e sr mr∧((enF t n e sr mr).d =false→qD t n f (enF t n e sr mr).e (enF t n e sr mr).st (enF t n e sr mr).s):=oke
      refine⟨⟨⟨rfl,rfl,rfl⟩,oke.1⟩,aF (fun hd=>?_) (fun hd=>?_)⟩
      ·have hd:(enF t n e sr mr).d =true:=hd
       rw [BF,hd,cond_true]at eqe
       have okr2:=a.ok
       dsimp only at okr2
       rw [hti,hdr]at okr2
       have okr2:tP t n most N T[i] sq mq∧_:=okr2
       obtain⟨⟨_,okN2,okF2⟩,_⟩:=okr2
       rw [hti,hg]at lk
       have eE:frE t n N (r1 T[i]) sq mq=((enF t n e sr mr).st,(enF t n e sr mr).s):=by
        unfold frE
        rw [lk,cond_true,eqe]
       have eX:frX t n most N T[i] sq mq=pY t n N (bG t n (r0 T[i]) (r1 T[i]) (r2 T[i]) most (enF t n e sr mr).st).1 (bG t n (r0 T[i]) (r1 T[i]) (r2 T[i]) most (enF t n e sr mr).st).2 (enF t n e sr mr).s :=by
        unfold frX
        rw [eE]
       rw [eE]at okN2 okF2
       refine⟨by rw [hti,hg];exact okN2,aP (H:=HRc t n most N T st s i) (N,R1,sq,mq,(bG t n (r0 T[i]) (r1 T[i]) (r2 T[i]) most (enF t n e sr mr).st).1,(bG t n (r0 T[i]) (r1 T[i]) (r2 T[i]) most (enF t n e sr mr).st).2,(enF t n e sr mr).s) (by simp only [hti,hg,HRc]<;>rfl) ⟨i0,a,okF2,by dsimp only;rw [hti,hg];exact eX⟩,?_⟩
       rintro⟨f,R2,sa,ma,y,sb,mb⟩ ⟨i0,a,okf,eqf⟩
       dsimp only at a okf eqf⊢
       cases f with
       | zero=>exact okf.elim
       | succ f=>
         have okf:ftOk t n y sb mb∧((ftF t n y sb mb).d =false→tQ t n f (ftF t n y sb mb).x (ftF t n y sb mb).st (ftF t n y sb mb).s):=okf
         rw [hti]at a eqf
         rw [hg]at eqf
         obtain⟨g1,gl,gok,geq⟩:=a
         dsimp only at g1 gl gok geq
         rw [hdr,tO]at geq
         rw [hdr]at gok
         have gok:tP t n most N T[i] sa ma∧((frX t n most N T[i] sa ma).1.failed =false→zV t n most N (T.drop (i+1)) (frX t n most N T[i] sa ma).2.1 (frX t n most N T[i] sa ma).2.2):=gok
         refine⟨⟨⟨rfl,rfl,rfl⟩,okf.1⟩,aF (fun hd=>?_) (fun hd=>?_)⟩
         ·have hd:(ftF t n y sb mb).d =true:=hd
          rw [l8,hd,cond_true]at eqf
          rw [eqf]at geq gok
          refine aF (fun hf=>?_) (fun hf=>?_)
          ·have hf:(ftF t n y sb mb).x.failed =true:=hf
           dsimp only at geq
           rw [hf,cond_true,List.append_nil]at geq
           rw [geq]at hK
           exact hK
          ·have hf:(ftF t n y sb mb).x.failed =false:=hf
           dsimp only at geq
           rw [hf,cond_false]at geq
           refine⟨⟨rfl,rfl,by omega⟩,aP (H:=sI t n most N T st s) (i+1,R2++ [pW (ftF t n y sb mb).x],(ftF t n y sb mb).st,(ftF t n y sb mb).s) ?_ ⟨⟨hi',by show(R2++ [pW _]).length =i+1;rw [List.length_append,gl];rfl,gok.2 hf,?_⟩,by show T.length - (i+1)<T.length - i;omega⟩⟩
           ·simp only [e4,sI,List.length_append,List.length_singleton]
            rfl
           ·rw [geq]
            simp only [List.append_assoc,List.singleton_append]
         ·have hd:(ftF t n y sb mb).d =false:=hd
          rw [l8,hd,cond_false]at eqf
          exact aP (H:=HRc t n most N T st s i) (f,R2,sa,ma,(ftF t n y sb mb).x,(ftF t n y sb mb).st,(ftF t n y sb mb).s) rfl ⟨⟨i0,⟨g1,gl,by rw [hti,hdr];exact gok,by dsimp only;rw [hti,hdr,tO];exact geq⟩,okf.2 hd,by dsimp only;rw [hti,hg];exact eqf⟩,by show f<f+1;omega⟩
      ·have hd:(enF t n e sr mr).d =false:=hd
       rw [BF,hd,cond_false]at eqe
       exact aP (H:=HRb t n most N T st s i) (f,R1,sq,mq,(enF t n e sr mr).e,(enF t n e sr mr).st,(enF t n e sr mr).s) rfl ⟨⟨i0,a,lk,oke.2 hd,eqe⟩,by show f<f+1;omega⟩
   ·have hz:ieq st1.sp 0=false:=hz
    have eE:frE t n N (r1 T[i]) st1 s1=(st1,s1):=by unfold frE;rw [hlk,hz];rfl
    have eX:frX t n most N T[i] st1 s1=pY t n N (bG t n (r0 T[i]) (r1 T[i]) (r2 T[i]) most st1).1 (bG t n (r0 T[i]) (r1 T[i]) (r2 T[i]) most st1).2 s1:=by
     unfold frX
     rw [eE]
    rw [eE]at okN I8
    refine⟨by rw [hg];exact okN,aP (H:=HRc t n most N T st s i) (N,R,st1,s1,(bG t n (r0 T[i]) (r1 T[i]) (r2 T[i]) most st1).1,(bG t n (r0 T[i]) (r1 T[i]) (r2 T[i]) most st1).2,s1) (by simp only [hti,hg,HRc]<;>rfl) ⟨⟨by omega,by omega⟩,a0,I8,by dsimp only;rw [hti,hg];exact eX⟩,?_⟩
    rintro⟨f,R2,sa,ma,y,sb,mb⟩ ⟨i0,a,okf,eqf⟩
    dsimp only at a okf eqf⊢
    cases f with
    | zero=>exact okf.elim
    | succ f=>
      have okf:ftOk t n y sb mb∧((ftF t n y sb mb).d =false→tQ t n f (ftF t n y sb mb).x (ftF t n y sb mb).st (ftF t n y sb mb).s):=okf
      rw [hti]at a eqf
      rw [hg]at eqf
      obtain⟨g1,gl,gok,geq⟩:=a
      dsimp only at g1 gl gok geq
      rw [hdr,tO]at geq
      rw [hdr]at gok
      have gok:tP t n most N T[i] sa ma∧((frX t n most N T[i] sa ma).1.failed =false→zV t n most N (T.drop (i+1)) (frX t n most N T[i] sa ma).2.1 (frX t n most N T[i] sa ma).2.2):=gok
      refine⟨⟨⟨rfl,rfl,rfl⟩,okf.1⟩,aF (fun hd=>?_) (fun hd=>?_)⟩
      ·have hd:(ftF t n y sb mb).d =true:=hd
       rw [l8,hd,cond_true]at eqf
       rw [eqf]at geq gok
       refine aF (fun hf=>?_) (fun hf=>?_)
       ·have hf:(ftF t n y sb mb).x.failed =true:=hf
        dsimp only at geq
        rw [hf,cond_true,List.append_nil]at geq
        rw [geq]at hK
        exact hK
       ·have hf:(ftF t n y sb mb).x.failed =false:=hf
        dsimp only at geq
        rw [hf,cond_false]at geq
        refine⟨⟨rfl,rfl,by omega⟩,aP (H:=sI t n most N T st s) (i+1,R2++ [pW (ftF t n y sb mb).x],(ftF t n y sb mb).st,(ftF t n y sb mb).s) ?_ ⟨⟨hi',by show(R2++ [pW _]).length =i+1;rw [List.length_append,gl];rfl,gok.2 hf,?_⟩,by show T.length - (i+1)<T.length - i;omega⟩⟩
        ·simp only [e4,sI,List.length_append,List.length_singleton]
         rfl
        ·rw [geq]
         simp only [List.append_assoc,List.singleton_append]
      ·have hd:(ftF t n y sb mb).d =false:=hd
       rw [l8,hd,cond_false]at eqf
       exact aP (H:=HRc t n most N T st s i) (f,R2,sa,ma,(ftF t n y sb mb).x,(ftF t n y sb mb).st,(ftF t n y sb mb).s) rfl ⟨⟨i0,⟨g1,gl,by rw [hti,hdr];exact gok,by dsimp only;rw [hti,hdr,tO];exact geq⟩,okf.2 hd,by dsimp only;rw [hti,hg];exact eqf⟩,by show f<f+1;omega⟩
  ·have hlk:bL (r1 (List.getD T i []))=false:=hlk
   rw [hg]at hlk
   have eE:frE t n N (r1 T[i]) st1 s1=(st1,s1):=by unfold frE;rw [hlk];rfl
   have eX:frX t n most N T[i] st1 s1=pY t n N (bG t n (r0 T[i]) (r1 T[i]) (r2 T[i]) most st1).1 (bG t n (r0 T[i]) (r1 T[i]) (r2 T[i]) most st1).2 s1:=by
    unfold frX
    rw [eE]
   rw [eE]at okN I8
   refine⟨by rw [hg];exact okN,aP (H:=HRc t n most N T st s i) (N,R,st1,s1,(bG t n (r0 T[i]) (r1 T[i]) (r2 T[i]) most st1).1,(bG t n (r0 T[i]) (r1 T[i]) (r2 T[i]) most st1).2,s1) (by simp only [hti,hg,HRc]<;>rfl) ⟨⟨by omega,by omega⟩,a0,I8,by dsimp only;rw [hti,hg];exact eX⟩,?_⟩
   rintro⟨f,R2,sa,ma,y,sb,mb⟩ ⟨i0,a,okf,eqf⟩
   dsimp only at a okf eqf⊢
   cases f with
   | zero=>exact okf.elim
   | succ f=>
     have okf:ftOk t n y sb mb∧((ftF t n y sb mb).d =false→tQ t n f (ftF t n y sb mb).x (ftF t n y sb mb).st (ftF t n y sb mb).s):=okf
     rw [hti]at a eqf
     rw [hg]at eqf
     obtain⟨g1,gl,gok,geq⟩:=a
     dsimp only at g1 gl gok geq
     rw [hdr,tO]at geq
     rw [hdr]at gok
     have gok:tP t n most N T[i] sa ma∧((frX t n most N T[i] sa ma).1.failed =false→zV t n most N (T.drop (i+1)) (frX t n most N T[i] sa ma).2.1 (frX t n most N T[i] sa ma).2.2):=gok
     refine⟨⟨⟨rfl,rfl,rfl⟩,okf.1⟩,aF (fun hd=>?_) (fun hd=>?_)⟩
     ·have hd:(ftF t n y sb mb).d =true:=hd
      rw [l8,hd,cond_true]at eqf
      rw [eqf]at geq gok
      refine aF (fun hf=>?_) (fun hf=>?_)
      ·have hf:(ftF t n y sb mb).x.failed =true:=hf
       dsimp only at geq
       rw [hf,cond_true,List.append_nil]at geq
       rw [geq]at hK
       exact hK
      ·have hf:(ftF t n y sb mb).x.failed =false:=hf
       dsimp only at geq
       rw [hf,cond_false]at geq
       refine⟨⟨rfl,rfl,by omega⟩,aP (H:=sI t n most N T st s) (i+1,R2++ [pW (ftF t n y sb mb).x],(ftF t n y sb mb).st,(ftF t n y sb mb).s) ?_ ⟨⟨hi',by show(R2++ [pW _]).length =i+1;rw [List.length_append,gl];rfl,gok.2 hf,?_⟩,by show T.length - (i+1)<T.length - i;omega⟩⟩
       ·simp only [e4,sI,List.length_append,List.length_singleton]
        rfl
       ·rw [geq]
        simp only [List.append_assoc,List.singleton_append]
     ·have hd:(ftF t n y sb mb).d =false:=hd
      rw [l8,hd,cond_false]at eqf
      exact aP (H:=HRc t n most N T st s i) (f,R2,sa,ma,(ftF t n y sb mb).x,(ftF t n y sb mb).st,(ftF t n y sb mb).s) rfl ⟨⟨i0,⟨g1,gl,by rw [hti,hdr];exact gok,by dsimp only;rw [hti,hdr,tO];exact geq⟩,okf.2 hd,by dsimp only;rw [hti,hg];exact eqf⟩,by show f<f+1;omega⟩
 ·have hi':T.length=i:=by omega
  rw [show T.drop i=[]from List.drop_eq_nil_of_le (by omega)]at eq1
  have eq1:frF t n most N T st s=(R++ [],true,st1,s1):=eq1
  rw [List.append_nil]at eq1
  rw [eq1]at hK
  exact hK
def C2(t n most:Int)(T:List (List Int))(st:STS)(s:MS):List (List Int)×Bool×STS×MS:=frF t n most 20000 T st s
def GJ(t n most:Int)(T:List (List Int))(st:STS)(s:MS):Prop:=zV t n most 20000 T st s
noncomputable def frS:aL Ob:=fun args h=>match args,h with
 | [.ptr 0 0,.ptr 2 0,.int .i64 most,.tslice 3 0 l 3],[e1,e2,some (.abs (.store t n st) []),some (.tab [some .i64,some .i64,some .i64] T)]=>(match fB 1 [e1,e2]with
   | some (l2,s)=>some (.pre ((l2=s.xs.length∧l=T.length)∧T.length≤1000000∧GJ t n most T st s) (.ret (.tup [.tslice 4 0 (C2 t n most T st s).1.length 3,.bool (C2 t n most T st s).2.1]) [bH 1 (C2 t n most T st s).2.2.2,bI (C2 t n most T st s).2.2.2,some (.abs (.store t n (C2 t n most T st s).2.2.1) []),some (.tab [some .i64,some .i64,some .i64] T),some (.tab [some .i64,none,some .i64] (C2 t n most T st s).1)]))
   | none=>none)
 | _,_=>none
theorem NE:sT' 31 frS:=by
 intro args h o ho K hK
 unfold frS at ho
 split at ho
 case h_2=>cases ho
 rename_i most l e1 e2 t n st T
 split at ho<;>cases ho
 rename_i l2 s hm
 obtain⟨⟨⟨hl2,rfl⟩,hT,ok⟩,hK⟩:=hK
 have hh:=cC hm hl2
 cases hh
 exact GK t n most 20000 T st s K (RW t n most 20000 T st s K hT ok hK)
noncomputable def ftRunZ:aL Ob:=fun args h=>match args,h with
 | [.ptr 0 0,.int .i64 most,.slice 2 0 1 1],[e1,e2,some (.cells [.iface 35 (.ptr 3 0)]),some (.abs (.fast t n x) [4]),some (.abs (.store t2 n2 st) [])]=>(match fB 1 [e1,e2]with
   | some (l,s)=>some (.pre ((l=s.xs.length∧t2=t∧n2=n)∧(0≤most∧most≤1000000)∧xK t n most.toNat x st s) (.ite (bQ t n most.toNat x st s).2.1 (.ret (.tup [.int .i64 ((bQ t n most.toNat x st s).1:Int),.bool true]) [bH 1 (bQ t n most.toNat x st s).2.2.2.2,bI (bQ t n most.toNat x st s).2.2.2.2,some (.cells [.iface 35 (.ptr 3 0)]),some (.cells [.ptr 4 0,.int .i64 (bQ t n most.toNat x st s).2.2.1.code,.bool (bQ t n most.toNat x st s).2.2.1.okk,.int .i64 (bQ t n most.toNat x st s).2.2.1.val,.bool (bQ t n most.toNat x st s).2.2.1.failed,.int .i64 (bQ t n most.toNat x st s).2.2.1.tries,.int .i64 (bQ t n most.toNat x st s).2.2.1.sh,.int .i64 (bQ t n most.toNat x st s).2.2.1.kd,.int .i64 (bQ t n most.toNat x st s).2.2.1.ky,.int .i64 (bQ t n most.toNat x st s).2.2.1.most,.int .i64 (bQ t n most.toNat x st s).2.2.1.at',.bool (bQ t n most.toNat x st s).2.2.1.p.now,.int .i64 (bQ t n most.toNat x st s).2.2.1.p.code,.bool (bQ t n most.toNat x st s).2.2.1.p.okk,.int .i64 (bQ t n most.toNat x st s).2.2.1.p.val,.int .i64 (bQ t n most.toNat x st s).2.2.1.p.addr,.int .u64 (bQ t n most.toNat x st s).2.2.1.p.old,.int .i64 (bQ t n most.toNat x st s).2.2.1.p.nxt,.bool (bQ t n most.toNat x st s).2.2.1.p.mark,.int .i64 (bQ t n most.toNat x st s).2.2.1.p.pops,.O,.O,.O]),some (.abs (.store t n (bQ t n most.toNat x st s).2.2.2.1) [])]) (.ret (.tup [.int .i64 ((bQ t n most.toNat x st s).1:Int),.bool false]) [bH 1 (bQ t n most.toNat x st s).2.2.2.2,bI (bQ t n most.toNat x st s).2.2.2.2,some (.cells [.iface 35 (.ptr 3 0)]),some (.abs (.fast t n (bQ t n most.toNat x st s).2.2.1) [4]),some (.abs (.store t n (bQ t n most.toNat x st s).2.2.2.1) [])])))
   | none=>none)
 | _,_=>none
theorem C4:sT' 20 ftRunZ:=by
 intro args h o ho K hK
 unfold ftRunZ at ho
 split at ho
 case h_2=>cases ho
 rename_i most e1 e2 t n x t2 n2 st
 split at ho<;>cases ho
 rename_i l s hm
 obtain⟨⟨⟨hl,rfl,rfl⟩,hb,ok⟩,hK⟩:=hK
 unfold xK at ok
 unfold bQ at hK
 have hh:=cC hm hl
 cases hh
 refine tS t2 n2 most.toNat most x st s _ (NH t2 n2 most.toNat most x st s _ (by omega) (by omega) ok ?_)
 generalize cH t2 n2 most.toNat x st s=r at hK⊢
 obtain⟨c,b,y,sy,my⟩:=r
 cases b with
 | true=>exact hK
 | false=>exact hK
def stNewZ:aL Ob:=fun args h=>match args,h with
 | [.agg [.int .i64 t,.int .i64 n],.int .i64 me],[]=>some (.pre True (.ret (.ptr 0 0) [some (.abs (.store t n ⟨me,0,[]⟩) [])]))
 | _,_=>none
theorem D3:sT' 19 stNewZ:=by
 intro args h o ho K hK
 unfold stNewZ at ho
 split at ho<;>cases ho
 rename_i t n me
 obtain⟨_,hK⟩:=hK
 refine aC.pack (tb:=tbl) ?_
 refine yE [.agg [.int .i64 t,.int .i64 n],.int .i64 me] [] _ rfl _ ⟨trivial,⟨[0,1],[some (.abs (.store t n ⟨me,0,[]⟩) [])],.store t n ⟨me,0,[]⟩,0,0,jD t n ⟨me,0,[]⟩,[],by kernel_rfl,by kernel_rfl,rfl,rfl,hK⟩⟩
noncomputable def runZ:aL Ob:=ftRunZ
theorem LY:sT' 20 runZ:=C4
noncomputable def EFs:=((EFr.addS 19 stNewZ D3).addS 20 runZ LY).addS 31 (aL.or frS (cU [(.slot 3,.tab [some .i64,some .i64,some .i64])] frS)) (WT NE (cD NE))
def uT(K:AVal→aB Ob→Prop):Prop:=True∧bif !lO 1 3 then K (.bool false) []else(((0:Int)≤(1:Int)∧(1:Int)≤(100000:Int))∧(0:Int)≤(3:Int)∧(3:Int)≤(100000:Int))∧((((0:Int)≤(1:Int)∧(1:Int)≤(100000:Int))∧(0:Int)≤(3:Int)∧(3:Int)≤(100000:Int))∧True)∧((0:Int)≤(2:Int)*3+5*1+6∧2*3+5*1+(6:Int)=(2:Int)*3+5*1+6∧2*3+5*1+(6:Int)≤(4294967296:Int))∧True∧nT 1 3 4 5 0 0 {me:=0,sp:=0,R:=[] } ∧((17=17∧(1:Int)=(1:Int)∧(3:Int)=(3:Int))∧((0:Int)≤(9:Int)∧(9:Int)≤(1000000:Int))∧xK 1 3 9 (bG 1 3 4 5 0 0 {me:=0,sp:=0,R:=[] }).1 (bG 1 3 4 5 0 0 {me:=0,sp:=0,R:=[] }).2 {t:=1,n:=3,xs:=List.replicate (Int.toNat (2*3+5*1+6)) 0,c:=0,k:=0,a:=0,o:=0,w:=0,ok:=false})∧bif (Prod.snd (bQ 1 3 9 (bG 1 3 4 5 0 0 {me:=0,sp:=0,R:=[] }).1 (bG 1 3 4 5 0 0 {me:=0,sp:=0,R:=[] }).2 {t:=1,n:=3,xs:=List.replicate (Int.toNat (2*3+5*1+6)) 0,c:=0,k:=0,a:=0,o:=0,w:=0,ok:=false})).1 then((lE' (Prod.snd (Prod.snd (bQ 1 3 9 (bG 1 3 4 5 0 0 {me:=0,sp:=0,R:=[] }).1 (bG 1 3 4 5 0 0 {me:=0,sp:=0,R:=[] }).2 {t:=1,n:=3,xs:=List.replicate (Int.toNat (2*3+5*1+6)) 0,c:=0,k:=0,a:=0,o:=0,w:=0,ok:=false}).2).2).3∧2=2)∧List.length [[4,4,8],[4,5,0]]≤(1000000:Nat)∧GJ 1 3 0 [[4,4,8],[4,5,0]] (Prod.snd (Prod.snd (bQ 1 3 9 (bG 1 3 4 5 0 0 {me:=0,sp:=0,R:=[] }).1 (bG 1 3 4 5 0 0 {me:=0,sp:=0,R:=[] }).2 {t:=1,n:=3,xs:=List.replicate (Int.toNat (2*3+5*1+6)) 0,c:=0,k:=0,a:=0,o:=0,w:=0,ok:=false})).2).1 (Prod.snd (bQ 1 3 9 (bG 1 3 4 5 0 0 {me:=0,sp:=0,R:=[] }).1 (bG 1 3 4 5 0 0 {me:=0,sp:=0,R:=[] }).2 {t:=1,n:=3,xs:=List.replicate (Int.toNat (2*3+5*1+6)) 0,c:=0,k:=0,a:=0,o:=0,w:=0,ok:=false}).2).2.2)∧bif ieq (↑(bQ 1 3 9 (bG 1 3 4 5 0 0 {me:=0,sp:=0,R:=[] }).1 (bG 1 3 4 5 0 0 {me:=0,sp:=0,R:=[] }).2 {t:=1,n:=3,xs:=List.replicate (Int.toNat (2*3+5*1+6)) 0,c:=0,k:=0,a:=0,o:=0,w:=0,ok:=false}).1:Int) 1 then bif !(Prod.fst (Prod.snd (bQ 1 3 9 (bG 1 3 4 5 0 0 {me:=0,sp:=0,R:=[] }).1 (bG 1 3 4 5 0 0 {me:=0,sp:=0,R:=[] }).2 {t:=1,n:=3,xs:=List.replicate (Int.toNat (2*3+5*1+6)) 0,c:=0,k:=0,a:=0,o:=0,w:=0,ok:=false})).2).4 then bif bif ieq (Prod.fst (Prod.snd (bQ 1 3 9 (bG 1 3 4 5 0 0 {me:=0,sp:=0,R:=[] }).1 (bG 1 3 4 5 0 0 {me:=0,sp:=0,R:=[] }).2 {t:=1,n:=3,xs:=List.replicate (Int.toNat (2*3+5*1+6)) 0,c:=0,k:=0,a:=0,o:=0,w:=0,ok:=false})).2).1 0 then bif !(Prod.fst (Prod.snd (bQ 1 3 9 (bG 1 3 4 5 0 0 {me:=0,sp:=0,R:=[] }).1 (bG 1 3 4 5 0 0 {me:=0,sp:=0,R:=[] }).2 {t:=1,n:=3,xs:=List.replicate (Int.toNat (2*3+5*1+6)) 0,c:=0,k:=0,a:=0,o:=0,w:=0,ok:=false})).2).2 then bif ieq (Prod.fst (Prod.snd (bQ 1 3 9 (bG 1 3 4 5 0 0 {me:=0,sp:=0,R:=[] }).1 (bG 1 3 4 5 0 0 {me:=0,sp:=0,R:=[] }).2 {t:=1,n:=3,xs:=List.replicate (Int.toNat (2*3+5*1+6)) 0,c:=0,k:=0,a:=0,o:=0,w:=0,ok:=false})).2).3 0 then true else false else false else false then bif (Prod.snd (C2 1 3 0 [[4,4,8],[4,5,0]] (Prod.snd (Prod.snd (bQ 1 3 9 (bG 1 3 4 5 0 0 {me:=0,sp:=0,R:=[] }).1 (bG 1 3 4 5 0 0 {me:=0,sp:=0,R:=[] }).2 {t:=1,n:=3,xs:=List.replicate (Int.toNat (2*3+5*1+6)) 0,c:=0,k:=0,a:=0,o:=0,w:=0,ok:=false})).2).1 (Prod.snd (bQ 1 3 9 (bG 1 3 4 5 0 0 {me:=0,sp:=0,R:=[] }).1 (bG 1 3 4 5 0 0 {me:=0,sp:=0,R:=[] }).2 {t:=1,n:=3,xs:=List.replicate (Int.toNat (2*3+5*1+6)) 0,c:=0,k:=0,a:=0,o:=0,w:=0,ok:=false}).2).2.2)).1 then bif ieq (↑(List.length (C2 1 3 0 [[4,4,8],[4,5,0]] (Prod.snd (Prod.snd (bQ 1 3 9 (bG 1 3 4 5 0 0 {me:=0,sp:=0,R:=[] }).1 (bG 1 3 4 5 0 0 {me:=0,sp:=0,R:=[] }).2 {t:=1,n:=3,xs:=List.replicate (Int.toNat (2*3+5*1+6)) 0,c:=0,k:=0,a:=0,o:=0,w:=0,ok:=false})).2).1 (Prod.snd (bQ 1 3 9 (bG 1 3 4 5 0 0 {me:=0,sp:=0,R:=[] }).1 (bG 1 3 4 5 0 0 {me:=0,sp:=0,R:=[] }).2 {t:=1,n:=3,xs:=List.replicate (Int.toNat (2*3+5*1+6)) 0,c:=0,k:=0,a:=0,o:=0,w:=0,ok:=false}).2).2.2).1):Int) 2 then((0:Int)≤(1:Int)∧(1:Int)<(↑(List.length (C2 1 3 0 [[4,4,8],[4,5,0]] (Prod.snd (Prod.snd (bQ 1 3 9 (bG 1 3 4 5 0 0 {me:=0,sp:=0,R:=[] }).1 (bG 1 3 4 5 0 0 {me:=0,sp:=0,R:=[] }).2 {t:=1,n:=3,xs:=List.replicate (Int.toNat (2*3+5*1+6)) 0,c:=0,k:=0,a:=0,o:=0,w:=0,ok:=false})).2).1 (Prod.snd (bQ 1 3 9 (bG 1 3 4 5 0 0 {me:=0,sp:=0,R:=[] }).1 (bG 1 3 4 5 0 0 {me:=0,sp:=0,R:=[] }).2 {t:=1,n:=3,xs:=List.replicate (Int.toNat (2*3+5*1+6)) 0,c:=0,k:=0,a:=0,o:=0,w:=0,ok:=false}).2).2.2).1):Int))∧0+Int.toNat (1:Int)<List.length (C2 1 3 0 [[4,4,8],[4,5,0]] (Prod.snd (Prod.snd (bQ 1 3 9 (bG 1 3 4 5 0 0 {me:=0,sp:=0,R:=[] }).1 (bG 1 3 4 5 0 0 {me:=0,sp:=0,R:=[] }).2 {t:=1,n:=3,xs:=List.replicate (Int.toNat (2*3+5*1+6)) 0,c:=0,k:=0,a:=0,o:=0,w:=0,ok:=false})).2).1 (Prod.snd (bQ 1 3 9 (bG 1 3 4 5 0 0 {me:=0,sp:=0,R:=[] }).1 (bG 1 3 4 5 0 0 {me:=0,sp:=0,R:=[] }).2 {t:=1,n:=3,xs:=List.replicate (Int.toNat (2*3+5*1+6)) 0,c:=0,k:=0,a:=0,o:=0,w:=0,ok:=false}).2).2.2).1∧K (.bool (bif ieq (List.headD (List.getD (C2 1 3 0 [[4,4,8],[4,5,0]] (Prod.snd (Prod.snd (bQ 1 3 9 (bG 1 3 4 5 0 0 {me:=0,sp:=0,R:=[] }).1 (bG 1 3 4 5 0 0 {me:=0,sp:=0,R:=[] }).2 {t:=1,n:=3,xs:=List.replicate (Int.toNat (2*3+5*1+6)) 0,c:=0,k:=0,a:=0,o:=0,w:=0,ok:=false})).2).1 (Prod.snd (bQ 1 3 9 (bG 1 3 4 5 0 0 {me:=0,sp:=0,R:=[] }).1 (bG 1 3 4 5 0 0 {me:=0,sp:=0,R:=[] }).2 {t:=1,n:=3,xs:=List.replicate (Int.toNat (2*3+5*1+6)) 0,c:=0,k:=0,a:=0,o:=0,w:=0,ok:=false}).2).2.2).1 (0+Int.toNat 1) []) 0) 0 then bif bif !ieq (List.headD (List.tail (List.getD (C2 1 3 0 [[4,4,8],[4,5,0]] (Prod.snd (Prod.snd (bQ 1 3 9 (bG 1 3 4 5 0 0 {me:=0,sp:=0,R:=[] }).1 (bG 1 3 4 5 0 0 {me:=0,sp:=0,R:=[] }).2 {t:=1,n:=3,xs:=List.replicate (Int.toNat (2*3+5*1+6)) 0,c:=0,k:=0,a:=0,o:=0,w:=0,ok:=false})).2).1 (Prod.snd (bQ 1 3 9 (bG 1 3 4 5 0 0 {me:=0,sp:=0,R:=[] }).1 (bG 1 3 4 5 0 0 {me:=0,sp:=0,R:=[] }).2 {t:=1,n:=3,xs:=List.replicate (Int.toNat (2*3+5*1+6)) 0,c:=0,k:=0,a:=0,o:=0,w:=0,ok:=false}).2).2.2).1 (0+Int.toNat 1) [])) 0) 0 then true else false then bif ieq (List.headD (List.tail (List.tail (List.getD (C2 1 3 0 [[4,4,8],[4,5,0]] (Prod.snd (Prod.snd (bQ 1 3 9 (bG 1 3 4 5 0 0 {me:=0,sp:=0,R:=[] }).1 (bG 1 3 4 5 0 0 {me:=0,sp:=0,R:=[] }).2 {t:=1,n:=3,xs:=List.replicate (Int.toNat (2*3+5*1+6)) 0,c:=0,k:=0,a:=0,o:=0,w:=0,ok:=false})).2).1 (Prod.snd (bQ 1 3 9 (bG 1 3 4 5 0 0 {me:=0,sp:=0,R:=[] }).1 (bG 1 3 4 5 0 0 {me:=0,sp:=0,R:=[] }).2 {t:=1,n:=3,xs:=List.replicate (Int.toNat (2*3+5*1+6)) 0,c:=0,k:=0,a:=0,o:=0,w:=0,ok:=false}).2).2.2).1 (0+Int.toNat 1) []))) 0) 8 then true else false else false else false)) []else K (.bool false) []else K (.bool false) []else K (.bool false) []else K (.bool false) []else K (.bool false) []else((lE' (Prod.snd (Prod.snd (bQ 1 3 9 (bG 1 3 4 5 0 0 {me:=0,sp:=0,R:=[] }).1 (bG 1 3 4 5 0 0 {me:=0,sp:=0,R:=[] }).2 {t:=1,n:=3,xs:=List.replicate (Int.toNat (2*3+5*1+6)) 0,c:=0,k:=0,a:=0,o:=0,w:=0,ok:=false}).2).2).3∧2=2)∧List.length [[4,4,8],[4,5,0]]≤(1000000:Nat)∧GJ 1 3 0 [[4,4,8],[4,5,0]] (Prod.snd (Prod.snd (bQ 1 3 9 (bG 1 3 4 5 0 0 {me:=0,sp:=0,R:=[] }).1 (bG 1 3 4 5 0 0 {me:=0,sp:=0,R:=[] }).2 {t:=1,n:=3,xs:=List.replicate (Int.toNat (2*3+5*1+6)) 0,c:=0,k:=0,a:=0,o:=0,w:=0,ok:=false})).2).1 (Prod.snd (bQ 1 3 9 (bG 1 3 4 5 0 0 {me:=0,sp:=0,R:=[] }).1 (bG 1 3 4 5 0 0 {me:=0,sp:=0,R:=[] }).2 {t:=1,n:=3,xs:=List.replicate (Int.toNat (2*3+5*1+6)) 0,c:=0,k:=0,a:=0,o:=0,w:=0,ok:=false}).2).2.2)∧bif ieq (↑(bQ 1 3 9 (bG 1 3 4 5 0 0 {me:=0,sp:=0,R:=[] }).1 (bG 1 3 4 5 0 0 {me:=0,sp:=0,R:=[] }).2 {t:=1,n:=3,xs:=List.replicate (Int.toNat (2*3+5*1+6)) 0,c:=0,k:=0,a:=0,o:=0,w:=0,ok:=false}).1:Int) 1 then K (.bool false) []else K (.bool false) []
theorem zD(K:AVal→aB Ob→Prop)(h:uT K):cT' 14 [] [] K:=by
 refine VV (cM' (E:=EFs) (by kernel_rfl) h)
set_option maxRecDepth 100000 in
theorem JE(K:AVal→aB Ob→Prop)(hK:K (.bool true) []):uT K:=by
 unfold uT
 with_unfolding_all repeat' (first | exact hK | trivial | decide | apply And.intro | apply okE.mk | apply okAl.mk | (intro h;exact absurd h (by decide)) | intro _)
def aw18S:aL Ob:=fun args h=>match args,h with
 | [],[]=>some (.pre True (.ret (.bool true) ([])))
 | _,_=>none
theorem JD:sT' 14 aw18S:=by
 intro args h o ho K hK
 unfold aw18S at ho
 split at ho
 case h_2=>cases ho
 simp only [sI']at ho;subst ho
 obtain⟨_,hK⟩:=hK
 exact zD K (JE K hK)
noncomputable def EFt:=EFs.addS 14 aw18S JD
structure FWX where
 i:Nat
 x:FTS
 st:STS
 s:MS
 A:List (List Int)
def yL(p:Nat)(fa fx:Nat→Int)(t n:Int)(ok:FWX→Prop):Hint Ob:= {X:=FWX,st:=fun x=>([.ptr 0 0,.iface 35 (.ptr 2 0),.view p 2 (fun i=>[.int .i64 (fa i),.int .u64 (fx i)]),.int .i64 300,.O,.O,.O,.O,.O,.O,.O,.ptr 4 0,.int .i64 (x.i:Int)]++List.replicate 50 .O,mH x.s++ [some (.abs (.fast t n x.x) [3]),some (.abs (.store t n x.st) []),some (.cells [.tslice 5 0 x.A.length 5,.int .i64 0,.bool false,.bool false]),some (.tab [some .i64,some .i64,some .u64,some .u64,none] x.A)]),ok:=ok,mu:=fun x=>300 - x.i,keep:=[0,1,2,3,11,12],casts:=[(.cell 4 0,.tab [some .i64,some .i64,some .u64,some .u64,none])] }
def K2(p:Nat)(fa fx:Nat→Int)(t n:Int)(x0:FTS)(st0:STS)(s:MS)(ok:FWX→Prop)(K:AVal→aB Ob→Prop):Prop:=cP (yL p fa fx t n ok) (Hint.ok (yL p fa fx t n ok)) [.ptr 0 0,.iface 35 (.ptr 2 0),.view p 2 fun i=>[.int .i64 (fa i),.int .u64 (fx i)],.int .i64 300,.O,.O,.O,.O,.O,.O,.O,.ptr 4 0,.int .i64 0,.O,.O,.O,.O,.O,.O,.O,.O,.O,.O,.O,.O,.O,.O,.O,.O,.O,.O,.O,.O,.O,.O,.O,.O,.O,.O,.O,.O,.O,.O,.O,.O,.O,.O,.O,.O,.O,.O,.O,.O,.O,.O,.O,.O,.O,.O,.O,.O,.O,.O] [some (.cells [.int .i64 s.1,.int .i64 s.2,.slice 1 0 (List.length s.3) 1,.int .i64 s.4,.int .i64 s.5,.int .i64 s.6,.int .u64 s.7,.int .u64 s.8,.bool s.9]),some (.ints (some .u64) s.3),some (.abs (.fast t n x0) [3]),some (.abs (.store t n st0) []),some (.cells [.tslice 5 0 0 5,.int .i64 0,.bool false,.bool false]),some (.tab [some .i64,some .i64,some .u64,some .u64,none] [])]∧ ∀(x:FWX),ok x→bif ilt (↑x.1:Int) 300 then bif ilt (↑x.1:Int) (↑p:Int)then((0:Int)≤(↑x.1:Int)∧(↑x.1:Int)<(↑p:Int))∧((0:Int)≤(↑x.1:Int)∧(↑x.1:Int)<(↑p:Int))∧((lE' (FWX.s x).3∧(0:Int)≤(FWX.s x).4∧(FWX.s x).4≤(4611686018427387904:Int))∧True)∧(lE' (aZ (FWX.s x).3 (fa (Int.toNat (↑x.1:Int))) (fx (Int.toNat (↑x.1:Int))))∧True)∧((lE' (aZ (FWX.s x).3 (fa (Int.toNat (↑x.1:Int))) (fx (Int.toNat (↑x.1:Int))))∧t=t∧n=n)∧ftOk t n x.2 x.3 (MS.stored (FWX.s x) (fa (Int.toNat (↑x.1:Int))) (fx (Int.toNat (↑x.1:Int)))))∧bif (ftF t n x.2 x.3 (MS.stored (FWX.s x) (fa (Int.toNat (↑x.1:Int))) (fx (Int.toNat (↑x.1:Int))))).1 then(lE' (FtO.s (ftF t n x.2 x.3 (MS.stored (FWX.s x) (fa (Int.toNat (↑x.1:Int))) (fx (Int.toNat (↑x.1:Int)))))).3∧True)∧bif !ieq (FtO.s (ftF t n x.2 x.3 (MS.stored (FWX.s x) (fa (Int.toNat (↑x.1:Int))) (fx (Int.toNat (↑x.1:Int)))))).4 (W ((FWX.s x).4+1+1))then K (.tup [.ptr 4 0,.bool false,.bool false]) [some (.cells [.int .i64 (FtO.s (ftF t n x.2 x.3 (MS.stored (FWX.s x) (fa (Int.toNat (↑x.1:Int))) (fx (Int.toNat (↑x.1:Int)))))).1,.int .i64 (FtO.s (ftF t n x.2 x.3 (MS.stored (FWX.s x) (fa (Int.toNat (↑x.1:Int))) (fx (Int.toNat (↑x.1:Int)))))).2,.slice 1 0 (List.length (FtO.s (ftF t n x.2 x.3 (MS.stored (FWX.s x) (fa (Int.toNat (↑x.1:Int))) (fx (Int.toNat (↑x.1:Int)))))).3) 1,.int .i64 (FtO.s (ftF t n x.2 x.3 (MS.stored (FWX.s x) (fa (Int.toNat (↑x.1:Int))) (fx (Int.toNat (↑x.1:Int)))))).4,.int .i64 (FtO.s (ftF t n x.2 x.3 (MS.stored (FWX.s x) (fa (Int.toNat (↑x.1:Int))) (fx (Int.toNat (↑x.1:Int)))))).5,.int .i64 (FtO.s (ftF t n x.2 x.3 (MS.stored (FWX.s x) (fa (Int.toNat (↑x.1:Int))) (fx (Int.toNat (↑x.1:Int)))))).6,.int .u64 (FtO.s (ftF t n x.2 x.3 (MS.stored (FWX.s x) (fa (Int.toNat (↑x.1:Int))) (fx (Int.toNat (↑x.1:Int)))))).7,.int .u64 (FtO.s (ftF t n x.2 x.3 (MS.stored (FWX.s x) (fa (Int.toNat (↑x.1:Int))) (fx (Int.toNat (↑x.1:Int)))))).8,.bool (FtO.s (ftF t n x.2 x.3 (MS.stored (FWX.s x) (fa (Int.toNat (↑x.1:Int))) (fx (Int.toNat (↑x.1:Int)))))).9]),some (.ints (some .u64) (FtO.s (ftF t n x.2 x.3 (MS.stored (FWX.s x) (fa (Int.toNat (↑x.1:Int))) (fx (Int.toNat (↑x.1:Int)))))).3),some (.cells [.ptr 3 0,.int .i64 (FtO.x (ftF t n x.2 x.3 (MS.stored (FWX.s x) (fa (Int.toNat (↑x.1:Int))) (fx (Int.toNat (↑x.1:Int)))))).1,.bool (FtO.x (ftF t n x.2 x.3 (MS.stored (FWX.s x) (fa (Int.toNat (↑x.1:Int))) (fx (Int.toNat (↑x.1:Int)))))).2,.int .i64 (FtO.x (ftF t n x.2 x.3 (MS.stored (FWX.s x) (fa (Int.toNat (↑x.1:Int))) (fx (Int.toNat (↑x.1:Int)))))).3,.bool (FtO.x (ftF t n x.2 x.3 (MS.stored (FWX.s x) (fa (Int.toNat (↑x.1:Int))) (fx (Int.toNat (↑x.1:Int)))))).4,.int .i64 (FtO.x (ftF t n x.2 x.3 (MS.stored (FWX.s x) (fa (Int.toNat (↑x.1:Int))) (fx (Int.toNat (↑x.1:Int)))))).5,.int .i64 (FtO.x (ftF t n x.2 x.3 (MS.stored (FWX.s x) (fa (Int.toNat (↑x.1:Int))) (fx (Int.toNat (↑x.1:Int)))))).6,.int .i64 (FtO.x (ftF t n x.2 x.3 (MS.stored (FWX.s x) (fa (Int.toNat (↑x.1:Int))) (fx (Int.toNat (↑x.1:Int)))))).7,.int .i64 (FtO.x (ftF t n x.2 x.3 (MS.stored (FWX.s x) (fa (Int.toNat (↑x.1:Int))) (fx (Int.toNat (↑x.1:Int)))))).8,.int .i64 (FtO.x (ftF t n x.2 x.3 (MS.stored (FWX.s x) (fa (Int.toNat (↑x.1:Int))) (fx (Int.toNat (↑x.1:Int)))))).9,.int .i64 (FtO.x (ftF t n x.2 x.3 (MS.stored (FWX.s x) (fa (Int.toNat (↑x.1:Int))) (fx (Int.toNat (↑x.1:Int)))))).10,.bool (FTS.p (ftF t n x.2 x.3 (MS.stored (FWX.s x) (fa (Int.toNat (↑x.1:Int))) (fx (Int.toNat (↑x.1:Int))))).2).1,.int .i64 (FTS.p (ftF t n x.2 x.3 (MS.stored (FWX.s x) (fa (Int.toNat (↑x.1:Int))) (fx (Int.toNat (↑x.1:Int))))).2).2,.bool (FTS.p (ftF t n x.2 x.3 (MS.stored (FWX.s x) (fa (Int.toNat (↑x.1:Int))) (fx (Int.toNat (↑x.1:Int))))).2).3,.int .i64 (FTS.p (ftF t n x.2 x.3 (MS.stored (FWX.s x) (fa (Int.toNat (↑x.1:Int))) (fx (Int.toNat (↑x.1:Int))))).2).4,.int .i64 (FTS.p (ftF t n x.2 x.3 (MS.stored (FWX.s x) (fa (Int.toNat (↑x.1:Int))) (fx (Int.toNat (↑x.1:Int))))).2).5,.int .u64 (FTS.p (ftF t n x.2 x.3 (MS.stored (FWX.s x) (fa (Int.toNat (↑x.1:Int))) (fx (Int.toNat (↑x.1:Int))))).2).6,.int .i64 (FTS.p (ftF t n x.2 x.3 (MS.stored (FWX.s x) (fa (Int.toNat (↑x.1:Int))) (fx (Int.toNat (↑x.1:Int))))).2).7,.bool (FTS.p (ftF t n x.2 x.3 (MS.stored (FWX.s x) (fa (Int.toNat (↑x.1:Int))) (fx (Int.toNat (↑x.1:Int))))).2).8,.int .i64 (FTS.p (ftF t n x.2 x.3 (MS.stored (FWX.s x) (fa (Int.toNat (↑x.1:Int))) (fx (Int.toNat (↑x.1:Int))))).2).9,.O,.O,.O]),some (.abs (.store t n (ftF t n x.2 x.3 (MS.stored (FWX.s x) (fa (Int.toNat (↑x.1:Int))) (fx (Int.toNat (↑x.1:Int))))).3) []),some (.cells [.tslice 5 0 (List.length x.5) 5,.int .i64 0,.bool false,.bool false]),some (.tab [some .i64,some .i64,some .u64,some .u64,none] x.5)]else((lE' (FtO.s (ftF t n x.2 x.3 (MS.stored (FWX.s x) (fa (Int.toNat (↑x.1:Int))) (fx (Int.toNat (↑x.1:Int)))))).3∧True)∧True)∧(0=0∧lE' x.5∧List.length x.5+(1:Nat)≤(4294967296:Nat))∧K (.tup [.ptr 4 0,.bool true,.bool true]) [some (.cells [.int .i64 (FtO.s (ftF t n x.2 x.3 (MS.stored (FWX.s x) (fa (Int.toNat (↑x.1:Int))) (fx (Int.toNat (↑x.1:Int)))))).1,.int .i64 (FtO.s (ftF t n x.2 x.3 (MS.stored (FWX.s x) (fa (Int.toNat (↑x.1:Int))) (fx (Int.toNat (↑x.1:Int)))))).2,.slice 1 0 (List.length (FtO.s (ftF t n x.2 x.3 (MS.stored (FWX.s x) (fa (Int.toNat (↑x.1:Int))) (fx (Int.toNat (↑x.1:Int)))))).3) 1,.int .i64 (FtO.s (ftF t n x.2 x.3 (MS.stored (FWX.s x) (fa (Int.toNat (↑x.1:Int))) (fx (Int.toNat (↑x.1:Int)))))).4,.int .i64 (FtO.s (ftF t n x.2 x.3 (MS.stored (FWX.s x) (fa (Int.toNat (↑x.1:Int))) (fx (Int.toNat (↑x.1:Int)))))).5,.int .i64 (FtO.s (ftF t n x.2 x.3 (MS.stored (FWX.s x) (fa (Int.toNat (↑x.1:Int))) (fx (Int.toNat (↑x.1:Int)))))).6,.int .u64 (FtO.s (ftF t n x.2 x.3 (MS.stored (FWX.s x) (fa (Int.toNat (↑x.1:Int))) (fx (Int.toNat (↑x.1:Int)))))).7,.int .u64 (FtO.s (ftF t n x.2 x.3 (MS.stored (FWX.s x) (fa (Int.toNat (↑x.1:Int))) (fx (Int.toNat (↑x.1:Int)))))).8,.bool (FtO.s (ftF t n x.2 x.3 (MS.stored (FWX.s x) (fa (Int.toNat (↑x.1:Int))) (fx (Int.toNat (↑x.1:Int)))))).9]),some (.ints (some .u64) (FtO.s (ftF t n x.2 x.3 (MS.stored (FWX.s x) (fa (Int.toNat (↑x.1:Int))) (fx (Int.toNat (↑x.1:Int)))))).3),some (.cells [.ptr 3 0,.int .i64 (FtO.x (ftF t n x.2 x.3 (MS.stored (FWX.s x) (fa (Int.toNat (↑x.1:Int))) (fx (Int.toNat (↑x.1:Int)))))).1,.bool (FtO.x (ftF t n x.2 x.3 (MS.stored (FWX.s x) (fa (Int.toNat (↑x.1:Int))) (fx (Int.toNat (↑x.1:Int)))))).2,.int .i64 (FtO.x (ftF t n x.2 x.3 (MS.stored (FWX.s x) (fa (Int.toNat (↑x.1:Int))) (fx (Int.toNat (↑x.1:Int)))))).3,.bool (FtO.x (ftF t n x.2 x.3 (MS.stored (FWX.s x) (fa (Int.toNat (↑x.1:Int))) (fx (Int.toNat (↑x.1:Int)))))).4,.int .i64 (FtO.x (ftF t n x.2 x.3 (MS.stored (FWX.s x) (fa (Int.toNat (↑x.1:Int))) (fx (Int.toNat (↑x.1:Int)))))).5,.int .i64 (FtO.x (ftF t n x.2 x.3 (MS.stored (FWX.s x) (fa (Int.toNat (↑x.1:Int))) (fx (Int.toNat (↑x.1:Int)))))).6,.int .i64 (FtO.x (ftF t n x.2 x.3 (MS.stored (FWX.s x) (fa (Int.toNat (↑x.1:Int))) (fx (Int.toNat (↑x.1:Int)))))).7,.int .i64 (FtO.x (ftF t n x.2 x.3 (MS.stored (FWX.s x) (fa (Int.toNat (↑x.1:Int))) (fx (Int.toNat (↑x.1:Int)))))).8,.int .i64 (FtO.x (ftF t n x.2 x.3 (MS.stored (FWX.s x) (fa (Int.toNat (↑x.1:Int))) (fx (Int.toNat (↑x.1:Int)))))).9,.int .i64 (FtO.x (ftF t n x.2 x.3 (MS.stored (FWX.s x) (fa (Int.toNat (↑x.1:Int))) (fx (Int.toNat (↑x.1:Int)))))).10,.bool (FTS.p (ftF t n x.2 x.3 (MS.stored (FWX.s x) (fa (Int.toNat (↑x.1:Int))) (fx (Int.toNat (↑x.1:Int))))).2).1,.int .i64 (FTS.p (ftF t n x.2 x.3 (MS.stored (FWX.s x) (fa (Int.toNat (↑x.1:Int))) (fx (Int.toNat (↑x.1:Int))))).2).2,.bool (FTS.p (ftF t n x.2 x.3 (MS.stored (FWX.s x) (fa (Int.toNat (↑x.1:Int))) (fx (Int.toNat (↑x.1:Int))))).2).3,.int .i64 (FTS.p (ftF t n x.2 x.3 (MS.stored (FWX.s x) (fa (Int.toNat (↑x.1:Int))) (fx (Int.toNat (↑x.1:Int))))).2).4,.int .i64 (FTS.p (ftF t n x.2 x.3 (MS.stored (FWX.s x) (fa (Int.toNat (↑x.1:Int))) (fx (Int.toNat (↑x.1:Int))))).2).5,.int .u64 (FTS.p (ftF t n x.2 x.3 (MS.stored (FWX.s x) (fa (Int.toNat (↑x.1:Int))) (fx (Int.toNat (↑x.1:Int))))).2).6,.int .i64 (FTS.p (ftF t n x.2 x.3 (MS.stored (FWX.s x) (fa (Int.toNat (↑x.1:Int))) (fx (Int.toNat (↑x.1:Int))))).2).7,.bool (FTS.p (ftF t n x.2 x.3 (MS.stored (FWX.s x) (fa (Int.toNat (↑x.1:Int))) (fx (Int.toNat (↑x.1:Int))))).2).8,.int .i64 (FTS.p (ftF t n x.2 x.3 (MS.stored (FWX.s x) (fa (Int.toNat (↑x.1:Int))) (fx (Int.toNat (↑x.1:Int))))).2).9,.O,.O,.O]),some (.abs (.store t n (ftF t n x.2 x.3 (MS.stored (FWX.s x) (fa (Int.toNat (↑x.1:Int))) (fx (Int.toNat (↑x.1:Int))))).3) []),some (.cells [.tslice 5 0 (List.length x.5+1) 5,.int .i64 0,.bool false,.bool false]),some (.tab [some .i64,some .i64,some .u64,some .u64,none] (x.5++ [[(FtO.s (ftF t n x.2 x.3 (MS.stored (FWX.s x) (fa (Int.toNat (↑x.1:Int))) (fx (Int.toNat (↑x.1:Int)))))).5,(FtO.s (ftF t n x.2 x.3 (MS.stored (FWX.s x) (fa (Int.toNat (↑x.1:Int))) (fx (Int.toNat (↑x.1:Int)))))).6,(FtO.s (ftF t n x.2 x.3 (MS.stored (FWX.s x) (fa (Int.toNat (↑x.1:Int))) (fx (Int.toNat (↑x.1:Int)))))).7,(FtO.s (ftF t n x.2 x.3 (MS.stored (FWX.s x) (fa (Int.toNat (↑x.1:Int))) (fx (Int.toNat (↑x.1:Int)))))).8,bif (FtO.s (ftF t n x.2 x.3 (MS.stored (FWX.s x) (fa (Int.toNat (↑x.1:Int))) (fx (Int.toNat (↑x.1:Int)))))).9 then 1 else 0]]))]else(lE' (FtO.s (ftF t n x.2 x.3 (MS.stored (FWX.s x) (fa (Int.toNat (↑x.1:Int))) (fx (Int.toNat (↑x.1:Int)))))).3∧True)∧bif !ieq (FtO.s (ftF t n x.2 x.3 (MS.stored (FWX.s x) (fa (Int.toNat (↑x.1:Int))) (fx (Int.toNat (↑x.1:Int)))))).4 (W ((FWX.s x).4+1+1))then K (.tup [.ptr 4 0,.bool false,.bool false]) [some (.cells [.int .i64 (FtO.s (ftF t n x.2 x.3 (MS.stored (FWX.s x) (fa (Int.toNat (↑x.1:Int))) (fx (Int.toNat (↑x.1:Int)))))).1,.int .i64 (FtO.s (ftF t n x.2 x.3 (MS.stored (FWX.s x) (fa (Int.toNat (↑x.1:Int))) (fx (Int.toNat (↑x.1:Int)))))).2,.slice 1 0 (List.length (FtO.s (ftF t n x.2 x.3 (MS.stored (FWX.s x) (fa (Int.toNat (↑x.1:Int))) (fx (Int.toNat (↑x.1:Int)))))).3) 1,.int .i64 (FtO.s (ftF t n x.2 x.3 (MS.stored (FWX.s x) (fa (Int.toNat (↑x.1:Int))) (fx (Int.toNat (↑x.1:Int)))))).4,.int .i64 (FtO.s (ftF t n x.2 x.3 (MS.stored (FWX.s x) (fa (Int.toNat (↑x.1:Int))) (fx (Int.toNat (↑x.1:Int)))))).5,.int .i64 (FtO.s (ftF t n x.2 x.3 (MS.stored (FWX.s x) (fa (Int.toNat (↑x.1:Int))) (fx (Int.toNat (↑x.1:Int)))))).6,.int .u64 (FtO.s (ftF t n x.2 x.3 (MS.stored (FWX.s x) (fa (Int.toNat (↑x.1:Int))) (fx (Int.toNat (↑x.1:Int)))))).7,.int .u64 (FtO.s (ftF t n x.2 x.3 (MS.stored (FWX.s x) (fa (Int.toNat (↑x.1:Int))) (fx (Int.toNat (↑x.1:Int)))))).8,.bool (FtO.s (ftF t n x.2 x.3 (MS.stored (FWX.s x) (fa (Int.toNat (↑x.1:Int))) (fx (Int.toNat (↑x.1:Int)))))).9]),some (.ints (some .u64) (FtO.s (ftF t n x.2 x.3 (MS.stored (FWX.s x) (fa (Int.toNat (↑x.1:Int))) (fx (Int.toNat (↑x.1:Int)))))).3),some (.abs (.fast t n (ftF t n x.2 x.3 (MS.stored (FWX.s x) (fa (Int.toNat (↑x.1:Int))) (fx (Int.toNat (↑x.1:Int))))).2) [3]),some (.abs (.store t n (ftF t n x.2 x.3 (MS.stored (FWX.s x) (fa (Int.toNat (↑x.1:Int))) (fx (Int.toNat (↑x.1:Int))))).3) []),some (.cells [.tslice 5 0 (List.length x.5) 5,.int .i64 0,.bool false,.bool false]),some (.tab [some .i64,some .i64,some .u64,some .u64,none] x.5)]else((lE' (FtO.s (ftF t n x.2 x.3 (MS.stored (FWX.s x) (fa (Int.toNat (↑x.1:Int))) (fx (Int.toNat (↑x.1:Int)))))).3∧True)∧True)∧(0=0∧lE' x.5∧List.length x.5+(1:Nat)≤(4294967296:Nat))∧cP (yL p fa fx t n ok) (fun x'=>Hint.ok (yL p fa fx t n ok) x'∧Hint.mu (yL p fa fx t n ok) x'<Hint.mu (yL p fa fx t n ok) x) [.ptr 0 0,.iface 35 (.ptr 2 0),.view p 2 fun i=>[.int .i64 (fa i),.int .u64 (fx i)],.int .i64 300,.O,.O,.O,.O,.O,.O,.O,.ptr 4 0,.int .i64 (W ((↑x.1:Int)+1)),.O,.O,.O,.O,.O,.O,.O,.O,.O,.O,.O,.O,.O,.O,.O,.O,.O,.O,.O,.O,.O,.O,.O,.O,.O,.O,.O,.O,.O,.O,.O,.O,.O,.O,.O,.O,.O,.O,.O,.O,.O,.O,.O,.O,.O,.O,.O,.O,.O,.O] [some (.cells [.int .i64 (FtO.s (ftF t n x.2 x.3 (MS.stored (FWX.s x) (fa (Int.toNat (↑x.1:Int))) (fx (Int.toNat (↑x.1:Int)))))).1,.int .i64 (FtO.s (ftF t n x.2 x.3 (MS.stored (FWX.s x) (fa (Int.toNat (↑x.1:Int))) (fx (Int.toNat (↑x.1:Int)))))).2,.slice 1 0 (List.length (FtO.s (ftF t n x.2 x.3 (MS.stored (FWX.s x) (fa (Int.toNat (↑x.1:Int))) (fx (Int.toNat (↑x.1:Int)))))).3) 1,.int .i64 (FtO.s (ftF t n x.2 x.3 (MS.stored (FWX.s x) (fa (Int.toNat (↑x.1:Int))) (fx (Int.toNat (↑x.1:Int)))))).4,.int .i64 (FtO.s (ftF t n x.2 x.3 (MS.stored (FWX.s x) (fa (Int.toNat (↑x.1:Int))) (fx (Int.toNat (↑x.1:Int)))))).5,.int .i64 (FtO.s (ftF t n x.2 x.3 (MS.stored (FWX.s x) (fa (Int.toNat (↑x.1:Int))) (fx (Int.toNat (↑x.1:Int)))))).6,.int .u64 (FtO.s (ftF t n x.2 x.3 (MS.stored (FWX.s x) (fa (Int.toNat (↑x.1:Int))) (fx (Int.toNat (↑x.1:Int)))))).7,.int .u64 (FtO.s (ftF t n x.2 x.3 (MS.stored (FWX.s x) (fa (Int.toNat (↑x.1:Int))) (fx (Int.toNat (↑x.1:Int)))))).8,.bool (FtO.s (ftF t n x.2 x.3 (MS.stored (FWX.s x) (fa (Int.toNat (↑x.1:Int))) (fx (Int.toNat (↑x.1:Int)))))).9]),some (.ints (some .u64) (FtO.s (ftF t n x.2 x.3 (MS.stored (FWX.s x) (fa (Int.toNat (↑x.1:Int))) (fx (Int.toNat (↑x.1:Int)))))).3),some (.abs (.fast t n (ftF t n x.2 x.3 (MS.stored (FWX.s x) (fa (Int.toNat (↑x.1:Int))) (fx (Int.toNat (↑x.1:Int))))).2) [3]),some (.abs (.store t n (ftF t n x.2 x.3 (MS.stored (FWX.s x) (fa (Int.toNat (↑x.1:Int))) (fx (Int.toNat (↑x.1:Int))))).3) []),some (.cells [.tslice 5 0 (List.length x.5+1) 5,.int .i64 0,.bool false,.bool false]),some (.tab [some .i64,some .i64,some .u64,some .u64,none] (x.5++ [[(FtO.s (ftF t n x.2 x.3 (MS.stored (FWX.s x) (fa (Int.toNat (↑x.1:Int))) (fx (Int.toNat (↑x.1:Int)))))).5,(FtO.s (ftF t n x.2 x.3 (MS.stored (FWX.s x) (fa (Int.toNat (↑x.1:Int))) (fx (Int.toNat (↑x.1:Int)))))).6,(FtO.s (ftF t n x.2 x.3 (MS.stored (FWX.s x) (fa (Int.toNat (↑x.1:Int))) (fx (Int.toNat (↑x.1:Int)))))).7,(FtO.s (ftF t n x.2 x.3 (MS.stored (FWX.s x) (fa (Int.toNat (↑x.1:Int))) (fx (Int.toNat (↑x.1:Int)))))).8,bif (FtO.s (ftF t n x.2 x.3 (MS.stored (FWX.s x) (fa (Int.toNat (↑x.1:Int))) (fx (Int.toNat (↑x.1:Int)))))).9 then 1 else 0]]))]else(lE' (FWX.s x).3∧True)∧((lE' (FWX.s x).3∧t=t∧n=n)∧ftOk t n x.2 x.3 x.4)∧bif (ftF t n x.2 x.3 x.4).1 then(lE' (FtO.s (ftF t n x.2 x.3 x.4)).3∧True)∧bif !ieq (FtO.s (ftF t n x.2 x.3 x.4)).4 (W ((FWX.s x).4+1))then K (.tup [.ptr 4 0,.bool false,.bool false]) [some (.cells [.int .i64 (FtO.s (ftF t n x.2 x.3 x.4)).1,.int .i64 (FtO.s (ftF t n x.2 x.3 x.4)).2,.slice 1 0 (List.length (FtO.s (ftF t n x.2 x.3 x.4)).3) 1,.int .i64 (FtO.s (ftF t n x.2 x.3 x.4)).4,.int .i64 (FtO.s (ftF t n x.2 x.3 x.4)).5,.int .i64 (FtO.s (ftF t n x.2 x.3 x.4)).6,.int .u64 (FtO.s (ftF t n x.2 x.3 x.4)).7,.int .u64 (FtO.s (ftF t n x.2 x.3 x.4)).8,.bool (FtO.s (ftF t n x.2 x.3 x.4)).9]),some (.ints (some .u64) (FtO.s (ftF t n x.2 x.3 x.4)).3),some (.cells [.ptr 3 0,.int .i64 (FtO.x (ftF t n x.2 x.3 x.4)).1,.bool (FtO.x (ftF t n x.2 x.3 x.4)).2,.int .i64 (FtO.x (ftF t n x.2 x.3 x.4)).3,.bool (FtO.x (ftF t n x.2 x.3 x.4)).4,.int .i64 (FtO.x (ftF t n x.2 x.3 x.4)).5,.int .i64 (FtO.x (ftF t n x.2 x.3 x.4)).6,.int .i64 (FtO.x (ftF t n x.2 x.3 x.4)).7,.int .i64 (FtO.x (ftF t n x.2 x.3 x.4)).8,.int .i64 (FtO.x (ftF t n x.2 x.3 x.4)).9,.int .i64 (FtO.x (ftF t n x.2 x.3 x.4)).10,.bool (FTS.p (ftF t n x.2 x.3 x.4).2).1,.int .i64 (FTS.p (ftF t n x.2 x.3 x.4).2).2,.bool (FTS.p (ftF t n x.2 x.3 x.4).2).3,.int .i64 (FTS.p (ftF t n x.2 x.3 x.4).2).4,.int .i64 (FTS.p (ftF t n x.2 x.3 x.4).2).5,.int .u64 (FTS.p (ftF t n x.2 x.3 x.4).2).6,.int .i64 (FTS.p (ftF t n x.2 x.3 x.4).2).7,.bool (FTS.p (ftF t n x.2 x.3 x.4).2).8,.int .i64 (FTS.p (ftF t n x.2 x.3 x.4).2).9,.O,.O,.O]),some (.abs (.store t n (ftF t n x.2 x.3 x.4).3) []),some (.cells [.tslice 5 0 (List.length x.5) 5,.int .i64 0,.bool false,.bool false]),some (.tab [some .i64,some .i64,some .u64,some .u64,none] x.5)]else((lE' (FtO.s (ftF t n x.2 x.3 x.4)).3∧True)∧True)∧(0=0∧lE' x.5∧List.length x.5+(1:Nat)≤(4294967296:Nat))∧K (.tup [.ptr 4 0,.bool true,.bool true]) [some (.cells [.int .i64 (FtO.s (ftF t n x.2 x.3 x.4)).1,.int .i64 (FtO.s (ftF t n x.2 x.3 x.4)).2,.slice 1 0 (List.length (FtO.s (ftF t n x.2 x.3 x.4)).3) 1,.int .i64 (FtO.s (ftF t n x.2 x.3 x.4)).4,.int .i64 (FtO.s (ftF t n x.2 x.3 x.4)).5,.int .i64 (FtO.s (ftF t n x.2 x.3 x.4)).6,.int .u64 (FtO.s (ftF t n x.2 x.3 x.4)).7,.int .u64 (FtO.s (ftF t n x.2 x.3 x.4)).8,.bool (FtO.s (ftF t n x.2 x.3 x.4)).9]),some (.ints (some .u64) (FtO.s (ftF t n x.2 x.3 x.4)).3),some (.cells [.ptr 3 0,.int .i64 (FtO.x (ftF t n x.2 x.3 x.4)).1,.bool (FtO.x (ftF t n x.2 x.3 x.4)).2,.int .i64 (FtO.x (ftF t n x.2 x.3 x.4)).3,.bool (FtO.x (ftF t n x.2 x.3 x.4)).4,.int .i64 (FtO.x (ftF t n x.2 x.3 x.4)).5,.int .i64 (FtO.x (ftF t n x.2 x.3 x.4)).6,.int .i64 (FtO.x (ftF t n x.2 x.3 x.4)).7,.int .i64 (FtO.x (ftF t n x.2 x.3 x.4)).8,.int .i64 (FtO.x (ftF t n x.2 x.3 x.4)).9,.int .i64 (FtO.x (ftF t n x.2 x.3 x.4)).10,.bool (FTS.p (ftF t n x.2 x.3 x.4).2).1,.int .i64 (FTS.p (ftF t n x.2 x.3 x.4).2).2,.bool (FTS.p (ftF t n x.2 x.3 x.4).2).3,.int .i64 (FTS.p (ftF t n x.2 x.3 x.4).2).4,.int .i64 (FTS.p (ftF t n x.2 x.3 x.4).2).5,.int .u64 (FTS.p (ftF t n x.2 x.3 x.4).2).6,.int .i64 (FTS.p (ftF t n x.2 x.3 x.4).2).7,.bool (FTS.p (ftF t n x.2 x.3 x.4).2).8,.int .i64 (FTS.p (ftF t n x.2 x.3 x.4).2).9,.O,.O,.O]),some (.abs (.store t n (ftF t n x.2 x.3 x.4).3) []),some (.cells [.tslice 5 0 (List.length x.5+1) 5,.int .i64 0,.bool false,.bool false]),some (.tab [some .i64,some .i64,some .u64,some .u64,none] (x.5++ [[(FtO.s (ftF t n x.2 x.3 x.4)).5,(FtO.s (ftF t n x.2 x.3 x.4)).6,(FtO.s (ftF t n x.2 x.3 x.4)).7,(FtO.s (ftF t n x.2 x.3 x.4)).8,bif (FtO.s (ftF t n x.2 x.3 x.4)).9 then 1 else 0]]))]else(lE' (FtO.s (ftF t n x.2 x.3 x.4)).3∧True)∧bif !ieq (FtO.s (ftF t n x.2 x.3 x.4)).4 (W ((FWX.s x).4+1))then K (.tup [.ptr 4 0,.bool false,.bool false]) [some (.cells [.int .i64 (FtO.s (ftF t n x.2 x.3 x.4)).1,.int .i64 (FtO.s (ftF t n x.2 x.3 x.4)).2,.slice 1 0 (List.length (FtO.s (ftF t n x.2 x.3 x.4)).3) 1,.int .i64 (FtO.s (ftF t n x.2 x.3 x.4)).4,.int .i64 (FtO.s (ftF t n x.2 x.3 x.4)).5,.int .i64 (FtO.s (ftF t n x.2 x.3 x.4)).6,.int .u64 (FtO.s (ftF t n x.2 x.3 x.4)).7,.int .u64 (FtO.s (ftF t n x.2 x.3 x.4)).8,.bool (FtO.s (ftF t n x.2 x.3 x.4)).9]),some (.ints (some .u64) (FtO.s (ftF t n x.2 x.3 x.4)).3),some (.abs (.fast t n (ftF t n x.2 x.3 x.4).2) [3]),some (.abs (.store t n (ftF t n x.2 x.3 x.4).3) []),some (.cells [.tslice 5 0 (List.length x.5) 5,.int .i64 0,.bool false,.bool false]),some (.tab [some .i64,some .i64,some .u64,some .u64,none] x.5)]else((lE' (FtO.s (ftF t n x.2 x.3 x.4)).3∧True)∧True)∧(0=0∧lE' x.5∧List.length x.5+(1:Nat)≤(4294967296:Nat))∧cP (yL p fa fx t n ok) (fun x'=>Hint.ok (yL p fa fx t n ok) x'∧Hint.mu (yL p fa fx t n ok) x'<Hint.mu (yL p fa fx t n ok) x) [.ptr 0 0,.iface 35 (.ptr 2 0),.view p 2 fun i=>[.int .i64 (fa i),.int .u64 (fx i)],.int .i64 300,.O,.O,.O,.O,.O,.O,.O,.ptr 4 0,.int .i64 (W ((↑x.1:Int)+1)),.O,.O,.O,.O,.O,.O,.O,.O,.O,.O,.O,.O,.O,.O,.O,.O,.O,.O,.O,.O,.O,.O,.O,.O,.O,.O,.O,.O,.O,.O,.O,.O,.O,.O,.O,.O,.O,.O,.O,.O,.O,.O,.O,.O,.O,.O,.O,.O,.O,.O] [some (.cells [.int .i64 (FtO.s (ftF t n x.2 x.3 x.4)).1,.int .i64 (FtO.s (ftF t n x.2 x.3 x.4)).2,.slice 1 0 (List.length (FtO.s (ftF t n x.2 x.3 x.4)).3) 1,.int .i64 (FtO.s (ftF t n x.2 x.3 x.4)).4,.int .i64 (FtO.s (ftF t n x.2 x.3 x.4)).5,.int .i64 (FtO.s (ftF t n x.2 x.3 x.4)).6,.int .u64 (FtO.s (ftF t n x.2 x.3 x.4)).7,.int .u64 (FtO.s (ftF t n x.2 x.3 x.4)).8,.bool (FtO.s (ftF t n x.2 x.3 x.4)).9]),some (.ints (some .u64) (FtO.s (ftF t n x.2 x.3 x.4)).3),some (.abs (.fast t n (ftF t n x.2 x.3 x.4).2) [3]),some (.abs (.store t n (ftF t n x.2 x.3 x.4).3) []),some (.cells [.tslice 5 0 (List.length x.5+1) 5,.int .i64 0,.bool false,.bool false]),some (.tab [some .i64,some .i64,some .u64,some .u64,none] (x.5++ [[(FtO.s (ftF t n x.2 x.3 x.4)).5,(FtO.s (ftF t n x.2 x.3 x.4)).6,(FtO.s (ftF t n x.2 x.3 x.4)).7,(FtO.s (ftF t n x.2 x.3 x.4)).8,bif (FtO.s (ftF t n x.2 x.3 x.4)).9 then 1 else 0]]))]else K (.tup [.ptr 4 0,.bool false,.bool true]) [some (.cells [.int .i64 (FWX.s x).1,.int .i64 (FWX.s x).2,.slice 1 0 (List.length (FWX.s x).3) 1,.int .i64 (FWX.s x).4,.int .i64 (FWX.s x).5,.int .i64 (FWX.s x).6,.int .u64 (FWX.s x).7,.int .u64 (FWX.s x).8,.bool (FWX.s x).9]),some (.ints (some .u64) (FWX.s x).3),some (.abs (.fast t n x.2) [3]),some (.abs (.store t n x.3) []),some (.cells [.tslice 5 0 (List.length x.5) 5,.int .i64 0,.bool false,.bool false]),some (.tab [some .i64,some .i64,some .u64,some .u64,none] x.5)]
theorem G2(p:Nat)(fa fx:Nat→Int)(t n:Int)(x0:FTS)(st0:STS)(s:MS)(ok:FWX→Prop)(K:AVal→aB Ob→Prop)(hK:K2 p fa fx t n x0 st0 s ok K):cT' 26 [.ptr 0 0,.iface 35 (.ptr 2 0),.view p 2 (fun i=>[.int .i64 (fa i),.int .u64 (fx i)]),.int .i64 300] (mH s++ [some (.abs (.fast t n x0) [3]),some (.abs (.store t n st0) [])]) K:=by
 refine VV (aE (E:=EFt) Tryz.checked.mixed (L:=fun _ _=>some (.states (yL p fa fx t n ok))) (n:=10) (aR (by kernel_rfl) hK))
theorem WM{X:Type}{K:X→Prop} : ∀ {t:Tr X},t.run K→t.ok
 | .ret x,k=>trivial
 | .ite b l r,k=>by cases b with
   | true=>exact WM (t:=l) k
   | false=>exact WM (t:=r) k
 | .pre p t,k=>⟨k.1,WM (t:=t) k.2⟩
theorem WH{X:Type}{K:X→Prop} : ∀ {t:Tr X},t.run K→K t.val
 | .ret x,k=>k
 | .ite b l r,k=>by cases b with
   | true=>exact WH (t:=l) k
   | false=>exact WH (t:=r) k
 | .pre p t,k=>WH (t:=t) k.2
theorem Tr.run_ite{X:Type}{K:X→Prop}{b:Bool}{l r:Tr X}(h1:b=true→l.run K)(h2:b=false→r.run K):(Tr.ite b l r).run K:=aF h1 h2
theorem WC{X:Type}{K:X→Prop}{b:Bool}{l r:Tr X}(h1:b=true→l.run K)(h2:b=false→r.run K):(bif b then l else r).run K:=by
 cases b with
 | true=>exact h1 rfl
 | false=>exact h2 rfl
theorem V6{X:Type}{K:X→Prop}{p:Prop}{t:Tr X}(h1:p)(h2:t.run K):(Tr.pre p t).run K:=⟨h1,h2⟩
theorem V7{X:Type}{K:X→Prop}{x:X}(h:K x):(Tr.ret x).run K:=h
theorem nE'{P Q:Prop}(h:¬P:=by dsimp only;decide):P→Q:=fun e=>absurd e h
structure rngU (x:Int):Prop where
 h0:0≤x
 h1:x≤18446744073709551615
theorem ID:rngU 0:=⟨by decide,by decide⟩
theorem QI(x:Int):rngU (WU x):=⟨(EG x).1,(EG x).2⟩
theorem B5{b:Bool}{x y:Int}(h1:b=true→rngU x)(h2:rngU y):rngU (bif b then x else y):=by
 cases b with
 | true=>exact h1 rfl
 | false=>exact h2
theorem i9{n w:Int}(h:aK n w=true):0≤n∧n<2^w.toNat:=by
 unfold aK at h
 simp only [Bool.and_eq_true,bZ,aX,dT']at h
 exact h
theorem EX(b:Bool):0≤bitI b∧bitI b≤1:=by cases b<;>decide
theorem IE{a b c d e f:Int}{m:Bool} :rngU (bif dOk a b c d e f then eI a b c d m e f else 0):=by
 refine B5 (fun h=>?_) ID
 unfold dOk at h
 simp only [Bool.and_eq_true]at h
 obtain⟨h1,h2,h3,h4,h5,h6⟩:=h
 have h1:=i9 h1
 have h2:=i9 h2
 have h3:=i9 h3
 have h4:=i9 h4
 have h5:=i9 h5
 have h6:=i9 h6
 have hb:=EX m
 simp only [Int.reduceToNat,Int.reducePow]at h1 h2 h3 h4 h5 h6
 unfold eI
 exact⟨by omega,by omega⟩
theorem LW{a b c v:Int}{m:Bool} :rngU (bif bif aK a 10 then bif aK b 9 then bif aK c 5 then aK v 18 else false else false else false then bO a b m c v else 0):=by
 refine B5 (fun h=>?_) ID
 cases h1:aK a 10 with
 | false=>rw [h1]at h;cases h
 | true=>
   cases h2:aK b 9 with
   | false=>rw [h1,h2]at h;cases h
   | true=>
     cases h3:aK c 5 with
     | false=>rw [h1,h2,h3]at h;cases h
     | true=>
       rw [h1,h2,h3]at h
       have h:=i9 (show aK v 18=true from h)
       have h1:=i9 h1
       have h2:=i9 h2
       have h3:=i9 h3
       have hb:=EX m
       simp only [Int.reduceToNat,Int.reducePow]at h h1 h2 h3
       unfold bO
       exact⟨by omega,by omega⟩
structure yO (s s':MS):Prop where
 c:s'.c=s.c+1
 len:s'.xs.length=s.xs.length
 w:okW s.xs→okW s'.xs
 t:s'.t=s.t
 n:s'.n=s.n
theorem v7(s:MS)(k a o w:Int)(ok:Bool):yO s ⟨s.t,s.n,s.xs,s.c+1,k,a,o,w,ok⟩:=⟨rfl,rfl,id,rfl,rfl⟩
theorem BA(s:MS)(b v k a o w:Int)(ok:Bool)(h:rngU v):yO s ⟨s.t,s.n,aZ s.xs b v,s.c+1,k,a,o,w,ok⟩:=⟨rfl,gG _ _ _,fun hw=>BU hw ⟨h.h0,h.h1⟩,rfl,rfl⟩
theorem I9(s:MS)(q:Bool)(b v k a o w:Int)(ok:Bool)(h:rngU v):yO s ⟨s.t,s.n,bif q then aZ s.xs b v else s.xs,s.c+1,k,a,o,w,ok⟩:=by
 cases q with
 | true=>exact BA s b v k a o w ok h
 | false=>exact v7 s k a o w ok
theorem JQ(x a:Int)(w:Int):0≤aA x a w∧aA x a w<2^w.toNat:=cE
structure Bnd (t n:Int) (s:MS):Prop where
 ht:1≤t∧t≤1000
 hn:1≤n∧n≤1000
 hc:0≤s.c∧s.c≤900000
 hw:okW s.xs
theorem rZ{P:Prop}(h:P:=by(with_reducible first | exact ID | exact QI _ | exact IE | exact LW | assumption)):P:=h
theorem FJ{P:Prop}(h:P:=by(simp only [aA,Int.reduceToNat,Int.reducePow];omega)):P:=h
theorem b8{P:Prop}(h:P:=by(first
 | with_reducible exact trivial
 | with_reducible rfl
 | with_reducible assumption
 | with_reducible exact v7 _ _ _ _ _ _
 | ((with_reducible refine BA _ _ _ _ _ _ _ _ ?_);exact rZ)
 | ((with_reducible refine I9 _ _ _ _ _ _ _ _ _ ?_);exact rZ)
 | omega
 | exact FJ
 | decide)):P:=h
structure OA (t:Int) (x:CLS):Prop where
 h:x.at'=0∨x.at'=1∨x.at'=2∨x.at'=3
structure RA (t:Int) (s:MS) (o:ClO):Prop where
 a:yO s o.s
 w:o.d=false→OA t o.x
theorem MQ{t n:Int}{x:CLS}{s:MS}(hb:Bnd t n s)(hx:OA t x):(I4 t n x s).run (RA t s):=by
 obtain⟨⟨t0,t1⟩,⟨n0,n1⟩,⟨c0,c1⟩,hw⟩:=hb
 obtain⟨h⟩:=hx
 unfold I4
 refine WC (fun h0=>?_) (fun h0=>WC (fun h1=>?_) (fun h1=>WC (fun h2=>?_) (fun h2=>WC (fun h3=>?_) (fun h3=>?_))))
 ·unfold qS
  (repeat' (with_reducible first | exact trivial | rfl | assumption | refine V6 ?_ ?_ | refine Tr.run_ite (fun _=>?_) (fun _=>?_) | refine V7 ?_ | refine And.intro ?_ ?_))
  all_goals first | exact b8 | (refine⟨by exact b8,fun hd=>?_⟩;first | (exact Bool.noConfusion hd) | exact⟨by dsimp only;decide⟩)
 ·unfold qT
  (repeat' (with_reducible first | exact trivial | rfl | assumption | refine V6 ?_ ?_ | refine Tr.run_ite (fun _=>?_) (fun _=>?_) | refine V7 ?_ | refine And.intro ?_ ?_))
  all_goals first | exact b8 | (refine⟨by exact b8,fun hd=>?_⟩;first | (exact Bool.noConfusion hd) | exact⟨by dsimp only;decide⟩)
 ·unfold qU
  (repeat' (with_reducible first | exact trivial | rfl | assumption | refine V6 ?_ ?_ | refine Tr.run_ite (fun _=>?_) (fun _=>?_) | refine V7 ?_ | refine And.intro ?_ ?_))
  all_goals first | exact b8 | (refine⟨by exact b8,fun hd=>?_⟩;first | (exact Bool.noConfusion hd) | exact⟨by dsimp only;decide⟩)
 ·unfold qV
  (repeat' (with_reducible first | exact trivial | rfl | assumption | refine V6 ?_ ?_ | refine Tr.run_ite (fun _=>?_) (fun _=>?_) | refine V7 ?_ | refine And.intro ?_ ?_))
  all_goals first | exact b8 | (refine⟨by exact b8,fun hd=>?_⟩;first | (exact Bool.noConfusion hd) | exact⟨by dsimp only;decide⟩)
 ·simp only [bC,beq_eq_false_iff_ne]at h0 h1 h2 h3
  rcases h with e | e | e | e<;>contradiction
theorem FE{t n:Int}{x:CLS}{s:MS}(hb:Bnd t n s)(hx:OA t x):JJ t n x s:=WM (MQ hb hx)
theorem zG{t n:Int}{x:CLS}{s:MS}(hb:Bnd t n s)(hx:OA t x):RA t s (clF t n x s):=WH (MQ hb hx)
structure Q6 (t:Int) (x:PRS):Prop where
 h:True
structure SN (t:Int) (s:MS) (st:STS) (o:PrO):Prop where
 a:yO s o.s
 w:o.d=false→Q6 t o.x
 st:o.st=st
theorem NO{t n:Int}{x:PRS}{st:STS}{s:MS}(hb:Bnd t n s)(hx:Q6 t x):(LS t n x st s).run (SN t s st):=by
 obtain⟨⟨t0,t1⟩,⟨n0,n1⟩,⟨c0,c1⟩,hw⟩:=hb
 obtain⟨h⟩:=hx
 unfold LS
 unfold AO
 (repeat' (with_reducible first | exact trivial | rfl | assumption | refine V6 ?_ ?_ | refine Tr.run_ite (fun _=>?_) (fun _=>?_) | refine V7 ?_ | refine And.intro ?_ ?_))
 all_goals first | exact b8 | (refine⟨by exact b8,fun hd=>?_,rfl⟩;first | (exact Bool.noConfusion hd) | exact⟨trivial⟩)
theorem P9{t n:Int}{x:PRS}{st:STS}{s:MS}(hb:Bnd t n s)(hx:Q6 t x):LQ t n x st s:=WM (NO hb hx)
theorem QA{t n:Int}{x:PRS}{st:STS}{s:MS}(hb:Bnd t n s)(hx:Q6 t x):SN t s st (prF t n x st s):=WH (NO hb hx)
theorem HF{a b:Int}(h:ieq a b=true):a=b:=by simpa [bC]using h
def kN(l:List Int):Prop:= ∀r∈l,0≤r∧r≤1000
theorem uE:kN []:=fun r h=>nomatch h
theorem sB{l:List Int}{a:Int}(h:kN l)(ha:0≤a∧a≤1000):kN (l++ [a]):=by
 intro r hr
 rcases List.mem_append.1 hr with h1 | h1
 ·exact h r h1
 ·rw [List.mem_singleton.1 h1];exact ha
theorem D0{l m:List Int}(h:kN l)(hm:kN m):kN (l++m):=by
 intro r hr
 rcases List.mem_append.1 hr with h1 | h1
 ·exact h r h1
 ·exact hm r h1
theorem iP(t n a:Int):pL t n a:=⟨⟨rfl,rfl⟩,trivial⟩
theorem FD(t n a:Int):OA t (clNF t n a):=⟨.inl rfl⟩
theorem TF(x a:Int):0≤aA x a 9∧aA x a 9≤1000:=by
 have:=JQ x a 9
 simp only [Int.reduceToNat,Int.reducePow]at this
 omega
structure I5 (b:Int) (x:FNS):Prop where
 m:0≤x.me∧x.me≤1000
 cu:0≤x.curr∧x.curr≤1000
 ul:kN x.ul
 ln:(x.ul.length:Int)≤b
structure O4 (t:Int) (x:FNS):Prop where
 h:x.at'=0∨x.at'=1∨x.at'=2∨x.at'=3∨x.at'=4∨x.at'=5∨x.at'=6
 cl:x.at'=4→OA t x.cl
structure RR (t b:Int) (s:MS) (o:FnO):Prop where
 a:yO s o.s
 q:I5 (b+1) o.x
 w:o.d=false→O4 t o.x
theorem m7{P:Prop}(h:P:=by(refine⟨?_,⟨?_,?_,?_,?_⟩,fun hd=>?_⟩<;>first
 | exact b8
 | (exact(zG (by assumption) (by assumption)).a)
 | (constructor<;>assumption)
 | exact TF _ _
 | (exact sB (by assumption) ⟨by assumption,by assumption⟩)
 | exact uE
 | (dsimp only;simp only [List.length_append,List.length_singleton,List.length_nil];omega)
 | exact Bool.noConfusion hd
 | exact⟨by dsimp only;decide,fun e=>absurd e (by dsimp only;decide)⟩
 | exact⟨by dsimp only;decide,fun e=>(zG (by assumption) (by assumption)).w (by assumption)⟩
 | exact⟨by dsimp only;decide,fun e=>by dsimp only;with_reducible exact FD _ _ _⟩)):P:=h
theorem ND{t n b:Int}{x:FNS}{s:MS}(hb:Bnd t n s)(hx:O4 t x)(hq:I5 b x)(hbb:b≤900000):(mZ t n x s).run (RR t b s):=by
 have hb':=hb
 obtain⟨⟨t0,t1⟩,⟨n0,n1⟩,⟨c0,c1⟩,hw⟩:=hb
 obtain⟨h,hcl⟩:=hx
 obtain⟨⟨m0,m1⟩,⟨q0,q1⟩,hul,hln⟩:=hq
 have b0:0≤b:=by omega
 unfold mZ
 refine WC (fun h0=>?_) (fun h0=>WC (fun h1=>?_) (fun h1=>WC (fun h2=>?_) (fun h2=>WC (fun h3=>?_) (fun h3=>WC (fun h4=>?_) (fun h4=>WC (fun h5=>?_) (fun h5=>WC (fun h6=>?_) (fun h6=>?_)))))))
 ·unfold lE
  (repeat' (with_reducible first | exact trivial | rfl | assumption | refine V6 ?_ ?_ | refine Tr.run_ite (fun _=>?_) (fun _=>?_) | refine V7 ?_ | refine And.intro ?_ ?_))
  all_goals first | exact b8 | exact iP _ _ _ | (simp only [List.length_append,List.length_singleton];done) | exact m7
 ·unfold tL
  (repeat' (with_reducible first | exact trivial | rfl | assumption | refine V6 ?_ ?_ | refine Tr.run_ite (fun _=>?_) (fun _=>?_) | refine V7 ?_ | refine And.intro ?_ ?_))
  all_goals first | exact b8 | exact iP _ _ _ | (simp only [List.length_append,List.length_singleton];done) | exact m7
 ·unfold jO
  (repeat' (with_reducible first | exact trivial | rfl | assumption | refine V6 ?_ ?_ | refine Tr.run_ite (fun _=>?_) (fun _=>?_) | refine V7 ?_ | refine And.intro ?_ ?_))
  all_goals first | exact b8 | exact iP _ _ _ | (simp only [List.length_append,List.length_singleton];done) | exact m7
 ·unfold iE
  (repeat' (with_reducible first | exact trivial | rfl | assumption | refine V6 ?_ ?_ | refine Tr.run_ite (fun _=>?_) (fun _=>?_) | refine V7 ?_ | refine And.intro ?_ ?_))
  all_goals first | exact b8 | exact iP _ _ _ | (simp only [List.length_append,List.length_singleton];done) | exact m7
 ·unfold lF
  have hcl4:=hcl (HF h4)
  have hclo:=FE hb' hcl4
  (repeat' (with_reducible first | exact trivial | rfl | assumption | refine V6 ?_ ?_ | refine Tr.run_ite (fun _=>?_) (fun _=>?_) | refine V7 ?_ | refine And.intro ?_ ?_))
  all_goals first | exact b8 | exact iP _ _ _ | (simp only [List.length_append,List.length_singleton];done) | exact m7
 ·unfold gD
  (repeat' (with_reducible first | exact trivial | rfl | assumption | refine V6 ?_ ?_ | refine Tr.run_ite (fun _=>?_) (fun _=>?_) | refine V7 ?_ | refine And.intro ?_ ?_))
  all_goals first | exact b8 | exact iP _ _ _ | (simp only [List.length_append,List.length_singleton];done) | exact m7
 ·unfold lG
  (repeat' (with_reducible first | exact trivial | rfl | assumption | refine V6 ?_ ?_ | refine Tr.run_ite (fun _=>?_) (fun _=>?_) | refine V7 ?_ | refine And.intro ?_ ?_))
  all_goals first | exact b8 | exact iP _ _ _ | (simp only [List.length_append,List.length_singleton];done) | exact m7
 ·simp only [bC,beq_eq_false_iff_ne]at h0 h1 h2 h3 h4 h5 h6
  rcases h with e | e | e | e | e | e | e<;>contradiction
theorem O5{t n b:Int}{x:FNS}{s:MS}(hb:Bnd t n s)(hx:O4 t x)(hq:I5 b x)(hbb:b≤900000):KF t n x s:=WM (ND hb hx hq hbb)
theorem O6{t n b:Int}{x:FNS}{s:MS}(hb:Bnd t n s)(hx:O4 t x)(hq:I5 b x)(hbb:b≤900000):RR t b s (fnF t n x s):=WH (ND hb hx hq hbb)
theorem eY(sh ky:Int):0≤cR sh ky∧cR sh ky≤3:=by
 unfold cR
 cases ieq sh 2 with
 | true=>exact⟨Int.emod_nonneg _ (by decide),by have:=Int.emod_lt_of_pos ky (b:=4) (by decide);show ky%4≤3;omega⟩
 | false=>exact⟨Int.le_refl 0,(by decide:(0:Int)≤3)⟩
theorem zT{t n me hd key lim:Int}(hn:1≤n∧n≤1000)(hm:0≤me∧me≤1000)(hh:0≤hd∧hd≤3):(GA t n me hd key lim).run (fun x=>O4 t x∧I5 0 x):=by
 obtain⟨n0,n1⟩:=hn
 obtain⟨m0,m1⟩:=hm
 obtain⟨e0,e1⟩:=hh
 unfold GA
 (repeat' (with_reducible first | exact trivial | rfl | assumption | refine V6 ?_ ?_ | refine Tr.run_ite (fun _=>?_) (fun _=>?_) | refine V7 ?_ | refine And.intro ?_ ?_))
 all_goals first | exact b8 | exact⟨by dsimp only;decide,fun e=>absurd e (by dsimp only;decide)⟩ | exact⟨⟨m0,m1⟩,⟨(by decide:(0:Int)≤0),(by decide:(0:Int)≤1000)⟩,uE,(by decide:((0:Nat):Int)≤0)⟩
theorem BW(sh kd ky pred pw cw sp:Int){curr:Int}(hc:0≤curr∧curr≤1000):(oE sh kd ky pred pw curr cw sp).run (fun p=>0≤p.pops∧p.pops≤1000):=by
 obtain⟨c0,c1⟩:=hc
 unfold oE
 (repeat' (with_reducible first | exact trivial | rfl | assumption | refine V6 ?_ ?_ | refine Tr.run_ite (fun _=>?_) (fun _=>?_) | refine V7 ?_ | refine And.intro ?_ ?_))
 all_goals first | exact b8 | (dsimp only;first | assumption | decide)
theorem H7(sh kd ky pred pw cw sp:Int){curr:Int}(hc:0≤curr∧curr≤1000):vG sh kd ky pred pw curr cw sp:=WM (BW sh kd ky pred pw cw sp hc)
theorem DR(sh kd ky pred pw cw sp:Int){curr:Int}(hc:0≤curr∧curr≤1000):0≤(aO sh kd ky pred pw curr cw sp).pops ∧(aO sh kd ky pred pw curr cw sp).pops ≤1000:=WH (BW sh kd ky pred pw cw sp hc)
theorem x7(a b c d e f g h i):(pA a b c d e f g h i).run rngU:=by
 unfold pA
 (repeat' (with_reducible first | exact trivial | rfl | assumption | refine V6 ?_ ?_ | refine Tr.run_ite (fun _=>?_) (fun _=>?_) | refine V7 ?_ | refine And.intro ?_ ?_))
 all_goals first | exact b8 | exact rZ
theorem DQ(a b c d e f g h i):vH a b c d e f g h i:=WM (x7 a b c d e f g h i)
theorem DP(a b c d e f g h i):rngU (bA a b c d e f g h i):=WH (x7 a b c d e f g h i)
theorem xZ(a b c d e f g h i):(rW a b c d e f g h i).run (fun _=>True):=by
 unfold rW
 (repeat' (with_reducible first | exact trivial | rfl | assumption | refine V6 ?_ ?_ | refine Tr.run_ite (fun _=>?_) (fun _=>?_) | refine V7 ?_ | refine And.intro ?_ ?_))
 all_goals exact b8
theorem DM(p:PLN):oD p.1 p.2 p.3 p.4 p.5 p.6 p.7 p.8 p.9:=WM (xZ _ _ _ _ _ _ _ _ _)
theorem AK(a b c d e f g h i):oD a b c d e f g h i:=WM (xZ _ _ _ _ _ _ _ _ _)
theorem nQ{b c:Int}{x:FNS}(h:I5 b x)(hbc:b≤c):I5 c x:=⟨h.m,h.cu,h.ul,Int.le_trans h.ln hbc⟩
theorem u6{t n me hd key lim:Int}(hn:1≤n∧n≤1000)(hm:0≤me∧me≤1000)(hh:0≤hd∧hd≤3):wX t n me hd key lim:=WM (zT hn hm hh)
theorem GC{t n me hd key lim:Int}(hn:1≤n∧n≤1000)(hm:0≤me∧me≤1000)(hh:0≤hd∧hd≤3):O4 t (mE t n me hd key lim):=by
 have h:=WH (zT (t:=t) (key:=key) (lim:=lim) hn hm hh)
 exact h.1
theorem GB{t n me hd key lim:Int}(hn:1≤n∧n≤1000)(hm:0≤me∧me≤1000)(hh:0≤hd∧hd≤3):I5 0 (mE t n me hd key lim):=by
 have h:=WH (zT (t:=t) (key:=key) (lim:=lim) hn hm hh)
 exact h.2
theorem H8(t n key nx:Int)(st:STS):(LO t n key nx st).run (fun r=>r.2=st):=⟨⟨rfl,rfl,rfl⟩,rfl⟩
theorem LP(t n key nx:Int)(st:STS):BY t n key nx st:=WM (H8 t n key nx st)
theorem P3(t n key nx:Int)(st:STS):(nD t n key nx st).2=st:=WH (H8 t n key nx st)
structure stW (b:Int) (st:STS):Prop where
 m:0≤st.me∧st.me≤1000
 r:kN st.R
 ln:(st.R.length:Int)≤b
theorem IL{b c:Int}{st:STS}(h:stW b st)(hbc:b≤c):stW c st:=⟨h.m,h.r,Int.le_trans h.ln hbc⟩
theorem LZ{b:Int}{st:STS}{k:Int}{x:FNS}(h:stW b st)(hq:I5 (b - st.R.length+1) x):stW (b+1) {me:=st.me,sp:=k,R:=st.R++x.ul} :=
 ⟨h.m,D0 h.r hq.ul,by have:=hq.ln;simp only [List.length_append];omega⟩
theorem yF{b:Int}{st:STS}{k a:Int}(h:stW b st)(ha:0≤a∧a≤1000):stW (b+1) {me:=st.me,sp:=k,R:=st.R++ [a] } :=
 ⟨h.m,sB h.r ha,by have:=h.ln;simp only [List.length_append,List.length_singleton];omega⟩
theorem QP{b:Int}{st:STS}(h:stW b st)(k:Int):stW (b+1) {me:=st.me,sp:=k,R:=st.R} :=⟨h.m,h.r,by have:=h.ln;show(st.R.length:Int)≤_;omega⟩
structure ftW (t b:Int) (st:STS) (x:FTS):Prop where
 h:x.at'=0∨x.at'=1∨x.at'=2∨x.at'=3
 fn:x.at'=0→O4 t x.fn∧I5 (b - st.R.length) x.fn
 cl:x.at'=1→OA t x.cl
 ps:0≤x.p.pops∧x.p.pops≤1000
structure RY (t b:Int) (s:MS) (o:FtO):Prop where
 a:yO s o.s
 st:stW (b+1) o.st
 w:o.d=false→ftW t (b+1) o.st o.x
theorem NI{t n b:Int}{x:FTS}{st:STS}{s:MS}(hb:Bnd t n s)(hx:ftW t b st x)(hst:stW b st)(hbb:b≤900000):(u9 t n x st s).run (RY t b s):=by
 have hb':=hb
 obtain⟨ht,hn,⟨c0,c1⟩,hw⟩:=hb
 obtain⟨n0,n1⟩:=hn
 obtain⟨t0,t1⟩:=ht
 obtain⟨h,hfn,hcl,hps⟩:=hx
 have hR0:=hst.ln
 have hst1:stW (b+1) st:=IL hst (by omega)
 have hnn:1≤n∧n≤1000:=⟨n0,n1⟩
 have b0:0≤b:=by omega
 unfold u9
 refine WC (fun h0=>?_) (fun h0=>WC (fun h1=>?_) (fun h1=>WC (fun h2=>?_) (fun h2=>WC (fun h3=>?_) (fun h3=>?_))))
 ·obtain⟨hfw,hfq⟩:=hfn (HF h0)
  have hF:=O6 hb' hfw hfq (by omega)
  have hFo:=O5 hb' hfw hfq (by omega)
  have hA:=hF.a
  have hQ:=hF.q
  have hQl:=hQ.ln
  have hS:stW (b+1) {me:=st.me,sp:=st.sp,R:=st.R++(fnF t n x.fn s).x.ul } :=LZ hst hQ
  have hcu:=hQ.cu
  unfold iG
  (repeat' (with_reducible first | exact trivial | rfl | assumption | refine V6 ?_ ?_ | refine Tr.run_ite (fun _=>?_) (fun _=>?_) | refine V7 ?_ | refine And.intro ?_ ?_))
  all_goals first
   | exact b8
   | exact H7 _ _ _ _ _ _ _ hcu
   | exact DM _
   | exact AK _ _ _ _ _ _ _ _ _
   | exact iP _ _ _
   | exact LP _ _ _ _ _
   | (simp only [List.length_append];done)
   | (refine⟨by first | assumption | exact b8,?_,fun hd=>?_⟩
      ·first
        | assumption
        | (dsimp only;rw [P3];assumption)
      ·first
        | exact Bool.noConfusion hd
        | (refine⟨by dsimp only;decide,?_,?_,?_⟩
           ·first | (exact nE') | (intro _;exact⟨hF.w (by assumption),nQ hQ (by dsimp only;omega)⟩)
           ·first | (exact nE') | (intro _;dsimp only;with_reducible exact FD _ _ _)
           ·first | exact hps | exact DR _ _ _ _ _ _ _ hcu))
 ·have hc:=hcl (HF h1)
  have hC:=zG hb' hc
  have hCo:=FE hb' hc
  have hA:=hC.a
  unfold jP
  (repeat' (with_reducible first | exact trivial | rfl | assumption | refine V6 ?_ ?_ | refine Tr.run_ite (fun _=>?_) (fun _=>?_) | refine V7 ?_ | refine And.intro ?_ ?_))
  all_goals first
   | exact b8
   | exact u6 hnn hst.m (eY _ _)
   | (refine⟨by assumption,by assumption,fun hd=>?_⟩
      first
       | exact Bool.noConfusion hd
       | (refine⟨by dsimp only;decide,?_,?_,hps⟩
          ·first | (exact nE') | (intro _;exact⟨GC (t:=t) (n:=n) hnn hst.m (eY _ _),nQ (GB (t:=t) (n:=n) hnn hst.m (eY _ _)) (by dsimp only;omega)⟩)
          ·first | (exact nE') | (intro _;exact hC.w (by assumption))))
 ·have hP:=QA (st:=st) hb' (show Q6 t x.pr from⟨trivial⟩)
  have hPo:=P9 (st:=st) hb' (show Q6 t x.pr from⟨trivial⟩)
  have hA:=hP.a
  have hPs:stW (b+1) (prF t n x.pr st s).st :=by rw [hP.st];exact hst1
  unfold lI
  (repeat' (with_reducible first | exact trivial | rfl | assumption | refine V6 ?_ ?_ | refine Tr.run_ite (fun _=>?_) (fun _=>?_) | refine V7 ?_ | refine And.intro ?_ ?_))
  all_goals first
   | exact b8
   | (refine⟨by assumption,by assumption,fun hd=>?_⟩
      first
       | exact Bool.noConfusion hd
       | exact⟨by dsimp only;decide,fun e=>absurd e (by dsimp only;decide),fun e=>absurd e (by dsimp only;decide),hps⟩)
 ·have hW:=DP (FTS.p x).1 (FTS.p x).2 (FTS.p x).3 (FTS.p x).4 (FTS.p x).5 (FTS.p x).6 (FTS.p x).7 (FTS.p x).8 (FTS.p x).9
  have hWo:=DQ (FTS.p x).1 (FTS.p x).2 (FTS.p x).3 (FTS.p x).4 (FTS.p x).5 (FTS.p x).6 (FTS.p x).7 (FTS.p x).8 (FTS.p x).9
  have hS1:stW (b+1) {me:=st.me,sp:=0,R:=st.R++ [(FTS.p x).9] } :=yF hst hps
  have hS2:stW (b+1) {me:=st.me,sp:=st.sp,R:=st.R++ [(FTS.p x).9] } :=yF hst hps
  have hS3:stW (b+1) {me:=st.me,sp:=0,R:=st.R} :=QP hst 0
  unfold jQ
  (repeat' (with_reducible first | exact trivial | rfl | assumption | refine V6 ?_ ?_ | refine Tr.run_ite (fun _=>?_) (fun _=>?_) | refine V7 ?_ | refine And.intro ?_ ?_))
  all_goals first
   | exact b8
   | exact u6 hnn hst.m (eY _ _)
   | (simp only [List.length_append,List.length_singleton];done)
   | (refine⟨by exact b8,by assumption,fun hd=>?_⟩
      first
       | exact Bool.noConfusion hd
       | (refine⟨by dsimp only;decide,?_,?_,hps⟩
          ·first | (exact nE') | (intro _;exact⟨GC (t:=t) (n:=n) hnn hst.m (eY _ _),nQ (GB (t:=t) (n:=n) hnn hst.m (eY _ _)) (by dsimp only;omega)⟩)
          · (exact nE')))
 ·simp only [bC,beq_eq_false_iff_ne]at h0 h1 h2 h3
  rcases h with e | e | e | e<;>contradiction
theorem PL{t n b:Int}{x:FTS}{st:STS}{s:MS}(hb:Bnd t n s)(hx:ftW t b st x)(hst:stW b st)(hbb:b≤900000):ftOk t n x st s:=WM (NI hb hx hst hbb)
theorem PM{t n b:Int}{x:FTS}{st:STS}{s:MS}(hb:Bnd t n s)(hx:ftW t b st x)(hst:stW b st)(hbb:b≤900000):RY t b s (ftF t n x st s):=WH (NI hb hx hst hbb)
theorem GM{t n b sh kd ky most:Int}{st:STS}(hn:1≤n∧n≤1000)(hst:stW b st):(GL t n sh kd ky most st).run (fun r=>ftW t b st r.1∧r.2=st):=by
 have hR0:=hst.ln
 unfold GL
 (repeat' (with_reducible first | exact trivial | rfl | assumption | refine V6 ?_ ?_ | refine Tr.run_ite (fun _=>?_) (fun _=>?_) | refine V7 ?_ | refine And.intro ?_ ?_))
 all_goals first
  | exact b8
  | exact u6 hn hst.m (eY _ _)
  | exact⟨by dsimp only;decide,fun _=>⟨GC (t:=t) (n:=n) hn hst.m (eY _ _),nQ (GB (t:=t) (n:=n) hn hst.m (eY _ _)) (by omega)⟩,fun e=>absurd e (by dsimp only;decide),⟨(by decide:(0:Int)≤0),(by decide:(0:Int)≤1000)⟩⟩
theorem KN{t n b:Int}(sh kd ky most:Int){st:STS}(hn:1≤n∧n≤1000)(hst:stW b st):nT t n sh kd ky most st:=WM (GM hn hst)
theorem RX{t n b:Int}(sh kd ky most:Int){st:STS}(hn:1≤n∧n≤1000)(hst:stW b st):ftW t b st (bG t n sh kd ky most st).1:=(WH (GM (t:=t) hn hst)).1
inductive yK {σ:Type} (F:σ→Bool×σ):Nat→σ→σ→Prop where
 | nil (a:σ):yK F 0 a a
 | cons {k:Nat} {a b c:σ} (h:F a=(false,b)) (t:yK F k b c):yK F (k+1) a c
theorem yK.trans{σ:Type}{F:σ→Bool×σ}{i j:Nat}{a b c:σ}(h:yK F i a b)(g:yK F j b c):yK F (j+i) a c:=by
 induction h with
 | nil a=>exact g
 | cons h t ih=>exact yK.cons h (ih g)
theorem yK.one{σ:Type}{F:σ→Bool×σ}{a b:σ}(h:F a=(false,b)):yK F 1 a b:=yK.cons h (yK.nil _)
def CD{σ:Type}(F:σ→Bool×σ)(k:Nat)(a z:σ):Prop:= ∃j b,k=j+1∧yK F j a b∧F b=(true,z)
theorem CD.of{σ:Type}{F:σ→Bool×σ}{k j:Nat}{a b z:σ}(h:yK F k a b)(g:CD F j b z):CD F (j+k) a z:=by
 obtain⟨i,c,rfl,h1,h2⟩:=g
 exact⟨i+k,c,by omega,h.trans h1,h2⟩
theorem CD.one{σ:Type}{F:σ→Bool×σ}{a z:σ}(h:F a=(true,z)):CD F 1 a z:=⟨0,a,rfl,yK.nil _,h⟩
theorem CD.cons{σ:Type}{F:σ→Bool×σ}{j:Nat}{a b z:σ}(h:F a=(false,b))(g:CD F j b z):CD F (j+1) a z:=CD.of (yK.one h) g
abbrev nxW(x:Int):Int:=aA x 10 9
abbrev kyW(x:Int):Int:=aA x 0 10
abbrev mkW(x:Int):Bool:=ieq (aA x 19 1) 1
abbrev clW'(x:Int):Int:=aA x 20 5
abbrev UA(x:Int):Int:=aA x 25 18
structure I8 (k n c v:Int):Prop where
 k:0≤k∧k<1024
 n:0≤n∧n<512
 c:0≤c∧c<32
 v:0≤v∧v<262144
theorem MT{k n c v:Int}{m:Bool}(h:I8 k n c v):aA (bO k n m c v) 10 9=n:=by
 obtain⟨h1,h2,h3,h4⟩:=h
 unfold aA bO bitI
 cases m<;>simp only [Int.reduceToNat,Int.reducePow,cond_true,cond_false]<;>omega
theorem MR{k n c v:Int}{m:Bool}(h:I8 k n c v):ieq (aA (bO k n m c v) 19 1) 1=m:=by
 obtain⟨h1,h2,h3,h4⟩:=h
 unfold aA bO bitI
 cases m<;>simp only [Int.reduceToNat,Int.reducePow,cond_true,cond_false,bC,beq_iff_eq,beq_eq_false_iff_ne]<;>omega
theorem BL(x a w:Int):aK (aA x a w) w=true:=dD.2 cE
theorem xV(v:Int):0≤aM v∧aM v<262144:=by unfold aM;omega
theorem tK(v:Int):aK (aM v) 18=true:=dD.2 (xV v)
theorem JO(x y z v:Int)(hv:0≤v∧v<262144):I8 (aA x 0 10) (aA y 10 9) (aA z 20 5) v:=by
 refine⟨?_,?_,?_,hv⟩
 ·have:=cE (x:=x) (a:=0) (w:=10);simpa using this
 ·have:=cE (x:=y) (a:=10) (w:=9);simpa using this
 ·have:=cE (x:=z) (a:=20) (w:=5);simpa using this
theorem LT{k n c v:Int}{m:Bool}(h:I8 k n c v):0≤bO k n m c v∧bO k n m c v≤18446744073709551615:=by
 obtain⟨h1,h2,h3,h4⟩:=h
 unfold bO bitI
 cases m<;>simp only [cond_true,cond_false]<;>omega
def RQ(t n:Int)(p:FNS×MS):Bool×(FNS×MS):=((fnF t n p.1 p.2).d,((fnF t n p.1 p.2).x,(fnF t n p.1 p.2).s))
theorem nR{t n:Int}{x:FNS}{s:MS}(h:x.at'=0)(hm:mkW (aD s.xs x.pred)=false):fnF t n x s=⟨ieq (nxW (aD s.xs x.pred)) 0,{x with pw:=aD s.xs x.pred,curr:=nxW (aD s.xs x.pred),cw:=0,at':=1,cl:=a9},s.loadd x.pred⟩:=by
 unfold fnF mZ
 rw [h]
 show(lE t n x s).val =_
 unfold lE
 simp only [Tr.val,hm,cond_false]
 rfl
theorem rF{t n:Int}{x:FNS}{s:MS}(h:x.at'=1):fnF t n x s=⟨false,{x with at':=2,cl:=a9},s.stored (2*n+5+2*x.me+1) (WU x.curr)⟩:=by
 unfold fnF mZ
 rw [h]
 show(tL t n x s).val =_
 rfl
theorem wZ{t n:Int}{x:FNS}{s:MS}(h:x.at'=2)(he:aD s.xs x.pred=x.pw):fnF t n x s=⟨false,{x with at':=3,cl:=a9},s.loadd x.pred⟩:=by
 unfold fnF mZ
 rw [h]
 show(jO t n x s).val =_
 unfold jO
 simp only [Tr.val,he,cS,Bool.not_true,cond_false]
 simp only [←he]
 rfl
theorem xD{t n:Int}{x:FNS}{s:MS}(h:x.at'=3)(hm:mkW (aD s.xs x.curr)=false)(hk:x.key≤kyW (aD s.xs x.curr)):fnF t n x s=⟨true,{x with cw:=aD s.xs x.curr,cl:=a9},s.loadd x.curr⟩:=by
 unfold fnF mZ
 rw [h]
 show(iE t n x s).val =_
 unfold iE
 have hk':ile x.10 (aA (aD s.xs x.3) 0 10)=true:=by rw [bZ];exact decide_eq_true hk
 simp only [Tr.val,hm,hk',Bool.not_false,cond_true]
 simp only [←h]
 rfl
theorem BM{t n:Int}{x:FNS}{s:MS}(h:x.at'=3)(hm:mkW (aD s.xs x.curr)=false)(hk:kyW (aD s.xs x.curr)<x.key):fnF t n x s=⟨false,{x with cw:=aD s.xs x.curr,at':=6,cl:=a9},s.loadd x.curr⟩:=by
 unfold fnF mZ
 rw [h]
 show(iE t n x s).val =_
 unfold iE
 have hk':ile x.10 (aA (aD s.xs x.3) 0 10)=false:=by rw [bZ];exact decide_eq_false (by have:aA (aD s.xs x.curr) 0 10<x.key:=hk;show¬x.key≤_;omega)
 simp only [Tr.val,hm,hk',Bool.not_false,cond_true,cond_false]
 rfl
theorem BN{t n:Int}{x:FNS}{s:MS}(h:x.at'=3)(hm:mkW (aD s.xs x.curr)=true)(hc:clW' (aD s.xs x.curr)=0)(hp:clW' x.pw=0):fnF t n x s=⟨false,{x with cw:=aD s.xs x.curr,at':=5,cl:=a9},s.loadd x.curr⟩:=by
 unfold fnF mZ
 rw [h]
 show(iE t n x s).val =_
 unfold iE
 have hc':ieq (aA (aD s.xs x.3) 20 5) 0=true:=by rw [show aA (aD s.xs x.3) 20 5=0 from hc];exact cS 0
 have hp':ieq (aA x.2 20 5) 0=true:=by rw [show aA x.2 20 5=0 from hp];exact cS 0
 simp only [Tr.val,hm,hc',hp',Bool.not_true,cond_false]
 cases h2:ile x.10 (aA (aD s.xs x.3) 0 10)<;>rfl
def lnkW(pw cw:Int):Int:=bO (kyW pw) (nxW cw) (mkW pw) (clW' pw) (aM (UA pw))
theorem nY(pw cw:Int):(bif bif aK (aA pw 0 10) 10 then bif aK (aA cw 10 9) 9 then bif aK (aA pw 20 5) 5 then aK (aM (aA pw 25 18)) 18 else false else false else false then bO (aA pw 0 10) (aA cw 10 9) (ieq (aA pw 19 1) 1) (aA pw 20 5) (aM (aA pw 25 18))else 0)=lnkW pw cw:=by
 simp only [BL,tK,cond_true]
 rfl
theorem rL(pw cw:Int):I8 (kyW pw) (nxW cw) (clW' pw) (aM (UA pw)):=JO _ _ _ _ (xV _)
structure Nd where
 a:Int
 k:Int
 m:Bool
def ch(n:Int)(xs:List Int):Int→List Nd→Prop
 | a,[]=>nxW (aD xs a)=0
 | a,b::L=>nxW (aD xs a)=b.a∧(1≤b.a∧b.a≤n)∧kyW (aD xs b.a)=b.k∧mkW (aD xs b.a)=b.m∧clW' (aD xs b.a)=0∧ch n xs b.a L
def sc(k:Int):List Nd→List Nd×List Nd×List Nd
 | []=>([],[],[])
 | b::L=>bif b.m then((sc k L).1,b::(sc k L).2.1,(sc k L).2.2)else(if k≤b.k then([],[],b::L)else(b::(sc k L).1,(sc k L).2.1,(sc k L).2.2))
def PR:List Nd→Int
 | []=>0
 | b::_=>b.a
def TW(xs:List Int):List Nd→Int
 | []=>0
 | b::_=>aD xs b.a
theorem Q9{n:Int}{xs:List Int} : ∀ {L:List Nd} {a:Int},ch n xs a L→nxW (aD xs a)=PR L
 | [],a,h=>h
 | b::L,a,h=>h.1
theorem SC{n:Int}{xs:List Int}{a:Int}{L:List Nd}(h:ch n xs a L):ieq (PR L) 0=L.isEmpty:=by
 cases L with
 | nil=>rfl
 | cons b L=>
   have:=h.2.1.1
   show ieq b.a 0=false
   rw [bC,beq_eq_false_iff_ne];omega
structure FC (t n p:Int) (L:List Nd) (x:FNS) (s:MS):Prop where
 ht:1≤t∧t≤1000
 hn:1≤n∧n≤1000
 len:(s.xs.length:Int)=2*n+5*t+6
 me:0≤x.me∧x.me<t
 hp:1≤p∧p≤n+4
 mp:mkW (aD s.xs p)=false
 cp:clW' (aD s.xs p)=0
 ch:ch n s.xs p L
 nd:(p::L.map Nd.a).Nodup
 mv:0≤x.moved∧x.moved+L.length≤n
structure MK (n p:Int) (L:List Nd) (x:FNS) (s:MS) (z:FNS) (s':MS) (j:Nat):Prop where
 ch:ch n s'.xs p ((sc x.key L).1++(sc x.key L).2.2)
 pred:z.pred=((sc x.key L).1.map Nd.a).getLastD p
 pw:z.pw=aD s'.xs z.pred
 curr:z.curr=PR (sc x.key L).2.2
 cw:z.cw=TW s'.xs (sc x.key L).2.2
 ul:z.ul=x.ul++(sc x.key L).2.1.map Nd.a
 tries:z.tries=x.tries
 ab:z.ab=x.ab
 me:z.me=x.me
 same: ∀a,a≠2*n+5+2*x.me→a≠2*n+5+2*x.me+1→a∉p::(sc x.key L).1.map Nd.a→aD s'.xs a=aD s.xs a
 p3:kyW (aD s'.xs p)=kyW (aD s.xs p)∧mkW (aD s'.xs p)=mkW (aD s.xs p)∧clW' (aD s'.xs p)=clW' (aD s.xs p)
 t:s'.t=s.t
 n:s'.n=s.n
 c:s'.c=s.c+j
 len:s'.xs.length=s.xs.length
 okw:okW s.xs→okW s'.xs
theorem OY{t n:Int}{x:FNS}{s:MS}{d:Bool}{x':FNS}{s':MS}(h:fnF t n x s=⟨d,x',s'⟩):RQ t n (x,s)=(d,(x',s')):=by
 unfold RQ;rw [h]
theorem MK.nil{n p:Int}{x:FNS}{s:MS}(h2:x.pred=p)(h3:x.pw=aD s.xs p)(h4:x.curr=0)(h5:x.cw=0)(hz:nxW (aD s.xs p)=0):MK n p [] x s x s 0 where
 ch:=hz
 pred:=h2
 pw:=by rw [h2];exact h3
 curr:=h4
 cw:=h5
 ul:=by simp [sc]
 tries:=rfl
 ab:=rfl
 me:=rfl
 same:=fun _ _ _ _=>rfl
 p3:=⟨rfl,rfl,rfl⟩
 t:=rfl
 n:=rfl
 c:=by simp
 len:=rfl
 okw:=id
theorem MK.pre{n p:Int}{L:List Nd}{x x1:FNS}{s s1:MS}{z:FNS}{s':MS}{j:Nat}(h:MK n p L x1 s1 z s' j)(hx:s1.xs=s.xs)(hc:s1.c=s.c+1)(ht:s1.t=s.t)(hn:s1.n=s.n)
 (k:x1.key=x.key) (u:x1.ul=x.ul) (tr:x1.tries=x.tries) (ab:x1.ab=x.ab) (me:x1.me=x.me):MK n p L x s z s' (j+1) where
 ch:=by have:=h.ch;rw [k]at this;exact this
 pred:=by have:=h.pred;rw [k]at this;exact this
 pw:=h.pw
 curr:=by have:=h.curr;rw [k]at this;exact this
 cw:=by have:=h.cw;rw [k]at this;exact this
 ul:=by have:=h.ul;rw [k,u]at this;exact this
 tries:=h.tries.trans tr
 ab:=h.ab.trans ab
 me:=h.me.trans me
 same:=by have:=h.same;rw [k,me,hx]at this;exact this
 p3:=by have:=h.p3;rw [hx]at this;exact this
 t:=h.t.trans ht
 n:=h.n.trans hn
 c:=by rw [h.c,hc];omega
 len:=by rw [h.len,hx]
 okw:=by rw [←hx];exact h.okw
def GS(t n:Int)(L:List Nd):Prop:= ∀(p:Int) (x:FNS) (s:MS),x.at'=1→x.pred=p→x.pw=aD s.xs p→x.curr=PR L→x.cw=0→L≠ []→FC t n p L x s→
    ∃j z s',(∀lim,CD (RQ t n) j ({x with limit:=lim},s) ({z with limit:=lim},s'))∧MK n p L x s z s' j∧j≤5*L.length
def VS(t n:Int)(L:List Nd):Prop:= ∀(p:Int) (x:FNS) (s:MS),x.at'=0→x.pred=p→FC t n p L x s→
    ∃j z s',(∀lim,CD (RQ t n) j ({x with limit:=lim},s) ({z with limit:=lim},s'))∧MK n p L x s z s' j∧j≤5*L.length+1
theorem VS.of{t n:Int}{L:List Nd}(hg:GS t n L):VS t n L:=by
 intro p x s h1 h2 hc
 subst h2
 have hv: ∀lim,RQ t n ({x with limit:=lim},s)=(L.isEmpty,({x with pw:=aD s.xs x.pred,curr:=PR L,cw:=0,at':=1,cl:=a9,limit:=lim},s.loadd x.pred)):=by
  intro lim
  have:=OY (nR (t:=t) (n:=n) (x:= {x with limit:=lim}) (s:=s) h1 hc.mp)
  rw [this]
  have e:=Q9 hc.ch
  simp only [e,SC hc.ch]
 cases L with
 | nil=>exact⟨1,{x with pw:=aD s.xs x.pred,curr:=0,cw:=0,at':=1,cl:=a9},s.loadd x.pred,fun lim=>CD.one (hv lim),(MK.nil (x:= {x with pw:=aD s.xs x.pred,curr:=0,cw:=0,at':=1,cl:=a9}) (s:=s.loadd x.pred) rfl rfl rfl rfl hc.ch).pre rfl rfl rfl rfl rfl rfl rfl rfl rfl,by simp⟩
 | cons b L=>
   obtain⟨j,z,s',e,f,hl⟩:=hg x.pred {x with pw:=aD s.xs x.pred,curr:=PR (b::L),cw:=0,at':=1,cl:=a9} (s.loadd x.pred) rfl rfl rfl rfl rfl (by simp) ⟨hc.ht,hc.hn,hc.len,hc.me,hc.hp,hc.mp,hc.cp,hc.ch,hc.nd,hc.mv⟩
   exact⟨j+1,z,s',fun lim=>CD.cons (hv lim) (e lim),f.pre rfl rfl rfl rfl rfl rfl rfl rfl rfl,by omega⟩
inductive Pa where
 | now (b:Bool)
 | link
 | mark (v:Int)
 | pop (v:Int)
def Pa.ok:Pa→Bool
 | .now b=>b
 | _=>true
def Pa.val:Pa→Int
 | .mark v=>v
 | .pop v=>v
 | _=>0
def Pa.new(ky sp:Int)(B:List Nd):Pa→List Nd
 | .now _=>B
 | .link =>⟨sp,ky,false⟩::B
 | .mark _=>(match B with | []=>[] | b::B'=>⟨b.a,b.k,true⟩::B')
 | .pop _=>B.tail
def Pa.sp(sp:Int):Pa→Int
 | .link =>0
 | _=>sp
def Pa.pops(B:List Nd):Pa→List Int
 | .pop _=>[PR B]
 | _=>[]
theorem BZ{t n:Int}{x:PRS}{st:STS}{s:MS}(h:x.loaded=false):prF t n x st s=⟨false,{x with found:=aD s.xs st.sp,loaded:=true},st,s.loadd st.sp⟩:=by
 unfold prF LS AO
 simp only [Tr.val,h,Bool.not_false,cond_true]
 rfl
structure tR (x:FTS) (st:STS):Prop where
 r:bT x.sh x.kd x.ky=true
 l:bL x.kd=true→st.sp≠0
theorem PI{t n:Int}{x:FTS}{st:STS}{s:MS}(h0:x.at'=0)(h:bT x.sh x.kd x.ky=false∨bL x.kd=true∧st.sp=0):ftF t n x st s=⟨true,{x with failed:=true,at':=0,cl:=a9,pr:=bU},st,s.loadd 0⟩:=by
 unfold ftF u9
 rw [h0]
 show(iG t n x st s).val =_
 unfold iG
 cases hr:bT x.6 x.7 x.8 with
 | false=>
   simp only [Tr.val,hr,Bool.not_false,cond_true]
   rfl
 | true=>
   rcases h with h | ⟨h1,h2⟩
   ·exact absurd (show bT x.6 x.7 x.8=false from h) (by rw [hr];decide)
   ·have h1:bL x.7=true:=h1
    have h2:ieq st.2 0=true:=by rw [show st.2=0 from h2];exact cS 0
    simp only [Tr.val,hr,h1,h2,Bool.not_true,cond_true,cond_false]
    rfl
theorem KW{t n:Int}{x:FTS}{st:STS}{s:MS}{fn:FNS}{s':MS}(h0:x.at'=0)(hm:tR x st)(hf:fnF t n x.fn s=⟨false,fn,s'⟩):ftF t n x st s=⟨false,{x with fn:=fn,at':=0,cl:=a9,pr:=bU},st,s'⟩:=by
 unfold ftF u9
 rw [h0]
 show(iG t n x st s).val =_
 unfold iG
 have hr:bT x.6 x.7 x.8=true:=hm.r
 have hf:fnF t n x.12 s=⟨false,fn,s'⟩:=hf
 cases hl:bL x.7 with
 | false=>simp only [Tr.val,hr,hl,hf,Bool.not_true,cond_false]
 | true=>
   have h2:ieq st.2 0=false:=by rw [bC,beq_eq_false_iff_ne];exact hm.l hl
   simp only [Tr.val,hr,hl,h2,hf,Bool.not_true,cond_true,cond_false]
theorem KX{t n:Int}{x:FTS}{st:STS}{s:MS}{y:PRS}{s':MS}(h0:x.at'=2)(hf:prF t n x.pr st s=⟨false,y,st,s'⟩):ftF t n x st s=⟨false,{x with at':=2,fn:=bV,cl:=a9,pr:=y},st,s'⟩:=by
 unfold ftF u9
 rw [h0]
 show(lI t n x st s).val =_
 unfold lI
 have hf:prF t n x.14 st s=⟨false,y,st,s'⟩:=hf
 simp only [Tr.val,hf,cond_false]
theorem GY{t n:Int}{x:FTS}{st:STS}{s:MS}{y:PRS}{s':MS}(h0:x.at'=2)(hf:prF t n x.pr st s=⟨true,y,st,s'⟩):ftF t n x st s=⟨false,{x with at':=3,fn:=bV,cl:=a9,pr:=bU},st,s'⟩:=by
 unfold ftF u9
 rw [h0]
 show(lI t n x st s).val =_
 unfold lI
 have hf:prF t n x.14 st s=⟨true,y,st,s'⟩:=hf
 simp only [Tr.val,hf,cond_true]
theorem C9{t n:Int}{x:FTS}{st:STS}{s:MS}{w:Int}(h0:x.at'=3)(hc:aV s.xs x.p.addr x.p.old=true)(hw:bA x.p.now x.p.code x.p.okk x.p.val x.p.addr x.p.old x.p.nxt x.p.mark x.p.pops=w):
 ftF t n x st s=⟨true,{x with code:=x.p.code,okk:=x.p.okk,val:=x.p.val,at':=3,fn:=bV,cl:=a9,pr:=bU},⟨st.me,bif bL x.kd then 0 else st.sp,bif ieq x.p.pops 0 then st.R else st.R++ [x.p.pops]⟩,s.cased x.p.addr x.p.old w⟩:=by
 unfold ftF u9
 rw [h0]
 show(jQ t n x st s).val =_
 unfold jQ
 have hc':aV s.3 (FTS.p x).5 (FTS.p x).6=true:=hc
 have hw:bA (FTS.p x).1 (FTS.p x).2 (FTS.p x).3 (FTS.p x).4 (FTS.p x).5 (FTS.p x).6 (FTS.p x).7 (FTS.p x).8 (FTS.p x).9=w:=hw
 have hi:bW s.3 (FTS.p x).5=true:=by
  unfold aV at hc'
  exact(Bool.and_eq_true_iff.1 hc').1
 simp only [Tr.val,hc',hw,hi,Bool.not_true,cond_true,cond_false]
 unfold MS.cased MS.did
 simp only [hc,show bW s.xs x.p.addr=true from hi,cond_true]
 cases hlk:bL x.7<;>cases hpp:ieq (FTS.p x).9 0<;>simp only [hlk,hpp,Bool.not_true,Bool.not_false,cond_true,cond_false]<;>rfl
def UQ(A:List (List Int))(i:Int):aB Ob:=[some (.cells [.tslice 1 0 A.length 5,.int .i64 i,.bool false,.bool false]),some (.tab [some .i64,some .i64,some .u64,some .u64,none] A)]
def B8(A:List (List Int))(t n a i:Int)(K:AVal→aB Ob→Prop):Prop:=(lE' A∧(0:Int)≤i∧i≤(4611686018427387904:Int))∧((0:Int)≤a2 (tGot A {i:=i,bad:=false,out:=false} 1 a)∧a2 (tGot A {i:=i,bad:=false,out:=false} 1 a)≤(18446744073709551615:Int))∧True∧bif bif (aG A {i:=i,bad:=false,out:=false} 1 a).2 then true else(aG A {i:=i,bad:=false,out:=false} 1 a).3 then K (.tup []) [some (.cells [.tslice 1 0 (List.length A) 5,.int .i64 (aG A {i:=i,bad:=false,out:=false} 1 a).1,.bool (aG A {i:=i,bad:=false,out:=false} 1 a).2,.bool (aG A {i:=i,bad:=false,out:=false} 1 a).3]),some (.tab [some .i64,some .i64,some .u64,some .u64,none] A)]else bif ieq (aA (a2 (tGot A {i:=i,bad:=false,out:=false} 1 a)) 20 5) 0 then K (.tup []) [some (.cells [.tslice 1 0 (List.length A) 5,.int .i64 (aG A {i:=i,bad:=false,out:=false} 1 a).1,.bool (aG A {i:=i,bad:=false,out:=false} 1 a).2,.bool (aG A {i:=i,bad:=false,out:=false} 1 a).3]),some (.tab [some .i64,some .i64,some .u64,some .u64,none] A)]else bif ilt t (aA (a2 (tGot A {i:=i,bad:=false,out:=false} 1 a)) 20 5)then K (.tup []) [some (.cells [.tslice 1 0 (List.length A) 5,.int .i64 (aG A {i:=i,bad:=false,out:=false} 1 a).1,.bool (aG A {i:=i,bad:=false,out:=false} 1 a).2,.bool (aG A {i:=i,bad:=false,out:=false} 1 a).3]),some (.tab [some .i64,some .i64,some .u64,some .u64,none] A)]else(((0:Int)≤t∧t≤(100000:Int))∧((0:Int)≤n∧n≤(100000:Int))∧(-1099511627776:Int)≤W (aA (a2 (tGot A {i:=i,bad:=false,out:=false} 1 a)) 20 5 - 1)∧W (aA (a2 (tGot A {i:=i,bad:=false,out:=false} 1 a)) 20 5 - 1)≤(1099511627776:Int))∧(lE' A∧(0:Int)≤(aG A {i:=i,bad:=false,out:=false} 1 a).1∧(aG A {i:=i,bad:=false,out:=false} 1 a).1≤(4611686018427387904:Int))∧((0:Int)≤a2 (tGot A (aG A {i:=i,bad:=false,out:=false} 1 a) 1 (2*n+5+2*t+3*W (aA (a2 (tGot A {i:=i,bad:=false,out:=false} 1 a)) 20 5 - 1)+2))∧a2 (tGot A (aG A {i:=i,bad:=false,out:=false} 1 a) 1 (2*n+5+2*t+3*W (aA (a2 (tGot A {i:=i,bad:=false,out:=false} 1 a)) 20 5 - 1)+2))≤(18446744073709551615:Int))∧True∧bif !bif (aG A (aG A {i:=i,bad:=false,out:=false} 1 a) 1 (2*n+5+2*t+3*W (aA (a2 (tGot A {i:=i,bad:=false,out:=false} 1 a)) 20 5 - 1)+2)).2 then true else(aG A (aG A {i:=i,bad:=false,out:=false} 1 a) 1 (2*n+5+2*t+3*W (aA (a2 (tGot A {i:=i,bad:=false,out:=false} 1 a)) 20 5 - 1)+2)).3 then bif ieq (aA (a2 (tGot A (aG A {i:=i,bad:=false,out:=false} 1 a) 1 (2*n+5+2*t+3*W (aA (a2 (tGot A {i:=i,bad:=false,out:=false} 1 a)) 20 5 - 1)+2))) 49 3) 2 then bif ieq (aA (a2 (tGot A (aG A {i:=i,bad:=false,out:=false} 1 a) 1 (2*n+5+2*t+3*W (aA (a2 (tGot A {i:=i,bad:=false,out:=false} 1 a)) 20 5 - 1)+2))) 12 9) a then bif ieq (aA (a2 (tGot A (aG A {i:=i,bad:=false,out:=false} 1 a) 1 (2*n+5+2*t+3*W (aA (a2 (tGot A {i:=i,bad:=false,out:=false} 1 a)) 20 5 - 1)+2))) 21 18) (aA (a2 (tGot A {i:=i,bad:=false,out:=false} 1 a)) 25 18)then(((0:Int)≤t∧t≤(100000:Int))∧((0:Int)≤n∧n≤(100000:Int))∧(-1099511627776:Int)≤W (aA (a2 (tGot A {i:=i,bad:=false,out:=false} 1 a)) 20 5 - 1)∧W (aA (a2 (tGot A {i:=i,bad:=false,out:=false} 1 a)) 20 5 - 1)≤(1099511627776:Int))∧(((0:Int)≤aA (a2 (tGot A (aG A {i:=i,bad:=false,out:=false} 1 a) 1 (2*n+5+2*t+3*W (aA (a2 (tGot A {i:=i,bad:=false,out:=false} 1 a)) 20 5 - 1)+2))) 0 12∧aA (a2 (tGot A (aG A {i:=i,bad:=false,out:=false} 1 a) 1 (2*n+5+2*t+3*W (aA (a2 (tGot A {i:=i,bad:=false,out:=false} 1 a)) 20 5 - 1)+2))) 0 (12:Int)≤(1000000:Int))∧((0:Int)≤aA (a2 (tGot A (aG A {i:=i,bad:=false,out:=false} 1 a) 1 (2*n+5+2*t+3*W (aA (a2 (tGot A {i:=i,bad:=false,out:=false} 1 a)) 20 5 - 1)+2))) 12 9∧aA (a2 (tGot A (aG A {i:=i,bad:=false,out:=false} 1 a) 1 (2*n+5+2*t+3*W (aA (a2 (tGot A {i:=i,bad:=false,out:=false} 1 a)) 20 5 - 1)+2))) 12 (9:Int)≤(1000000:Int))∧((0:Int)≤aA (a2 (tGot A (aG A {i:=i,bad:=false,out:=false} 1 a) 1 (2*n+5+2*t+3*W (aA (a2 (tGot A {i:=i,bad:=false,out:=false} 1 a)) 20 5 - 1)+2))) 21 18∧aA (a2 (tGot A (aG A {i:=i,bad:=false,out:=false} 1 a) 1 (2*n+5+2*t+3*W (aA (a2 (tGot A {i:=i,bad:=false,out:=false} 1 a)) 20 5 - 1)+2))) 21 (18:Int)≤(1000000:Int))∧((0:Int)≤aA (a2 (tGot A (aG A {i:=i,bad:=false,out:=false} 1 a) 1 (2*n+5+2*t+3*W (aA (a2 (tGot A {i:=i,bad:=false,out:=false} 1 a)) 20 5 - 1)+2))) 39 9∧aA (a2 (tGot A (aG A {i:=i,bad:=false,out:=false} 1 a) 1 (2*n+5+2*t+3*W (aA (a2 (tGot A {i:=i,bad:=false,out:=false} 1 a)) 20 5 - 1)+2))) 39 (9:Int)≤(1000000:Int))∧((0:Int)≤(3:Int)∧(3:Int)≤(1000000:Int))∧(0:Int)≤aA (a2 (tGot A (aG A {i:=i,bad:=false,out:=false} 1 a) 1 (2*n+5+2*t+3*W (aA (a2 (tGot A {i:=i,bad:=false,out:=false} 1 a)) 20 5 - 1)+2))) 52 10∧aA (a2 (tGot A (aG A {i:=i,bad:=false,out:=false} 1 a) 1 (2*n+5+2*t+3*W (aA (a2 (tGot A {i:=i,bad:=false,out:=false} 1 a)) 20 5 - 1)+2))) 52 (10:Int)≤(1000000:Int))∧((lE' A∧(0:Int)≤(aG A (aG A {i:=i,bad:=false,out:=false} 1 a) 1 (2*n+5+2*t+3*W (aA (a2 (tGot A {i:=i,bad:=false,out:=false} 1 a)) 20 5 - 1)+2)).1∧(aG A (aG A {i:=i,bad:=false,out:=false} 1 a) 1 (2*n+5+2*t+3*W (aA (a2 (tGot A {i:=i,bad:=false,out:=false} 1 a)) 20 5 - 1)+2)).1≤(4611686018427387904:Int))∧True)∧(262144:Int)≠(0:Int)∧(((0:Int)≤aA (a2 (tGot A {i:=i,bad:=false,out:=false} 1 a)) 0 10∧aA (a2 (tGot A {i:=i,bad:=false,out:=false} 1 a)) 0 (10:Int)<(1024:Int))∧((0:Int)≤aA (a2 (tGot A {i:=i,bad:=false,out:=false} 1 a)) 10 9∧aA (a2 (tGot A {i:=i,bad:=false,out:=false} 1 a)) 10 (9:Int)<(512:Int))∧((0:Int)≤(0:Int)∧(0:Int)<(32:Int))∧(0:Int)≤Int.tmod (W (aA (a2 (tGot A {i:=i,bad:=false,out:=false} 1 a)) 25 18+1)) 262144∧Int.tmod (W (aA (a2 (tGot A {i:=i,bad:=false,out:=false} 1 a)) 25 18+1)) (262144:Int)<(262144:Int))∧(lE' A∧(0:Int)≤(tCas A (aG A (aG A {i:=i,bad:=false,out:=false} 1 a) 1 (2*n+5+2*t+3*W (aA (a2 (tGot A {i:=i,bad:=false,out:=false} 1 a)) 20 5 - 1)+2)) (2*n+5+2*t+3*W (aA (a2 (tGot A {i:=i,bad:=false,out:=false} 1 a)) 20 5 - 1)+2) (a2 (tGot A (aG A {i:=i,bad:=false,out:=false} 1 a) 1 (2*n+5+2*t+3*W (aA (a2 (tGot A {i:=i,bad:=false,out:=false} 1 a)) 20 5 - 1)+2))) (eI (aA (a2 (tGot A (aG A {i:=i,bad:=false,out:=false} 1 a) 1 (2*n+5+2*t+3*W (aA (a2 (tGot A {i:=i,bad:=false,out:=false} 1 a)) 20 5 - 1)+2))) 0 12%4096) (aA (a2 (tGot A (aG A {i:=i,bad:=false,out:=false} 1 a) 1 (2*n+5+2*t+3*W (aA (a2 (tGot A {i:=i,bad:=false,out:=false} 1 a)) 20 5 - 1)+2))) 12 9%512) (aA (a2 (tGot A (aG A {i:=i,bad:=false,out:=false} 1 a) 1 (2*n+5+2*t+3*W (aA (a2 (tGot A {i:=i,bad:=false,out:=false} 1 a)) 20 5 - 1)+2))) 21 18%262144) (aA (a2 (tGot A (aG A {i:=i,bad:=false,out:=false} 1 a) 1 (2*n+5+2*t+3*W (aA (a2 (tGot A {i:=i,bad:=false,out:=false} 1 a)) 20 5 - 1)+2))) 39 9%512) (ieq (aA (a2 (tGot A (aG A {i:=i,bad:=false,out:=false} 1 a) 1 (2*n+5+2*t+3*W (aA (a2 (tGot A {i:=i,bad:=false,out:=false} 1 a)) 20 5 - 1)+2))) 48 1) 1) (3%8) (aA (a2 (tGot A (aG A {i:=i,bad:=false,out:=false} 1 a) 1 (2*n+5+2*t+3*W (aA (a2 (tGot A {i:=i,bad:=false,out:=false} 1 a)) 20 5 - 1)+2))) 52 10%1024))).1∧(tCas A (aG A (aG A {i:=i,bad:=false,out:=false} 1 a) 1 (2*n+5+2*t+3*W (aA (a2 (tGot A {i:=i,bad:=false,out:=false} 1 a)) 20 5 - 1)+2)) (2*n+5+2*t+3*W (aA (a2 (tGot A {i:=i,bad:=false,out:=false} 1 a)) 20 5 - 1)+2) (a2 (tGot A (aG A {i:=i,bad:=false,out:=false} 1 a) 1 (2*n+5+2*t+3*W (aA (a2 (tGot A {i:=i,bad:=false,out:=false} 1 a)) 20 5 - 1)+2))) (eI (aA (a2 (tGot A (aG A {i:=i,bad:=false,out:=false} 1 a) 1 (2*n+5+2*t+3*W (aA (a2 (tGot A {i:=i,bad:=false,out:=false} 1 a)) 20 5 - 1)+2))) 0 12%4096) (aA (a2 (tGot A (aG A {i:=i,bad:=false,out:=false} 1 a) 1 (2*n+5+2*t+3*W (aA (a2 (tGot A {i:=i,bad:=false,out:=false} 1 a)) 20 5 - 1)+2))) 12 9%512) (aA (a2 (tGot A (aG A {i:=i,bad:=false,out:=false} 1 a) 1 (2*n+5+2*t+3*W (aA (a2 (tGot A {i:=i,bad:=false,out:=false} 1 a)) 20 5 - 1)+2))) 21 18%262144) (aA (a2 (tGot A (aG A {i:=i,bad:=false,out:=false} 1 a) 1 (2*n+5+2*t+3*W (aA (a2 (tGot A {i:=i,bad:=false,out:=false} 1 a)) 20 5 - 1)+2))) 39 9%512) (ieq (aA (a2 (tGot A (aG A {i:=i,bad:=false,out:=false} 1 a) 1 (2*n+5+2*t+3*W (aA (a2 (tGot A {i:=i,bad:=false,out:=false} 1 a)) 20 5 - 1)+2))) 48 1) 1) (3%8) (aA (a2 (tGot A (aG A {i:=i,bad:=false,out:=false} 1 a) 1 (2*n+5+2*t+3*W (aA (a2 (tGot A {i:=i,bad:=false,out:=false} 1 a)) 20 5 - 1)+2))) 52 10%1024))).1≤(4611686018427387904:Int))∧K (.tup []) [some (.cells [.tslice 1 0 (List.length A) 5,.int .i64 (tCas A (tCas A (aG A (aG A {i:=i,bad:=false,out:=false} 1 a) 1 (2*n+5+2*t+3*W (aA (a2 (tGot A {i:=i,bad:=false,out:=false} 1 a)) 20 5 - 1)+2)) (2*n+5+2*t+3*W (aA (a2 (tGot A {i:=i,bad:=false,out:=false} 1 a)) 20 5 - 1)+2) (a2 (tGot A (aG A {i:=i,bad:=false,out:=false} 1 a) 1 (2*n+5+2*t+3*W (aA (a2 (tGot A {i:=i,bad:=false,out:=false} 1 a)) 20 5 - 1)+2))) (eI (aA (a2 (tGot A (aG A {i:=i,bad:=false,out:=false} 1 a) 1 (2*n+5+2*t+3*W (aA (a2 (tGot A {i:=i,bad:=false,out:=false} 1 a)) 20 5 - 1)+2))) 0 12%4096) (aA (a2 (tGot A (aG A {i:=i,bad:=false,out:=false} 1 a) 1 (2*n+5+2*t+3*W (aA (a2 (tGot A {i:=i,bad:=false,out:=false} 1 a)) 20 5 - 1)+2))) 12 9%512) (aA (a2 (tGot A (aG A {i:=i,bad:=false,out:=false} 1 a) 1 (2*n+5+2*t+3*W (aA (a2 (tGot A {i:=i,bad:=false,out:=false} 1 a)) 20 5 - 1)+2))) 21 18%262144) (aA (a2 (tGot A (aG A {i:=i,bad:=false,out:=false} 1 a) 1 (2*n+5+2*t+3*W (aA (a2 (tGot A {i:=i,bad:=false,out:=false} 1 a)) 20 5 - 1)+2))) 39 9%512) (ieq (aA (a2 (tGot A (aG A {i:=i,bad:=false,out:=false} 1 a) 1 (2*n+5+2*t+3*W (aA (a2 (tGot A {i:=i,bad:=false,out:=false} 1 a)) 20 5 - 1)+2))) 48 1) 1) (3%8) (aA (a2 (tGot A (aG A {i:=i,bad:=false,out:=false} 1 a) 1 (2*n+5+2*t+3*W (aA (a2 (tGot A {i:=i,bad:=false,out:=false} 1 a)) 20 5 - 1)+2))) 52 10%1024))) a (a2 (tGot A {i:=i,bad:=false,out:=false} 1 a)) (bO (aA (a2 (tGot A {i:=i,bad:=false,out:=false} 1 a)) 0 10) (aA (a2 (tGot A {i:=i,bad:=false,out:=false} 1 a)) 10 9) (ieq (aA (a2 (tGot A {i:=i,bad:=false,out:=false} 1 a)) 19 1) 1) 0 (Int.tmod (W (aA (a2 (tGot A {i:=i,bad:=false,out:=false} 1 a)) 25 18+1)) 262144))).1,.bool (tCas A (tCas A (aG A (aG A {i:=i,bad:=false,out:=false} 1 a) 1 (2*n+5+2*t+3*W (aA (a2 (tGot A {i:=i,bad:=false,out:=false} 1 a)) 20 5 - 1)+2)) (2*n+5+2*t+3*W (aA (a2 (tGot A {i:=i,bad:=false,out:=false} 1 a)) 20 5 - 1)+2) (a2 (tGot A (aG A {i:=i,bad:=false,out:=false} 1 a) 1 (2*n+5+2*t+3*W (aA (a2 (tGot A {i:=i,bad:=false,out:=false} 1 a)) 20 5 - 1)+2))) (eI (aA (a2 (tGot A (aG A {i:=i,bad:=false,out:=false} 1 a) 1 (2*n+5+2*t+3*W (aA (a2 (tGot A {i:=i,bad:=false,out:=false} 1 a)) 20 5 - 1)+2))) 0 12%4096) (aA (a2 (tGot A (aG A {i:=i,bad:=false,out:=false} 1 a) 1 (2*n+5+2*t+3*W (aA (a2 (tGot A {i:=i,bad:=false,out:=false} 1 a)) 20 5 - 1)+2))) 12 9%512) (aA (a2 (tGot A (aG A {i:=i,bad:=false,out:=false} 1 a) 1 (2*n+5+2*t+3*W (aA (a2 (tGot A {i:=i,bad:=false,out:=false} 1 a)) 20 5 - 1)+2))) 21 18%262144) (aA (a2 (tGot A (aG A {i:=i,bad:=false,out:=false} 1 a) 1 (2*n+5+2*t+3*W (aA (a2 (tGot A {i:=i,bad:=false,out:=false} 1 a)) 20 5 - 1)+2))) 39 9%512) (ieq (aA (a2 (tGot A (aG A {i:=i,bad:=false,out:=false} 1 a) 1 (2*n+5+2*t+3*W (aA (a2 (tGot A {i:=i,bad:=false,out:=false} 1 a)) 20 5 - 1)+2))) 48 1) 1) (3%8) (aA (a2 (tGot A (aG A {i:=i,bad:=false,out:=false} 1 a) 1 (2*n+5+2*t+3*W (aA (a2 (tGot A {i:=i,bad:=false,out:=false} 1 a)) 20 5 - 1)+2))) 52 10%1024))) a (a2 (tGot A {i:=i,bad:=false,out:=false} 1 a)) (bO (aA (a2 (tGot A {i:=i,bad:=false,out:=false} 1 a)) 0 10) (aA (a2 (tGot A {i:=i,bad:=false,out:=false} 1 a)) 10 9) (ieq (aA (a2 (tGot A {i:=i,bad:=false,out:=false} 1 a)) 19 1) 1) 0 (Int.tmod (W (aA (a2 (tGot A {i:=i,bad:=false,out:=false} 1 a)) 25 18+1)) 262144))).2,.bool (tCas A (tCas A (aG A (aG A {i:=i,bad:=false,out:=false} 1 a) 1 (2*n+5+2*t+3*W (aA (a2 (tGot A {i:=i,bad:=false,out:=false} 1 a)) 20 5 - 1)+2)) (2*n+5+2*t+3*W (aA (a2 (tGot A {i:=i,bad:=false,out:=false} 1 a)) 20 5 - 1)+2) (a2 (tGot A (aG A {i:=i,bad:=false,out:=false} 1 a) 1 (2*n+5+2*t+3*W (aA (a2 (tGot A {i:=i,bad:=false,out:=false} 1 a)) 20 5 - 1)+2))) (eI (aA (a2 (tGot A (aG A {i:=i,bad:=false,out:=false} 1 a) 1 (2*n+5+2*t+3*W (aA (a2 (tGot A {i:=i,bad:=false,out:=false} 1 a)) 20 5 - 1)+2))) 0 12%4096) (aA (a2 (tGot A (aG A {i:=i,bad:=false,out:=false} 1 a) 1 (2*n+5+2*t+3*W (aA (a2 (tGot A {i:=i,bad:=false,out:=false} 1 a)) 20 5 - 1)+2))) 12 9%512) (aA (a2 (tGot A (aG A {i:=i,bad:=false,out:=false} 1 a) 1 (2*n+5+2*t+3*W (aA (a2 (tGot A {i:=i,bad:=false,out:=false} 1 a)) 20 5 - 1)+2))) 21 18%262144) (aA (a2 (tGot A (aG A {i:=i,bad:=false,out:=false} 1 a) 1 (2*n+5+2*t+3*W (aA (a2 (tGot A {i:=i,bad:=false,out:=false} 1 a)) 20 5 - 1)+2))) 39 9%512) (ieq (aA (a2 (tGot A (aG A {i:=i,bad:=false,out:=false} 1 a) 1 (2*n+5+2*t+3*W (aA (a2 (tGot A {i:=i,bad:=false,out:=false} 1 a)) 20 5 - 1)+2))) 48 1) 1) (3%8) (aA (a2 (tGot A (aG A {i:=i,bad:=false,out:=false} 1 a) 1 (2*n+5+2*t+3*W (aA (a2 (tGot A {i:=i,bad:=false,out:=false} 1 a)) 20 5 - 1)+2))) 52 10%1024))) a (a2 (tGot A {i:=i,bad:=false,out:=false} 1 a)) (bO (aA (a2 (tGot A {i:=i,bad:=false,out:=false} 1 a)) 0 10) (aA (a2 (tGot A {i:=i,bad:=false,out:=false} 1 a)) 10 9) (ieq (aA (a2 (tGot A {i:=i,bad:=false,out:=false} 1 a)) 19 1) 1) 0 (Int.tmod (W (aA (a2 (tGot A {i:=i,bad:=false,out:=false} 1 a)) 25 18+1)) 262144))).3]),some (.tab [some .i64,some .i64,some .u64,some .u64,none] A)]else(262144:Int)≠(0:Int)∧(((0:Int)≤aA (a2 (tGot A {i:=i,bad:=false,out:=false} 1 a)) 0 10∧aA (a2 (tGot A {i:=i,bad:=false,out:=false} 1 a)) 0 (10:Int)<(1024:Int))∧((0:Int)≤aA (a2 (tGot A {i:=i,bad:=false,out:=false} 1 a)) 10 9∧aA (a2 (tGot A {i:=i,bad:=false,out:=false} 1 a)) 10 (9:Int)<(512:Int))∧((0:Int)≤(0:Int)∧(0:Int)<(32:Int))∧(0:Int)≤Int.tmod (W (aA (a2 (tGot A {i:=i,bad:=false,out:=false} 1 a)) 25 18+1)) 262144∧Int.tmod (W (aA (a2 (tGot A {i:=i,bad:=false,out:=false} 1 a)) 25 18+1)) (262144:Int)<(262144:Int))∧(lE' A∧(0:Int)≤(aG A (aG A {i:=i,bad:=false,out:=false} 1 a) 1 (2*n+5+2*t+3*W (aA (a2 (tGot A {i:=i,bad:=false,out:=false} 1 a)) 20 5 - 1)+2)).1∧(aG A (aG A {i:=i,bad:=false,out:=false} 1 a) 1 (2*n+5+2*t+3*W (aA (a2 (tGot A {i:=i,bad:=false,out:=false} 1 a)) 20 5 - 1)+2)).1≤(4611686018427387904:Int))∧K (.tup []) [some (.cells [.tslice 1 0 (List.length A) 5,.int .i64 (tCas A (aG A (aG A {i:=i,bad:=false,out:=false} 1 a) 1 (2*n+5+2*t+3*W (aA (a2 (tGot A {i:=i,bad:=false,out:=false} 1 a)) 20 5 - 1)+2)) a (a2 (tGot A {i:=i,bad:=false,out:=false} 1 a)) (bO (aA (a2 (tGot A {i:=i,bad:=false,out:=false} 1 a)) 0 10) (aA (a2 (tGot A {i:=i,bad:=false,out:=false} 1 a)) 10 9) (ieq (aA (a2 (tGot A {i:=i,bad:=false,out:=false} 1 a)) 19 1) 1) 0 (Int.tmod (W (aA (a2 (tGot A {i:=i,bad:=false,out:=false} 1 a)) 25 18+1)) 262144))).1,.bool (tCas A (aG A (aG A {i:=i,bad:=false,out:=false} 1 a) 1 (2*n+5+2*t+3*W (aA (a2 (tGot A {i:=i,bad:=false,out:=false} 1 a)) 20 5 - 1)+2)) a (a2 (tGot A {i:=i,bad:=false,out:=false} 1 a)) (bO (aA (a2 (tGot A {i:=i,bad:=false,out:=false} 1 a)) 0 10) (aA (a2 (tGot A {i:=i,bad:=false,out:=false} 1 a)) 10 9) (ieq (aA (a2 (tGot A {i:=i,bad:=false,out:=false} 1 a)) 19 1) 1) 0 (Int.tmod (W (aA (a2 (tGot A {i:=i,bad:=false,out:=false} 1 a)) 25 18+1)) 262144))).2,.bool (tCas A (aG A (aG A {i:=i,bad:=false,out:=false} 1 a) 1 (2*n+5+2*t+3*W (aA (a2 (tGot A {i:=i,bad:=false,out:=false} 1 a)) 20 5 - 1)+2)) a (a2 (tGot A {i:=i,bad:=false,out:=false} 1 a)) (bO (aA (a2 (tGot A {i:=i,bad:=false,out:=false} 1 a)) 0 10) (aA (a2 (tGot A {i:=i,bad:=false,out:=false} 1 a)) 10 9) (ieq (aA (a2 (tGot A {i:=i,bad:=false,out:=false} 1 a)) 19 1) 1) 0 (Int.tmod (W (aA (a2 (tGot A {i:=i,bad:=false,out:=false} 1 a)) 25 18+1)) 262144))).3]),some (.tab [some .i64,some .i64,some .u64,some .u64,none] A)]else(262144:Int)≠(0:Int)∧(((0:Int)≤aA (a2 (tGot A {i:=i,bad:=false,out:=false} 1 a)) 0 10∧aA (a2 (tGot A {i:=i,bad:=false,out:=false} 1 a)) 0 (10:Int)<(1024:Int))∧((0:Int)≤aA (a2 (tGot A {i:=i,bad:=false,out:=false} 1 a)) 10 9∧aA (a2 (tGot A {i:=i,bad:=false,out:=false} 1 a)) 10 (9:Int)<(512:Int))∧((0:Int)≤(0:Int)∧(0:Int)<(32:Int))∧(0:Int)≤Int.tmod (W (aA (a2 (tGot A {i:=i,bad:=false,out:=false} 1 a)) 25 18+1)) 262144∧Int.tmod (W (aA (a2 (tGot A {i:=i,bad:=false,out:=false} 1 a)) 25 18+1)) (262144:Int)<(262144:Int))∧(lE' A∧(0:Int)≤(aG A (aG A {i:=i,bad:=false,out:=false} 1 a) 1 (2*n+5+2*t+3*W (aA (a2 (tGot A {i:=i,bad:=false,out:=false} 1 a)) 20 5 - 1)+2)).1∧(aG A (aG A {i:=i,bad:=false,out:=false} 1 a) 1 (2*n+5+2*t+3*W (aA (a2 (tGot A {i:=i,bad:=false,out:=false} 1 a)) 20 5 - 1)+2)).1≤(4611686018427387904:Int))∧K (.tup []) [some (.cells [.tslice 1 0 (List.length A) 5,.int .i64 (tCas A (aG A (aG A {i:=i,bad:=false,out:=false} 1 a) 1 (2*n+5+2*t+3*W (aA (a2 (tGot A {i:=i,bad:=false,out:=false} 1 a)) 20 5 - 1)+2)) a (a2 (tGot A {i:=i,bad:=false,out:=false} 1 a)) (bO (aA (a2 (tGot A {i:=i,bad:=false,out:=false} 1 a)) 0 10) (aA (a2 (tGot A {i:=i,bad:=false,out:=false} 1 a)) 10 9) (ieq (aA (a2 (tGot A {i:=i,bad:=false,out:=false} 1 a)) 19 1) 1) 0 (Int.tmod (W (aA (a2 (tGot A {i:=i,bad:=false,out:=false} 1 a)) 25 18+1)) 262144))).1,.bool (tCas A (aG A (aG A {i:=i,bad:=false,out:=false} 1 a) 1 (2*n+5+2*t+3*W (aA (a2 (tGot A {i:=i,bad:=false,out:=false} 1 a)) 20 5 - 1)+2)) a (a2 (tGot A {i:=i,bad:=false,out:=false} 1 a)) (bO (aA (a2 (tGot A {i:=i,bad:=false,out:=false} 1 a)) 0 10) (aA (a2 (tGot A {i:=i,bad:=false,out:=false} 1 a)) 10 9) (ieq (aA (a2 (tGot A {i:=i,bad:=false,out:=false} 1 a)) 19 1) 1) 0 (Int.tmod (W (aA (a2 (tGot A {i:=i,bad:=false,out:=false} 1 a)) 25 18+1)) 262144))).2,.bool (tCas A (aG A (aG A {i:=i,bad:=false,out:=false} 1 a) 1 (2*n+5+2*t+3*W (aA (a2 (tGot A {i:=i,bad:=false,out:=false} 1 a)) 20 5 - 1)+2)) a (a2 (tGot A {i:=i,bad:=false,out:=false} 1 a)) (bO (aA (a2 (tGot A {i:=i,bad:=false,out:=false} 1 a)) 0 10) (aA (a2 (tGot A {i:=i,bad:=false,out:=false} 1 a)) 10 9) (ieq (aA (a2 (tGot A {i:=i,bad:=false,out:=false} 1 a)) 19 1) 1) 0 (Int.tmod (W (aA (a2 (tGot A {i:=i,bad:=false,out:=false} 1 a)) 25 18+1)) 262144))).3]),some (.tab [some .i64,some .i64,some .u64,some .u64,none] A)]else(262144:Int)≠(0:Int)∧(((0:Int)≤aA (a2 (tGot A {i:=i,bad:=false,out:=false} 1 a)) 0 10∧aA (a2 (tGot A {i:=i,bad:=false,out:=false} 1 a)) 0 (10:Int)<(1024:Int))∧((0:Int)≤aA (a2 (tGot A {i:=i,bad:=false,out:=false} 1 a)) 10 9∧aA (a2 (tGot A {i:=i,bad:=false,out:=false} 1 a)) 10 (9:Int)<(512:Int))∧((0:Int)≤(0:Int)∧(0:Int)<(32:Int))∧(0:Int)≤Int.tmod (W (aA (a2 (tGot A {i:=i,bad:=false,out:=false} 1 a)) 25 18+1)) 262144∧Int.tmod (W (aA (a2 (tGot A {i:=i,bad:=false,out:=false} 1 a)) 25 18+1)) (262144:Int)<(262144:Int))∧(lE' A∧(0:Int)≤(aG A (aG A {i:=i,bad:=false,out:=false} 1 a) 1 (2*n+5+2*t+3*W (aA (a2 (tGot A {i:=i,bad:=false,out:=false} 1 a)) 20 5 - 1)+2)).1∧(aG A (aG A {i:=i,bad:=false,out:=false} 1 a) 1 (2*n+5+2*t+3*W (aA (a2 (tGot A {i:=i,bad:=false,out:=false} 1 a)) 20 5 - 1)+2)).1≤(4611686018427387904:Int))∧K (.tup []) [some (.cells [.tslice 1 0 (List.length A) 5,.int .i64 (tCas A (aG A (aG A {i:=i,bad:=false,out:=false} 1 a) 1 (2*n+5+2*t+3*W (aA (a2 (tGot A {i:=i,bad:=false,out:=false} 1 a)) 20 5 - 1)+2)) a (a2 (tGot A {i:=i,bad:=false,out:=false} 1 a)) (bO (aA (a2 (tGot A {i:=i,bad:=false,out:=false} 1 a)) 0 10) (aA (a2 (tGot A {i:=i,bad:=false,out:=false} 1 a)) 10 9) (ieq (aA (a2 (tGot A {i:=i,bad:=false,out:=false} 1 a)) 19 1) 1) 0 (Int.tmod (W (aA (a2 (tGot A {i:=i,bad:=false,out:=false} 1 a)) 25 18+1)) 262144))).1,.bool (tCas A (aG A (aG A {i:=i,bad:=false,out:=false} 1 a) 1 (2*n+5+2*t+3*W (aA (a2 (tGot A {i:=i,bad:=false,out:=false} 1 a)) 20 5 - 1)+2)) a (a2 (tGot A {i:=i,bad:=false,out:=false} 1 a)) (bO (aA (a2 (tGot A {i:=i,bad:=false,out:=false} 1 a)) 0 10) (aA (a2 (tGot A {i:=i,bad:=false,out:=false} 1 a)) 10 9) (ieq (aA (a2 (tGot A {i:=i,bad:=false,out:=false} 1 a)) 19 1) 1) 0 (Int.tmod (W (aA (a2 (tGot A {i:=i,bad:=false,out:=false} 1 a)) 25 18+1)) 262144))).2,.bool (tCas A (aG A (aG A {i:=i,bad:=false,out:=false} 1 a) 1 (2*n+5+2*t+3*W (aA (a2 (tGot A {i:=i,bad:=false,out:=false} 1 a)) 20 5 - 1)+2)) a (a2 (tGot A {i:=i,bad:=false,out:=false} 1 a)) (bO (aA (a2 (tGot A {i:=i,bad:=false,out:=false} 1 a)) 0 10) (aA (a2 (tGot A {i:=i,bad:=false,out:=false} 1 a)) 10 9) (ieq (aA (a2 (tGot A {i:=i,bad:=false,out:=false} 1 a)) 19 1) 1) 0 (Int.tmod (W (aA (a2 (tGot A {i:=i,bad:=false,out:=false} 1 a)) 25 18+1)) 262144))).3]),some (.tab [some .i64,some .i64,some .u64,some .u64,none] A)]else(262144:Int)≠(0:Int)∧(((0:Int)≤aA (a2 (tGot A {i:=i,bad:=false,out:=false} 1 a)) 0 10∧aA (a2 (tGot A {i:=i,bad:=false,out:=false} 1 a)) 0 (10:Int)<(1024:Int))∧((0:Int)≤aA (a2 (tGot A {i:=i,bad:=false,out:=false} 1 a)) 10 9∧aA (a2 (tGot A {i:=i,bad:=false,out:=false} 1 a)) 10 (9:Int)<(512:Int))∧((0:Int)≤(0:Int)∧(0:Int)<(32:Int))∧(0:Int)≤Int.tmod (W (aA (a2 (tGot A {i:=i,bad:=false,out:=false} 1 a)) 25 18+1)) 262144∧Int.tmod (W (aA (a2 (tGot A {i:=i,bad:=false,out:=false} 1 a)) 25 18+1)) (262144:Int)<(262144:Int))∧(lE' A∧(0:Int)≤(aG A (aG A {i:=i,bad:=false,out:=false} 1 a) 1 (2*n+5+2*t+3*W (aA (a2 (tGot A {i:=i,bad:=false,out:=false} 1 a)) 20 5 - 1)+2)).1∧(aG A (aG A {i:=i,bad:=false,out:=false} 1 a) 1 (2*n+5+2*t+3*W (aA (a2 (tGot A {i:=i,bad:=false,out:=false} 1 a)) 20 5 - 1)+2)).1≤(4611686018427387904:Int))∧K (.tup []) [some (.cells [.tslice 1 0 (List.length A) 5,.int .i64 (tCas A (aG A (aG A {i:=i,bad:=false,out:=false} 1 a) 1 (2*n+5+2*t+3*W (aA (a2 (tGot A {i:=i,bad:=false,out:=false} 1 a)) 20 5 - 1)+2)) a (a2 (tGot A {i:=i,bad:=false,out:=false} 1 a)) (bO (aA (a2 (tGot A {i:=i,bad:=false,out:=false} 1 a)) 0 10) (aA (a2 (tGot A {i:=i,bad:=false,out:=false} 1 a)) 10 9) (ieq (aA (a2 (tGot A {i:=i,bad:=false,out:=false} 1 a)) 19 1) 1) 0 (Int.tmod (W (aA (a2 (tGot A {i:=i,bad:=false,out:=false} 1 a)) 25 18+1)) 262144))).1,.bool (tCas A (aG A (aG A {i:=i,bad:=false,out:=false} 1 a) 1 (2*n+5+2*t+3*W (aA (a2 (tGot A {i:=i,bad:=false,out:=false} 1 a)) 20 5 - 1)+2)) a (a2 (tGot A {i:=i,bad:=false,out:=false} 1 a)) (bO (aA (a2 (tGot A {i:=i,bad:=false,out:=false} 1 a)) 0 10) (aA (a2 (tGot A {i:=i,bad:=false,out:=false} 1 a)) 10 9) (ieq (aA (a2 (tGot A {i:=i,bad:=false,out:=false} 1 a)) 19 1) 1) 0 (Int.tmod (W (aA (a2 (tGot A {i:=i,bad:=false,out:=false} 1 a)) 25 18+1)) 262144))).2,.bool (tCas A (aG A (aG A {i:=i,bad:=false,out:=false} 1 a) 1 (2*n+5+2*t+3*W (aA (a2 (tGot A {i:=i,bad:=false,out:=false} 1 a)) 20 5 - 1)+2)) a (a2 (tGot A {i:=i,bad:=false,out:=false} 1 a)) (bO (aA (a2 (tGot A {i:=i,bad:=false,out:=false} 1 a)) 0 10) (aA (a2 (tGot A {i:=i,bad:=false,out:=false} 1 a)) 10 9) (ieq (aA (a2 (tGot A {i:=i,bad:=false,out:=false} 1 a)) 19 1) 1) 0 (Int.tmod (W (aA (a2 (tGot A {i:=i,bad:=false,out:=false} 1 a)) 25 18+1)) 262144))).3]),some (.tab [some .i64,some .i64,some .u64,some .u64,none] A)]
theorem wI(A:List (List Int))(t n a i:Int)(K:AVal→aB Ob→Prop)(hK:B8 A t n a i K):cT' 80 [.ptr 0 0,.agg [.int .i64 t,.int .i64 n],.int .i64 a] (UQ A i) K:=by
 refine VV (aE (E:=E24) Tryz.checked.mixed (L:=fun _ _=>none) (n:=10) (aR (by kernel_rfl) hK))
end Go.Sh
