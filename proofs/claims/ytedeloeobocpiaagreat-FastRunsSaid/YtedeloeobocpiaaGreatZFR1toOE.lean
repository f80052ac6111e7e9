import Derived.Test.YtedeloeobocpiaaGreatZGTtoFR0
set_option linter.all false
set_option maxHeartbeats 8000000
namespace Go.Sh
open Go Go.Proofs
variable [Con]
def rT(t n:Int):Nat→ENS→STS→MS→Bool×ENS×STS×MS
 | 0,e,st,s=>(false,e,st,s)
 | f+1,e,st,s=>bif (enF t n e st s).d then(true,(enF t n e st s).e,(enF t n e st s).st,(enF t n e st s).s)else rT t n f (enF t n e st s).e (enF t n e st s).st (enF t n e st s).s
def oX(t n:Int):Nat→ENS→STS→MS→Prop
 | 0,_,_,_=>False
 | f+1,e,st,s=>okE t n e st s∧((enF t n e st s).d =false→oX t n f (enF t n e st s).e (enF t n e st s).st (enF t n e st s).s)
def pC(t n:Int):Nat→FTS→STS→MS→Prop
 | 0,_,_,_=>False
 | f+1,x,st,s=>ftOk t n x st s∧((ftF t n x st s).d =false→pC t n f (ftF t n x st s).x (ftF t n x st s).st (ftF t n x st s).s)
def l6(t n:Int):Nat→FTS→STS→MS→FTS×STS×MS
 | 0,x,st,s=>(x,st,s)
 | f+1,x,st,s=>bif (ftF t n x st s).d then((ftF t n x st s).x,(ftF t n x st s).st,(ftF t n x st s).s)else l6 t n f (ftF t n x st s).x (ftF t n x st s).st (ftF t n x st s).s
def frE(t n:Int)(N:Nat)(kd:Int)(st:STS)(s:MS):STS×MS:=bif bT kd&&ieq st.sp 0 then(rT t n N dENS st s).2.2 else(st,s)
def P8(t n:Int)(N:Nat)(kd:Int)(st:STS)(s:MS):Prop:=bT kd=true→st.sp=0→oX t n N dENS st s
def r0(r:List Int):Int:=List.headD r 0
def r1(r:List Int):Int:=List.headD (List.tail r) 0
def r2(r:List Int):Int:=List.headD (List.tail (List.tail r)) 0
def frX(t n most:Int)(N:Nat)(r:List Int)(st:STS)(s:MS):FTS×STS×MS:=l6 t n N (ftNF t n (r0 r) (r1 r) (r2 r) most (frE t n N (r1 r) st s).1).1 (ftNF t n (r0 r) (r1 r) (r2 r) most (frE t n N (r1 r) st s).1).2 (frE t n N (r1 r) st s).2
def t8(t n most:Int)(N:Nat)(r:List Int)(st:STS)(s:MS):Prop:=P8 t n N (r1 r) st s∧pD t n (r0 r) (r1 r) (r2 r) most (frE t n N (r1 r) st s).1∧pC t n N (ftNF t n (r0 r) (r1 r) (r2 r) most (frE t n N (r1 r) st s).1).1 (ftNF t n (r0 r) (r1 r) (r2 r) most (frE t n N (r1 r) st s).1).2 (frE t n N (r1 r) st s).2
def frRow(x:FTS):List Int:=[x.code,bitI x.okk,x.val]
def frF(t n most:Int)(N:Nat):List (List Int)→STS→MS→List (List Int)×Bool×STS×MS
 | [],st,s=>([],true,st,s)
 | r::T,st,s=>bif (frX t n most N r st s).1.failed then([],false,(frX t n most N r st s).2)else(frRow (frX t n most N r st s).1::(frF t n most N T (frX t n most N r st s).2.1 (frX t n most N r st s).2.2).1,(frF t n most N T (frX t n most N r st s).2.1 (frX t n most N r st s).2.2).2)
def z6(t n most:Int)(N:Nat):List (List Int)→STS→MS→Prop
 | [],_,_=>True
 | r::T,st,s=>t8 t n most N r st s∧((frX t n most N r st s).1.failed =false→z6 t n most N T (frX t n most N r st s).2.1 (frX t n most N r st s).2.2)
abbrev KT:List Code1:=[some .i64,some .i64,some .i64]
abbrev KR:List Code1:=[some .i64,none,some .i64]
structure frA (t n most:Int) (N:Nat) (T:List (List Int)) (st0:STS) (s0:MS) (x:Nat×List (List Int)×STS×MS):Prop where
 h1:x.1≤T.length
 hl:x.2.1.length=x.1
 ok:z6 t n most N (T.drop x.1) x.2.2.1 x.2.2.2
 eq:frF t n most N T st0 s0=(x.2.1++(frF t n most N (T.drop x.1) x.2.2.1 x.2.2.2).1,(frF t n most N (T.drop x.1) x.2.2.1 x.2.2.2).2)
structure XY (t n most:Int) (N:Nat) (T:List (List Int)) (st0:STS) (s0:MS) (i:Int) (x:Nat×List (List Int)×STS×MS×ENS×STS×MS):Prop where
 i0:0≤i∧i<T.length
 a:frA t n most N T st0 s0 (i.toNat,x.2.1,x.2.2.1,x.2.2.2.1)
 lk:(bT (r1 (List.getD T i.toNat []))&&ieq x.2.2.1.sp 0)=true
 ok:oX t n x.1 x.2.2.2.2.1 x.2.2.2.2.2.1 x.2.2.2.2.2.2
 eq:(rT t n N dENS x.2.2.1 x.2.2.2.1).2.2=(rT t n x.1 x.2.2.2.2.1 x.2.2.2.2.2.1 x.2.2.2.2.2.2).2.2
structure W1 (t n most:Int) (N:Nat) (T:List (List Int)) (st0:STS) (s0:MS) (i:Int) (x:Nat×List (List Int)×STS×MS×FTS×STS×MS):Prop where
 i0:0≤i∧i<T.length
 a:frA t n most N T st0 s0 (i.toNat,x.2.1,x.2.2.1,x.2.2.2.1)
 ok:pC t n x.1 x.2.2.2.2.1 x.2.2.2.2.2.1 x.2.2.2.2.2.2
 eq:frX t n most N (List.getD T i.toNat []) x.2.2.1 x.2.2.2.1=l6 t n x.1 x.2.2.2.2.1 x.2.2.2.2.2.1 x.2.2.2.2.2.2
def u3(t n most:Int)(N:Nat)(T:List (List Int))(st0:STS)(s0:MS):Hint Ob:= {X:=Nat×List (List Int)×STS×MS,st:=fun x=>([.ptr 0 0,.ptr 2 0,.int .i64 most]++List.replicate 7 .O ++ [.tslice 4 0 x.2.1.length 3]++List.replicate 4 .O ++ [.tslice 3 0 T.length 3,.int .i64 (T.length:Int),.int .i64 (x.1:Int)]++List.replicate 40 .O,[aX 1 x.2.2.2,aY x.2.2.2,some (.abs (.store t n x.2.2.1) []),some (.tab KT T),some (.tab KR x.2.1)]),ok:=frA t n most N T st0 s0,mu:=fun x=>T.length - x.1,keep:=[0,1,2,10,15,16,17],casts:=[(.slot 10,.tab KR)] }
def HRb(t n most:Int)(N:Nat)(T:List (List Int))(st0:STS)(s0:MS)(i:Int):Hint Ob:= {X:=Nat×List (List Int)×STS×MS×ENS×STS×MS,st:=fun x=>([.ptr 0 0,.ptr 2 0,.int .i64 most]++List.replicate 7 .O ++ [.tslice 4 0 x.2.1.length 3]++ [.O,.ptr 5 0,.ptr 6 0,.O,.tslice 3 0 T.length 3,.int .i64 (T.length:Int),.int .i64 i]++List.replicate 40 .O,[aX 1 x.2.2.2.2.2.2,aY x.2.2.2.2.2.2,some (.abs (.store t n x.2.2.2.2.2.1) []),some (.tab KT T),some (.tab KR x.2.1),some (.cells [.int .i64 (r0 (List.getD T i.toNat [])),.int .i64 (r1 (List.getD T i.toNat [])),.int .i64 (r2 (List.getD T i.toNat []))]),some (.abs (.ensure t n x.2.2.2.2.1) [2])]),ok:=XY t n most N T st0 s0 i,mu:=fun x=>x.1,keep:=[0,1,2,10,12,13,15,16,17],casts:=[(.slot 10,.tab KR)] }
def HRc(t n most:Int)(N:Nat)(T:List (List Int))(st0:STS)(s0:MS)(i:Int):Hint Ob:= {X:=Nat×List (List Int)×STS×MS×FTS×STS×MS,st:=fun x=>([.ptr 0 0,.ptr 2 0,.int .i64 most]++List.replicate 7 .O ++ [.tslice 4 0 x.2.1.length 3]++ [.O,.ptr 5 0,.O,.ptr 6 0,.tslice 3 0 T.length 3,.int .i64 (T.length:Int),.int .i64 i]++List.replicate 40 .O,[aX 1 x.2.2.2.2.2.2,aY x.2.2.2.2.2.2,some (.abs (.store t n x.2.2.2.2.2.1) []),some (.tab KT T),some (.tab KR x.2.1),some (.cells [.int .i64 (r0 (List.getD T i.toNat [])),.int .i64 (r1 (List.getD T i.toNat [])),.int .i64 (r2 (List.getD T i.toNat []))]),some (.abs (.fast t n x.2.2.2.2.1) [2])]),ok:=W1 t n most N T st0 s0 i,mu:=fun x=>x.1,keep:=[0,1,2,10,12,14,15,16,17],casts:=[(.slot 10,.tab KR)] }
def XH(t n most:Int)(N:Nat)(T:List (List Int))(st0:STS)(s0:MS):FuncId→Nat→Option (nP Ob):=fun _ k=>if k=3 then some (.states (u3 t n most N T st0 s0))else if k=7 then some (.statesAt 17 (HRb t n most N T st0 s0))else if k=9 then some (.statesAt 17 (HRc t n most N T st0 s0))else none
def N7(t n most:Int)(N:Nat)(T:List (List Int))(st:STS)(s:MS)(K:AVal→aC Ob→Prop):Prop:=okSt (u3 t n most N T st s) (Hint.ok (u3 t n most N T st s)) [.ptr 0 0,.ptr 2 0,.int .i64 most,.O,.O,.O,.O,.O,.O,.O,.tslice 4 0 0 3,.O,.O,.O,.O,.tslice 3 0 (List.length T) 3,.int .i64 (↑(List.length T):Int),.int .i64 0,.O,.O,.O,.O,.O,.O,.O,.O,.O,.O,.O,.O,.O,.O,.O,.O,.O,.O,.O,.O,.O,.O,.O,.O,.O,.O,.O,.O,.O,.O,.O,.O,.O,.O,.O,.O,.O,.O,.O,.O] [some (.cells [.int .i64 s.1,.int .i64 s.2,.slice 1 0 (List.length s.3) 1,.int .i64 s.4,.int .i64 s.5,.int .i64 s.6,.int .u64 s.7,.int .u64 s.8,.bool s.9]),some (.ints (some .u64) s.3),some (.abs (.store t n st) []),some (.tab [some .i64,some .i64,some .i64] T),some (.tab [some .i64,none,some .i64] [])]∧ ∀(x:(Nat×List (List Int)×STS×MS)),frA t n most N T st s x→bif ilt (↑x.1:Int) (↑(List.length T):Int)then((0:Int)≤(↑x.1:Int)∧(↑x.1:Int)<(↑(List.length T):Int))∧0+Int.toNat (↑x.1:Int)<List.length T∧True∧bif bT (List.headD (List.tail (List.getD T (0+Int.toNat (↑x.1:Int)) [])) 0)then bif ieq (Prod.fst (Prod.snd x).2).2 0 then((t=t∧n=n∧lE' (Prod.fst (Prod.snd x).2).3)∧True)∧okSt (HRb t n most N T st s (↑(Prod.fst x):Int)) (Hint.ok (HRb t n most N T st s (↑(Prod.fst x):Int))) [.ptr 0 0,.ptr 2 0,.int .i64 most,.O,.O,.O,.O,.O,.O,.O,.tslice 4 0 (List.length (Prod.snd x).1) 3,.O,.ptr 5 0,.ptr 6 0,.O,.tslice 3 0 (List.length T) 3,.int .i64 (↑(List.length T):Int),.int .i64 (↑x.1:Int),.O,.O,.O,.O,.O,.O,.O,.O,.O,.O,.O,.O,.O,.O,.O,.O,.O,.O,.O,.O,.O,.O,.O,.O,.O,.O,.O,.O,.O,.O,.O,.O,.O,.O,.O,.O,.O,.O,.O,.O] [some (.cells [.int .i64 (Prod.snd (Prod.snd x).2).1,.int .i64 (Prod.snd (Prod.snd x).2).2,.slice 1 0 (List.length (Prod.snd (Prod.snd x).2).3) 1,.int .i64 (Prod.snd (Prod.snd x).2).4,.int .i64 (Prod.snd (Prod.snd x).2).5,.int .i64 (Prod.snd (Prod.snd x).2).6,.int .u64 (Prod.snd (Prod.snd x).2).7,.int .u64 (Prod.snd (Prod.snd x).2).8,.bool (Prod.snd (Prod.snd x).2).9]),some (.ints (some .u64) (Prod.snd (Prod.snd x).2).3),some (.abs (.store t n (Prod.snd x.2).1) []),some (.tab [some .i64,some .i64,some .i64] T),some (.tab [some .i64,none,some .i64] (Prod.snd x).1),some (.cells [.int .i64 (List.headD (List.getD T (0+Int.toNat (↑x.1:Int)) []) 0),.int .i64 (List.headD (List.tail (List.getD T (0+Int.toNat (↑x.1:Int)) [])) 0),.int .i64 (List.headD (List.tail (List.tail (List.getD T (0+Int.toNat (↑x.1:Int)) []))) 0)]),some (.abs (.ensure t n dENS) [2])]∧ ∀(x_1:Hint.X (HRb t n most N T st s (↑(Prod.fst x):Int))),XY t n most N T st s (↑x.1:Int) x_1→((lE' (Prod.snd (Prod.snd (Prod.snd x_1.2).2).2).3∧t=t∧n=n)∧okE t n (Prod.fst (Prod.snd (Prod.snd (Prod.snd (Prod.snd x_1))))) (Prod.fst (Prod.snd (Prod.snd (Prod.snd (Prod.snd (Prod.snd x_1)))))) {t:=(Prod.snd (Prod.snd (Prod.snd x_1.2).2).2).1,n:=(Prod.snd (Prod.snd (Prod.snd x_1.2).2).2).2,xs:=(Prod.snd (Prod.snd (Prod.snd x_1.2).2).2).3,c:=(Prod.snd (Prod.snd (Prod.snd x_1.2).2).2).4,k:=(Prod.snd (Prod.snd (Prod.snd x_1.2).2).2).5,a:=(Prod.snd (Prod.snd (Prod.snd x_1.2).2).2).6,o:=(Prod.snd (Prod.snd (Prod.snd x_1.2).2).2).7,w:=(Prod.snd (Prod.snd (Prod.snd x_1.2).2).2).8,ok:=(Prod.snd (Prod.snd (Prod.snd x_1.2).2).2).9})∧bif (enF t n (Prod.snd (Prod.snd x_1.2).2).1 (Prod.snd (Prod.snd (Prod.snd x_1).2).2).1 (Prod.snd (Prod.snd x_1.2).2).2.2).1 then pD t n (r0 (List.getD T (Int.toNat (↑x.1:Int)) [])) (r1 (List.getD T (Int.toNat (↑x.1:Int)) [])) (r2 (List.getD T (Int.toNat (↑x.1:Int)) [])) most (enF t n (Prod.snd (Prod.snd x_1.2).2).1 (Prod.snd (Prod.snd (Prod.snd x_1).2).2).1 (Prod.snd (Prod.snd x_1.2).2).2.2).3∧okSt (HRc t n most N T st s (↑(Prod.fst x):Int)) (Hint.ok (HRc t n most N T st s (↑(Prod.fst x):Int))) [.ptr 0 0,.ptr 2 0,.int .i64 most,.O,.O,.O,.O,.O,.O,.O,.tslice 4 0 (List.length (Prod.snd x_1).1) 3,.O,.ptr 5 0,.O,.ptr 6 0,.tslice 3 0 (List.length T) 3,.int .i64 (↑(List.length T):Int),.int .i64 (↑x.1:Int),.O,.O,.O,.O,.O,.O,.O,.O,.O,.O,.O,.O,.O,.O,.O,.O,.O,.O,.O,.O,.O,.O,.O,.O,.O,.O,.O,.O,.O,.O,.O,.O,.O,.O,.O,.O,.O,.O,.O,.O] [some (.cells [.int .i64 (EO.s (enF t n (Prod.snd (Prod.snd x_1.2).2).1 (Prod.snd (Prod.snd (Prod.snd x_1).2).2).1 (Prod.snd (Prod.snd x_1.2).2).2.2)).1,.int .i64 (EO.s (enF t n (Prod.snd (Prod.snd x_1.2).2).1 (Prod.snd (Prod.snd (Prod.snd x_1).2).2).1 (Prod.snd (Prod.snd x_1.2).2).2.2)).2,.slice 1 0 (List.length (EO.s (enF t n (Prod.snd (Prod.snd x_1.2).2).1 (Prod.snd (Prod.snd (Prod.snd x_1).2).2).1 (Prod.snd (Prod.snd x_1.2).2).2.2)).3) 1,.int .i64 (EO.s (enF t n (Prod.snd (Prod.snd x_1.2).2).1 (Prod.snd (Prod.snd (Prod.snd x_1).2).2).1 (Prod.snd (Prod.snd x_1.2).2).2.2)).4,.int .i64 (EO.s (enF t n (Prod.snd (Prod.snd x_1.2).2).1 (Prod.snd (Prod.snd (Prod.snd x_1).2).2).1 (Prod.snd (Prod.snd x_1.2).2).2.2)).5,.int .i64 (EO.s (enF t n (Prod.snd (Prod.snd x_1.2).2).1 (Prod.snd (Prod.snd (Prod.snd x_1).2).2).1 (Prod.snd (Prod.snd x_1.2).2).2.2)).6,.int .u64 (EO.s (enF t n (Prod.snd (Prod.snd x_1.2).2).1 (Prod.snd (Prod.snd (Prod.snd x_1).2).2).1 (Prod.snd (Prod.snd x_1.2).2).2.2)).7,.int .u64 (EO.s (enF t n (Prod.snd (Prod.snd x_1.2).2).1 (Prod.snd (Prod.snd (Prod.snd x_1).2).2).1 (Prod.snd (Prod.snd x_1.2).2).2.2)).8,.bool (EO.s (enF t n (Prod.snd (Prod.snd x_1.2).2).1 (Prod.snd (Prod.snd (Prod.snd x_1).2).2).1 (Prod.snd (Prod.snd x_1.2).2).2.2)).9]),some (.ints (some .u64) (EO.s (enF t n (Prod.snd (Prod.snd x_1.2).2).1 (Prod.snd (Prod.snd (Prod.snd x_1).2).2).1 (Prod.snd (Prod.snd x_1.2).2).2.2)).3),some (.abs (.store t n (ftNF t n (r0 (List.getD T (Int.toNat (↑x.1:Int)) [])) (r1 (List.getD T (Int.toNat (↑x.1:Int)) [])) (r2 (List.getD T (Int.toNat (↑x.1:Int)) [])) most (enF t n (Prod.snd (Prod.snd x_1.2).2).1 (Prod.snd (Prod.snd (Prod.snd x_1).2).2).1 (Prod.snd (Prod.snd x_1.2).2).2.2).3).2) []),some (.tab [some .i64,some .i64,some .i64] T),some (.tab [some .i64,none,some .i64] (Prod.snd x_1).1),some (.cells [.int .i64 (r0 (List.getD T (Int.toNat (↑x.1:Int)) [])),.int .i64 (r1 (List.getD T (Int.toNat (↑x.1:Int)) [])),.int .i64 (r2 (List.getD T (Int.toNat (↑x.1:Int)) []))]),some (.abs (.fast t n (ftNF t n (r0 (List.getD T (Int.toNat (↑x.1:Int)) [])) (r1 (List.getD T (Int.toNat (↑x.1:Int)) [])) (r2 (List.getD T (Int.toNat (↑x.1:Int)) [])) most (enF t n (Prod.snd (Prod.snd x_1.2).2).1 (Prod.snd (Prod.snd (Prod.snd x_1).2).2).1 (Prod.snd (Prod.snd x_1.2).2).2.2).3).1) [2])]∧ ∀(x_2:Hint.X (HRc t n most N T st s (↑(Prod.fst x):Int))),W1 t n most N T st s (↑x.1:Int) x_2→((lE' (Prod.snd (Prod.snd (Prod.snd x_2.2).2).2).3∧t=t∧n=n)∧ftOk t n (Prod.snd (Prod.snd x_2.2).2).1 (Prod.snd (Prod.snd (Prod.snd x_2).2).2).1 (Prod.snd (Prod.snd x_2.2).2).2.2)∧bif (ftF t n (Prod.snd (Prod.snd x_2.2).2).1 (Prod.snd (Prod.snd (Prod.snd x_2).2).2).1 (Prod.snd (Prod.snd x_2.2).2).2.2).1 then bif (FtO.x (ftF t n (Prod.snd (Prod.snd x_2.2).2).1 (Prod.snd (Prod.snd (Prod.snd x_2).2).2).1 (Prod.snd (Prod.snd x_2.2).2).2.2)).4 then K (.tup [.tslice 4 0 (List.length (Prod.snd x_2).1) 3,.bool false]) [some (.cells [.int .i64 (FtO.s (ftF t n (Prod.snd (Prod.snd x_2.2).2).1 (Prod.snd (Prod.snd (Prod.snd x_2).2).2).1 (Prod.snd (Prod.snd x_2.2).2).2.2)).1,.int .i64 (FtO.s (ftF t n (Prod.snd (Prod.snd x_2.2).2).1 (Prod.snd (Prod.snd (Prod.snd x_2).2).2).1 (Prod.snd (Prod.snd x_2.2).2).2.2)).2,.slice 1 0 (List.length (FtO.s (ftF t n (Prod.snd (Prod.snd x_2.2).2).1 (Prod.snd (Prod.snd (Prod.snd x_2).2).2).1 (Prod.snd (Prod.snd x_2.2).2).2.2)).3) 1,.int .i64 (FtO.s (ftF t n (Prod.snd (Prod.snd x_2.2).2).1 (Prod.snd (Prod.snd (Prod.snd x_2).2).2).1 (Prod.snd (Prod.snd x_2.2).2).2.2)).4,.int .i64 (FtO.s (ftF t n (Prod.snd (Prod.snd x_2.2).2).1 (Prod.snd (Prod.snd (Prod.snd x_2).2).2).1 (Prod.snd (Prod.snd x_2.2).2).2.2)).5,.int .i64 (FtO.s (ftF t n (Prod.snd (Prod.snd x_2.2).2).1 (Prod.snd (Prod.snd (Prod.snd x_2).2).2).1 (Prod.snd (Prod.snd x_2.2).2).2.2)).6,.int .u64 (FtO.s (ftF t n (Prod.snd (Prod.snd x_2.2).2).1 (Prod.snd (Prod.snd (Prod.snd x_2).2).2).1 (Prod.snd (Prod.snd x_2.2).2).2.2)).7,.int .u64 (FtO.s (ftF t n (Prod.snd (Prod.snd x_2.2).2).1 (Prod.snd (Prod.snd (Prod.snd x_2).2).2).1 (Prod.snd (Prod.snd x_2.2).2).2.2)).8,.bool (FtO.s (ftF t n (Prod.snd (Prod.snd x_2.2).2).1 (Prod.snd (Prod.snd (Prod.snd x_2).2).2).1 (Prod.snd (Prod.snd x_2.2).2).2.2)).9]),some (.ints (some .u64) (FtO.s (ftF t n (Prod.snd (Prod.snd x_2.2).2).1 (Prod.snd (Prod.snd (Prod.snd x_2).2).2).1 (Prod.snd (Prod.snd x_2.2).2).2.2)).3),some (.abs (.store t n (ftF t n (Prod.snd (Prod.snd x_2.2).2).1 (Prod.snd (Prod.snd (Prod.snd x_2).2).2).1 (Prod.snd (Prod.snd x_2.2).2).2.2).3) []),some (.tab [some .i64,some .i64,some .i64] T),some (.tab [some .i64,none,some .i64] (Prod.snd x_2).1)]else(0=0∧lE' (Prod.snd x_2).1∧List.length (Prod.snd x_2).1+(1:Nat)≤(4294967296:Nat))∧okSt (u3 t n most N T st s) (fun x'=>Hint.ok (u3 t n most N T st s) x'∧Hint.mu (u3 t n most N T st s) x'<Hint.mu (u3 t n most N T st s) x) [.ptr 0 0,.ptr 2 0,.int .i64 most,.O,.O,.O,.O,.O,.O,.O,.tslice 4 0 (List.length (Prod.snd x_2).1+1) 3,.O,.O,.O,.O,.tslice 3 0 (List.length T) 3,.int .i64 (↑(List.length T):Int),.int .i64 (W ((↑x.1:Int)+1)),.O,.O,.O,.O,.O,.O,.O,.O,.O,.O,.O,.O,.O,.O,.O,.O,.O,.O,.O,.O,.O,.O,.O,.O,.O,.O,.O,.O,.O,.O,.O,.O,.O,.O,.O,.O,.O,.O,.O,.O] [some (.cells [.int .i64 (FtO.s (ftF t n (Prod.snd (Prod.snd x_2.2).2).1 (Prod.snd (Prod.snd (Prod.snd x_2).2).2).1 (Prod.snd (Prod.snd x_2.2).2).2.2)).1,.int .i64 (FtO.s (ftF t n (Prod.snd (Prod.snd x_2.2).2).1 (Prod.snd (Prod.snd (Prod.snd x_2).2).2).1 (Prod.snd (Prod.snd x_2.2).2).2.2)).2,.slice 1 0 (List.length (FtO.s (ftF t n (Prod.snd (Prod.snd x_2.2).2).1 (Prod.snd (Prod.snd (Prod.snd x_2).2).2).1 (Prod.snd (Prod.snd x_2.2).2).2.2)).3) 1,.int .i64 (FtO.s (ftF t n (Prod.snd (Prod.snd x_2.2).2).1 (Prod.snd (Prod.snd (Prod.snd x_2).2).2).1 (Prod.snd (Prod.snd x_2.2).2).2.2)).4,.int .i64 (FtO.s (ftF t n (Prod.snd (Prod.snd x_2.2).2).1 (Prod.snd (Prod.snd (Prod.snd x_2).2).2).1 (Prod.snd (Prod.snd x_2.2).2).2.2)).5,.int .i64 (FtO.s (ftF t n (Prod.snd (Prod.snd x_2.2).2).1 (Prod.snd (Prod.snd (Prod.snd x_2).2).2).1 (Prod.snd (Prod.snd x_2.2).2).2.2)).6,.int .u64 (FtO.s (ftF t n (Prod.snd (Prod.snd x_2.2).2).1 (Prod.snd (Prod.snd (Prod.snd x_2).2).2).1 (Prod.snd (Prod.snd x_2.2).2).2.2)).7,.int .u64 (FtO.s (ftF t n (Prod.snd (Prod.snd x_2.2).2).1 (Prod.snd (Prod.snd (Prod.snd x_2).2).2).1 (Prod.snd (Prod.snd x_2.2).2).2.2)).8,.bool (FtO.s (ftF t n (Prod.snd (Prod.snd x_2.2).2).1 (Prod.snd (Prod.snd (Prod.snd x_2).2).2).1 (Prod.snd (Prod.snd x_2.2).2).2.2)).9]),some (.ints (some .u64) (FtO.s (ftF t n (Prod.snd (Prod.snd x_2.2).2).1 (Prod.snd (Prod.snd (Prod.snd x_2).2).2).1 (Prod.snd (Prod.snd x_2.2).2).2.2)).3),some (.abs (.store t n (ftF t n (Prod.snd (Prod.snd x_2.2).2).1 (Prod.snd (Prod.snd (Prod.snd x_2).2).2).1 (Prod.snd (Prod.snd x_2.2).2).2.2).3) []),some (.tab [some .i64,some .i64,some .i64] T),some (.tab [some .i64,none,some .i64] ((Prod.snd x_2).1++ [[(FtO.x (ftF t n (Prod.snd (Prod.snd x_2.2).2).1 (Prod.snd (Prod.snd (Prod.snd x_2).2).2).1 (Prod.snd (Prod.snd x_2.2).2).2.2)).1,bif (FtO.x (ftF t n (Prod.snd (Prod.snd x_2.2).2).1 (Prod.snd (Prod.snd (Prod.snd x_2).2).2).1 (Prod.snd (Prod.snd x_2.2).2).2.2)).2 then 1 else 0,(FtO.x (ftF t n (Prod.snd (Prod.snd x_2.2).2).1 (Prod.snd (Prod.snd (Prod.snd x_2).2).2).1 (Prod.snd (Prod.snd x_2.2).2).2.2)).3]]))]else okSt (HRc t n most N T st s (↑(Prod.fst x):Int)) (fun x'=>Hint.ok (HRc t n most N T st s (↑(Prod.fst x):Int)) x'∧Hint.mu (HRc t n most N T st s (↑(Prod.fst x):Int)) x'<Hint.mu (HRc t n most N T st s (↑(Prod.fst x):Int)) x_2) [.ptr 0 0,.ptr 2 0,.int .i64 most,.O,.O,.O,.O,.O,.O,.O,.tslice 4 0 (List.length (Prod.snd x_2).1) 3,.O,.ptr 5 0,.O,.ptr 6 0,.tslice 3 0 (List.length T) 3,.int .i64 (↑(List.length T):Int),.int .i64 (↑x.1:Int),.O,.O,.O,.O,.O,.O,.O,.O,.O,.O,.O,.O,.O,.O,.O,.O,.O,.O,.O,.O,.O,.O,.O,.O,.O,.O,.O,.O,.O,.O,.O,.O,.O,.O,.O,.O,.O,.O,.O,.O] [some (.cells [.int .i64 (FtO.s (ftF t n (Prod.snd (Prod.snd x_2.2).2).1 (Prod.snd (Prod.snd (Prod.snd x_2).2).2).1 (Prod.snd (Prod.snd x_2.2).2).2.2)).1,.int .i64 (FtO.s (ftF t n (Prod.snd (Prod.snd x_2.2).2).1 (Prod.snd (Prod.snd (Prod.snd x_2).2).2).1 (Prod.snd (Prod.snd x_2.2).2).2.2)).2,.slice 1 0 (List.length (FtO.s (ftF t n (Prod.snd (Prod.snd x_2.2).2).1 (Prod.snd (Prod.snd (Prod.snd x_2).2).2).1 (Prod.snd (Prod.snd x_2.2).2).2.2)).3) 1,.int .i64 (FtO.s (ftF t n (Prod.snd (Prod.snd x_2.2).2).1 (Prod.snd (Prod.snd (Prod.snd x_2).2).2).1 (Prod.snd (Prod.snd x_2.2).2).2.2)).4,.int .i64 (FtO.s (ftF t n (Prod.snd (Prod.snd x_2.2).2).1 (Prod.snd (Prod.snd (Prod.snd x_2).2).2).1 (Prod.snd (Prod.snd x_2.2).2).2.2)).5,.int .i64 (FtO.s (ftF t n (Prod.snd (Prod.snd x_2.2).2).1 (Prod.snd (Prod.snd (Prod.snd x_2).2).2).1 (Prod.snd (Prod.snd x_2.2).2).2.2)).6,.int .u64 (FtO.s (ftF t n (Prod.snd (Prod.snd x_2.2).2).1 (Prod.snd (Prod.snd (Prod.snd x_2).2).2).1 (Prod.snd (Prod.snd x_2.2).2).2.2)).7,.int .u64 (FtO.s (ftF t n (Prod.snd (Prod.snd x_2.2).2).1 (Prod.snd (Prod.snd (Prod.snd x_2).2).2).1 (Prod.snd (Prod.snd x_2.2).2).2.2)).8,.bool (FtO.s (ftF t n (Prod.snd (Prod.snd x_2.2).2).1 (Prod.snd (Prod.snd (Prod.snd x_2).2).2).1 (Prod.snd (Prod.snd x_2.2).2).2.2)).9]),some (.ints (some .u64) (FtO.s (ftF t n (Prod.snd (Prod.snd x_2.2).2).1 (Prod.snd (Prod.snd (Prod.snd x_2).2).2).1 (Prod.snd (Prod.snd x_2.2).2).2.2)).3),some (.abs (.store t n (ftF t n (Prod.snd (Prod.snd x_2.2).2).1 (Prod.snd (Prod.snd (Prod.snd x_2).2).2).1 (Prod.snd (Prod.snd x_2.2).2).2.2).3) []),some (.tab [some .i64,some .i64,some .i64] T),some (.tab [some .i64,none,some .i64] (Prod.snd x_2).1),some (.cells [.int .i64 (r0 (List.getD T (Int.toNat (↑x.1:Int)) [])),.int .i64 (r1 (List.getD T (Int.toNat (↑x.1:Int)) [])),.int .i64 (r2 (List.getD T (Int.toNat (↑x.1:Int)) []))]),some (.abs (.fast t n (ftF t n (Prod.snd (Prod.snd x_2.2).2).1 (Prod.snd (Prod.snd (Prod.snd x_2).2).2).1 (Prod.snd (Prod.snd x_2.2).2).2.2).2) [2])]else okSt (HRb t n most N T st s (↑(Prod.fst x):Int)) (fun x'=>Hint.ok (HRb t n most N T st s (↑(Prod.fst x):Int)) x'∧Hint.mu (HRb t n most N T st s (↑(Prod.fst x):Int)) x'<Hint.mu (HRb t n most N T st s (↑(Prod.fst x):Int)) x_1) [.ptr 0 0,.ptr 2 0,.int .i64 most,.O,.O,.O,.O,.O,.O,.O,.tslice 4 0 (List.length (Prod.snd x_1).1) 3,.O,.ptr 5 0,.ptr 6 0,.O,.tslice 3 0 (List.length T) 3,.int .i64 (↑(List.length T):Int),.int .i64 (↑x.1:Int),.O,.O,.O,.O,.O,.O,.O,.O,.O,.O,.O,.O,.O,.O,.O,.O,.O,.O,.O,.O,.O,.O,.O,.O,.O,.O,.O,.O,.O,.O,.O,.O,.O,.O,.O,.O,.O,.O,.O,.O] [some (.cells [.int .i64 (EO.s (enF t n (Prod.snd (Prod.snd x_1.2).2).1 (Prod.snd (Prod.snd (Prod.snd x_1).2).2).1 (Prod.snd (Prod.snd x_1.2).2).2.2)).1,.int .i64 (EO.s (enF t n (Prod.snd (Prod.snd x_1.2).2).1 (Prod.snd (Prod.snd (Prod.snd x_1).2).2).1 (Prod.snd (Prod.snd x_1.2).2).2.2)).2,.slice 1 0 (List.length (EO.s (enF t n (Prod.snd (Prod.snd x_1.2).2).1 (Prod.snd (Prod.snd (Prod.snd x_1).2).2).1 (Prod.snd (Prod.snd x_1.2).2).2.2)).3) 1,.int .i64 (EO.s (enF t n (Prod.snd (Prod.snd x_1.2).2).1 (Prod.snd (Prod.snd (Prod.snd x_1).2).2).1 (Prod.snd (Prod.snd x_1.2).2).2.2)).4,.int .i64 (EO.s (enF t n (Prod.snd (Prod.snd x_1.2).2).1 (Prod.snd (Prod.snd (Prod.snd x_1).2).2).1 (Prod.snd (Prod.snd x_1.2).2).2.2)).5,.int .i64 (EO.s (enF t n (Prod.snd (Prod.snd x_1.2).2).1 (Prod.snd (Prod.snd (Prod.snd x_1).2).2).1 (Prod.snd (Prod.snd x_1.2).2).2.2)).6,.int .u64 (EO.s (enF t n (Prod.snd (Prod.snd x_1.2).2).1 (Prod.snd (Prod.snd (Prod.snd x_1).2).2).1 (Prod.snd (Prod.snd x_1.2).2).2.2)).7,.int .u64 (EO.s (enF t n (Prod.snd (Prod.snd x_1.2).2).1 (Prod.snd (Prod.snd (Prod.snd x_1).2).2).1 (Prod.snd (Prod.snd x_1.2).2).2.2)).8,.bool (EO.s (enF t n (Prod.snd (Prod.snd x_1.2).2).1 (Prod.snd (Prod.snd (Prod.snd x_1).2).2).1 (Prod.snd (Prod.snd x_1.2).2).2.2)).9]),some (.ints (some .u64) (EO.s (enF t n (Prod.snd (Prod.snd x_1.2).2).1 (Prod.snd (Prod.snd (Prod.snd x_1).2).2).1 (Prod.snd (Prod.snd x_1.2).2).2.2)).3),some (.abs (.store t n (enF t n (Prod.snd (Prod.snd x_1.2).2).1 (Prod.snd (Prod.snd (Prod.snd x_1).2).2).1 (Prod.snd (Prod.snd x_1.2).2).2.2).3) []),some (.tab [some .i64,some .i64,some .i64] T),some (.tab [some .i64,none,some .i64] (Prod.snd x_1).1),some (.cells [.int .i64 (r0 (List.getD T (Int.toNat (↑x.1:Int)) [])),.int .i64 (r1 (List.getD T (Int.toNat (↑x.1:Int)) [])),.int .i64 (r2 (List.getD T (Int.toNat (↑x.1:Int)) []))]),some (.abs (.ensure t n (enF t n (Prod.snd (Prod.snd x_1.2).2).1 (Prod.snd (Prod.snd (Prod.snd x_1).2).2).1 (Prod.snd (Prod.snd x_1.2).2).2.2).2) [2])]else pD t n (List.headD (List.getD T (0+Int.toNat (↑x.1:Int)) []) 0) (List.headD (List.tail (List.getD T (0+Int.toNat (↑x.1:Int)) [])) 0) (List.headD (List.tail (List.tail (List.getD T (0+Int.toNat (↑x.1:Int)) []))) 0) most (Prod.snd x.2).1∧okSt (HRc t n most N T st s (↑(Prod.fst x):Int)) (Hint.ok (HRc t n most N T st s (↑(Prod.fst x):Int))) [.ptr 0 0,.ptr 2 0,.int .i64 most,.O,.O,.O,.O,.O,.O,.O,.tslice 4 0 (List.length (Prod.snd x).1) 3,.O,.ptr 5 0,.O,.ptr 6 0,.tslice 3 0 (List.length T) 3,.int .i64 (↑(List.length T):Int),.int .i64 (↑x.1:Int),.O,.O,.O,.O,.O,.O,.O,.O,.O,.O,.O,.O,.O,.O,.O,.O,.O,.O,.O,.O,.O,.O,.O,.O,.O,.O,.O,.O,.O,.O,.O,.O,.O,.O,.O,.O,.O,.O,.O,.O] [some (.cells [.int .i64 (Prod.snd (Prod.snd x).2).1,.int .i64 (Prod.snd (Prod.snd x).2).2,.slice 1 0 (List.length (Prod.snd (Prod.snd x).2).3) 1,.int .i64 (Prod.snd (Prod.snd x).2).4,.int .i64 (Prod.snd (Prod.snd x).2).5,.int .i64 (Prod.snd (Prod.snd x).2).6,.int .u64 (Prod.snd (Prod.snd x).2).7,.int .u64 (Prod.snd (Prod.snd x).2).8,.bool (Prod.snd (Prod.snd x).2).9]),some (.ints (some .u64) (Prod.snd (Prod.snd x).2).3),some (.abs (.store t n (ftNF t n (List.headD (List.getD T (0+Int.toNat (↑x.1:Int)) []) 0) (List.headD (List.tail (List.getD T (0+Int.toNat (↑x.1:Int)) [])) 0) (List.headD (List.tail (List.tail (List.getD T (0+Int.toNat (↑x.1:Int)) []))) 0) most (Prod.snd x.2).1).2) []),some (.tab [some .i64,some .i64,some .i64] T),some (.tab [some .i64,none,some .i64] (Prod.snd x).1),some (.cells [.int .i64 (List.headD (List.getD T (0+Int.toNat (↑x.1:Int)) []) 0),.int .i64 (List.headD (List.tail (List.getD T (0+Int.toNat (↑x.1:Int)) [])) 0),.int .i64 (List.headD (List.tail (List.tail (List.getD T (0+Int.toNat (↑x.1:Int)) []))) 0)]),some (.abs (.fast t n (ftNF t n (List.headD (List.getD T (0+Int.toNat (↑x.1:Int)) []) 0) (List.headD (List.tail (List.getD T (0+Int.toNat (↑x.1:Int)) [])) 0) (List.headD (List.tail (List.tail (List.getD T (0+Int.toNat (↑x.1:Int)) []))) 0) most (Prod.snd x.2).1).1) [2])]∧ ∀(x_1:Hint.X (HRc t n most N T st s (↑(Prod.fst x):Int))),W1 t n most N T st s (↑x.1:Int) x_1→((lE' (Prod.snd (Prod.snd (Prod.snd x_1.2).2).2).3∧t=t∧n=n)∧ftOk t n (Prod.snd (Prod.snd x_1.2).2).1 (Prod.snd (Prod.snd (Prod.snd x_1).2).2).1 (Prod.snd (Prod.snd x_1.2).2).2.2)∧bif (ftF t n (Prod.snd (Prod.snd x_1.2).2).1 (Prod.snd (Prod.snd (Prod.snd x_1).2).2).1 (Prod.snd (Prod.snd x_1.2).2).2.2).1 then bif (FtO.x (ftF t n (Prod.snd (Prod.snd x_1.2).2).1 (Prod.snd (Prod.snd (Prod.snd x_1).2).2).1 (Prod.snd (Prod.snd x_1.2).2).2.2)).4 then K (.tup [.tslice 4 0 (List.length (Prod.snd x_1).1) 3,.bool false]) [some (.cells [.int .i64 (FtO.s (ftF t n (Prod.snd (Prod.snd x_1.2).2).1 (Prod.snd (Prod.snd (Prod.snd x_1).2).2).1 (Prod.snd (Prod.snd x_1.2).2).2.2)).1,.int .i64 (FtO.s (ftF t n (Prod.snd (Prod.snd x_1.2).2).1 (Prod.snd (Prod.snd (Prod.snd x_1).2).2).1 (Prod.snd (Prod.snd x_1.2).2).2.2)).2,.slice 1 0 (List.length (FtO.s (ftF t n (Prod.snd (Prod.snd x_1.2).2).1 (Prod.snd (Prod.snd (Prod.snd x_1).2).2).1 (Prod.snd (Prod.snd x_1.2).2).2.2)).3) 1,.int .i64 (FtO.s (ftF t n (Prod.snd (Prod.snd x_1.2).2).1 (Prod.snd (Prod.snd (Prod.snd x_1).2).2).1 (Prod.snd (Prod.snd x_1.2).2).2.2)).4,.int .i64 (FtO.s (ftF t n (Prod.snd (Prod.snd x_1.2).2).1 (Prod.snd (Prod.snd (Prod.snd x_1).2).2).1 (Prod.snd (Prod.snd x_1.2).2).2.2)).5,.int .i64 (FtO.s (ftF t n (Prod.snd (Prod.snd x_1.2).2).1 (Prod.snd (Prod.snd (Prod.snd x_1).2).2).1 (Prod.snd (Prod.snd x_1.2).2).2.2)).6,.int .u64 (FtO.s (ftF t n (Prod.snd (Prod.snd x_1.2).2).1 (Prod.snd (Prod.snd (Prod.snd x_1).2).2).1 (Prod.snd (Prod.snd x_1.2).2).2.2)).7,.int .u64 (FtO.s (ftF t n (Prod.snd (Prod.snd x_1.2).2).1 (Prod.snd (Prod.snd (Prod.snd x_1).2).2).1 (Prod.snd (Prod.snd x_1.2).2).2.2)).8,.bool (FtO.s (ftF t n (Prod.snd (Prod.snd x_1.2).2).1 (Prod.snd (Prod.snd (Prod.snd x_1).2).2).1 (Prod.snd (Prod.snd x_1.2).2).2.2)).9]),some (.ints (some .u64) (FtO.s (ftF t n (Prod.snd (Prod.snd x_1.2).2).1 (Prod.snd (Prod.snd (Prod.snd x_1).2).2).1 (Prod.snd (Prod.snd x_1.2).2).2.2)).3),some (.abs (.store t n (ftF t n (Prod.snd (Prod.snd x_1.2).2).1 (Prod.snd (Prod.snd (Prod.snd x_1).2).2).1 (Prod.snd (Prod.snd x_1.2).2).2.2).3) []),some (.tab [some .i64,some .i64,some .i64] T),some (.tab [some .i64,none,some .i64] (Prod.snd x_1).1)]else(0=0∧lE' (Prod.snd x_1).1∧List.length (Prod.snd x_1).1+(1:Nat)≤(4294967296:Nat))∧okSt (u3 t n most N T st s) (fun x'=>Hint.ok (u3 t n most N T st s) x'∧Hint.mu (u3 t n most N T st s) x'<Hint.mu (u3 t n most N T st s) x) [.ptr 0 0,.ptr 2 0,.int .i64 most,.O,.O,.O,.O,.O,.O,.O,.tslice 4 0 (List.length (Prod.snd x_1).1+1) 3,.O,.O,.O,.O,.tslice 3 0 (List.length T) 3,.int .i64 (↑(List.length T):Int),.int .i64 (W ((↑x.1:Int)+1)),.O,.O,.O,.O,.O,.O,.O,.O,.O,.O,.O,.O,.O,.O,.O,.O,.O,.O,.O,.O,.O,.O,.O,.O,.O,.O,.O,.O,.O,.O,.O,.O,.O,.O,.O,.O,.O,.O,.O,.O] [some (.cells [.int .i64 (FtO.s (ftF t n (Prod.snd (Prod.snd x_1.2).2).1 (Prod.snd (Prod.snd (Prod.snd x_1).2).2).1 (Prod.snd (Prod.snd x_1.2).2).2.2)).1,.int .i64 (FtO.s (ftF t n (Prod.snd (Prod.snd x_1.2).2).1 (Prod.snd (Prod.snd (Prod.snd x_1).2).2).1 (Prod.snd (Prod.snd x_1.2).2).2.2)).2,.slice 1 0 (List.length (FtO.s (ftF t n (Prod.snd (Prod.snd x_1.2).2).1 (Prod.snd (Prod.snd (Prod.snd x_1).2).2).1 (Prod.snd (Prod.snd x_1.2).2).2.2)).3) 1,.int .i64 (FtO.s (ftF t n (Prod.snd (Prod.snd x_1.2).2).1 (Prod.snd (Prod.snd (Prod.snd x_1).2).2).1 (Prod.snd (Prod.snd x_1.2).2).2.2)).4,.int .i64 (FtO.s (ftF t n (Prod.snd (Prod.snd x_1.2).2).1 (Prod.snd (Prod.snd (Prod.snd x_1).2).2).1 (Prod.snd (Prod.snd x_1.2).2).2.2)).5,.int .i64 (FtO.s (ftF t n (Prod.snd (Prod.snd x_1.2).2).1 (Prod.snd (Prod.snd (Prod.snd x_1).2).2).1 (Prod.snd (Prod.snd x_1.2).2).2.2)).6,.int .u64 (FtO.s (ftF t n (Prod.snd (Prod.snd x_1.2).2).1 (Prod.snd (Prod.snd (Prod.snd x_1).2).2).1 (Prod.snd (Prod.snd x_1.2).2).2.2)).7,.int .u64 (FtO.s (ftF t n (Prod.snd (Prod.snd x_1.2).2).1 (Prod.snd (Prod.snd (Prod.snd x_1).2).2).1 (Prod.snd (Prod.snd x_1.2).2).2.2)).8,.bool (FtO.s (ftF t n (Prod.snd (Prod.snd x_1.2).2).1 (Prod.snd (Prod.snd (Prod.snd x_1).2).2).1 (Prod.snd (Prod.snd x_1.2).2).2.2)).9]),some (.ints (some .u64) (FtO.s (ftF t n (Prod.snd (Prod.snd x_1.2).2).1 (Prod.snd (Prod.snd (Prod.snd x_1).2).2).1 (Prod.snd (Prod.snd x_1.2).2).2.2)).3),some (.abs (.store t n (ftF t n (Prod.snd (Prod.snd x_1.2).2).1 (Prod.snd (Prod.snd (Prod.snd x_1).2).2).1 (Prod.snd (Prod.snd x_1.2).2).2.2).3) []),some (.tab [some .i64,some .i64,some .i64] T),some (.tab [some .i64,none,some .i64] ((Prod.snd x_1).1++ [[(FtO.x (ftF t n (Prod.snd (Prod.snd x_1.2).2).1 (Prod.snd (Prod.snd (Prod.snd x_1).2).2).1 (Prod.snd (Prod.snd x_1.2).2).2.2)).1,bif (FtO.x (ftF t n (Prod.snd (Prod.snd x_1.2).2).1 (Prod.snd (Prod.snd (Prod.snd x_1).2).2).1 (Prod.snd (Prod.snd x_1.2).2).2.2)).2 then 1 else 0,(FtO.x (ftF t n (Prod.snd (Prod.snd x_1.2).2).1 (Prod.snd (Prod.snd (Prod.snd x_1).2).2).1 (Prod.snd (Prod.snd x_1.2).2).2.2)).3]]))]else okSt (HRc t n most N T st s (↑(Prod.fst x):Int)) (fun x'=>Hint.ok (HRc t n most N T st s (↑(Prod.fst x):Int)) x'∧Hint.mu (HRc t n most N T st s (↑(Prod.fst x):Int)) x'<Hint.mu (HRc t n most N T st s (↑(Prod.fst x):Int)) x_1) [.ptr 0 0,.ptr 2 0,.int .i64 most,.O,.O,.O,.O,.O,.O,.O,.tslice 4 0 (List.length (Prod.snd x_1).1) 3,.O,.ptr 5 0,.O,.ptr 6 0,.tslice 3 0 (List.length T) 3,.int .i64 (↑(List.length T):Int),.int .i64 (↑x.1:Int),.O,.O,.O,.O,.O,.O,.O,.O,.O,.O,.O,.O,.O,.O,.O,.O,.O,.O,.O,.O,.O,.O,.O,.O,.O,.O,.O,.O,.O,.O,.O,.O,.O,.O,.O,.O,.O,.O,.O,.O] [some (.cells [.int .i64 (FtO.s (ftF t n (Prod.snd (Prod.snd x_1.2).2).1 (Prod.snd (Prod.snd (Prod.snd x_1).2).2).1 (Prod.snd (Prod.snd x_1.2).2).2.2)).1,.int .i64 (FtO.s (ftF t n (Prod.snd (Prod.snd x_1.2).2).1 (Prod.snd (Prod.snd (Prod.snd x_1).2).2).1 (Prod.snd (Prod.snd x_1.2).2).2.2)).2,.slice 1 0 (List.length (FtO.s (ftF t n (Prod.snd (Prod.snd x_1.2).2).1 (Prod.snd (Prod.snd (Prod.snd x_1).2).2).1 (Prod.snd (Prod.snd x_1.2).2).2.2)).3) 1,.int .i64 (FtO.s (ftF t n (Prod.snd (Prod.snd x_1.2).2).1 (Prod.snd (Prod.snd (Prod.snd x_1).2).2).1 (Prod.snd (Prod.snd x_1.2).2).2.2)).4,.int .i64 (FtO.s (ftF t n (Prod.snd (Prod.snd x_1.2).2).1 (Prod.snd (Prod.snd (Prod.snd x_1).2).2).1 (Prod.snd (Prod.snd x_1.2).2).2.2)).5,.int .i64 (FtO.s (ftF t n (Prod.snd (Prod.snd x_1.2).2).1 (Prod.snd (Prod.snd (Prod.snd x_1).2).2).1 (Prod.snd (Prod.snd x_1.2).2).2.2)).6,.int .u64 (FtO.s (ftF t n (Prod.snd (Prod.snd x_1.2).2).1 (Prod.snd (Prod.snd (Prod.snd x_1).2).2).1 (Prod.snd (Prod.snd x_1.2).2).2.2)).7,.int .u64 (FtO.s (ftF t n (Prod.snd (Prod.snd x_1.2).2).1 (Prod.snd (Prod.snd (Prod.snd x_1).2).2).1 (Prod.snd (Prod.snd x_1.2).2).2.2)).8,.bool (FtO.s (ftF t n (Prod.snd (Prod.snd x_1.2).2).1 (Prod.snd (Prod.snd (Prod.snd x_1).2).2).1 (Prod.snd (Prod.snd x_1.2).2).2.2)).9]),some (.ints (some .u64) (FtO.s (ftF t n (Prod.snd (Prod.snd x_1.2).2).1 (Prod.snd (Prod.snd (Prod.snd x_1).2).2).1 (Prod.snd (Prod.snd x_1.2).2).2.2)).3),some (.abs (.store t n (ftF t n (Prod.snd (Prod.snd x_1.2).2).1 (Prod.snd (Prod.snd (Prod.snd x_1).2).2).1 (Prod.snd (Prod.snd x_1.2).2).2.2).3) []),some (.tab [some .i64,some .i64,some .i64] T),some (.tab [some .i64,none,some .i64] (Prod.snd x_1).1),some (.cells [.int .i64 (r0 (List.getD T (Int.toNat (↑x.1:Int)) [])),.int .i64 (r1 (List.getD T (Int.toNat (↑x.1:Int)) [])),.int .i64 (r2 (List.getD T (Int.toNat (↑x.1:Int)) []))]),some (.abs (.fast t n (ftF t n (Prod.snd (Prod.snd x_1.2).2).1 (Prod.snd (Prod.snd (Prod.snd x_1).2).2).1 (Prod.snd (Prod.snd x_1.2).2).2.2).2) [2])]else pD t n (List.headD (List.getD T (0+Int.toNat (↑x.1:Int)) []) 0) (List.headD (List.tail (List.getD T (0+Int.toNat (↑x.1:Int)) [])) 0) (List.headD (List.tail (List.tail (List.getD T (0+Int.toNat (↑x.1:Int)) []))) 0) most (Prod.snd x.2).1∧okSt (HRc t n most N T st s (↑(Prod.fst x):Int)) (Hint.ok (HRc t n most N T st s (↑(Prod.fst x):Int))) [.ptr 0 0,.ptr 2 0,.int .i64 most,.O,.O,.O,.O,.O,.O,.O,.tslice 4 0 (List.length (Prod.snd x).1) 3,.O,.ptr 5 0,.O,.ptr 6 0,.tslice 3 0 (List.length T) 3,.int .i64 (↑(List.length T):Int),.int .i64 (↑x.1:Int),.O,.O,.O,.O,.O,.O,.O,.O,.O,.O,.O,.O,.O,.O,.O,.O,.O,.O,.O,.O,.O,.O,.O,.O,.O,.O,.O,.O,.O,.O,.O,.O,.O,.O,.O,.O,.O,.O,.O,.O] [some (.cells [.int .i64 (Prod.snd (Prod.snd x).2).1,.int .i64 (Prod.snd (Prod.snd x).2).2,.slice 1 0 (List.length (Prod.snd (Prod.snd x).2).3) 1,.int .i64 (Prod.snd (Prod.snd x).2).4,.int .i64 (Prod.snd (Prod.snd x).2).5,.int .i64 (Prod.snd (Prod.snd x).2).6,.int .u64 (Prod.snd (Prod.snd x).2).7,.int .u64 (Prod.snd (Prod.snd x).2).8,.bool (Prod.snd (Prod.snd x).2).9]),some (.ints (some .u64) (Prod.snd (Prod.snd x).2).3),some (.abs (.store t n (ftNF t n (List.headD (List.getD T (0+Int.toNat (↑x.1:Int)) []) 0) (List.headD (List.tail (List.getD T (0+Int.toNat (↑x.1:Int)) [])) 0) (List.headD (List.tail (List.tail (List.getD T (0+Int.toNat (↑x.1:Int)) []))) 0) most (Prod.snd x.2).1).2) []),some (.tab [some .i64,some .i64,some .i64] T),some (.tab [some .i64,none,some .i64] (Prod.snd x).1),some (.cells [.int .i64 (List.headD (List.getD T (0+Int.toNat (↑x.1:Int)) []) 0),.int .i64 (List.headD (List.tail (List.getD T (0+Int.toNat (↑x.1:Int)) [])) 0),.int .i64 (List.headD (List.tail (List.tail (List.getD T (0+Int.toNat (↑x.1:Int)) []))) 0)]),some (.abs (.fast t n (ftNF t n (List.headD (List.getD T (0+Int.toNat (↑x.1:Int)) []) 0) (List.headD (List.tail (List.getD T (0+Int.toNat (↑x.1:Int)) [])) 0) (List.headD (List.tail (List.tail (List.getD T (0+Int.toNat (↑x.1:Int)) []))) 0) most (Prod.snd x.2).1).1) [2])]∧ ∀(x_1:Hint.X (HRc t n most N T st s (↑(Prod.fst x):Int))),W1 t n most N T st s (↑x.1:Int) x_1→((lE' (Prod.snd (Prod.snd (Prod.snd x_1.2).2).2).3∧t=t∧n=n)∧ftOk t n (Prod.snd (Prod.snd x_1.2).2).1 (Prod.snd (Prod.snd (Prod.snd x_1).2).2).1 (Prod.snd (Prod.snd x_1.2).2).2.2)∧bif (ftF t n (Prod.snd (Prod.snd x_1.2).2).1 (Prod.snd (Prod.snd (Prod.snd x_1).2).2).1 (Prod.snd (Prod.snd x_1.2).2).2.2).1 then bif (FtO.x (ftF t n (Prod.snd (Prod.snd x_1.2).2).1 (Prod.snd (Prod.snd (Prod.snd x_1).2).2).1 (Prod.snd (Prod.snd x_1.2).2).2.2)).4 then K (.tup [.tslice 4 0 (List.length (Prod.snd x_1).1) 3,.bool false]) [some (.cells [.int .i64 (FtO.s (ftF t n (Prod.snd (Prod.snd x_1.2).2).1 (Prod.snd (Prod.snd (Prod.snd x_1).2).2).1 (Prod.snd (Prod.snd x_1.2).2).2.2)).1,.int .i64 (FtO.s (ftF t n (Prod.snd (Prod.snd x_1.2).2).1 (Prod.snd (Prod.snd (Prod.snd x_1).2).2).1 (Prod.snd (Prod.snd x_1.2).2).2.2)).2,.slice 1 0 (List.length (FtO.s (ftF t n (Prod.snd (Prod.snd x_1.2).2).1 (Prod.snd (Prod.snd (Prod.snd x_1).2).2).1 (Prod.snd (Prod.snd x_1.2).2).2.2)).3) 1,.int .i64 (FtO.s (ftF t n (Prod.snd (Prod.snd x_1.2).2).1 (Prod.snd (Prod.snd (Prod.snd x_1).2).2).1 (Prod.snd (Prod.snd x_1.2).2).2.2)).4,.int .i64 (FtO.s (ftF t n (Prod.snd (Prod.snd x_1.2).2).1 (Prod.snd (Prod.snd (Prod.snd x_1).2).2).1 (Prod.snd (Prod.snd x_1.2).2).2.2)).5,.int .i64 (FtO.s (ftF t n (Prod.snd (Prod.snd x_1.2).2).1 (Prod.snd (Prod.snd (Prod.snd x_1).2).2).1 (Prod.snd (Prod.snd x_1.2).2).2.2)).6,.int .u64 (FtO.s (ftF t n (Prod.snd (Prod.snd x_1.2).2).1 (Prod.snd (Prod.snd (Prod.snd x_1).2).2).1 (Prod.snd (Prod.snd x_1.2).2).2.2)).7,.int .u64 (FtO.s (ftF t n (Prod.snd (Prod.snd x_1.2).2).1 (Prod.snd (Prod.snd (Prod.snd x_1).2).2).1 (Prod.snd (Prod.snd x_1.2).2).2.2)).8,.bool (FtO.s (ftF t n (Prod.snd (Prod.snd x_1.2).2).1 (Prod.snd (Prod.snd (Prod.snd x_1).2).2).1 (Prod.snd (Prod.snd x_1.2).2).2.2)).9]),some (.ints (some .u64) (FtO.s (ftF t n (Prod.snd (Prod.snd x_1.2).2).1 (Prod.snd (Prod.snd (Prod.snd x_1).2).2).1 (Prod.snd (Prod.snd x_1.2).2).2.2)).3),some (.abs (.store t n (ftF t n (Prod.snd (Prod.snd x_1.2).2).1 (Prod.snd (Prod.snd (Prod.snd x_1).2).2).1 (Prod.snd (Prod.snd x_1.2).2).2.2).3) []),some (.tab [some .i64,some .i64,some .i64] T),some (.tab [some .i64,none,some .i64] (Prod.snd x_1).1)]else(0=0∧lE' (Prod.snd x_1).1∧List.length (Prod.snd x_1).1+(1:Nat)≤(4294967296:Nat))∧okSt (u3 t n most N T st s) (fun x'=>Hint.ok (u3 t n most N T st s) x'∧Hint.mu (u3 t n most N T st s) x'<Hint.mu (u3 t n most N T st s) x) [.ptr 0 0,.ptr 2 0,.int .i64 most,.O,.O,.O,.O,.O,.O,.O,.tslice 4 0 (List.length (Prod.snd x_1).1+1) 3,.O,.O,.O,.O,.tslice 3 0 (List.length T) 3,.int .i64 (↑(List.length T):Int),.int .i64 (W ((↑x.1:Int)+1)),.O,.O,.O,.O,.O,.O,.O,.O,.O,.O,.O,.O,.O,.O,.O,.O,.O,.O,.O,.O,.O,.O,.O,.O,.O,.O,.O,.O,.O,.O,.O,.O,.O,.O,.O,.O,.O,.O,.O,.O] [some (.cells [.int .i64 (FtO.s (ftF t n (Prod.snd (Prod.snd x_1.2).2).1 (Prod.snd (Prod.snd (Prod.snd x_1).2).2).1 (Prod.snd (Prod.snd x_1.2).2).2.2)).1,.int .i64 (FtO.s (ftF t n (Prod.snd (Prod.snd x_1.2).2).1 (Prod.snd (Prod.snd (Prod.snd x_1).2).2).1 (Prod.snd (Prod.snd x_1.2).2).2.2)).2,.slice 1 0 (List.length (FtO.s (ftF t n (Prod.snd (Prod.snd x_1.2).2).1 (Prod.snd (Prod.snd (Prod.snd x_1).2).2).1 (Prod.snd (Prod.snd x_1.2).2).2.2)).3) 1,.int .i64 (FtO.s (ftF t n (Prod.snd (Prod.snd x_1.2).2).1 (Prod.snd (Prod.snd (Prod.snd x_1).2).2).1 (Prod.snd (Prod.snd x_1.2).2).2.2)).4,.int .i64 (FtO.s (ftF t n (Prod.snd (Prod.snd x_1.2).2).1 (Prod.snd (Prod.snd (Prod.snd x_1).2).2).1 (Prod.snd (Prod.snd x_1.2).2).2.2)).5,.int .i64 (FtO.s (ftF t n (Prod.snd (Prod.snd x_1.2).2).1 (Prod.snd (Prod.snd (Prod.snd x_1).2).2).1 (Prod.snd (Prod.snd x_1.2).2).2.2)).6,.int .u64 (FtO.s (ftF t n (Prod.snd (Prod.snd x_1.2).2).1 (Prod.snd (Prod.snd (Prod.snd x_1).2).2).1 (Prod.snd (Prod.snd x_1.2).2).2.2)).7,.int .u64 (FtO.s (ftF t n (Prod.snd (Prod.snd x_1.2).2).1 (Prod.snd (Prod.snd (Prod.snd x_1).2).2).1 (Prod.snd (Prod.snd x_1.2).2).2.2)).8,.bool (FtO.s (ftF t n (Prod.snd (Prod.snd x_1.2).2).1 (Prod.snd (Prod.snd (Prod.snd x_1).2).2).1 (Prod.snd (Prod.snd x_1.2).2).2.2)).9]),some (.ints (some .u64) (FtO.s (ftF t n (Prod.snd (Prod.snd x_1.2).2).1 (Prod.snd (Prod.snd (Prod.snd x_1).2).2).1 (Prod.snd (Prod.snd x_1.2).2).2.2)).3),some (.abs (.store t n (ftF t n (Prod.snd (Prod.snd x_1.2).2).1 (Prod.snd (Prod.snd (Prod.snd x_1).2).2).1 (Prod.snd (Prod.snd x_1.2).2).2.2).3) []),some (.tab [some .i64,some .i64,some .i64] T),some (.tab [some .i64,none,some .i64] ((Prod.snd x_1).1++ [[(FtO.x (ftF t n (Prod.snd (Prod.snd x_1.2).2).1 (Prod.snd (Prod.snd (Prod.snd x_1).2).2).1 (Prod.snd (Prod.snd x_1.2).2).2.2)).1,bif (FtO.x (ftF t n (Prod.snd (Prod.snd x_1.2).2).1 (Prod.snd (Prod.snd (Prod.snd x_1).2).2).1 (Prod.snd (Prod.snd x_1.2).2).2.2)).2 then 1 else 0,(FtO.x (ftF t n (Prod.snd (Prod.snd x_1.2).2).1 (Prod.snd (Prod.snd (Prod.snd x_1).2).2).1 (Prod.snd (Prod.snd x_1.2).2).2.2)).3]]))]else okSt (HRc t n most N T st s (↑(Prod.fst x):Int)) (fun x'=>Hint.ok (HRc t n most N T st s (↑(Prod.fst x):Int)) x'∧Hint.mu (HRc t n most N T st s (↑(Prod.fst x):Int)) x'<Hint.mu (HRc t n most N T st s (↑(Prod.fst x):Int)) x_1) [.ptr 0 0,.ptr 2 0,.int .i64 most,.O,.O,.O,.O,.O,.O,.O,.tslice 4 0 (List.length (Prod.snd x_1).1) 3,.O,.ptr 5 0,.O,.ptr 6 0,.tslice 3 0 (List.length T) 3,.int .i64 (↑(List.length T):Int),.int .i64 (↑x.1:Int),.O,.O,.O,.O,.O,.O,.O,.O,.O,.O,.O,.O,.O,.O,.O,.O,.O,.O,.O,.O,.O,.O,.O,.O,.O,.O,.O,.O,.O,.O,.O,.O,.O,.O,.O,.O,.O,.O,.O,.O] [some (.cells [.int .i64 (FtO.s (ftF t n (Prod.snd (Prod.snd x_1.2).2).1 (Prod.snd (Prod.snd (Prod.snd x_1).2).2).1 (Prod.snd (Prod.snd x_1.2).2).2.2)).1,.int .i64 (FtO.s (ftF t n (Prod.snd (Prod.snd x_1.2).2).1 (Prod.snd (Prod.snd (Prod.snd x_1).2).2).1 (Prod.snd (Prod.snd x_1.2).2).2.2)).2,.slice 1 0 (List.length (FtO.s (ftF t n (Prod.snd (Prod.snd x_1.2).2).1 (Prod.snd (Prod.snd (Prod.snd x_1).2).2).1 (Prod.snd (Prod.snd x_1.2).2).2.2)).3) 1,.int .i64 (FtO.s (ftF t n (Prod.snd (Prod.snd x_1.2).2).1 (Prod.snd (Prod.snd (Prod.snd x_1).2).2).1 (Prod.snd (Prod.snd x_1.2).2).2.2)).4,.int .i64 (FtO.s (ftF t n (Prod.snd (Prod.snd x_1.2).2).1 (Prod.snd (Prod.snd (Prod.snd x_1).2).2).1 (Prod.snd (Prod.snd x_1.2).2).2.2)).5,.int .i64 (FtO.s (ftF t n (Prod.snd (Prod.snd x_1.2).2).1 (Prod.snd (Prod.snd (Prod.snd x_1).2).2).1 (Prod.snd (Prod.snd x_1.2).2).2.2)).6,.int .u64 (FtO.s (ftF t n (Prod.snd (Prod.snd x_1.2).2).1 (Prod.snd (Prod.snd (Prod.snd x_1).2).2).1 (Prod.snd (Prod.snd x_1.2).2).2.2)).7,.int .u64 (FtO.s (ftF t n (Prod.snd (Prod.snd x_1.2).2).1 (Prod.snd (Prod.snd (Prod.snd x_1).2).2).1 (Prod.snd (Prod.snd x_1.2).2).2.2)).8,.bool (FtO.s (ftF t n (Prod.snd (Prod.snd x_1.2).2).1 (Prod.snd (Prod.snd (Prod.snd x_1).2).2).1 (Prod.snd (Prod.snd x_1.2).2).2.2)).9]),some (.ints (some .u64) (FtO.s (ftF t n (Prod.snd (Prod.snd x_1.2).2).1 (Prod.snd (Prod.snd (Prod.snd x_1).2).2).1 (Prod.snd (Prod.snd x_1.2).2).2.2)).3),some (.abs (.store t n (ftF t n (Prod.snd (Prod.snd x_1.2).2).1 (Prod.snd (Prod.snd (Prod.snd x_1).2).2).1 (Prod.snd (Prod.snd x_1.2).2).2.2).3) []),some (.tab [some .i64,some .i64,some .i64] T),some (.tab [some .i64,none,some .i64] (Prod.snd x_1).1),some (.cells [.int .i64 (r0 (List.getD T (Int.toNat (↑x.1:Int)) [])),.int .i64 (r1 (List.getD T (Int.toNat (↑x.1:Int)) [])),.int .i64 (r2 (List.getD T (Int.toNat (↑x.1:Int)) []))]),some (.abs (.fast t n (ftF t n (Prod.snd (Prod.snd x_1.2).2).1 (Prod.snd (Prod.snd (Prod.snd x_1).2).2).1 (Prod.snd (Prod.snd x_1.2).2).2.2).2) [2])]else K (.tup [.tslice 4 0 (List.length (Prod.snd x).1) 3,.bool true]) [some (.cells [.int .i64 (Prod.snd (Prod.snd x).2).1,.int .i64 (Prod.snd (Prod.snd x).2).2,.slice 1 0 (List.length (Prod.snd (Prod.snd x).2).3) 1,.int .i64 (Prod.snd (Prod.snd x).2).4,.int .i64 (Prod.snd (Prod.snd x).2).5,.int .i64 (Prod.snd (Prod.snd x).2).6,.int .u64 (Prod.snd (Prod.snd x).2).7,.int .u64 (Prod.snd (Prod.snd x).2).8,.bool (Prod.snd (Prod.snd x).2).9]),some (.ints (some .u64) (Prod.snd (Prod.snd x).2).3),some (.abs (.store t n (Prod.snd x.2).1) []),some (.tab [some .i64,some .i64,some .i64] T),some (.tab [some .i64,none,some .i64] (Prod.snd x).1)]
theorem JX(t n most:Int)(N:Nat)(T:List (List Int))(st:STS)(s:MS)(K:AVal→aC Ob→Prop)(h:N7 t n most N T st s K):cT' 31 [.ptr 0 0,.ptr 2 0,.int .i64 most,.tslice 3 0 T.length 3] [aX 1 s,aY s,some (.abs (.store t n st) []),some (.tab KT T)] K:=by
 refine Y2 (aE (E:=EFr) Tryz.checked.mixed (L:=XH t n most N T st s) (n:=10) (aU (by kernel_rfl) h))
theorem v7(t n most:Int)(N:Nat)(r:List Int)(T:List (List Int))(st:STS)(s:MS):frF t n most N (r::T) st s=bif (frX t n most N r st s).1.failed then([],false,(frX t n most N r st s).2)else(frRow (frX t n most N r st s).1::(frF t n most N T (frX t n most N r st s).2.1 (frX t n most N r st s).2.2).1,(frF t n most N T (frX t n most N r st s).2.1 (frX t n most N r st s).2.2).2):=rfl
theorem nB(t n:Int)(f:Nat)(x:FTS)(st:STS)(s:MS):l6 t n (f+1) x st s=bif (ftF t n x st s).d then((ftF t n x st s).x,(ftF t n x st s).st,(ftF t n x st s).s)else l6 t n f (ftF t n x st s).x (ftF t n x st s).st (ftF t n x st s).s :=rfl
theorem DS(t n:Int)(f:Nat)(x:ENS)(st:STS)(s:MS):rT t n (f+1) x st s=bif (enF t n x st s).d then(true,(enF t n x st s).e,(enF t n x st s).st,(enF t n x st s).s)else rT t n f (enF t n x st s).e (enF t n x st s).st (enF t n x st s).s :=rfl
theorem U9(t n most:Int)(N:Nat)(T:List (List Int))(st:STS)(s:MS)(K:AVal→aC Ob→Prop)(hT:T.length≤1000000)(ok:z6 t n most N T st s)
 (hK:K (.tup [.tslice 4 0 (frF t n most N T st s).1.length 3,.bool (frF t n most N T st s).2.1]) [aX 1 (frF t n most N T st s).2.2.2,aY (frF t n most N T st s).2.2.2,some (.abs (.store t n (frF t n most N T st s).2.2.1) []),some (.tab KT T),some (.tab KR (frF t n most N T st s).1)]):N7 t n most N T st s K:=by
 unfold N7
 refine⟨aH (H:=u3 t n most N T st s) (0,[],st,s) rfl ⟨Nat.zero_le _,rfl,ok,rfl⟩,?_⟩
 rintro⟨i,R,st1,s1⟩ ⟨h1,hl,ok1,eq1⟩
 dsimp only at h1 hl ok1 eq1⊢
 have hti:((i:Nat):Int).toNat =i:=rfl
 refine mA (fun hi=>?_) (fun hi=>?_)
 ·have hi':i<T.length:=by omega
  have e0:0+Int.toNat ((i:Nat):Int)=i:=by omega
  have e4:W ((i:Int)+1)=((i+1:Nat):Int):=(cE (by omega)).trans rfl
  have hdr:T.drop i=T[i]::T.drop (i+1):=List.drop_eq_getElem_cons hi'
  have hg:List.getD T i []=T[i]:=by rw [gD',gE' hi'];rfl
  have a0:frA t n most N T st s (i,R,st1,s1):=⟨h1,hl,ok1,eq1⟩
  have okr:=ok1
  rw [hdr]at okr
  have okr:t8 t n most N T[i] st1 s1∧_:=okr
  obtain⟨⟨okE',okN,okF⟩,_⟩:=okr
  rw [e0]
  refine⟨⟨by omega,by omega⟩,hi',trivial,aI (fun hlk=>?_) (fun hlk=>?_)⟩
  ·have hlk:bT (r1 (List.getD T i []))=true:=hlk
   rw [hg]at hlk
   refine aI (fun hz=>?_) (fun hz=>?_)
   ·have hz:ieq st1.sp 0=true:=hz
    have hz0:st1.sp=0:=by simpa [bJ]using hz
    refine⟨⟨⟨rfl,rfl,rfl⟩,trivial⟩,aH (H:=HRb t n most N T st s i) (N,R,st1,s1,dENS,st1,s1) rfl ⟨⟨by omega,by omega⟩,a0,by dsimp only;rw [hti,hg,hlk,hz];rfl,okE' hlk hz0,rfl⟩,?_⟩
    rintro⟨f,R1,sq,mq,e,sr,mr⟩ ⟨i0,a,lk,oke,eqe⟩
    dsimp only at a lk oke eqe⊢
    cases f with
    | zero=>exact oke.elim
    | succ f=>
      have oke:okE t n e sr mr∧((enF t n e sr mr).d =false→oX t n f (enF t n e sr mr).e (enF t n e sr mr).st (enF t n e sr mr).s):=oke
      refine⟨⟨⟨rfl,rfl,rfl⟩,oke.1⟩,aI (fun hd=>?_) (fun hd=>?_)⟩
      ·have hd:(enF t n e sr mr).d =true:=hd
       rw [DS,hd,cond_true]at eqe
       have okr2:=a.ok
       dsimp only at okr2
       rw [hti,hdr]at okr2
       have okr2:t8 t n most N T[i] sq mq∧_:=okr2
       obtain⟨⟨_,okN2,okF2⟩,_⟩:=okr2
       rw [hti,hg]at lk
       have eE:frE t n N (r1 T[i]) sq mq=((enF t n e sr mr).st,(enF t n e sr mr).s):=by
        unfold frE
        rw [lk,cond_true,eqe]
       have eX:frX t n most N T[i] sq mq=l6 t n N (ftNF t n (r0 T[i]) (r1 T[i]) (r2 T[i]) most (enF t n e sr mr).st).1 (ftNF t n (r0 T[i]) (r1 T[i]) (r2 T[i]) most (enF t n e sr mr).st).2 (enF t n e sr mr).s :=by
        unfold frX
        rw [eE]
       rw [eE]at okN2 okF2
       refine⟨by rw [hti,hg];exact okN2,aH (H:=HRc t n most N T st s i) (N,R1,sq,mq,(ftNF t n (r0 T[i]) (r1 T[i]) (r2 T[i]) most (enF t n e sr mr).st).1,(ftNF t n (r0 T[i]) (r1 T[i]) (r2 T[i]) most (enF t n e sr mr).st).2,(enF t n e sr mr).s) (by simp only [hti,hg,HRc]<;>rfl) ⟨i0,a,okF2,by dsimp only;rw [hti,hg];exact eX⟩,?_⟩
       rintro⟨f,R2,sa,ma,y,sb,mb⟩ ⟨i0,a,okf,eqf⟩
       dsimp only at a okf eqf⊢
       cases f with
       | zero=>exact okf.elim
       | succ f=>
         have okf:ftOk t n y sb mb∧((ftF t n y sb mb).d =false→pC t n f (ftF t n y sb mb).x (ftF t n y sb mb).st (ftF t n y sb mb).s):=okf
         rw [hti]at a eqf
         rw [hg]at eqf
         obtain⟨g1,gl,gok,geq⟩:=a
         dsimp only at g1 gl gok geq
         rw [hdr,v7]at geq
         rw [hdr]at gok
         have gok:t8 t n most N T[i] sa ma∧((frX t n most N T[i] sa ma).1.failed =false→z6 t n most N (T.drop (i+1)) (frX t n most N T[i] sa ma).2.1 (frX t n most N T[i] sa ma).2.2):=gok
         refine⟨⟨⟨rfl,rfl,rfl⟩,okf.1⟩,aI (fun hd=>?_) (fun hd=>?_)⟩
         ·have hd:(ftF t n y sb mb).d =true:=hd
          rw [nB,hd,cond_true]at eqf
          rw [eqf]at geq gok
          refine aI (fun hf=>?_) (fun hf=>?_)
          ·have hf:(ftF t n y sb mb).x.failed =true:=hf
           dsimp only at geq
           rw [hf,cond_true,List.append_nil]at geq
           rw [geq]at hK
           exact hK
          ·have hf:(ftF t n y sb mb).x.failed =false:=hf
           dsimp only at geq
           rw [hf,cond_false]at geq
           refine⟨⟨rfl,rfl,by omega⟩,aH (H:=u3 t n most N T st s) (i+1,R2++ [frRow (ftF t n y sb mb).x],(ftF t n y sb mb).st,(ftF t n y sb mb).s) ?_ ⟨⟨hi',by show(R2++ [frRow _]).length =i+1;rw [List.length_append,gl];rfl,gok.2 hf,?_⟩,by show T.length - (i+1)<T.length - i;omega⟩⟩
           ·simp only [e4,u3,List.length_append,List.length_singleton]
            rfl
           ·rw [geq]
            simp only [List.append_assoc,List.singleton_append]
         ·have hd:(ftF t n y sb mb).d =false:=hd
          rw [nB,hd,cond_false]at eqf
          exact aH (H:=HRc t n most N T st s i) (f,R2,sa,ma,(ftF t n y sb mb).x,(ftF t n y sb mb).st,(ftF t n y sb mb).s) rfl ⟨⟨i0,⟨g1,gl,by rw [hti,hdr];exact gok,by dsimp only;rw [hti,hdr,v7];exact geq⟩,okf.2 hd,by dsimp only;rw [hti,hg];exact eqf⟩,by show f<f+1;omega⟩
      ·have hd:(enF t n e sr mr).d =false:=hd
       rw [DS,hd,cond_false]at eqe
       exact aH (H:=HRb t n most N T st s i) (f,R1,sq,mq,(enF t n e sr mr).e,(enF t n e sr mr).st,(enF t n e sr mr).s) rfl ⟨⟨i0,a,lk,oke.2 hd,eqe⟩,by show f<f+1;omega⟩
   ·have hz:ieq st1.sp 0=false:=hz
    have eE:frE t n N (r1 T[i]) st1 s1=(st1,s1):=by unfold frE;rw [hlk,hz];rfl
    have eX:frX t n most N T[i] st1 s1=l6 t n N (ftNF t n (r0 T[i]) (r1 T[i]) (r2 T[i]) most st1).1 (ftNF t n (r0 T[i]) (r1 T[i]) (r2 T[i]) most st1).2 s1:=by
     unfold frX
     rw [eE]
    rw [eE]at okN okF
    refine⟨by rw [hg];exact okN,aH (H:=HRc t n most N T st s i) (N,R,st1,s1,(ftNF t n (r0 T[i]) (r1 T[i]) (r2 T[i]) most st1).1,(ftNF t n (r0 T[i]) (r1 T[i]) (r2 T[i]) most st1).2,s1) (by simp only [hti,hg,HRc]<;>rfl) ⟨⟨by omega,by omega⟩,a0,okF,by dsimp only;rw [hti,hg];exact eX⟩,?_⟩
    rintro⟨f,R2,sa,ma,y,sb,mb⟩ ⟨i0,a,okf,eqf⟩
    dsimp only at a okf eqf⊢
    cases f with
    | zero=>exact okf.elim
    | succ f=>
      have okf:ftOk t n y sb mb∧((ftF t n y sb mb).d =false→pC t n f (ftF t n y sb mb).x (ftF t n y sb mb).st (ftF t n y sb mb).s):=okf
      rw [hti]at a eqf
      rw [hg]at eqf
      obtain⟨g1,gl,gok,geq⟩:=a
      dsimp only at g1 gl gok geq
      rw [hdr,v7]at geq
      rw [hdr]at gok
      have gok:t8 t n most N T[i] sa ma∧((frX t n most N T[i] sa ma).1.failed =false→z6 t n most N (T.drop (i+1)) (frX t n most N T[i] sa ma).2.1 (frX t n most N T[i] sa ma).2.2):=gok
      refine⟨⟨⟨rfl,rfl,rfl⟩,okf.1⟩,aI (fun hd=>?_) (fun hd=>?_)⟩
      ·have hd:(ftF t n y sb mb).d =true:=hd
       rw [nB,hd,cond_true]at eqf
       rw [eqf]at geq gok
       refine aI (fun hf=>?_) (fun hf=>?_)
       ·have hf:(ftF t n y sb mb).x.failed =true:=hf
        dsimp only at geq
        rw [hf,cond_true,List.append_nil]at geq
        rw [geq]at hK
        exact hK
       ·have hf:(ftF t n y sb mb).x.failed =false:=hf
        dsimp only at geq
        rw [hf,cond_false]at geq
        refine⟨⟨rfl,rfl,by omega⟩,aH (H:=u3 t n most N T st s) (i+1,R2++ [frRow (ftF t n y sb mb).x],(ftF t n y sb mb).st,(ftF t n y sb mb).s) ?_ ⟨⟨hi',by show(R2++ [frRow _]).length =i+1;rw [List.length_append,gl];rfl,gok.2 hf,?_⟩,by show T.length - (i+1)<T.length - i;omega⟩⟩
        ·simp only [e4,u3,List.length_append,List.length_singleton]
         rfl
        ·rw [geq]
         simp only [List.append_assoc,List.singleton_append]
      ·have hd:(ftF t n y sb mb).d =false:=hd
       rw [nB,hd,cond_false]at eqf
       exact aH (H:=HRc t n most N T st s i) (f,R2,sa,ma,(ftF t n y sb mb).x,(ftF t n y sb mb).st,(ftF t n y sb mb).s) rfl ⟨⟨i0,⟨g1,gl,by rw [hti,hdr];exact gok,by dsimp only;rw [hti,hdr,v7];exact geq⟩,okf.2 hd,by dsimp only;rw [hti,hg];exact eqf⟩,by show f<f+1;omega⟩
  ·have hlk:bT (r1 (List.getD T i []))=false:=hlk
   rw [hg]at hlk
   have eE:frE t n N (r1 T[i]) st1 s1=(st1,s1):=by unfold frE;rw [hlk];rfl
   have eX:frX t n most N T[i] st1 s1=l6 t n N (ftNF t n (r0 T[i]) (r1 T[i]) (r2 T[i]) most st1).1 (ftNF t n (r0 T[i]) (r1 T[i]) (r2 T[i]) most st1).2 s1:=by
    unfold frX
    rw [eE]
   rw [eE]at okN okF
   refine⟨by rw [hg];exact okN,aH (H:=HRc t n most N T st s i) (N,R,st1,s1,(ftNF t n (r0 T[i]) (r1 T[i]) (r2 T[i]) most st1).1,(ftNF t n (r0 T[i]) (r1 T[i]) (r2 T[i]) most st1).2,s1) (by simp only [hti,hg,HRc]<;>rfl) ⟨⟨by omega,by omega⟩,a0,okF,by dsimp only;rw [hti,hg];exact eX⟩,?_⟩
   rintro⟨f,R2,sa,ma,y,sb,mb⟩ ⟨i0,a,okf,eqf⟩
   dsimp only at a okf eqf⊢
   cases f with
   | zero=>exact okf.elim
   | succ f=>
     have okf:ftOk t n y sb mb∧((ftF t n y sb mb).d =false→pC t n f (ftF t n y sb mb).x (ftF t n y sb mb).st (ftF t n y sb mb).s):=okf
     rw [hti]at a eqf
     rw [hg]at eqf
     obtain⟨g1,gl,gok,geq⟩:=a
     dsimp only at g1 gl gok geq
     rw [hdr,v7]at geq
     rw [hdr]at gok
     have gok:t8 t n most N T[i] sa ma∧((frX t n most N T[i] sa ma).1.failed =false→z6 t n most N (T.drop (i+1)) (frX t n most N T[i] sa ma).2.1 (frX t n most N T[i] sa ma).2.2):=gok
     refine⟨⟨⟨rfl,rfl,rfl⟩,okf.1⟩,aI (fun hd=>?_) (fun hd=>?_)⟩
     ·have hd:(ftF t n y sb mb).d =true:=hd
      rw [nB,hd,cond_true]at eqf
      rw [eqf]at geq gok
      refine aI (fun hf=>?_) (fun hf=>?_)
      ·have hf:(ftF t n y sb mb).x.failed =true:=hf
       dsimp only at geq
       rw [hf,cond_true,List.append_nil]at geq
       rw [geq]at hK
       exact hK
      ·have hf:(ftF t n y sb mb).x.failed =false:=hf
       dsimp only at geq
       rw [hf,cond_false]at geq
       refine⟨⟨rfl,rfl,by omega⟩,aH (H:=u3 t n most N T st s) (i+1,R2++ [frRow (ftF t n y sb mb).x],(ftF t n y sb mb).st,(ftF t n y sb mb).s) ?_ ⟨⟨hi',by show(R2++ [frRow _]).length =i+1;rw [List.length_append,gl];rfl,gok.2 hf,?_⟩,by show T.length - (i+1)<T.length - i;omega⟩⟩
       ·simp only [e4,u3,List.length_append,List.length_singleton]
        rfl
       ·rw [geq]
        simp only [List.append_assoc,List.singleton_append]
     ·have hd:(ftF t n y sb mb).d =false:=hd
      rw [nB,hd,cond_false]at eqf
      exact aH (H:=HRc t n most N T st s i) (f,R2,sa,ma,(ftF t n y sb mb).x,(ftF t n y sb mb).st,(ftF t n y sb mb).s) rfl ⟨⟨i0,⟨g1,gl,by rw [hti,hdr];exact gok,by dsimp only;rw [hti,hdr,v7];exact geq⟩,okf.2 hd,by dsimp only;rw [hti,hg];exact eqf⟩,by show f<f+1;omega⟩
 ·have hi':T.length=i:=by omega
  rw [show T.drop i=[]from List.drop_eq_nil_of_le (by omega)]at eq1
  have eq1:frF t n most N T st s=(R++ [],true,st1,s1):=eq1
  rw [List.append_nil]at eq1
  rw [eq1]at hK
  exact hK
def BG(t n most:Int)(T:List (List Int))(st:STS)(s:MS):List (List Int)×Bool×STS×MS:=frF t n most 20000 T st s
def z7(t n most:Int)(T:List (List Int))(st:STS)(s:MS):Prop:=z6 t n most 20000 T st s
noncomputable def frS:aK Ob:=fun args h=>match args,h with
 | [.ptr 0 0,.ptr 2 0,.int .i64 most,.tslice 3 0 l 3],[e1,e2,some (.abs (.store t n st) []),some (.tab [some .i64,some .i64,some .i64] T)]=>(match eN 1 [e1,e2]with
   | some (l2,s)=>some (.pre ((l2=s.xs.length∧l=T.length)∧T.length≤1000000∧z7 t n most T st s) (.ret (.tup [.tslice 4 0 (BG t n most T st s).1.length 3,.bool (BG t n most T st s).2.1]) [aX 1 (BG t n most T st s).2.2.2,aY (BG t n most T st s).2.2.2,some (.abs (.store t n (BG t n most T st s).2.2.1) []),some (.tab [some .i64,some .i64,some .i64] T),some (.tab [some .i64,none,some .i64] (BG t n most T st s).1)]))
   | none=>none)
 | _,_=>none
theorem P9:sT' 31 frS:=by
 intro args h o ho K hK
 unfold frS at ho
 split at ho
 case h_2=>cases ho
 rename_i most l e1 e2 t n st T
 split at ho<;>cases ho
 rename_i l2 s hm
 obtain⟨⟨⟨hl2,rfl⟩,hT,ok⟩,hK⟩:=hK
 have hh:=bU hm hl2
 cases hh
 exact JX t n most 20000 T st s K (U9 t n most 20000 T st s K hT ok hK)
noncomputable def ftRunZ:aK Ob:=fun args h=>match args,h with
 | [.ptr 0 0,.int .i64 most,.slice 2 0 1 1],[e1,e2,some (.cells [.iface 35 (.ptr 3 0)]),some (.abs (.fast t n x) [4]),some (.abs (.store t2 n2 st) [])]=>(match eN 1 [e1,e2]with
   | some (l,s)=>some (.pre ((l=s.xs.length∧t2=t∧n2=n)∧(0≤most∧most≤1000000)∧z8 t n most.toNat x st s) (.ite (bP t n most.toNat x st s).2.1 (.ret (.tup [.int .i64 ((bP t n most.toNat x st s).1:Int),.bool true]) [aX 1 (bP t n most.toNat x st s).2.2.2.2,aY (bP t n most.toNat x st s).2.2.2.2,some (.cells [.iface 35 (.ptr 3 0)]),some (.cells [.ptr 4 0,.int .i64 (bP t n most.toNat x st s).2.2.1.code,.bool (bP t n most.toNat x st s).2.2.1.okk,.int .i64 (bP t n most.toNat x st s).2.2.1.val,.bool (bP t n most.toNat x st s).2.2.1.failed,.int .i64 (bP t n most.toNat x st s).2.2.1.tries,.int .i64 (bP t n most.toNat x st s).2.2.1.sh,.int .i64 (bP t n most.toNat x st s).2.2.1.kd,.int .i64 (bP t n most.toNat x st s).2.2.1.ky,.int .i64 (bP t n most.toNat x st s).2.2.1.most,.int .i64 (bP t n most.toNat x st s).2.2.1.at',.bool (bP t n most.toNat x st s).2.2.1.p.now,.int .i64 (bP t n most.toNat x st s).2.2.1.p.code,.bool (bP t n most.toNat x st s).2.2.1.p.okk,.int .i64 (bP t n most.toNat x st s).2.2.1.p.val,.int .i64 (bP t n most.toNat x st s).2.2.1.p.addr,.int .u64 (bP t n most.toNat x st s).2.2.1.p.old,.int .i64 (bP t n most.toNat x st s).2.2.1.p.nxt,.bool (bP t n most.toNat x st s).2.2.1.p.mark,.int .i64 (bP t n most.toNat x st s).2.2.1.p.pops,.O,.O,.O]),some (.abs (.store t n (bP t n most.toNat x st s).2.2.2.1) [])]) (.ret (.tup [.int .i64 ((bP t n most.toNat x st s).1:Int),.bool false]) [aX 1 (bP t n most.toNat x st s).2.2.2.2,aY (bP t n most.toNat x st s).2.2.2.2,some (.cells [.iface 35 (.ptr 3 0)]),some (.abs (.fast t n (bP t n most.toNat x st s).2.2.1) [4]),some (.abs (.store t n (bP t n most.toNat x st s).2.2.2.1) [])])))
   | none=>none)
 | _,_=>none
theorem GM:sT' 20 ftRunZ:=by
 intro args h o ho K hK
 unfold ftRunZ at ho
 split at ho
 case h_2=>cases ho
 rename_i most e1 e2 t n x t2 n2 st
 split at ho<;>cases ho
 rename_i l s hm
 obtain⟨⟨⟨hl,rfl,rfl⟩,hb,ok⟩,hK⟩:=hK
 unfold z8 at ok
 unfold bP at hK
 have hh:=bU hm hl
 cases hh
 refine wA t2 n2 most.toNat most x st s _ (QC t2 n2 most.toNat most x st s _ (by omega) (by omega) ok ?_)
 generalize cL t2 n2 most.toNat x st s=r at hK⊢
 obtain⟨c,b,y,sy,my⟩:=r
 cases b with
 | true=>exact hK
 | false=>exact hK
def stNewZ:aK Ob:=fun args h=>match args,h with
 | [.agg [.int .i64 t,.int .i64 n],.int .i64 me],[]=>some (.pre True (.ret (.ptr 0 0) [some (.abs (.store t n ⟨me,0,[]⟩) [])]))
 | _,_=>none
theorem HZ:sT' 19 stNewZ:=by
 intro args h o ho K hK
 unfold stNewZ at ho
 split at ho<;>cases ho
 rename_i t n me
 obtain⟨_,hK⟩:=hK
 refine aD.pack (tb:=tbl) ?_
 refine A5 [.agg [.int .i64 t,.int .i64 n],.int .i64 me] [] _ rfl _ ⟨trivial,⟨[0,1],[some (.abs (.store t n ⟨me,0,[]⟩) [])],.store t n ⟨me,0,[]⟩,0,0,jT t n ⟨me,0,[]⟩,[],by kernel_rfl,by kernel_rfl,rfl,rfl,hK⟩⟩
noncomputable def runZ:aK Ob:=ftRunZ
theorem PJ:sT' 20 runZ:=GM
noncomputable def EFs:=((EFr.addS 19 stNewZ HZ).addS 20 runZ PJ).addS 31 (aK.or frS (lU [(.slot 3,.tab [some .i64,some .i64,some .i64])] frS)) (ZM P9 (lV P9))
def xE(K:AVal→aC Ob→Prop):Prop:=True∧bif !fB 1 3 then K (.bool false) []else(((0:Int)≤(1:Int)∧(1:Int)≤(100000:Int))∧(0:Int)≤(3:Int)∧(3:Int)≤(100000:Int))∧((((0:Int)≤(1:Int)∧(1:Int)≤(100000:Int))∧(0:Int)≤(3:Int)∧(3:Int)≤(100000:Int))∧True)∧((0:Int)≤(2:Int)*3+5*1+6∧2*3+5*1+(6:Int)=(2:Int)*3+5*1+6∧2*3+5*1+(6:Int)≤(4294967296:Int))∧True∧pD 1 3 4 5 0 0 {me:=0,sp:=0,R:=[] } ∧((17=17∧(1:Int)=(1:Int)∧(3:Int)=(3:Int))∧((0:Int)≤(9:Int)∧(9:Int)≤(1000000:Int))∧z8 1 3 9 (ftNF 1 3 4 5 0 0 {me:=0,sp:=0,R:=[] }).1 (ftNF 1 3 4 5 0 0 {me:=0,sp:=0,R:=[] }).2 {t:=1,n:=3,xs:=List.replicate (Int.toNat (2*3+5*1+6)) 0,c:=0,k:=0,a:=0,o:=0,w:=0,ok:=false})∧bif (Prod.snd (bP 1 3 9 (ftNF 1 3 4 5 0 0 {me:=0,sp:=0,R:=[] }).1 (ftNF 1 3 4 5 0 0 {me:=0,sp:=0,R:=[] }).2 {t:=1,n:=3,xs:=List.replicate (Int.toNat (2*3+5*1+6)) 0,c:=0,k:=0,a:=0,o:=0,w:=0,ok:=false})).1 then((lE' (Prod.snd (Prod.snd (bP 1 3 9 (ftNF 1 3 4 5 0 0 {me:=0,sp:=0,R:=[] }).1 (ftNF 1 3 4 5 0 0 {me:=0,sp:=0,R:=[] }).2 {t:=1,n:=3,xs:=List.replicate (Int.toNat (2*3+5*1+6)) 0,c:=0,k:=0,a:=0,o:=0,w:=0,ok:=false}).2).2).3∧2=2)∧List.length [[4,4,8],[4,5,0]]≤(1000000:Nat)∧z7 1 3 0 [[4,4,8],[4,5,0]] (Prod.snd (Prod.snd (bP 1 3 9 (ftNF 1 3 4 5 0 0 {me:=0,sp:=0,R:=[] }).1 (ftNF 1 3 4 5 0 0 {me:=0,sp:=0,R:=[] }).2 {t:=1,n:=3,xs:=List.replicate (Int.toNat (2*3+5*1+6)) 0,c:=0,k:=0,a:=0,o:=0,w:=0,ok:=false})).2).1 (Prod.snd (bP 1 3 9 (ftNF 1 3 4 5 0 0 {me:=0,sp:=0,R:=[] }).1 (ftNF 1 3 4 5 0 0 {me:=0,sp:=0,R:=[] }).2 {t:=1,n:=3,xs:=List.replicate (Int.toNat (2*3+5*1+6)) 0,c:=0,k:=0,a:=0,o:=0,w:=0,ok:=false}).2).2.2)∧bif ieq (↑(bP 1 3 9 (ftNF 1 3 4 5 0 0 {me:=0,sp:=0,R:=[] }).1 (ftNF 1 3 4 5 0 0 {me:=0,sp:=0,R:=[] }).2 {t:=1,n:=3,xs:=List.replicate (Int.toNat (2*3+5*1+6)) 0,c:=0,k:=0,a:=0,o:=0,w:=0,ok:=false}).1:Int) 1 then bif !(Prod.fst (Prod.snd (bP 1 3 9 (ftNF 1 3 4 5 0 0 {me:=0,sp:=0,R:=[] }).1 (ftNF 1 3 4 5 0 0 {me:=0,sp:=0,R:=[] }).2 {t:=1,n:=3,xs:=List.replicate (Int.toNat (2*3+5*1+6)) 0,c:=0,k:=0,a:=0,o:=0,w:=0,ok:=false})).2).4 then bif bif ieq (Prod.fst (Prod.snd (bP 1 3 9 (ftNF 1 3 4 5 0 0 {me:=0,sp:=0,R:=[] }).1 (ftNF 1 3 4 5 0 0 {me:=0,sp:=0,R:=[] }).2 {t:=1,n:=3,xs:=List.replicate (Int.toNat (2*3+5*1+6)) 0,c:=0,k:=0,a:=0,o:=0,w:=0,ok:=false})).2).1 0 then bif !(Prod.fst (Prod.snd (bP 1 3 9 (ftNF 1 3 4 5 0 0 {me:=0,sp:=0,R:=[] }).1 (ftNF 1 3 4 5 0 0 {me:=0,sp:=0,R:=[] }).2 {t:=1,n:=3,xs:=List.replicate (Int.toNat (2*3+5*1+6)) 0,c:=0,k:=0,a:=0,o:=0,w:=0,ok:=false})).2).2 then bif ieq (Prod.fst (Prod.snd (bP 1 3 9 (ftNF 1 3 4 5 0 0 {me:=0,sp:=0,R:=[] }).1 (ftNF 1 3 4 5 0 0 {me:=0,sp:=0,R:=[] }).2 {t:=1,n:=3,xs:=List.replicate (Int.toNat (2*3+5*1+6)) 0,c:=0,k:=0,a:=0,o:=0,w:=0,ok:=false})).2).3 0 then true else false else false else false then bif (Prod.snd (BG 1 3 0 [[4,4,8],[4,5,0]] (Prod.snd (Prod.snd (bP 1 3 9 (ftNF 1 3 4 5 0 0 {me:=0,sp:=0,R:=[] }).1 (ftNF 1 3 4 5 0 0 {me:=0,sp:=0,R:=[] }).2 {t:=1,n:=3,xs:=List.replicate (Int.toNat (2*3+5*1+6)) 0,c:=0,k:=0,a:=0,o:=0,w:=0,ok:=false})).2).1 (Prod.snd (bP 1 3 9 (ftNF 1 3 4 5 0 0 {me:=0,sp:=0,R:=[] }).1 (ftNF 1 3 4 5 0 0 {me:=0,sp:=0,R:=[] }).2 {t:=1,n:=3,xs:=List.replicate (Int.toNat (2*3+5*1+6)) 0,c:=0,k:=0,a:=0,o:=0,w:=0,ok:=false}).2).2.2)).1 then bif ieq (↑(List.length (BG 1 3 0 [[4,4,8],[4,5,0]] (Prod.snd (Prod.snd (bP 1 3 9 (ftNF 1 3 4 5 0 0 {me:=0,sp:=0,R:=[] }).1 (ftNF 1 3 4 5 0 0 {me:=0,sp:=0,R:=[] }).2 {t:=1,n:=3,xs:=List.replicate (Int.toNat (2*3+5*1+6)) 0,c:=0,k:=0,a:=0,o:=0,w:=0,ok:=false})).2).1 (Prod.snd (bP 1 3 9 (ftNF 1 3 4 5 0 0 {me:=0,sp:=0,R:=[] }).1 (ftNF 1 3 4 5 0 0 {me:=0,sp:=0,R:=[] }).2 {t:=1,n:=3,xs:=List.replicate (Int.toNat (2*3+5*1+6)) 0,c:=0,k:=0,a:=0,o:=0,w:=0,ok:=false}).2).2.2).1):Int) 2 then((0:Int)≤(1:Int)∧(1:Int)<(↑(List.length (BG 1 3 0 [[4,4,8],[4,5,0]] (Prod.snd (Prod.snd (bP 1 3 9 (ftNF 1 3 4 5 0 0 {me:=0,sp:=0,R:=[] }).1 (ftNF 1 3 4 5 0 0 {me:=0,sp:=0,R:=[] }).2 {t:=1,n:=3,xs:=List.replicate (Int.toNat (2*3+5*1+6)) 0,c:=0,k:=0,a:=0,o:=0,w:=0,ok:=false})).2).1 (Prod.snd (bP 1 3 9 (ftNF 1 3 4 5 0 0 {me:=0,sp:=0,R:=[] }).1 (ftNF 1 3 4 5 0 0 {me:=0,sp:=0,R:=[] }).2 {t:=1,n:=3,xs:=List.replicate (Int.toNat (2*3+5*1+6)) 0,c:=0,k:=0,a:=0,o:=0,w:=0,ok:=false}).2).2.2).1):Int))∧0+Int.toNat (1:Int)<List.length (BG 1 3 0 [[4,4,8],[4,5,0]] (Prod.snd (Prod.snd (bP 1 3 9 (ftNF 1 3 4 5 0 0 {me:=0,sp:=0,R:=[] }).1 (ftNF 1 3 4 5 0 0 {me:=0,sp:=0,R:=[] }).2 {t:=1,n:=3,xs:=List.replicate (Int.toNat (2*3+5*1+6)) 0,c:=0,k:=0,a:=0,o:=0,w:=0,ok:=false})).2).1 (Prod.snd (bP 1 3 9 (ftNF 1 3 4 5 0 0 {me:=0,sp:=0,R:=[] }).1 (ftNF 1 3 4 5 0 0 {me:=0,sp:=0,R:=[] }).2 {t:=1,n:=3,xs:=List.replicate (Int.toNat (2*3+5*1+6)) 0,c:=0,k:=0,a:=0,o:=0,w:=0,ok:=false}).2).2.2).1∧K (.bool (bif ieq (List.headD (List.getD (BG 1 3 0 [[4,4,8],[4,5,0]] (Prod.snd (Prod.snd (bP 1 3 9 (ftNF 1 3 4 5 0 0 {me:=0,sp:=0,R:=[] }).1 (ftNF 1 3 4 5 0 0 {me:=0,sp:=0,R:=[] }).2 {t:=1,n:=3,xs:=List.replicate (Int.toNat (2*3+5*1+6)) 0,c:=0,k:=0,a:=0,o:=0,w:=0,ok:=false})).2).1 (Prod.snd (bP 1 3 9 (ftNF 1 3 4 5 0 0 {me:=0,sp:=0,R:=[] }).1 (ftNF 1 3 4 5 0 0 {me:=0,sp:=0,R:=[] }).2 {t:=1,n:=3,xs:=List.replicate (Int.toNat (2*3+5*1+6)) 0,c:=0,k:=0,a:=0,o:=0,w:=0,ok:=false}).2).2.2).1 (0+Int.toNat 1) []) 0) 0 then bif bif !ieq (List.headD (List.tail (List.getD (BG 1 3 0 [[4,4,8],[4,5,0]] (Prod.snd (Prod.snd (bP 1 3 9 (ftNF 1 3 4 5 0 0 {me:=0,sp:=0,R:=[] }).1 (ftNF 1 3 4 5 0 0 {me:=0,sp:=0,R:=[] }).2 {t:=1,n:=3,xs:=List.replicate (Int.toNat (2*3+5*1+6)) 0,c:=0,k:=0,a:=0,o:=0,w:=0,ok:=false})).2).1 (Prod.snd (bP 1 3 9 (ftNF 1 3 4 5 0 0 {me:=0,sp:=0,R:=[] }).1 (ftNF 1 3 4 5 0 0 {me:=0,sp:=0,R:=[] }).2 {t:=1,n:=3,xs:=List.replicate (Int.toNat (2*3+5*1+6)) 0,c:=0,k:=0,a:=0,o:=0,w:=0,ok:=false}).2).2.2).1 (0+Int.toNat 1) [])) 0) 0 then true else false then bif ieq (List.headD (List.tail (List.tail (List.getD (BG 1 3 0 [[4,4,8],[4,5,0]] (Prod.snd (Prod.snd (bP 1 3 9 (ftNF 1 3 4 5 0 0 {me:=0,sp:=0,R:=[] }).1 (ftNF 1 3 4 5 0 0 {me:=0,sp:=0,R:=[] }).2 {t:=1,n:=3,xs:=List.replicate (Int.toNat (2*3+5*1+6)) 0,c:=0,k:=0,a:=0,o:=0,w:=0,ok:=false})).2).1 (Prod.snd (bP 1 3 9 (ftNF 1 3 4 5 0 0 {me:=0,sp:=0,R:=[] }).1 (ftNF 1 3 4 5 0 0 {me:=0,sp:=0,R:=[] }).2 {t:=1,n:=3,xs:=List.replicate (Int.toNat (2*3+5*1+6)) 0,c:=0,k:=0,a:=0,o:=0,w:=0,ok:=false}).2).2.2).1 (0+Int.toNat 1) []))) 0) 8 then true else false else false else false)) []else K (.bool false) []else K (.bool false) []else K (.bool false) []else K (.bool false) []else K (.bool false) []else((lE' (Prod.snd (Prod.snd (bP 1 3 9 (ftNF 1 3 4 5 0 0 {me:=0,sp:=0,R:=[] }).1 (ftNF 1 3 4 5 0 0 {me:=0,sp:=0,R:=[] }).2 {t:=1,n:=3,xs:=List.replicate (Int.toNat (2*3+5*1+6)) 0,c:=0,k:=0,a:=0,o:=0,w:=0,ok:=false}).2).2).3∧2=2)∧List.length [[4,4,8],[4,5,0]]≤(1000000:Nat)∧z7 1 3 0 [[4,4,8],[4,5,0]] (Prod.snd (Prod.snd (bP 1 3 9 (ftNF 1 3 4 5 0 0 {me:=0,sp:=0,R:=[] }).1 (ftNF 1 3 4 5 0 0 {me:=0,sp:=0,R:=[] }).2 {t:=1,n:=3,xs:=List.replicate (Int.toNat (2*3+5*1+6)) 0,c:=0,k:=0,a:=0,o:=0,w:=0,ok:=false})).2).1 (Prod.snd (bP 1 3 9 (ftNF 1 3 4 5 0 0 {me:=0,sp:=0,R:=[] }).1 (ftNF 1 3 4 5 0 0 {me:=0,sp:=0,R:=[] }).2 {t:=1,n:=3,xs:=List.replicate (Int.toNat (2*3+5*1+6)) 0,c:=0,k:=0,a:=0,o:=0,w:=0,ok:=false}).2).2.2)∧bif ieq (↑(bP 1 3 9 (ftNF 1 3 4 5 0 0 {me:=0,sp:=0,R:=[] }).1 (ftNF 1 3 4 5 0 0 {me:=0,sp:=0,R:=[] }).2 {t:=1,n:=3,xs:=List.replicate (Int.toNat (2*3+5*1+6)) 0,c:=0,k:=0,a:=0,o:=0,w:=0,ok:=false}).1:Int) 1 then K (.bool false) []else K (.bool false) []
theorem B0(K:AVal→aC Ob→Prop)(h:xE K):cT' 14 [] [] K:=by
 refine Y2 (cM' (E:=EFs) (by kernel_rfl) h)
set_option maxRecDepth 100000 in
theorem MR(K:AVal→aC Ob→Prop)(hK:K (.bool true) []):xE K:=by
 unfold xE
 with_unfolding_all repeat' (first | exact hK | trivial | decide | apply And.intro | apply okE.mk | apply okAl.mk | (intro h;exact absurd h (by decide)) | intro _)
def aw18S:aK Ob:=fun args h=>match args,h with
 | [],[]=>some (.pre True (.ret (.bool true) ([])))
 | _,_=>none
theorem MQ:sT' 14 aw18S:=by
 intro args h o ho K hK
 unfold aw18S at ho
 split at ho
 case h_2=>cases ho
 simp only [sI']at ho;subst ho
 obtain⟨_,hK⟩:=hK
 exact B0 K (MR K hK)
noncomputable def EFt:=EFs.addS 14 aw18S MQ
def rI:AVal→Int
 | .int _ n=>n
 | _=>0
def rK(row:Nat→List AVal)(i:Nat):Int:=rI ((row i).getD 0 .O)
def rY(row:Nat→List AVal)(i:Nat):Int:=rI ((row i).getD 1 .O)
structure dF (row:Nat→List AVal):Prop where
 h:row=fun i=>[.int .i64 (rK row i),.int .i64 (rY row i)]
def jR(k:Int)(m:Nat)(f g:Nat→Int):Bool:=(List.range m).all fun j=>cO k (f j) (g j)
theorem oN{k:Int}{m:Nat}{f g:Nat→Int} :jR k m f g=true↔ ∀j,j<m→cO k (f j) (g j)=true:=by
 unfold jR;simp
def inF(f g:Nat→Int)(k:Int):Nat→Bool
 | 0=>false
 | n+1=>bif ieq (g n) k&&ieq (f n) 1 then true else bif ieq (g n) k&&ieq (f n) 2 then false else inF f g k n
def VK(f g:Nat→Int)(k:Int)(n:Nat):Bool:=inF f g k n
def bA(f:Nat→Int):Nat→Int
 | 0=>0
 | n+1=>bif ieq (f n) 4 then bA f n+1 else bif ilt 0 (bA f n)then bA f n - 1 else bA f n
def b8(f g:Nat→Int):Nat→List Int
 | 0=>[]
 | n+1=>bif ieq (f n) 4 then b8 f g n++ [g n]else b8 f g n
def kA(f g:Nat→Int)(n:Nat):List Int:=(b8 f g n).drop (((b8 f g n).length :Int) - bA f n).toNat
def dT(f g:Nat→Int):Nat→Int→List Int
 | 0,_=>[]
 | i+1,need=>bif ilt 0 need then(bif ieq (f i) 4&&ieq (bA f i) (need - 1)then g i::dT f g i (need - 1)else dT f g i need)else []
def i4(f g:Nat→Int)(n:Nat):List Int:=dT f g n (bA f n)
def setF(f g:Nat→Int)(n:Nat):List Int:=((List.range 1000).map fun i:Nat=>(i:Int)).filter fun k=>inF f g k n
def bG(sh:Int)(f g:Nat→Int)(n:Nat):List Int:=bif ieq sh 3 then kA f g n else bif ieq sh 4 then i4 f g n else setF f g n
def resR(sh:Int)(f g:Nat→Int)(n:Nat)(kd ky:Int):Bool×Int:=
 bif ieq kd 1 then(!inF f g ky n,0)else bif ieq kd 2||ieq kd 3 then(inF f g ky n,0)else bif ieq kd 4 then(true,0)else match bG sh f g n with
  | []=>(false,0)
  | x::_=>(true,x)
theorem dC{a b:Int}(h:a≠b):ieq a b=false:=by rw [bJ,beq_eq_false_iff_ne];exact h
theorem iX(f:Nat→Int)(n:Nat):0≤bA f n:=by
 induction n with
 | zero=>exact Int.le_refl 0
 | succ n this=>
   show 0≤(bif ieq (f n) 4 then bA f n+1 else bif ilt 0 (bA f n)then bA f n - 1 else bA f n)
   cases ieq (f n) 4 with
   | true=>rw [cond_true];omega
   | false=>
     rw [cond_false]
     cases h:ilt 0 (bA f n)with
     | true=>rw [cond_true];rw [bB,dT']at h;omega
     | false=>rw [cond_false];exact this
theorem KV(f:Nat→Int)(n:Nat):bA f n≤n:=by
 induction n with
 | zero=>exact Int.le_refl 0
 | succ n this=>
   have h0:=iX f n
   show(bif ieq (f n) 4 then bA f n+1 else bif ilt 0 (bA f n)then bA f n - 1 else bA f n)≤((n+1:Nat):Int)
   cases ieq (f n) 4 with
   | true=>rw [cond_true];omega
   | false=>
     rw [cond_false]
     cases ilt 0 (bA f n)with
     | true=>rw [cond_true];omega
     | false=>rw [cond_false];omega
theorem wC(f g:Nat→Int)(n:Nat):bA f n≤(b8 f g n).length :=by
 induction n with
 | zero=>exact Int.le_refl 0
 | succ n this=>
   show(bif ieq (f n) 4 then bA f n+1 else bif ilt 0 (bA f n)then bA f n - 1 else bA f n)≤((bif ieq (f n) 4 then b8 f g n++ [g n]else b8 f g n:List Int).length :Int)
   cases ieq (f n) 4 with
   | true=>rw [cond_true,cond_true,List.length_append];simp;omega
   | false=>
     rw [cond_false,cond_false]
     cases ilt 0 (bA f n)with
     | true=>rw [cond_true];omega
     | false=>rw [cond_false];omega
theorem LH(f g:Nat→Int)(n:Nat):(b8 f g n).length ≤n:=by
 induction n with
 | zero=>exact Nat.le_refl 0
 | succ n this=>
   show(bif ieq (f n) 4 then b8 f g n++ [g n]else b8 f g n:List Int).length ≤n+1
   cases ieq (f n) 4 with
   | true=>rw [cond_true,List.length_append];simp;omega
   | false=>rw [cond_false];omega
def hE(sh:Int)(f g:Nat→Int)(n:Nat):List Int:=bif ieq sh 3 then b8 f g n else bG sh f g n
def fL(sh:Int)(f g:Nat→Int)(n:Nat):Nat:=bif ieq sh 3 then(((b8 f g n).length :Int) - bA f n).toNat else 0
theorem AE(sh:Int)(f g:Nat→Int)(n:Nat):(hE sh f g n).drop (fL sh f g n)=bG sh f g n∧fL sh f g n+(bG sh f g n).length =(hE sh f g n).length :=by
 unfold hE fL bG
 cases ieq sh 3 with
 | true=>
   have:=wC f g n
   have:=iX f n
   refine⟨rfl,?_⟩
   unfold kA
   simp only [cond_true,List.length_drop]
   omega
 | false=>exact⟨rfl,by simp⟩
def resB(sh:Int)(f g:Nat→Int)(n:Nat)(kd ky:Int):Bool:=(resR sh f g n kd ky).1
def resV(sh:Int)(f g:Nat→Int)(n:Nat)(kd ky:Int):Int:=(resR sh f g n kd ky).2
noncomputable def EV0:=EFt.addS 15 (aK.or fillS (lU [(.slot 3,.ints (some .i64))] fillS)) (ZM xU (lV xU))
structure WD (k:Int) (m:Nat) (f g:Nat→Int) (x:Nat):Prop where
 h1:x≤m
 h2:inF f g k m=inF f g k x
def qB(k:Int)(m:Nat)(f g:Nat→Int):Hint Ob:= {X:=Nat,st:=fun x=>([.view m 2 (fun i=>[.int .i64 (f i),.int .i64 (g i)]),.int .i64 k,.O,.O,.O,.int .i64 ((x:Int) - 1)]++List.replicate 37 .O,[]),ok:=WD k m f g,mu:=fun x=>x,keep:=[0,1,5] }
def KE(k:Int)(m:Nat)(f g:Nat→Int)(K:AVal→aC Ob→Prop):Prop:=okSt (qB k m f g) (Hint.ok (qB k m f g)) [.view m 2 fun i=>[.int .i64 (f i),.int .i64 (g i)],.int .i64 k,.O,.O,.O,.int .i64 (W ((↑m:Int) - 1)),.O,.O,.O,.O,.O,.O,.O,.O,.O,.O,.O,.O,.O,.O,.O,.O,.O,.O,.O,.O,.O,.O,.O,.O,.O,.O,.O,.O,.O,.O,.O,.O,.O,.O,.O,.O,.O] []∧ ∀(x:Nat),WD k m f g x→bif ile 0 ((↑x:Int) - 1)then((0:Int)≤(↑x:Int) - 1∧(↑x:Int) - (1:Int)<(↑m:Int))∧bif ieq (g (Int.toNat ((↑x:Int) - 1))) k then((0:Int)≤(↑x:Int) - 1∧(↑x:Int) - (1:Int)<(↑m:Int))∧bif ieq (f (Int.toNat ((↑x:Int) - 1))) 1 then K (.bool true) []else((0:Int)≤(↑x:Int) - 1∧(↑x:Int) - (1:Int)<(↑m:Int))∧bif ieq (g (Int.toNat ((↑x:Int) - 1))) k then((0:Int)≤(↑x:Int) - 1∧(↑x:Int) - (1:Int)<(↑m:Int))∧bif ieq (f (Int.toNat ((↑x:Int) - 1))) 2 then K (.bool false) []else okSt (qB k m f g) (fun x'=>Hint.ok (qB k m f g) x'∧Hint.mu (qB k m f g) x'<Hint.mu (qB k m f g) x) [.view m 2 fun i=>[.int .i64 (f i),.int .i64 (g i)],.int .i64 k,.O,.O,.O,.int .i64 (W ((↑x:Int) - 1 - 1)),.O,.O,.O,.O,.O,.O,.O,.O,.O,.O,.O,.O,.O,.O,.O,.O,.O,.O,.O,.O,.O,.O,.O,.O,.O,.O,.O,.O,.O,.O,.O,.O,.O,.O,.O,.O,.O] []else okSt (qB k m f g) (fun x'=>Hint.ok (qB k m f g) x'∧Hint.mu (qB k m f g) x'<Hint.mu (qB k m f g) x) [.view m 2 fun i=>[.int .i64 (f i),.int .i64 (g i)],.int .i64 k,.O,.O,.O,.int .i64 (W ((↑x:Int) - 1 - 1)),.O,.O,.O,.O,.O,.O,.O,.O,.O,.O,.O,.O,.O,.O,.O,.O,.O,.O,.O,.O,.O,.O,.O,.O,.O,.O,.O,.O,.O,.O,.O,.O,.O,.O,.O,.O,.O] []else((0:Int)≤(↑x:Int) - 1∧(↑x:Int) - (1:Int)<(↑m:Int))∧bif ieq (g (Int.toNat ((↑x:Int) - 1))) k then((0:Int)≤(↑x:Int) - 1∧(↑x:Int) - (1:Int)<(↑m:Int))∧bif ieq (f (Int.toNat ((↑x:Int) - 1))) 2 then K (.bool false) []else okSt (qB k m f g) (fun x'=>Hint.ok (qB k m f g) x'∧Hint.mu (qB k m f g) x'<Hint.mu (qB k m f g) x) [.view m 2 fun i=>[.int .i64 (f i),.int .i64 (g i)],.int .i64 k,.O,.O,.O,.int .i64 (W ((↑x:Int) - 1 - 1)),.O,.O,.O,.O,.O,.O,.O,.O,.O,.O,.O,.O,.O,.O,.O,.O,.O,.O,.O,.O,.O,.O,.O,.O,.O,.O,.O,.O,.O,.O,.O,.O,.O,.O,.O,.O,.O] []else okSt (qB k m f g) (fun x'=>Hint.ok (qB k m f g) x'∧Hint.mu (qB k m f g) x'<Hint.mu (qB k m f g) x) [.view m 2 fun i=>[.int .i64 (f i),.int .i64 (g i)],.int .i64 k,.O,.O,.O,.int .i64 (W ((↑x:Int) - 1 - 1)),.O,.O,.O,.O,.O,.O,.O,.O,.O,.O,.O,.O,.O,.O,.O,.O,.O,.O,.O,.O,.O,.O,.O,.O,.O,.O,.O,.O,.O,.O,.O,.O,.O,.O,.O,.O,.O] []else K (.bool false) []
theorem G0(k:Int)(m:Nat)(f g:Nat→Int)(K:AVal→aC Ob→Prop)(h:KE k m f g K):cT' 86 [.view m 2 (fun i=>[.int .i64 (f i),.int .i64 (g i)]),.int .i64 k] [] K:=by
 refine Y2 (aE (E:=EV0) Tryz.checked.mixed (L:=(fun _ _=>some (.states (qB k m f g)))) (n:=10) (aU (by kernel_rfl) h))
structure WG (m:Nat) (f:Nat→Int) (x:Nat):Prop where
 h1:x≤m
def u5(m:Nat)(f g:Nat→Int):Hint Ob:= {X:=Nat,st:=fun x=>([.view m 2 (fun i=>[.int .i64 (f i),.int .i64 (g i)]),.O,.O,.int .i64 (bA f x),.int .i64 (x:Int)]++List.replicate 19 .O,[]),ok:=WG m f,mu:=fun x=>m - x,keep:=[0,3,4] }
def KU(m:Nat)(f g:Nat→Int)(K:AVal→aC Ob→Prop):Prop:=okSt (u5 m f g) (Hint.ok (u5 m f g)) [.view m 2 fun i=>[.int .i64 (f i),.int .i64 (g i)],.O,.O,.int .i64 0,.int .i64 0,.O,.O,.O,.O,.O,.O,.O,.O,.O,.O,.O,.O,.O,.O,.O,.O,.O,.O,.O] []∧ ∀(x:Nat),WG m f x→bif ilt (↑x:Int) (↑m:Int)then((0:Int)≤(↑x:Int)∧(↑x:Int)<(↑m:Int))∧bif ieq (f (Int.toNat (↑x:Int))) 4 then okSt (u5 m f g) (fun x'=>Hint.ok (u5 m f g) x'∧Hint.mu (u5 m f g) x'<Hint.mu (u5 m f g) x) [.view m 2 fun i=>[.int .i64 (f i),.int .i64 (g i)],.O,.O,.int .i64 (W (bA f x+1)),.int .i64 (W ((↑x:Int)+1)),.O,.O,.O,.O,.O,.O,.O,.O,.O,.O,.O,.O,.O,.O,.O,.O,.O,.O,.O] []else bif ilt 0 (bA f x)then okSt (u5 m f g) (fun x'=>Hint.ok (u5 m f g) x'∧Hint.mu (u5 m f g) x'<Hint.mu (u5 m f g) x) [.view m 2 fun i=>[.int .i64 (f i),.int .i64 (g i)],.O,.O,.int .i64 (W (bA f x - 1)),.int .i64 (W ((↑x:Int)+1)),.O,.O,.O,.O,.O,.O,.O,.O,.O,.O,.O,.O,.O,.O,.O,.O,.O,.O,.O] []else okSt (u5 m f g) (fun x'=>Hint.ok (u5 m f g) x'∧Hint.mu (u5 m f g) x'<Hint.mu (u5 m f g) x) [.view m 2 fun i=>[.int .i64 (f i),.int .i64 (g i)],.O,.O,.int .i64 (bA f x),.int .i64 (W ((↑x:Int)+1)),.O,.O,.O,.O,.O,.O,.O,.O,.O,.O,.O,.O,.O,.O,.O,.O,.O,.O,.O] []else K (.int .i64 (bA f x)) []
theorem G7(m:Nat)(f g:Nat→Int)(K:AVal→aC Ob→Prop)(h:KU m f g K):cT' 147 [.view m 2 (fun i=>[.int .i64 (f i),.int .i64 (g i)])] [] K:=by
 refine Y2 (aE (E:=EV0) Tryz.checked.mixed (L:=(fun _ _=>some (.states (u5 m f g)))) (n:=10) (aU (by kernel_rfl) h))
theorem SV(k:Int)(m:Nat)(f g:Nat→Int)(K:AVal→aC Ob→Prop)(hm:m≤4611686018427387904)(hK:K (.bool (inF f g k m)) []):KE k m f g K:=by
 have w1:W ((m:Int) - 1)=(m:Int) - 1:=cE ⟨by omega,by omega⟩
 refine⟨aH (H:=qB k m f g) m (by simp only [w1,qB]<;>rfl) ⟨Nat.le_refl _,rfl⟩,?_⟩
 rintro x ⟨h1,h2⟩
 refine aI (fun e=>?_) (fun e=>?_)
 ·rw [bV,dT']at e
  obtain⟨y,rfl⟩: ∃y,x=y+1:=⟨x - 1,by omega⟩
  have ey:Int.toNat (((y+1:Nat):Int) - 1)=y:=by omega
  have w2:W (((y+1:Nat):Int) - 1 - 1)=(y:Int) - 1:=(cE ⟨by omega,by omega⟩).trans (by omega)
  have hin:inF f g k (y+1)=bif ieq (g y) k&&ieq (f y) 1 then true else bif ieq (g y) k&&ieq (f y) 2 then false else inF f g k y:=rfl
  have next:inF f g k (y+1)=inF f g k y→okSt (qB k m f g) (fun x'=>Hint.ok (qB k m f g) x'∧Hint.mu (qB k m f g) x'<Hint.mu (qB k m f g) (y+1)) ((qB k m f g).st y).1 ((qB k m f g).st y).2:=
   fun h=>aH (H:=qB k m f g) y rfl ⟨⟨by omega,h2.trans h⟩,Nat.lt_succ_self y⟩
  rw [ey,w2]
  refine⟨⟨by omega,by omega⟩,aI (fun a=>?_) (fun a=>?_)⟩
  ·refine⟨⟨by omega,by omega⟩,aI (fun b=>?_) (fun b=>?_)⟩
   ·rw [h2,hin,a,b]at hK;exact hK
   ·refine⟨⟨by omega,by omega⟩,aI (fun a2=>⟨⟨by omega,by omega⟩,aI (fun c=>?_) (fun c=>?_)⟩) (fun a2=>?_)⟩
    ·rw [h2,hin,a,b,c]at hK;exact hK
    ·exact next (by rw [hin,a,b,c];rfl)
    ·rw [a]at a2;cases a2
  ·refine⟨⟨by omega,by omega⟩,aI (fun a2=>?_) (fun a2=>?_)⟩
   ·rw [a]at a2;cases a2
   ·exact next (by rw [hin,a];rfl)
 ·rw [bV,dF']at e
  have hx:x=0:=by omega
  subst hx
  rw [h2]at hK
  exact hK
theorem S9(m:Nat)(f g:Nat→Int)(K:AVal→aC Ob→Prop)(hm:m≤4611686018427387904)(hK:K (.int .i64 (bA f m)) []):KU m f g K:=by
 refine⟨aH (H:=u5 m f g) (0:Nat) rfl ⟨Nat.zero_le _⟩,?_⟩
 rintro x ⟨h1⟩
 refine mA (fun e=>?_) (fun e=>?_)
 ·have e4:W ((x:Int)+1)=((x+1:Nat):Int):=(cE (by omega)).trans rfl
  have h0:=iX f x
  have hn:=KV f x
  have w1:W (bA f x+1)=bA f x+1:=cE (by omega)
  have w2:W (bA f x - 1)=bA f x - 1:=cE (by omega)
  have hs:bA f (x+1)=bif ieq (f x) 4 then bA f x+1 else bif ilt 0 (bA f x)then bA f x - 1 else bA f x:=rfl
  have next: ∀v,bA f (x+1)=v→okSt (u5 m f g) (fun x'=>Hint.ok (u5 m f g) x'∧Hint.mu (u5 m f g) x'<Hint.mu (u5 m f g) x) ([.view m 2 (fun i=>[.int .i64 (f i),.int .i64 (g i)]),.O,.O,.int .i64 v,.int .i64 ((x+1:Nat):Int)]++List.replicate 19 .O) []:=
   fun v h=>aH (H:=u5 m f g) (x+1:Nat) (by rw [←h];rfl) ⟨⟨by omega⟩,by show m - (x+1)<m - x;omega⟩
  rw [e4,w1,w2]
  refine⟨⟨by omega,by omega⟩,aI (fun a=>?_) (fun a=>aI (fun b=>?_) (fun b=>?_))⟩
  ·have a:ieq (f x) 4=true:=a
   exact next _ (by rw [hs,a];rfl)
  ·have a:ieq (f x) 4=false:=a
   exact next _ (by rw [hs,a,b];rfl)
  ·have a:ieq (f x) 4=false:=a
   exact next _ (by rw [hs,a,b];rfl)
 ·have hx:x=m:=by omega
  subst hx
  exact hK
def innS:aK Ob:=fun args h=>match args,h with
 | [.view m 2 row,.int .i64 k],[]=>some (.pre (m≤4611686018427387904∧dF row) (.ret (.bool (VK (rK row) (rY row) k m)) []))
 | _,_=>none
theorem SU:sT' 86 innS:=by
 intro args h o ho K hK
 unfold innS at ho
 split at ho<;>cases ho
 rename_i m row k
 obtain⟨⟨hm,⟨hr⟩⟩,hK⟩:=hK
 have hK:K (.bool (inF (rK row) (rY row) k m)) []:=hK
 rw [hr]
 exact G0 k m (rK row) (rY row) K (SV k m (rK row) (rY row) K hm hK)
def manS:aK Ob:=fun args h=>match args,h with
 | [.view m 2 row],[]=>some (.pre (m≤4611686018427387904∧dF row) (.ret (.int .i64 (bA (rK row) m)) []))
 | _,_=>none
theorem S8:sT' 147 manS:=by
 intro args h o ho K hK
 unfold manS at ho
 split at ho<;>cases ho
 rename_i m row
 obtain⟨⟨hm,⟨hr⟩⟩,hK⟩:=hK
 have hK:K (.int .i64 (bA (rK row) m)) []:=hK
 rw [hr]
 exact G7 m (rK row) (rY row) K (S9 m (rK row) (rY row) K hm hK)
noncomputable def EV1:=(EV0.addS 86 innS SU).addS 147 manS S8
structure WF (m:Nat) (x:Nat):Prop where
 h1:x≤m
def BD(m:Nat)(f g:Nat→Int):Hint Ob:= {X:=Nat,st:=fun x=>([.view m 2 (fun i=>[.int .i64 (f i),.int .i64 (g i)]),.O,.O,.slice 0 0 (b8 f g x).length 1,.int .i64 (x:Int)]++List.replicate 27 .O,[some (.ints (some .i64) (b8 f g x))]),ok:=WF m,mu:=fun x=>m - x,keep:=[0,3,4],casts:=[(.slot 3,.ints (some .i64))] }
def KP(m:Nat)(f g:Nat→Int)(K:AVal→aC Ob→Prop):Prop:=okSt (BD m f g) (Hint.ok (BD m f g)) [.view m 2 fun i=>[.int .i64 (f i),.int .i64 (g i)],.O,.O,.slice 0 0 0 1,.int .i64 0,.O,.O,.O,.O,.O,.O,.O,.O,.O,.O,.O,.O,.O,.O,.O,.O,.O,.O,.O,.O,.O,.O,.O,.O,.O,.O,.O] [some (.ints (some .i64) [])]∧ ∀(x:Nat),WF m x→bif ilt (↑x:Int) (↑m:Int)then((0:Int)≤(↑x:Int)∧(↑x:Int)<(↑m:Int))∧bif ieq (f (Int.toNat (↑x:Int))) 4 then((0:Int)≤(↑x:Int)∧(↑x:Int)<(↑m:Int))∧(0=0∧lE' (b8 f g x)∧1=1∧List.length (b8 f g x)+(1:Nat)≤(4294967296:Nat))∧okSt (BD m f g) (fun x'=>Hint.ok (BD m f g) x'∧Hint.mu (BD m f g) x'<Hint.mu (BD m f g) x) [.view m 2 fun i=>[.int .i64 (f i),.int .i64 (g i)],.O,.O,.slice 0 0 (List.length (b8 f g x)+1) 1,.int .i64 (W ((↑x:Int)+1)),.O,.O,.O,.O,.O,.O,.O,.O,.O,.O,.O,.O,.O,.O,.O,.O,.O,.O,.O,.O,.O,.O,.O,.O,.O,.O,.O] [some (.ints (some .i64) (b8 f g x++ [g (Int.toNat (↑x:Int))]))]else okSt (BD m f g) (fun x'=>Hint.ok (BD m f g) x'∧Hint.mu (BD m f g) x'<Hint.mu (BD m f g) x) [.view m 2 fun i=>[.int .i64 (f i),.int .i64 (g i)],.O,.O,.slice 0 0 (List.length (b8 f g x)) 1,.int .i64 (W ((↑x:Int)+1)),.O,.O,.O,.O,.O,.O,.O,.O,.O,.O,.O,.O,.O,.O,.O,.O,.O,.O,.O,.O,.O,.O,.O,.O,.O,.O,.O] [some (.ints (some .i64) (b8 f g x))]else(m≤(4611686018427387904:Nat)∧dF fun i=>[.int .i64 (f i),.int .i64 (g i)])∧((0:Int)≤W ((↑(List.length (b8 f g x)):Int) - bA (rK fun i=>[.int .i64 (f i),.int .i64 (g i)]) m)∧Int.toNat (W ((↑(List.length (b8 f g x)):Int) - bA (rK fun i=>[.int .i64 (f i),.int .i64 (g i)]) m))≤List.length (b8 f g x))∧K (.slice 0 (0+Int.toNat (W ((↑(List.length (b8 f g x)):Int) - bA (rK fun i=>[.int .i64 (f i),.int .i64 (g i)]) m))*1) (List.length (b8 f g x) - Int.toNat (W ((↑(List.length (b8 f g x)):Int) - bA (rK fun i=>[.int .i64 (f i),.int .i64 (g i)]) m))) 1) [some (.ints (some .i64) (b8 f g x))]
theorem G6(m:Nat)(f g:Nat→Int)(K:AVal→aC Ob→Prop)(h:KP m f g K):cT' 87 [.view m 2 (fun i=>[.int .i64 (f i),.int .i64 (g i)])] [] K:=by
 refine Y2 (aE (E:=EV1) Tryz.checked.mixed (L:=(fun _ _=>some (.states (BD m f g)))) (n:=10) (aU (by kernel_rfl) h))
structure WH (m:Nat) (f g:Nat→Int) (x:Nat×Int×List Int):Prop where
 h1:x.1≤m
 h0:0≤x.2.1∧x.2.1≤m
 hl:x.2.2.length+x.1≤m
 eq:i4 f g m=x.2.2++dT f g x.1 x.2.1
def sJ(m:Nat)(f g:Nat→Int):Hint Ob:= {X:=Nat×Int×List Int,st:=fun x=>([.view m 2 (fun i=>[.int .i64 (f i),.int .i64 (g i)]),.O,.O,.slice 0 0 x.2.2.length 1,.int .i64 x.2.1,.int .i64 ((x.1:Int) - 1)]++List.replicate 39 .O,[some (.ints (some .i64) x.2.2)]),ok:=WH m f g,mu:=fun x=>x.1,keep:=[0,3,4,5],casts:=[(.slot 3,.ints (some .i64))] }
def EP(m:Nat)(f g:Nat→Int)(K:AVal→aC Ob→Prop):Prop:=(m≤(4611686018427387904:Nat)∧dF fun i=>[.int .i64 (f i),.int .i64 (g i)])∧okSt (sJ m f g) (Hint.ok (sJ m f g)) [.view m 2 fun i=>[.int .i64 (f i),.int .i64 (g i)],.O,.O,.slice 0 0 0 1,.int .i64 (bA (rK fun i=>[.int .i64 (f i),.int .i64 (g i)]) m),.int .i64 (W ((↑m:Int) - 1)),.O,.O,.O,.O,.O,.O,.O,.O,.O,.O,.O,.O,.O,.O,.O,.O,.O,.O,.O,.O,.O,.O,.O,.O,.O,.O,.O,.O,.O,.O,.O,.O,.O,.O,.O,.O,.O,.O,.O] [some (.ints (some .i64) [])]∧ ∀(x:(Nat×Int×List Int)),WH m f g x→bif ile 0 ((↑x.1:Int) - 1)then bif ilt 0 (Prod.snd x).1 then((0:Int)≤(↑x.1:Int) - 1∧(↑x.1:Int) - (1:Int)<(↑m:Int))∧bif ieq (f (Int.toNat ((↑x.1:Int) - 1))) 4 then((0:Int)≤(↑x.1:Int) - 1∧Int.toNat ((↑x.1:Int) - 1)≤m)∧(Int.toNat ((↑x.1:Int) - 1)≤(4611686018427387904:Nat)∧dF fun i=>[.int .i64 (f i),.int .i64 (g i)])∧bif ieq (bA (rK fun i=>[.int .i64 (f i),.int .i64 (g i)]) (Int.toNat ((↑x.1:Int) - 1))) (W ((Prod.snd x).1 - 1))then((0:Int)≤(↑x.1:Int) - 1∧(↑x.1:Int) - (1:Int)<(↑m:Int))∧(0=0∧lE' (Prod.snd x).2∧1=1∧List.length (Prod.snd x).2+(1:Nat)≤(4294967296:Nat))∧okSt (sJ m f g) (fun x'=>Hint.ok (sJ m f g) x'∧Hint.mu (sJ m f g) x'<Hint.mu (sJ m f g) x) [.view m 2 fun i=>[.int .i64 (f i),.int .i64 (g i)],.O,.O,.slice 0 0 (List.length (Prod.snd x).2+1) 1,.int .i64 (W ((Prod.snd x).1 - 1)),.int .i64 (W ((↑x.1:Int) - 1 - 1)),.O,.O,.O,.O,.O,.O,.O,.O,.O,.O,.O,.O,.O,.O,.O,.O,.O,.O,.O,.O,.O,.O,.O,.O,.O,.O,.O,.O,.O,.O,.O,.O,.O,.O,.O,.O,.O,.O,.O] [some (.ints (some .i64) ((Prod.snd x).2++ [g (Int.toNat ((↑x.1:Int) - 1))]))]else okSt (sJ m f g) (fun x'=>Hint.ok (sJ m f g) x'∧Hint.mu (sJ m f g) x'<Hint.mu (sJ m f g) x) [.view m 2 fun i=>[.int .i64 (f i),.int .i64 (g i)],.O,.O,.slice 0 0 (List.length (Prod.snd x).2) 1,.int .i64 (Prod.snd x).1,.int .i64 (W ((↑x.1:Int) - 1 - 1)),.O,.O,.O,.O,.O,.O,.O,.O,.O,.O,.O,.O,.O,.O,.O,.O,.O,.O,.O,.O,.O,.O,.O,.O,.O,.O,.O,.O,.O,.O,.O,.O,.O,.O,.O,.O,.O,.O,.O] [some (.ints (some .i64) (Prod.snd x).2)]else okSt (sJ m f g) (fun x'=>Hint.ok (sJ m f g) x'∧Hint.mu (sJ m f g) x'<Hint.mu (sJ m f g) x) [.view m 2 fun i=>[.int .i64 (f i),.int .i64 (g i)],.O,.O,.slice 0 0 (List.length (Prod.snd x).2) 1,.int .i64 (Prod.snd x).1,.int .i64 (W ((↑x.1:Int) - 1 - 1)),.O,.O,.O,.O,.O,.O,.O,.O,.O,.O,.O,.O,.O,.O,.O,.O,.O,.O,.O,.O,.O,.O,.O,.O,.O,.O,.O,.O,.O,.O,.O,.O,.O,.O,.O,.O,.O,.O,.O] [some (.ints (some .i64) (Prod.snd x).2)]else K (.slice 0 0 (List.length (Prod.snd x).2) 1) [some (.ints (some .i64) (Prod.snd x).2)]else K (.slice 0 0 (List.length (Prod.snd x).2) 1) [some (.ints (some .i64) (Prod.snd x).2)]
theorem HH(m:Nat)(f g:Nat→Int)(K:AVal→aC Ob→Prop)(h:EP m f g K):cT' 88 [.view m 2 (fun i=>[.int .i64 (f i),.int .i64 (g i)])] [] K:=by
 refine Y2 (aE (E:=EV1) Tryz.checked.mixed (L:=(fun _ _=>some (.states (sJ m f g)))) (n:=10) (aU (by kernel_rfl) h))
theorem gK(f g:Nat→Int):dF (fun i=>[.int .i64 (f i),.int .i64 (g i)]):=⟨rfl⟩
theorem QO(f g:Nat→Int):rK (fun i=>[.int .i64 (f i),.int .i64 (g i)])=f:=rfl
theorem S6(m:Nat)(f g:Nat→Int)(K:AVal→aC Ob→Prop)(hm:m≤1000000)(hK:K (.slice 0 (((b8 f g m).length :Int) - bA f m).toNat (kA f g m).length 1) [some (.ints (some .i64) (b8 f g m))]):KP m f g K:=by
 refine⟨aH (H:=BD m f g) (0:Nat) rfl ⟨Nat.zero_le _⟩,?_⟩
 rintro x ⟨h1⟩
 refine mA (fun e=>?_) (fun e=>?_)
 ·have e4:W ((x:Int)+1)=((x+1:Nat):Int):=(cE (by omega)).trans rfl
  have hp:=LH f g x
  have hs:b8 f g (x+1)=bif ieq (f x) 4 then b8 f g x++ [g x]else b8 f g x:=rfl
  rw [e4]
  refine⟨⟨by omega,by omega⟩,aI (fun a=>?_) (fun a=>?_)⟩
  ·have a:ieq (f x) 4=true:=a
   rw [a]at hs
   refine⟨⟨by omega,by omega⟩,⟨rfl,rfl,rfl,by omega⟩,aH (H:=BD m f g) (x+1:Nat) ?_ ⟨⟨by omega⟩,by show m - (x+1)<m - x;omega⟩⟩
   simp only [BD,hs,cond_true,List.length_append,List.length_singleton]
   rfl
  ·have a:ieq (f x) 4=false:=a
   rw [a]at hs
   refine aH (H:=BD m f g) (x+1:Nat) ?_ ⟨⟨by omega⟩,by show m - (x+1)<m - x;omega⟩
   simp only [BD,hs,cond_false]
   rfl
 ·have hx:x=m:=by omega
  subst hx
  have hp:=LH f g x
  have h0:=iX f x
  have hn:=wC f g x
  have w1:W (((b8 f g x).length :Int) - bA f x)=((b8 f g x).length :Int) - bA f x:=cE (by omega)
  rw [QO,w1]
  refine⟨⟨by omega,gK f g⟩,⟨by omega,by omega⟩,?_⟩
  have e1:0+(((b8 f g x).length :Int) - bA f x).toNat *1=(((b8 f g x).length :Int) - bA f x).toNat :=by omega
  have e2:(b8 f g x).length - (((b8 f g x).length :Int) - bA f x).toNat =(kA f g x).length :=by unfold kA;rw [List.length_drop]
  rw [e1,e2]
  exact hK
theorem TF(m:Nat)(f g:Nat→Int)(K:AVal→aC Ob→Prop)(hm:m≤1000000)(hK:K (.slice 0 0 (i4 f g m).length 1) [some (.ints (some .i64) (i4 f g m))]):EP m f g K:=by
 have h0:=iX f m
 have hn:=KV f m
 have w1:W ((m:Int) - 1)=(m:Int) - 1:=cE (by omega)
 have rk0:rK (fun i=>[.int .i64 (f (0+i)),.int .i64 (g (0+i))])=f:=by funext i;show f (0+i)=f i;rw [Nat.zero_add]
 unfold EP
 rw [QO,w1]
 refine⟨⟨by omega,gK f g⟩,aH (H:=sJ m f g) (m,bA f m,[]) rfl ⟨Nat.le_refl _,⟨h0,hn⟩,by simp,rfl⟩,?_⟩
 rintro⟨x,nd,out⟩ ⟨h1,hnd,hl,heq⟩
 dsimp only at h1 hnd hl heq⊢
 have e0:nd≤0→dT f g x nd=[]:=by
  intro h
  cases x with
  | zero=>rfl
  | succ x=>
    show(bif ilt 0 nd then _ else [])=_
    rw [bB,decide_eq_false (by omega)];rfl
 refine aI (fun e=>?_) (fun e=>?_)
 ·rw [bV,dT']at e
  obtain⟨y,rfl⟩: ∃y,x=y+1:=⟨x - 1,by omega⟩
  have ey:Int.toNat (((y+1:Nat):Int) - 1)=y:=by omega
  have w2:W (((y+1:Nat):Int) - 1 - 1)=(y:Int) - 1:=(cE ⟨by omega,by omega⟩).trans (by omega)
  refine mA (fun q=>?_) (fun q=>?_)
  ·have hp:dT f g (y+1) nd=bif ieq (f y) 4&&ieq (bA f y) (nd - 1)then g y::dT f g y (nd - 1)else dT f g y nd:=by
    show(bif ilt 0 nd then _ else _)=_
    rw [bB,decide_eq_true q];rfl
   have w3:W (nd - 1)=nd - 1:=cE (by omega)
   have next:dT f g (y+1) nd=dT f g y nd→okSt (sJ m f g) (fun x'=>Hint.ok (sJ m f g) x'∧Hint.mu (sJ m f g) x'<Hint.mu (sJ m f g) (y+1,nd,out)) ((sJ m f g).st (y,nd,out)).1 ((sJ m f g).st (y,nd,out)).2:=
    fun h=>aH (H:=sJ m f g) (y,nd,out) rfl ⟨⟨by show y≤m;omega,hnd,by show out.length+y≤m;omega,by show _=out++dT f g y nd;rw [←h];exact heq⟩,Nat.lt_succ_self y⟩
   rw [ey,w2,w3]
   refine⟨⟨by omega,by omega⟩,aI (fun a=>?_) (fun a=>?_)⟩
   ·refine⟨⟨by omega,by omega⟩,⟨by omega,gK _ _⟩,aI (fun b=>?_) (fun b=>?_)⟩
    ·refine⟨⟨by omega,by omega⟩,⟨rfl,rfl,rfl,by omega⟩,aH (H:=sJ m f g) (y,nd - 1,out++ [g y]) ?_ ⟨⟨by show y≤m;omega,by show 0≤nd - 1∧nd - 1≤m;omega,by show(out++ [g y]).length +y≤m;rw [List.length_append];simp;omega,?_⟩,Nat.lt_succ_self y⟩⟩
     ·simp only [sJ,List.length_append,List.length_singleton]<;>rfl
     ·show i4 f g m=out++ [g y]++dT f g y (nd - 1)
      have b:ieq (bA f y) (nd - 1)=true:=b
      rw [heq,hp,a,b];simp
    ·have b:ieq (bA f y) (nd - 1)=false:=b
     exact next (by rw [hp,a,b];rfl)
   ·exact next (by rw [hp,a];rfl)
  ·rw [e0 q,List.append_nil]at heq
   rw [heq]at hK
   exact hK
 ·rw [bV,dF']at e
  have hx:x=0:=by omega
  subst hx
  rw [show dT f g 0 nd=[]from rfl,List.append_nil]at heq
  rw [heq]at hK
  exact hK
def linS:aK Ob:=fun args h=>match args,h with
 | [.view m 2 row],[]=>some (.pre (m≤1000000∧dF row) (.ret (.slice 0 (((b8 (rK row) (rY row) m).length :Int) - bA (rK row) m).toNat (kA (rK row) (rY row) m).length 1) [some (.ints (some .i64) (b8 (rK row) (rY row) m))]))
 | _,_=>none
def pilS:aK Ob:=fun args h=>match args,h with
 | [.view m 2 row],[]=>some (.pre (m≤1000000∧dF row) (.ret (.slice 0 0 (i4 (rK row) (rY row) m).length 1) [some (.ints (some .i64) (i4 (rK row) (rY row) m))]))
 | _,_=>none
theorem S5:sT' 87 linS:=by
 intro args h o ho K hK
 unfold linS at ho
 split at ho<;>cases ho
 rename_i m row
 obtain⟨⟨hm,⟨hr⟩⟩,hK⟩:=hK
 rw [hr]
 exact G6 m (rK row) (rY row) K (S6 m (rK row) (rY row) K hm hK)
theorem TE:sT' 88 pilS:=by
 intro args h o ho K hK
 unfold pilS at ho
 split at ho<;>cases ho
 rename_i m row
 obtain⟨⟨hm,⟨hr⟩⟩,hK⟩:=hK
 rw [hr]
 exact HH m (rK row) (rY row) K (TF m (rK row) (rY row) K hm hK)
noncomputable def EV2:=(EV1.addS 87 linS S5).addS 88 pilS TE
def fX(f g:Nat→Int)(m k:Nat):List Int:=((List.range k).map fun i:Nat=>(i:Int)).filter fun k=>inF f g k m
structure WE (x:Nat):Prop where
 h1:x≤1000
def BC(sh:Int)(m:Nat)(f g:Nat→Int):Hint Ob:= {X:=Nat,st:=fun x=>([.int .i64 sh,.view m 2 (fun i=>[.int .i64 (f i),.int .i64 (g i)]),.O,.O,.O,.slice 0 0 (fX f g m x).length 1,.int .i64 (x:Int)]++List.replicate 20 .O,[some (.ints (some .i64) (fX f g m x))]),ok:=WE,mu:=fun x=>1000 - x,keep:=[0,1,5,6],casts:=[(.slot 5,.ints (some .i64))] }
def EI(sh:Int)(m:Nat)(f g:Nat→Int)(K:AVal→aC Ob→Prop):Prop:=bif ieq sh 3 then(m≤(1000000:Nat)∧dF fun i=>[.int .i64 (f i),.int .i64 (g i)])∧K (.slice 0 (Int.toNat ((↑(List.length (b8 (rK fun i=>[.int .i64 (f i),.int .i64 (g i)]) (rY fun i=>[.int .i64 (f i),.int .i64 (g i)]) m)):Int) - bA (rK fun i=>[.int .i64 (f i),.int .i64 (g i)]) m)) (List.length (kA (rK fun i=>[.int .i64 (f i),.int .i64 (g i)]) (rY fun i=>[.int .i64 (f i),.int .i64 (g i)]) m)) 1) [some (.ints (some .i64) (b8 (rK fun i=>[.int .i64 (f i),.int .i64 (g i)]) (rY fun i=>[.int .i64 (f i),.int .i64 (g i)]) m))]else bif ieq sh 4 then(m≤(1000000:Nat)∧dF fun i=>[.int .i64 (f i),.int .i64 (g i)])∧K (.slice 0 0 (List.length (i4 (rK fun i=>[.int .i64 (f i),.int .i64 (g i)]) (rY fun i=>[.int .i64 (f i),.int .i64 (g i)]) m)) 1) [some (.ints (some .i64) (i4 (rK fun i=>[.int .i64 (f i),.int .i64 (g i)]) (rY fun i=>[.int .i64 (f i),.int .i64 (g i)]) m))]else okSt (BC sh m f g) (Hint.ok (BC sh m f g)) [.int .i64 sh,.view m 2 fun i=>[.int .i64 (f i),.int .i64 (g i)],.O,.O,.O,.slice 0 0 0 1,.int .i64 0,.O,.O,.O,.O,.O,.O,.O,.O,.O,.O,.O,.O,.O,.O,.O,.O,.O,.O,.O,.O] [some (.ints (some .i64) [])]∧ ∀(x:Nat),WE x→bif ile (↑x:Int) 999 then(m≤(4611686018427387904:Nat)∧dF fun i=>[.int .i64 (f i),.int .i64 (g i)])∧bif VK (rK fun i=>[.int .i64 (f i),.int .i64 (g i)]) (rY fun i=>[.int .i64 (f i),.int .i64 (g i)]) (↑x:Int) m then(0=0∧lE' (fX f g m x)∧1=1∧List.length (fX f g m x)+(1:Nat)≤(4294967296:Nat))∧okSt (BC sh m f g) (fun x'=>Hint.ok (BC sh m f g) x'∧Hint.mu (BC sh m f g) x'<Hint.mu (BC sh m f g) x) [.int .i64 sh,.view m 2 fun i=>[.int .i64 (f i),.int .i64 (g i)],.O,.O,.O,.slice 0 0 (List.length (fX f g m x)+1) 1,.int .i64 (W ((↑x:Int)+1)),.O,.O,.O,.O,.O,.O,.O,.O,.O,.O,.O,.O,.O,.O,.O,.O,.O,.O,.O,.O] [some (.ints (some .i64) (fX f g m x++ [(↑x:Int)]))]else okSt (BC sh m f g) (fun x'=>Hint.ok (BC sh m f g) x'∧Hint.mu (BC sh m f g) x'<Hint.mu (BC sh m f g) x) [.int .i64 sh,.view m 2 fun i=>[.int .i64 (f i),.int .i64 (g i)],.O,.O,.O,.slice 0 0 (List.length (fX f g m x)) 1,.int .i64 (W ((↑x:Int)+1)),.O,.O,.O,.O,.O,.O,.O,.O,.O,.O,.O,.O,.O,.O,.O,.O,.O,.O,.O,.O] [some (.ints (some .i64) (fX f g m x))]else K (.slice 0 0 (List.length (fX f g m x)) 1) [some (.ints (some .i64) (fX f g m x))]
theorem G3(sh:Int)(m:Nat)(f g:Nat→Int)(K:AVal→aC Ob→Prop)(h:EI sh m f g K):cT' 35 [.int .i64 sh,.view m 2 (fun i=>[.int .i64 (f i),.int .i64 (g i)])] [] K:=by
 refine Y2 (aE (E:=EV2) Tryz.checked.mixed (L:=(fun _ _=>some (.states (BC sh m f g)))) (n:=10) (aU (by kernel_rfl) h))
theorem S2(sh:Int)(m:Nat)(f g:Nat→Int)(K:AVal→aC Ob→Prop)(hm:m≤1000000)(hK:K (.slice 0 (fL sh f g m) (bG sh f g m).length 1) [some (.ints (some .i64) (hE sh f g m))]):EI sh m f g K:=by
 have rk0:rK (fun i=>[.int .i64 (f i),.int .i64 (g i)])=f:=rfl
 have ry0:rY (fun i=>[.int .i64 (f i),.int .i64 (g i)])=g:=rfl
 unfold EI
 unfold fL hE bG at hK
 refine aI (fun a=>?_) (fun a=>aI (fun b=>?_) (fun b=>?_))
 ·rw [a]at hK
  exact⟨⟨hm,gK f g⟩,hK⟩
 ·rw [a,b]at hK
  exact⟨⟨hm,gK f g⟩,hK⟩
 ·rw [a,b]at hK
  refine⟨aH (H:=BC sh m f g) (0:Nat) rfl ⟨Nat.zero_le _⟩,?_⟩
  rintro x ⟨h1⟩
  refine sG (fun e=>?_) (fun e=>?_)
  ·have e4:W ((x:Int)+1)=((x+1:Nat):Int):=(cE (by omega)).trans rfl
   have hs:fX f g m (x+1)=fX f g m x++(if inF f g x m then [(x:Int)]else []):=by
    unfold fX
    rw [List.range_succ,List.map_append,List.filter_append]
    congr 1
    cases q:inF f g x m<;>simp [q]
   have hlen:(fX f g m x).length ≤x:=by
    unfold fX
    refine Nat.le_trans (List.length_filter_le _ _) ?_
    simp
   rw [e4]
   refine⟨⟨by omega,gK f g⟩,aI (fun c=>?_) (fun c=>?_)⟩
   ·have c:inF f g x m=true:=c
    rw [c]at hs
    refine⟨⟨rfl,rfl,rfl,by omega⟩,aH (H:=BC sh m f g) (x+1:Nat) ?_ ⟨⟨by omega⟩,by show 1000 - (x+1)<1000 - x;omega⟩⟩
    simp only [BC,hs,if_true,List.length_append,List.length_singleton]
    rfl
   ·have c:inF f g x m=false:=c
    rw [c]at hs
    simp only [Bool.false_eq_true,if_false,List.append_nil]at hs
    refine aH (H:=BC sh m f g) (x+1:Nat) ?_ ⟨⟨by omega⟩,by show 1000 - (x+1)<1000 - x;omega⟩
    simp only [BC,hs]
    rfl
  ·have hx:x=1000:=by omega
   subst hx
   have hto:setF f g m=fX f g m 1000:=by unfold setF fX;rfl
   simp only [cond_false,hto]at hK
   exact hK
def itsS:aK Ob:=fun args h=>match args,h with
 | [.int .i64 sh,.view m 2 row],[]=>some (.pre (m≤1000000∧dF row) (.ret (.slice 0 (fL sh (rK row) (rY row) m) (bG sh (rK row) (rY row) m).length 1) [some (.ints (some .i64) (hE sh (rK row) (rY row) m))]))
 | _,_=>none
theorem S1:sT' 35 itsS:=by
 intro args h o ho K hK
 unfold itsS at ho
 split at ho<;>cases ho
 rename_i sh m row
 obtain⟨⟨hm,⟨hr⟩⟩,hK⟩:=hK
 rw [hr]
 exact G3 sh m (rK row) (rY row) K (S2 sh m (rK row) (rY row) K hm hK)
noncomputable def EV3:=EV2.addS 35 itsS S1
def FB(sh:Int)(m:Nat)(f g:Nat→Int)(kd ky:Int)(K:AVal→aC Ob→Prop):Prop:=bif ieq kd 1 then(m≤(4611686018427387904:Nat)∧dF fun i=>[.int .i64 (f i),.int .i64 (g i)])∧K (.agg [.int .i64 0,.bool !VK (rK fun i=>[.int .i64 (f i),.int .i64 (g i)]) (rY fun i=>[.int .i64 (f i),.int .i64 (g i)]) ky m,.int .i64 0]) []else bif ieq kd 2 then(m≤(4611686018427387904:Nat)∧dF fun i=>[.int .i64 (f i),.int .i64 (g i)])∧K (.agg [.int .i64 0,.bool (VK (rK fun i=>[.int .i64 (f i),.int .i64 (g i)]) (rY fun i=>[.int .i64 (f i),.int .i64 (g i)]) ky m),.int .i64 0]) []else bif ieq kd 3 then(m≤(4611686018427387904:Nat)∧dF fun i=>[.int .i64 (f i),.int .i64 (g i)])∧K (.agg [.int .i64 0,.bool (VK (rK fun i=>[.int .i64 (f i),.int .i64 (g i)]) (rY fun i=>[.int .i64 (f i),.int .i64 (g i)]) ky m),.int .i64 0]) []else bif ieq kd 4 then K (.agg [.int .i64 0,.bool true,.int .i64 0]) []else(m≤(1000000:Nat)∧dF fun i=>[.int .i64 (f i),.int .i64 (g i)])∧bif ieq (↑(List.length (bG sh (rK fun i=>[.int .i64 (f i),.int .i64 (g i)]) (rY fun i=>[.int .i64 (f i),.int .i64 (g i)]) m)):Int) 0 then K (.agg [.int .i64 0,.bool false,.int .i64 0]) []else((0:Int)≤(0:Int)∧(0:Int)<(↑(List.length (bG sh (rK fun i=>[.int .i64 (f i),.int .i64 (g i)]) (rY fun i=>[.int .i64 (f i),.int .i64 (g i)]) m)):Int))∧fL sh (rK fun i=>[.int .i64 (f i),.int .i64 (g i)]) (rY fun i=>[.int .i64 (f i),.int .i64 (g i)]) m+Int.toNat 0*(1:Nat)<List.length (hE sh (rK fun i=>[.int .i64 (f i),.int .i64 (g i)]) (rY fun i=>[.int .i64 (f i),.int .i64 (g i)]) m)∧K (.agg [.int .i64 0,.bool true,.int .i64 (List.getD (hE sh (rK fun i=>[.int .i64 (f i),.int .i64 (g i)]) (rY fun i=>[.int .i64 (f i),.int .i64 (g i)]) m) (fL sh (rK fun i=>[.int .i64 (f i),.int .i64 (g i)]) (rY fun i=>[.int .i64 (f i),.int .i64 (g i)]) m+Int.toNat 0*1) 0)]) []
theorem HV(sh:Int)(m:Nat)(f g:Nat→Int)(kd ky:Int)(K:AVal→aC Ob→Prop)(h:FB sh m f g kd ky K):cT' 32 [.int .i64 sh,.view m 2 (fun i=>[.int .i64 (f i),.int .i64 (g i)]),.agg [.int .i64 kd,.int .i64 ky]] [] K:=by
 refine Y2 (cM' (E:=EV3) (by kernel_rfl) h)
theorem TV(sh:Int)(m:Nat)(f g:Nat→Int)(kd ky:Int)(K:AVal→aC Ob→Prop)(hm:m≤1000000)(hK:K (.agg [.int .i64 0,.bool (resB sh f g m kd ky),.int .i64 (resV sh f g m kd ky)]) []):FB sh m f g kd ky K:=by
 have hp:m≤4611686018427387904:=by omega
 unfold FB
 unfold resB resV resR at hK
 refine aI (fun a=>⟨⟨hp,gK f g⟩,?_⟩) (fun a=>aI (fun b=>⟨⟨hp,gK f g⟩,?_⟩) (fun b=>aI (fun c=>⟨⟨hp,gK f g⟩,?_⟩) (fun c=>aI (fun d=>?_) (fun d=>⟨⟨hm,gK f g⟩,aI (fun e=>?_) (fun e=>?_)⟩))))
 ·rw [a]at hK;exact hK
 ·rw [a,b]at hK;exact hK
 ·rw [a,b,c]at hK;exact hK
 ·rw [a,b,c,d]at hK;exact hK
 ·rw [a,b,c,d]at hK
  have e:ieq ((bG sh f g m).length :Int) 0=true:=e
  have h0:bG sh f g m=[]:=by
   rw [bJ,beq_iff_eq]at e
   exact List.length_eq_zero_iff.1 (by omega)
  simp only [h0]at hK
  exact hK
 ·rw [a,b,c,d]at hK
  have e:ieq ((bG sh f g m).length :Int) 0=false:=e
  obtain⟨q1,q2⟩:=AE sh f g m
  have rk0:rK (fun i=>[.int .i64 (f i),.int .i64 (g i)])=f:=rfl
  have ry0:rY (fun i=>[.int .i64 (f i),.int .i64 (g i)])=g:=rfl
  rw [rk0,ry0]
  cases hi:bG sh f g m with
  | nil=>rw [hi]at e;cases e
  | cons x v=>
    rw [hi]at q1 q2
    simp only [hi]at hK
    simp only [List.length_cons]at q2⊢
    have e2:fL sh f g m+Int.toNat 0*1=fL sh f g m:=by simp
    have e3:List.getD (hE sh f g m) (fL sh f g m) 0=x:=by
     have:(hE sh f g m)[fL sh f g m]? =some x:=by
      have h2:=congrArg (fun l:List Int=>l[0]?) q1
      simpa [List.getElem?_drop]using h2
     rw [gD',this];rfl
    rw [e2,e3]
    exact⟨⟨by omega,by omega⟩,by omega,hK⟩
def resS:aK Ob:=fun args h=>match args,h with
 | [.int .i64 sh,.view m 2 row,.agg [.int .i64 kd,.int .i64 ky]],[]=>some (.pre (m≤1000000∧dF row) (.ret (.agg [.int .i64 0,.bool (resB sh (rK row) (rY row) m kd ky),.int .i64 (resV sh (rK row) (rY row) m kd ky)]) []))
 | _,_=>none
theorem TU:sT' 32 resS:=by
 intro args h o ho K hK
 unfold resS at ho
 split at ho<;>cases ho
 rename_i sh m row kd ky
 obtain⟨⟨hm,⟨hr⟩⟩,hK⟩:=hK
 rw [hr]
 exact HV sh m (rK row) (rY row) kd ky K (TV sh m (rK row) (rY row) kd ky K hm hK)
noncomputable def EV4:=EV3.addS 32 resS TU
def qR(xs:List Int)(nd:Int):Nat→Int→List Int→List Int
 | 0,_,out=>out
 | k+1,n,out=>bif bC nd n then bif !hasB out n then qR xs nd k (aB (aA xs n) 10 9) (out++ [n])else out else out
def ndF(xs:List Int)(nd hd:Int):List Int:=qR xs nd (nd.toNat+1) (aB (aA xs (nd+1+hd)) 10 9) []
def hJ(nd:Int)(out:List Int):Nat:=((List.range nd.toNat).filter (fun(j:Nat)=>!hasB out ((j:Int)+1))).length
theorem CX{p q:Nat→Bool}(hpq: ∀j,p j=true→q j=true)(l:List Nat):(l.filter p).length ≤(l.filter q).length :=by
 induction l with
 | nil=>exact Nat.le_refl _
 | cons b l ih=>
   simp only [List.filter_cons]
   cases hp:p b with
   | true=>rw [hpq b hp];simp;exact ih
   | false=>cases hq:q b<;>simp<;>omega
theorem CY{p q:Nat→Bool}(l:List Nat)(hpq: ∀j,p j=true→q j=true)(h: ∃j,j∈l∧q j=true∧p j=false):(l.filter p).length <(l.filter q).length :=by
 induction l with
 | nil=>obtain⟨j,hj,_⟩:=h;cases hj
 | cons a l ih=>
   have hle:=CX hpq l
   simp only [List.filter_cons]
   obtain⟨j,hj,hq,hp⟩:=h
   rcases List.mem_cons.1 hj with rfl | hj
   ·rw [hp,hq];simp;omega
   ·have:=ih ⟨j,hj,hq,hp⟩
    cases hp2:p a with
    | true=>rw [hpq a hp2];simp;exact this
    | false=>cases hq2:q a<;>simp<;>omega
theorem HA{nd n:Int}{out:List Int}(h1:bC nd n=true)(h2:hasB out n=false):hJ nd (out++ [n])<hJ nd out:=by
 have h1:=iZ.1 h1
 have h2:n∉out:=by intro hm;rw [f0.2 hm]at h2;cases h2
 unfold hJ
 refine CY _ (fun j hj=>?_) ⟨(n - 1).toNat,?_,?_,?_⟩
 ·cases e:hasB out ((j:Int)+1)with
  | false=>rfl
  | true=>
    have:hasB (out++ [n]) ((j:Int)+1)=true:=f0.2 (List.mem_append_left _ (f0.1 e))
    rw [this]at hj;cases hj
 ·rw [List.mem_range];omega
 ·have e:(((n - 1).toNat :Nat):Int)+1=n:=by omega
  rw [e]
  cases e2:hasB out n with
  | false=>rfl
  | true=>exact absurd (f0.1 e2) h2
 ·have e:(((n - 1).toNat :Nat):Int)+1=n:=by omega
  rw [e,f0.2 (List.mem_append_right _ (List.mem_singleton.2 rfl))];rfl
theorem AM(nd:Int):hJ nd []≤nd.toNat:=by
 unfold hJ
 exact Nat.le_trans (List.length_filter_le _ _) (by simp)
structure VU (xs:List Int) (nd:Int) (R:List Int) (x:Int×List Int):Prop where
 hb:(x.2.length:Int)≤nd.toNat
 ex: ∃k,hJ nd x.2<k∧qR xs nd k x.1 x.2=R
 hc:x.2.length+hJ nd x.2≤nd.toNat
def MD(s:MS)(lt ln:Int)(R:List Int):Hint Ob:= {X:=Int×List Int,st:=fun x=>([.ptr 0 0,.O,.O,.O,.ptr 2 0,.O,.O,.slice 3 0 x.2.length 1,.int .i64 x.1]++List.replicate 26 .O,[aX 1 s,aY s,some (.cells [.int .i64 lt,.int .i64 ln]),some (.ints (some .i64) x.2)]),ok:=VU s.xs ln R,mu:=fun x=>hJ ln x.2,keep:=[0,4,7,8],casts:=[(.slot 7,.ints (some .i64))] }
def TC(s:MS)(lt ln hd:Int)(R:List Int)(K:AVal→aC Ob→Prop):Prop:=(((0:Int)≤ln∧ln≤(100000:Int))∧(-1000000:Int)≤hd∧hd≤(1000000:Int))∧(lE' s.3∧True)∧True∧okSt (MD s lt ln R) (Hint.ok (MD s lt ln R)) [.ptr 0 0,.O,.O,.O,.ptr 2 0,.O,.O,.slice 3 0 0 1,.int .i64 (aB (aA s.3 (ln+1+hd)) 10 9),.O,.O,.O,.O,.O,.O,.O,.O,.O,.O,.O,.O,.O,.O,.O,.O,.O,.O,.O,.O,.O,.O,.O,.O,.O,.O] [some (.cells [.int .i64 s.1,.int .i64 s.2,.slice 1 0 (List.length s.3) 1,.int .i64 s.4,.int .i64 s.5,.int .i64 s.6,.int .u64 s.7,.int .u64 s.8,.bool s.9]),some (.ints (some .u64) s.3),some (.cells [.int .i64 lt,.int .i64 ln]),some (.ints (some .i64) [])]∧ ∀(x:(Int×List Int)),VU s.3 ln R x→True∧bif bC ln x.1 then(lE' x.2∧List.length x.2≤(4294967296:Nat))∧bif !hasB x.2 x.1 then(0=0∧lE' x.2∧1=1∧List.length x.2+(1:Nat)≤(4294967296:Nat))∧(lE' s.3∧True)∧True∧okSt (MD s lt ln R) (fun x'=>Hint.ok (MD s lt ln R) x'∧Hint.mu (MD s lt ln R) x'<Hint.mu (MD s lt ln R) x) [.ptr 0 0,.O,.O,.O,.ptr 2 0,.O,.O,.slice 3 0 (List.length x.2+1) 1,.int .i64 (aB (aA s.3 x.1) 10 9),.O,.O,.O,.O,.O,.O,.O,.O,.O,.O,.O,.O,.O,.O,.O,.O,.O,.O,.O,.O,.O,.O,.O,.O,.O,.O] [some (.cells [.int .i64 s.1,.int .i64 s.2,.slice 1 0 (List.length s.3) 1,.int .i64 s.4,.int .i64 s.5,.int .i64 s.6,.int .u64 s.7,.int .u64 s.8,.bool s.9]),some (.ints (some .u64) s.3),some (.cells [.int .i64 lt,.int .i64 ln]),some (.ints (some .i64) (x.2++ [x.1]))]else K (.slice 2 0 (List.length x.2) 1) [some (.cells [.int .i64 s.1,.int .i64 s.2,.slice 1 0 (List.length s.3) 1,.int .i64 s.4,.int .i64 s.5,.int .i64 s.6,.int .u64 s.7,.int .u64 s.8,.bool s.9]),some (.ints (some .u64) s.3),some (.ints (some .i64) x.2)]else K (.slice 2 0 (List.length x.2) 1) [some (.cells [.int .i64 s.1,.int .i64 s.2,.slice 1 0 (List.length s.3) 1,.int .i64 s.4,.int .i64 s.5,.int .i64 s.6,.int .u64 s.7,.int .u64 s.8,.bool s.9]),some (.ints (some .u64) s.3),some (.ints (some .i64) x.2)]
theorem KZ(s:MS)(lt ln hd:Int)(R:List Int)(K:AVal→aC Ob→Prop)(h:TC s lt ln hd R K):cT' 58 [.ptr 0 0,.agg [.int .i64 lt,.int .i64 ln],.int .i64 hd] [aX 1 s,aY s] K:=by
 exact Y2 (aE (E:=EV4) Tryz.checked.mixed (L:=fun _ _=>some (.states (MD s lt ln R))) (n:=10) (aU (by kernel_rfl) h))
theorem VW(s:MS)(lt ln hd:Int)(K:AVal→aC Ob→Prop)(h1:0≤ln∧ln≤100000)(h2: -1000000≤hd∧hd≤1000000)(hK:K (.slice 2 0 (ndF s.xs ln hd).length 1) [aX 1 s,aY s,some (.ints (some .i64) (ndF s.xs ln hd))]):TC s lt ln hd (ndF s.xs ln hd) K:=by
 refine⟨⟨h1,h2⟩,⟨rfl,trivial⟩,trivial,aH (H:=MD s lt ln (ndF s.xs ln hd)) (aB (aA s.xs (ln+1+hd)) 10 9,[]) rfl ⟨by show((0:Nat):Int)≤_;omega,⟨ln.toNat+1,by have:=AM ln;show hJ ln []<ln.toNat+1;omega,rfl⟩,by have:=AM ln;show 0+hJ ln []≤ln.toNat;omega⟩,?_⟩
 rintro⟨n,out⟩ ⟨hb,⟨k,hk,hR⟩,hc⟩
 dsimp only at hb hk hR hc⊢
 have stop: ∀(h:bif bC ln n then !hasB out n else false),True:=fun _=>trivial
 refine⟨trivial,aI (fun e1=>⟨⟨rfl,by omega⟩,aI (fun e2=>?_) (fun e2=>?_)⟩) (fun e1=>?_)⟩
 ·have e2':hasB out n=false:=by simpa using e2
  have hlt:=HA (nd:=ln) e1 e2'
  cases k with
  | zero=>omega
  | succ k=>
    unfold qR at hR
    rw [e1,e2]at hR
    simp only [cond_true]at hR
    refine⟨⟨rfl,rfl,rfl,by omega⟩,⟨rfl,trivial⟩,trivial,aH (H:=MD s lt ln (ndF s.xs ln hd)) (aB (aA s.xs n) 10 9,out++ [n]) (by simp only [MD,List.length_append,List.length_singleton]<;>rfl) ⟨⟨?_,⟨k,by show hJ ln (out++ [n])<k;omega,hR⟩,?_⟩,hlt⟩⟩
    ·show((out++ [n]).length :Int)≤_
     rw [List.length_append,List.length_singleton];omega
    ·show(out++ [n]).length +hJ ln (out++ [n])≤_
     rw [List.length_append,List.length_singleton];omega
 ·have hR2:out=ndF s.xs ln hd:=by
   cases k with
   | zero=>omega
   | succ k=>
     unfold qR at hR
     rw [e1,e2]at hR
     exact hR
  rw [←hR2]at hK
  exact hK
 ·have hR2:out=ndF s.xs ln hd:=by
   cases k with
   | zero=>omega
   | succ k=>
     unfold qR at hR
     rw [e1]at hR
     exact hR
  rw [←hR2]at hK
  exact hK
theorem KY(xs:List Int)(nd:Int)(k:Nat): ∀(n:Int) (out:List Int),(qR xs nd k n out).length ≤out.length+k:=by
 induction k with
 | zero=>intro n out;unfold qR;omega
 | succ k ih=>
   intro n out
   unfold qR
   cases bC nd n<;>cases hasB out n<;>simp only [cond_true,cond_false,Bool.not_true,Bool.not_false]<;>try omega
   have:=ih (aB (aA xs n) 10 9) (out++ [n])
   rw [List.length_append,List.length_singleton]at this
   omega
theorem EJ(xs:List Int)(nd hd:Int):(ndF xs nd hd).length ≤nd.toNat+1:=by
 have:=KY xs nd (nd.toNat+1) (aB (aA xs (nd+1+hd)) 10 9) []
 unfold ndF
 simpa using this
def ndS:aK Ob:=fun args h=>match args,h with
 | [.ptr 0 0,.agg [.int .i64 lt,.int .i64 ln],.int .i64 hd],[e1,e2]=>(match eN 1 [e1,e2]with
   | some (l,s)=>some (.pre (l=s.xs.length∧(0≤ln∧ln≤100000)∧(-1000000≤hd∧hd≤1000000)) (.ret (.slice 2 0 (ndF s.xs ln hd).length 1) [aX 1 s,aY s,some (.ints (some .i64) (ndF s.xs ln hd))]))
   | none=>none)
 | _,_=>none
theorem VV:sT' 58 ndS:=by
 intro args h o ho K hK
 unfold ndS at ho
 split at ho
 case h_2=>cases ho
 rename_i lt ln hd e1 e2
 split at ho<;>cases ho
 rename_i l s hm
 obtain⟨⟨hl,h1,h2⟩,hK⟩:=hK
 have hh:=bU hm hl
 cases hh
 exact KZ s lt ln hd _ K (VW s lt ln hd K h1 h2 hK)
noncomputable def EV5:=EV4.addS 58 ndS VV
def kyL(xs ns:List Int):List Int:=(ns.filter fun a=>!ieq (aB (aA xs a) 19 1) 1).map fun a=>aB (aA xs a) 0 10
structure VO (xs ns:List Int) (x:Nat×List Int):Prop where
 hi:x.1≤ns.length
 eq:x.2=kyL xs (ns.take x.1)
def HKY(s:MS)(ns:List Int):Hint Ob:= {X:=Nat×List Int,st:=fun x=>([.ptr 0 0,.O,.O,.O,.O,.O,.O,.slice 2 0 x.2.length 1,.O,.O,.O,.O,.O,.O,.slice 3 0 ns.length 1,.int .i64 (ns.length:Int),.int .i64 (x.1:Int)]++List.replicate 17 .O,[aX 1 s,aY s,some (.ints (some .i64) x.2),some (.ints (some .i64) ns)]),ok:=VO s.xs ns,mu:=fun x=>ns.length - x.1,keep:=[0,7,14,15,16],casts:=[(.slot 7,.ints (some .i64))] }
def S3(s:MS)(lt ln hd:Int)(K:AVal→aC Ob→Prop):Prop:=(lE' s.3∧((0:Int)≤ln∧ln≤(100000:Int))∧(-1000000:Int)≤hd∧hd≤(1000000:Int))∧okSt (HKY s (ndF (MS.xs s) ln hd)) (Hint.ok (HKY s (ndF (MS.xs s) ln hd))) [.ptr 0 0,.O,.O,.O,.O,.O,.O,.slice 2 0 0 1,.O,.O,.O,.O,.O,.O,.slice 3 0 (List.length (ndF s.3 ln hd)) 1,.int .i64 (↑(List.length (ndF s.3 ln hd)):Int),.int .i64 0,.O,.O,.O,.O,.O,.O,.O,.O,.O,.O,.O,.O,.O,.O,.O,.O,.O] [some (.cells [.int .i64 s.1,.int .i64 s.2,.slice 1 0 (List.length s.3) 1,.int .i64 s.4,.int .i64 s.5,.int .i64 s.6,.int .u64 s.7,.int .u64 s.8,.bool s.9]),some (.ints (some .u64) s.3),some (.ints (some .i64) []),some (.ints (some .i64) (ndF s.3 ln hd))]∧ ∀(x:Hint.X (HKY s (ndF (MS.xs s) ln hd))),VO s.3 (ndF s.3 ln hd) x→bif ilt (↑x.1:Int) (↑(List.length (ndF s.3 ln hd)):Int)then((0:Int)≤(↑x.1:Int)∧(↑x.1:Int)<(↑(List.length (ndF s.3 ln hd)):Int))∧0+Int.toNat (↑x.1:Int)*(1:Nat)<List.length (ndF s.3 ln hd)∧(lE' s.3∧True)∧True∧bif !ieq (aB (aA s.3 (List.getD (ndF s.3 ln hd) (0+Int.toNat (↑x.1:Int)*1) 0)) 19 1) 1 then(0=0∧lE' x.2∧1=1∧List.length x.2+(1:Nat)≤(4294967296:Nat))∧okSt (HKY s (ndF (MS.xs s) ln hd)) (fun x'=>Hint.ok (HKY s (ndF (MS.xs s) ln hd)) x'∧Hint.mu (HKY s (ndF (MS.xs s) ln hd)) x'<Hint.mu (HKY s (ndF (MS.xs s) ln hd)) x) [.ptr 0 0,.O,.O,.O,.O,.O,.O,.slice 2 0 (List.length x.2+1) 1,.O,.O,.O,.O,.O,.O,.slice 3 0 (List.length (ndF s.3 ln hd)) 1,.int .i64 (↑(List.length (ndF s.3 ln hd)):Int),.int .i64 (W ((↑x.1:Int)+1)),.O,.O,.O,.O,.O,.O,.O,.O,.O,.O,.O,.O,.O,.O,.O,.O,.O] [some (.cells [.int .i64 s.1,.int .i64 s.2,.slice 1 0 (List.length s.3) 1,.int .i64 s.4,.int .i64 s.5,.int .i64 s.6,.int .u64 s.7,.int .u64 s.8,.bool s.9]),some (.ints (some .u64) s.3),some (.ints (some .i64) (x.2++ [aB (aA s.3 (List.getD (ndF s.3 ln hd) (0+Int.toNat (↑x.1:Int)*1) 0)) 0 10])),some (.ints (some .i64) (ndF s.3 ln hd))]else okSt (HKY s (ndF (MS.xs s) ln hd)) (fun x'=>Hint.ok (HKY s (ndF (MS.xs s) ln hd)) x'∧Hint.mu (HKY s (ndF (MS.xs s) ln hd)) x'<Hint.mu (HKY s (ndF (MS.xs s) ln hd)) x) [.ptr 0 0,.O,.O,.O,.O,.O,.O,.slice 2 0 (List.length x.2) 1,.O,.O,.O,.O,.O,.O,.slice 3 0 (List.length (ndF s.3 ln hd)) 1,.int .i64 (↑(List.length (ndF s.3 ln hd)):Int),.int .i64 (W ((↑x.1:Int)+1)),.O,.O,.O,.O,.O,.O,.O,.O,.O,.O,.O,.O,.O,.O,.O,.O,.O] [some (.cells [.int .i64 s.1,.int .i64 s.2,.slice 1 0 (List.length s.3) 1,.int .i64 s.4,.int .i64 s.5,.int .i64 s.6,.int .u64 s.7,.int .u64 s.8,.bool s.9]),some (.ints (some .u64) s.3),some (.ints (some .i64) x.2),some (.ints (some .i64) (ndF s.3 ln hd))]else K (.slice 2 0 (List.length x.2) 1) [some (.cells [.int .i64 s.1,.int .i64 s.2,.slice 1 0 (List.length s.3) 1,.int .i64 s.4,.int .i64 s.5,.int .i64 s.6,.int .u64 s.7,.int .u64 s.8,.bool s.9]),some (.ints (some .u64) s.3),some (.ints (some .i64) x.2)]
theorem KM(s:MS)(lt ln hd:Int)(K:AVal→aC Ob→Prop)(h:S3 s lt ln hd K):cT' 59 [.ptr 0 0,.agg [.int .i64 lt,.int .i64 ln],.int .i64 hd] [aX 1 s,aY s] K:=by
 exact Y2 (aE (E:=EV5) Tryz.checked.mixed (L:=fun _ _=>some (.states (HKY s (ndF s.xs ln hd)))) (n:=10) (aU (by kernel_rfl) h))
theorem L1{ns:List Int}{i:Nat}(hi:i<ns.length):ns.take (i+1)=ns.take i++ [ns.getD i 0]:=by
 rw [List.take_succ,gD',gE' hi];rfl
theorem QG{xs ns:List Int}{i:Nat}(hi:i<ns.length)(h:(!ieq (aB (aA xs (ns.getD i 0)) 19 1) 1)=true):kyL xs (ns.take (i+1))=kyL xs (ns.take i)++ [aB (aA xs (ns.getD i 0)) 0 10]:=by
 unfold kyL
 rw [L1 hi,List.filter_append,List.map_append]
 simp only [List.filter_cons,List.filter_nil,h,if_true,List.map_cons,List.map_nil]
theorem VP{xs ns:List Int}{i:Nat}(hi:i<ns.length)(h:(!ieq (aB (aA xs (ns.getD i 0)) 19 1) 1)=false):kyL xs (ns.take (i+1))=kyL xs (ns.take i):=by
 unfold kyL
 rw [L1 hi,List.filter_append,List.map_append]
 simp only [List.filter_cons,List.filter_nil,h,Bool.false_eq_true,if_false,List.map_nil,List.append_nil]
theorem OW(xs ns:List Int):(kyL xs ns).length ≤ns.length:=by
 unfold kyL
 rw [List.length_map];exact List.length_filter_le _ _
def keyF(xs:List Int)(nd hd:Int):List Int:=kyL xs (ndF xs nd hd)
theorem VR(s:MS)(lt ln hd:Int)(K:AVal→aC Ob→Prop)(h1:0≤ln∧ln≤100000)(h2: -1000000≤hd∧hd≤1000000)(hK:K (.slice 2 0 (keyF s.xs ln hd).length 1) [aX 1 s,aY s,some (.ints (some .i64) (keyF s.xs ln hd))]):S3 s lt ln hd K:=by
 have hlen:=EJ s.xs ln hd
 unfold keyF at hK
 refine⟨⟨rfl,h1,h2⟩,aH (H:=HKY s (ndF s.xs ln hd)) ((0:Nat),[]) rfl ⟨Nat.zero_le _,rfl⟩,?_⟩
 have hlen':(ndF s.3 ln hd).length ≤ln.toNat+1:=hlen
 generalize ndF s.xs ln hd=ns at hK hlen⊢
 rintro⟨i,out⟩ ⟨hi,heq⟩
 dsimp only at hi heq
 subst heq
 have hkl:(kyL s.xs (ns.take i)).length ≤i:=Nat.le_trans (OW _ _) (List.length_take_le _ _)
 refine aI (fun e=>?_) (fun e=>?_)
 ·rw [bB,dT']at e
  have e:(i:Int)<(ns.length:Int):=e
  have hil:i<ns.length:=by omega
  have e4:W ((i:Int)+1)=((i+1:Nat):Int):=by rw [W,cE (by omega)];rfl
  have e0:0+Int.toNat (i:Int)*1=i:=by omega
  have hk1:(kyL s.xs (ns.take i)).length +1≤4294967296:=by omega
  refine⟨⟨by show(0:Int)≤(i:Int);omega,e⟩,by show 0+Int.toNat (i:Int)*1<ns.length;omega,⟨rfl,trivial⟩,trivial,aI (fun e2=>⟨⟨rfl,rfl,rfl,hk1⟩,?_⟩) (fun e2=>?_)⟩
  ·have e2:(!ieq (aB (aA s.xs (ns.getD (0+Int.toNat (i:Int)*1) 0)) 19 1) 1)=true:=e2
   rw [e0]at e2
   refine aH (H:=HKY s ns) (i+1,kyL s.xs (ns.take (i+1))) ?_ ⟨⟨hil,rfl⟩,by show ns.length - (i+1)<ns.length - i;omega⟩
   show((HKY s ns).st (i+1,kyL s.xs (ns.take (i+1))))=_
   have hl:(kyL s.xs (ns.take (i+1))).length =(kyL s.xs (ns.take i)).length +1:=by rw [QG hil e2];simp
   simp only [HKY,hl]
   rw [QG hil e2]
   simp only [e4,e0]
   rfl
  ·have e2:(!ieq (aB (aA s.xs (ns.getD (0+Int.toNat (i:Int)*1) 0)) 19 1) 1)=false:=e2
   rw [e0]at e2
   refine aH (H:=HKY s ns) (i+1,kyL s.xs (ns.take (i+1))) ?_ ⟨⟨hil,rfl⟩,by show ns.length - (i+1)<ns.length - i;omega⟩
   rw [VP hil e2]
   simp only [HKY,e4]
   rfl
 ·rw [bB,dF']at e
  have e: ¬(i:Int)<(ns.length:Int):=e
  have hil:i=ns.length:=by omega
  subst hil
  rw [List.take_length]
  exact hK
def kyS:aK Ob:=fun args h=>match args,h with
 | [.ptr 0 0,.agg [.int .i64 lt,.int .i64 ln],.int .i64 hd],[e1,e2]=>(match eN 1 [e1,e2]with
   | some (l,s)=>some (.pre (l=s.xs.length∧(0≤ln∧ln≤100000)∧(-1000000≤hd∧hd≤1000000)) (.ret (.slice 2 0 (keyF s.xs ln hd).length 1) [aX 1 s,aY s,some (.ints (some .i64) (keyF s.xs ln hd))]))
   | none=>none)
 | _,_=>none
theorem VQ:sT' 59 kyS:=by
 intro args h o ho K hK
 unfold kyS at ho
 split at ho
 case h_2=>cases ho
 rename_i lt ln hd e1 e2
 split at ho<;>cases ho
 rename_i l s hm
 obtain⟨⟨hl,h1,h2⟩,hK⟩:=hK
 have hh:=bU hm hl
 cases hh
 exact KM s lt ln hd K (VR s lt ln hd K h1 h2 hK)
noncomputable def EV6:=EV5.addS 59 kyS VQ
def fH:List Int→List (Int×Int)→List (Int×Int)
 | [],m=>m
 | k::ks,m=>fH ks (cH m k (W ((mget m k).getD 0+1)))
def dV(m:List (Int×Int)):Nat→List Int
 | 0=>[]
 | k+1=>dV m k++List.replicate ((mget m (k:Int)).getD 0).toNat (k:Int)
def cntM(xs:List Int)(n:Int):List (Int×Int):=fH (keyF xs n 3) (fH (keyF xs n 2) (fH (keyF xs n 1) (fH (keyF xs n 0) [])))
def f7(xs:List Int)(n sh:Int):List Int:=bif ilt 2 sh then keyF xs n 0 else dV (cntM xs n) 1024
def cY(xs:List Int)(n b:Int):Bool:=bC n b&&ieq (Int.tmod (aA xs (n+4+b)) 2) 1
def fC(xs:List Int)(n:Int):List Int→List (Int×Int)→Option (List (Int×Int))
 | [],m=>some m
 | b::bs,m=>bif ilt 1 (W ((mget m b).getD 0+1))|| !cY xs n b then none else fC xs n bs (cH m b (W ((mget m b).getD 0+1)))
def hU(xs:List Int)(n:Int):List Int:=((List.range n.toNat).map fun i:Nat=>(i:Int)+1).filter fun b=>!cY xs n b
end Go.Sh
