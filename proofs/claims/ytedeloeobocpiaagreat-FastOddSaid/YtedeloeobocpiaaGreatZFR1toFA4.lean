import Derived.Test.YtedeloeobocpiaaGreatZGTtoFR0
set_option linter.all false
set_option maxHeartbeats 8000000
namespace Go.Sh
open Go Go.Proofs
variable [Con]
def pV(t n:Int):Nat→ENS→STS→MS→Bool×ENS×STS×MS
 | 0,e,st,s=>(false,e,st,s)
 | f+1,e,st,s=>bif (enF t n e st s).d then(true,(enF t n e st s).e,(enF t n e st s).st,(enF t n e st s).s)else pV t n f (enF t n e st s).e (enF t n e st s).st (enF t n e st s).s
def nM(t n:Int):Nat→ENS→STS→MS→Prop
 | 0,_,_,_=>False
 | f+1,e,st,s=>okE t n e st s∧((enF t n e st s).d =false→nM t n f (enF t n e st s).e (enF t n e st s).st (enF t n e st s).s)
def p7(t n:Int):Nat→FTS→STS→MS→Prop
 | 0,_,_,_=>False
 | f+1,x,st,s=>ftOk t n x st s∧((ftF t n x st s).d =false→p7 t n f (ftF t n x st s).x (ftF t n x st s).st (ftF t n x st s).s)
def m8(t n:Int):Nat→FTS→STS→MS→FTS×STS×MS
 | 0,x,st,s=>(x,st,s)
 | f+1,x,st,s=>bif (ftF t n x st s).d then((ftF t n x st s).x,(ftF t n x st s).st,(ftF t n x st s).s)else m8 t n f (ftF t n x st s).x (ftF t n x st s).st (ftF t n x st s).s
def frE(t n:Int)(N:Nat)(kd:Int)(st:STS)(s:MS):STS×MS:=bif cU kd&&ieq st.sp 0 then(pV t n N oC st s).2.2 else(st,s)
def HI(t n:Int)(N:Nat)(kd:Int)(st:STS)(s:MS):Prop:=cU kd=true→st.sp=0→nM t n N oC st s
def r0(r:List Int):Int:=List.headD r 0
def r1(r:List Int):Int:=List.headD (List.tail r) 0
def r2(r:List Int):Int:=List.headD (List.tail (List.tail r)) 0
def frX(t n most:Int)(N:Nat)(r:List Int)(st:STS)(s:MS):FTS×STS×MS:=m8 t n N (ftNF t n (r0 r) (r1 r) (r2 r) most (frE t n N (r1 r) st s).1).1 (ftNF t n (r0 r) (r1 r) (r2 r) most (frE t n N (r1 r) st s).1).2 (frE t n N (r1 r) st s).2
def p6(t n most:Int)(N:Nat)(r:List Int)(st:STS)(s:MS):Prop:=HI t n N (r1 r) st s∧iS t n (r0 r) (r1 r) (r2 r) most (frE t n N (r1 r) st s).1∧p7 t n N (ftNF t n (r0 r) (r1 r) (r2 r) most (frE t n N (r1 r) st s).1).1 (ftNF t n (r0 r) (r1 r) (r2 r) most (frE t n N (r1 r) st s).1).2 (frE t n N (r1 r) st s).2
def m0(x:FTS):List Int:=[x.code,bitI x.okk,x.val]
def frF(t n most:Int)(N:Nat):List (List Int)→STS→MS→List (List Int)×Bool×STS×MS
 | [],st,s=>([],true,st,s)
 | r::T,st,s=>bif (frX t n most N r st s).1.failed then([],false,(frX t n most N r st s).2)else(m0 (frX t n most N r st s).1::(frF t n most N T (frX t n most N r st s).2.1 (frX t n most N r st s).2.2).1,(frF t n most N T (frX t n most N r st s).2.1 (frX t n most N r st s).2.2).2)
def u2(t n most:Int)(N:Nat):List (List Int)→STS→MS→Prop
 | [],_,_=>True
 | r::T,st,s=>p6 t n most N r st s∧((frX t n most N r st s).1.failed =false→u2 t n most N T (frX t n most N r st s).2.1 (frX t n most N r st s).2.2)
abbrev KT:List Code1:=[some .i64,some .i64,some .i64]
abbrev KR:List Code1:=[some .i64,none,some .i64]
structure frA (t n most:Int) (N:Nat) (T:List (List Int)) (st0:STS) (s0:MS) (x:Nat×List (List Int)×STS×MS):Prop where
 h1:x.1≤T.length
 hl:x.2.1.length=x.1
 ok:u2 t n most N (T.drop x.1) x.2.2.1 x.2.2.2
 eq:frF t n most N T st0 s0=(x.2.1++(frF t n most N (T.drop x.1) x.2.2.1 x.2.2.2).1,(frF t n most N (T.drop x.1) x.2.2.1 x.2.2.2).2)
structure I4 (t n most:Int) (N:Nat) (T:List (List Int)) (st0:STS) (s0:MS) (i:Int) (x:Nat×List (List Int)×STS×MS×ENS×STS×MS):Prop where
 i0:0≤i∧i<T.length
 a:frA t n most N T st0 s0 (i.toNat,x.2.1,x.2.2.1,x.2.2.2.1)
 lk:(cU (r1 (List.getD T i.toNat []))&&ieq x.2.2.1.sp 0)=true
 ok:nM t n x.1 x.2.2.2.2.1 x.2.2.2.2.2.1 x.2.2.2.2.2.2
 eq:(pV t n N oC x.2.2.1 x.2.2.2.1).2.2=(pV t n x.1 x.2.2.2.2.1 x.2.2.2.2.2.1 x.2.2.2.2.2.2).2.2
structure H9 (t n most:Int) (N:Nat) (T:List (List Int)) (st0:STS) (s0:MS) (i:Int) (x:Nat×List (List Int)×STS×MS×FTS×STS×MS):Prop where
 i0:0≤i∧i<T.length
 a:frA t n most N T st0 s0 (i.toNat,x.2.1,x.2.2.1,x.2.2.2.1)
 ok:p7 t n x.1 x.2.2.2.2.1 x.2.2.2.2.2.1 x.2.2.2.2.2.2
 eq:frX t n most N (List.getD T i.toNat []) x.2.2.1 x.2.2.2.1=m8 t n x.1 x.2.2.2.2.1 x.2.2.2.2.2.1 x.2.2.2.2.2.2
def o9(t n most:Int)(N:Nat)(T:List (List Int))(st0:STS)(s0:MS):Hint Ob:= {X:=Nat×List (List Int)×STS×MS,st:=fun x=>([.ptr 0 0,.ptr 2 0,.int .i64 most]++List.replicate 7 .O ++ [.tslice 4 0 x.2.1.length 3]++List.replicate 4 .O ++ [.tslice 3 0 T.length 3,.int .i64 (T.length:Int),.int .i64 (x.1:Int)]++List.replicate 40 .O,[bB 1 x.2.2.2,bC x.2.2.2,some (.abs (.store t n x.2.2.1) []),some (.tab KT T),some (.tab KR x.2.1)]),ok:=frA t n most N T st0 s0,mu:=fun x=>T.length - x.1,keep:=[0,1,2,10,15,16,17],casts:=[(.slot 10,.tab KR)] }
def HRb(t n most:Int)(N:Nat)(T:List (List Int))(st0:STS)(s0:MS)(i:Int):Hint Ob:= {X:=Nat×List (List Int)×STS×MS×ENS×STS×MS,st:=fun x=>([.ptr 0 0,.ptr 2 0,.int .i64 most]++List.replicate 7 .O ++ [.tslice 4 0 x.2.1.length 3]++ [.O,.ptr 5 0,.ptr 6 0,.O,.tslice 3 0 T.length 3,.int .i64 (T.length:Int),.int .i64 i]++List.replicate 40 .O,[bB 1 x.2.2.2.2.2.2,bC x.2.2.2.2.2.2,some (.abs (.store t n x.2.2.2.2.2.1) []),some (.tab KT T),some (.tab KR x.2.1),some (.cells [.int .i64 (r0 (List.getD T i.toNat [])),.int .i64 (r1 (List.getD T i.toNat [])),.int .i64 (r2 (List.getD T i.toNat []))]),some (.abs (.ensure t n x.2.2.2.2.1) [2])]),ok:=I4 t n most N T st0 s0 i,mu:=fun x=>x.1,keep:=[0,1,2,10,12,13,15,16,17],casts:=[(.slot 10,.tab KR)] }
def HRc(t n most:Int)(N:Nat)(T:List (List Int))(st0:STS)(s0:MS)(i:Int):Hint Ob:= {X:=Nat×List (List Int)×STS×MS×FTS×STS×MS,st:=fun x=>([.ptr 0 0,.ptr 2 0,.int .i64 most]++List.replicate 7 .O ++ [.tslice 4 0 x.2.1.length 3]++ [.O,.ptr 5 0,.O,.ptr 6 0,.tslice 3 0 T.length 3,.int .i64 (T.length:Int),.int .i64 i]++List.replicate 40 .O,[bB 1 x.2.2.2.2.2.2,bC x.2.2.2.2.2.2,some (.abs (.store t n x.2.2.2.2.2.1) []),some (.tab KT T),some (.tab KR x.2.1),some (.cells [.int .i64 (r0 (List.getD T i.toNat [])),.int .i64 (r1 (List.getD T i.toNat [])),.int .i64 (r2 (List.getD T i.toNat []))]),some (.abs (.fast t n x.2.2.2.2.1) [2])]),ok:=H9 t n most N T st0 s0 i,mu:=fun x=>x.1,keep:=[0,1,2,10,12,14,15,16,17],casts:=[(.slot 10,.tab KR)] }
def IM(t n most:Int)(N:Nat)(T:List (List Int))(st0:STS)(s0:MS):FuncId→Nat→Option (nF Ob):=fun _ k=>if k=3 then some (.states (o9 t n most N T st0 s0))else if k=7 then some (.statesAt 17 (HRb t n most N T st0 s0))else if k=9 then some (.statesAt 17 (HRc t n most N T st0 s0))else none
def CB(t n most:Int)(N:Nat)(T:List (List Int))(st:STS)(s:MS)(K:AVal→aA Ob→Prop):Prop:=dA (o9 t n most N T st s) (Hint.ok (o9 t n most N T st s)) [.ptr 0 0,.ptr 2 0,.int .i64 most,.O,.O,.O,.O,.O,.O,.O,.tslice 4 0 0 3,.O,.O,.O,.O,.tslice 3 0 (List.length T) 3,.int .i64 (↑(List.length T):Int),.int .i64 0,.O,.O,.O,.O,.O,.O,.O,.O,.O,.O,.O,.O,.O,.O,.O,.O,.O,.O,.O,.O,.O,.O,.O,.O,.O,.O,.O,.O,.O,.O,.O,.O,.O,.O,.O,.O,.O,.O,.O,.O] [some (.cells [.int .i64 s.1,.int .i64 s.2,.slice 1 0 (List.length s.3) 1,.int .i64 s.4,.int .i64 s.5,.int .i64 s.6,.int .u64 s.7,.int .u64 s.8,.bool s.9]),some (.ints (some .u64) s.3),some (.abs (.store t n st) []),some (.tab [some .i64,some .i64,some .i64] T),some (.tab [some .i64,none,some .i64] [])]∧ ∀(x:(Nat×List (List Int)×STS×MS)),frA t n most N T st s x→bif cD (↑x.1:Int) (↑(List.length T):Int)then((0:Int)≤(↑x.1:Int)∧(↑x.1:Int)<(↑(List.length T):Int))∧0+Int.toNat (↑x.1:Int)<List.length T∧True∧bif cU (List.headD (List.tail (List.getD T (0+Int.toNat (↑x.1:Int)) [])) 0)then bif ieq (Prod.fst (Prod.snd x).2).2 0 then((t=t∧n=n∧lE' (Prod.fst (Prod.snd x).2).3)∧True)∧dA (HRb t n most N T st s (↑(Prod.fst x):Int)) (Hint.ok (HRb t n most N T st s (↑(Prod.fst x):Int))) [.ptr 0 0,.ptr 2 0,.int .i64 most,.O,.O,.O,.O,.O,.O,.O,.tslice 4 0 (List.length (Prod.snd x).1) 3,.O,.ptr 5 0,.ptr 6 0,.O,.tslice 3 0 (List.length T) 3,.int .i64 (↑(List.length T):Int),.int .i64 (↑x.1:Int),.O,.O,.O,.O,.O,.O,.O,.O,.O,.O,.O,.O,.O,.O,.O,.O,.O,.O,.O,.O,.O,.O,.O,.O,.O,.O,.O,.O,.O,.O,.O,.O,.O,.O,.O,.O,.O,.O,.O,.O] [some (.cells [.int .i64 (Prod.snd (Prod.snd x).2).1,.int .i64 (Prod.snd (Prod.snd x).2).2,.slice 1 0 (List.length (Prod.snd (Prod.snd x).2).3) 1,.int .i64 (Prod.snd (Prod.snd x).2).4,.int .i64 (Prod.snd (Prod.snd x).2).5,.int .i64 (Prod.snd (Prod.snd x).2).6,.int .u64 (Prod.snd (Prod.snd x).2).7,.int .u64 (Prod.snd (Prod.snd x).2).8,.bool (Prod.snd (Prod.snd x).2).9]),some (.ints (some .u64) (Prod.snd (Prod.snd x).2).3),some (.abs (.store t n (Prod.snd x.2).1) []),some (.tab [some .i64,some .i64,some .i64] T),some (.tab [some .i64,none,some .i64] (Prod.snd x).1),some (.cells [.int .i64 (List.headD (List.getD T (0+Int.toNat (↑x.1:Int)) []) 0),.int .i64 (List.headD (List.tail (List.getD T (0+Int.toNat (↑x.1:Int)) [])) 0),.int .i64 (List.headD (List.tail (List.tail (List.getD T (0+Int.toNat (↑x.1:Int)) []))) 0)]),some (.abs (.ensure t n oC) [2])]∧ ∀(x_1:Hint.X (HRb t n most N T st s (↑(Prod.fst x):Int))),I4 t n most N T st s (↑x.1:Int) x_1→((lE' (Prod.snd (Prod.snd (Prod.snd x_1.2).2).2).3∧t=t∧n=n)∧okE t n (Prod.fst (Prod.snd (Prod.snd (Prod.snd (Prod.snd x_1))))) (Prod.fst (Prod.snd (Prod.snd (Prod.snd (Prod.snd (Prod.snd x_1)))))) {t:=(Prod.snd (Prod.snd (Prod.snd x_1.2).2).2).1,n:=(Prod.snd (Prod.snd (Prod.snd x_1.2).2).2).2,xs:=(Prod.snd (Prod.snd (Prod.snd x_1.2).2).2).3,c:=(Prod.snd (Prod.snd (Prod.snd x_1.2).2).2).4,k:=(Prod.snd (Prod.snd (Prod.snd x_1.2).2).2).5,a:=(Prod.snd (Prod.snd (Prod.snd x_1.2).2).2).6,o:=(Prod.snd (Prod.snd (Prod.snd x_1.2).2).2).7,w:=(Prod.snd (Prod.snd (Prod.snd x_1.2).2).2).8,ok:=(Prod.snd (Prod.snd (Prod.snd x_1.2).2).2).9})∧bif (enF t n (Prod.snd (Prod.snd x_1.2).2).1 (Prod.snd (Prod.snd (Prod.snd x_1).2).2).1 (Prod.snd (Prod.snd x_1.2).2).2.2).1 then iS t n (r0 (List.getD T (Int.toNat (↑x.1:Int)) [])) (r1 (List.getD T (Int.toNat (↑x.1:Int)) [])) (r2 (List.getD T (Int.toNat (↑x.1:Int)) [])) most (enF t n (Prod.snd (Prod.snd x_1.2).2).1 (Prod.snd (Prod.snd (Prod.snd x_1).2).2).1 (Prod.snd (Prod.snd x_1.2).2).2.2).3∧dA (HRc t n most N T st s (↑(Prod.fst x):Int)) (Hint.ok (HRc t n most N T st s (↑(Prod.fst x):Int))) [.ptr 0 0,.ptr 2 0,.int .i64 most,.O,.O,.O,.O,.O,.O,.O,.tslice 4 0 (List.length (Prod.snd x_1).1) 3,.O,.ptr 5 0,.O,.ptr 6 0,.tslice 3 0 (List.length T) 3,.int .i64 (↑(List.length T):Int),.int .i64 (↑x.1:Int),.O,.O,.O,.O,.O,.O,.O,.O,.O,.O,.O,.O,.O,.O,.O,.O,.O,.O,.O,.O,.O,.O,.O,.O,.O,.O,.O,.O,.O,.O,.O,.O,.O,.O,.O,.O,.O,.O,.O,.O] [some (.cells [.int .i64 (EO.s (enF t n (Prod.snd (Prod.snd x_1.2).2).1 (Prod.snd (Prod.snd (Prod.snd x_1).2).2).1 (Prod.snd (Prod.snd x_1.2).2).2.2)).1,.int .i64 (EO.s (enF t n (Prod.snd (Prod.snd x_1.2).2).1 (Prod.snd (Prod.snd (Prod.snd x_1).2).2).1 (Prod.snd (Prod.snd x_1.2).2).2.2)).2,.slice 1 0 (List.length (EO.s (enF t n (Prod.snd (Prod.snd x_1.2).2).1 (Prod.snd (Prod.snd (Prod.snd x_1).2).2).1 (Prod.snd (Prod.snd x_1.2).2).2.2)).3) 1,.int .i64 (EO.s (enF t n (Prod.snd (Prod.snd x_1.2).2).1 (Prod.snd (Prod.snd (Prod.snd x_1).2).2).1 (Prod.snd (Prod.snd x_1.2).2).2.2)).4,.int .i64 (EO.s (enF t n (Prod.snd (Prod.snd x_1.2).2).1 (Prod.snd (Prod.snd (Prod.snd x_1).2).2).1 (Prod.snd (Prod.snd x_1.2).2).2.2)).5,.int .i64 (EO.s (enF t n (Prod.snd (Prod.snd x_1.2).2).1 (Prod.snd (Prod.snd (Prod.snd x_1).2).2).1 (Prod.snd (Prod.snd x_1.2).2).2.2)).6,.int .u64 (EO.s (enF t n (Prod.snd (Prod.snd x_1.2).2).1 (Prod.snd (Prod.snd (Prod.snd x_1).2).2).1 (Prod.snd (Prod.snd x_1.2).2).2.2)).7,.int .u64 (EO.s (enF t n (Prod.snd (Prod.snd x_1.2).2).1 (Prod.snd (Prod.snd (Prod.snd x_1).2).2).1 (Prod.snd (Prod.snd x_1.2).2).2.2)).8,.bool (EO.s (enF t n (Prod.snd (Prod.snd x_1.2).2).1 (Prod.snd (Prod.snd (Prod.snd x_1).2).2).1 (Prod.snd (Prod.snd x_1.2).2).2.2)).9]),some (.ints (some .u64) (EO.s (enF t n (Prod.snd (Prod.snd x_1.2).2).1 (Prod.snd (Prod.snd (Prod.snd x_1).2).2).1 (Prod.snd (Prod.snd x_1.2).2).2.2)).3),some (.abs (.store t n (ftNF t n (r0 (List.getD T (Int.toNat (↑x.1:Int)) [])) (r1 (List.getD T (Int.toNat (↑x.1:Int)) [])) (r2 (List.getD T (Int.toNat (↑x.1:Int)) [])) most (enF t n (Prod.snd (Prod.snd x_1.2).2).1 (Prod.snd (Prod.snd (Prod.snd x_1).2).2).1 (Prod.snd (Prod.snd x_1.2).2).2.2).3).2) []),some (.tab [some .i64,some .i64,some .i64] T),some (.tab [some .i64,none,some .i64] (Prod.snd x_1).1),some (.cells [.int .i64 (r0 (List.getD T (Int.toNat (↑x.1:Int)) [])),.int .i64 (r1 (List.getD T (Int.toNat (↑x.1:Int)) [])),.int .i64 (r2 (List.getD T (Int.toNat (↑x.1:Int)) []))]),some (.abs (.fast t n (ftNF t n (r0 (List.getD T (Int.toNat (↑x.1:Int)) [])) (r1 (List.getD T (Int.toNat (↑x.1:Int)) [])) (r2 (List.getD T (Int.toNat (↑x.1:Int)) [])) most (enF t n (Prod.snd (Prod.snd x_1.2).2).1 (Prod.snd (Prod.snd (Prod.snd x_1).2).2).1 (Prod.snd (Prod.snd x_1.2).2).2.2).3).1) [2])]∧ ∀(x_2:Hint.X (HRc t n most N T st s (↑(Prod.fst x):Int))),H9 t n most N T st s (↑x.1:Int) x_2→((lE' (Prod.snd (Prod.snd (Prod.snd x_2.2).2).2).3∧t=t∧n=n)∧ftOk t n (Prod.snd (Prod.snd x_2.2).2).1 (Prod.snd (Prod.snd (Prod.snd x_2).2).2).1 (Prod.snd (Prod.snd x_2.2).2).2.2)∧bif (ftF t n (Prod.snd (Prod.snd x_2.2).2).1 (Prod.snd (Prod.snd (Prod.snd x_2).2).2).1 (Prod.snd (Prod.snd x_2.2).2).2.2).1 then bif (FtO.x (ftF t n (Prod.snd (Prod.snd x_2.2).2).1 (Prod.snd (Prod.snd (Prod.snd x_2).2).2).1 (Prod.snd (Prod.snd x_2.2).2).2.2)).4 then K (.tup [.tslice 4 0 (List.length (Prod.snd x_2).1) 3,.bool false]) [some (.cells [.int .i64 (FtO.s (ftF t n (Prod.snd (Prod.snd x_2.2).2).1 (Prod.snd (Prod.snd (Prod.snd x_2).2).2).1 (Prod.snd (Prod.snd x_2.2).2).2.2)).1,.int .i64 (FtO.s (ftF t n (Prod.snd (Prod.snd x_2.2).2).1 (Prod.snd (Prod.snd (Prod.snd x_2).2).2).1 (Prod.snd (Prod.snd x_2.2).2).2.2)).2,.slice 1 0 (List.length (FtO.s (ftF t n (Prod.snd (Prod.snd x_2.2).2).1 (Prod.snd (Prod.snd (Prod.snd x_2).2).2).1 (Prod.snd (Prod.snd x_2.2).2).2.2)).3) 1,.int .i64 (FtO.s (ftF t n (Prod.snd (Prod.snd x_2.2).2).1 (Prod.snd (Prod.snd (Prod.snd x_2).2).2).1 (Prod.snd (Prod.snd x_2.2).2).2.2)).4,.int .i64 (FtO.s (ftF t n (Prod.snd (Prod.snd x_2.2).2).1 (Prod.snd (Prod.snd (Prod.snd x_2).2).2).1 (Prod.snd (Prod.snd x_2.2).2).2.2)).5,.int .i64 (FtO.s (ftF t n (Prod.snd (Prod.snd x_2.2).2).1 (Prod.snd (Prod.snd (Prod.snd x_2).2).2).1 (Prod.snd (Prod.snd x_2.2).2).2.2)).6,.int .u64 (FtO.s (ftF t n (Prod.snd (Prod.snd x_2.2).2).1 (Prod.snd (Prod.snd (Prod.snd x_2).2).2).1 (Prod.snd (Prod.snd x_2.2).2).2.2)).7,.int .u64 (FtO.s (ftF t n (Prod.snd (Prod.snd x_2.2).2).1 (Prod.snd (Prod.snd (Prod.snd x_2).2).2).1 (Prod.snd (Prod.snd x_2.2).2).2.2)).8,.bool (FtO.s (ftF t n (Prod.snd (Prod.snd x_2.2).2).1 (Prod.snd (Prod.snd (Prod.snd x_2).2).2).1 (Prod.snd (Prod.snd x_2.2).2).2.2)).9]),some (.ints (some .u64) (FtO.s (ftF t n (Prod.snd (Prod.snd x_2.2).2).1 (Prod.snd (Prod.snd (Prod.snd x_2).2).2).1 (Prod.snd (Prod.snd x_2.2).2).2.2)).3),some (.abs (.store t n (ftF t n (Prod.snd (Prod.snd x_2.2).2).1 (Prod.snd (Prod.snd (Prod.snd x_2).2).2).1 (Prod.snd (Prod.snd x_2.2).2).2.2).3) []),some (.tab [some .i64,some .i64,some .i64] T),some (.tab [some .i64,none,some .i64] (Prod.snd x_2).1)]else(0=0∧lE' (Prod.snd x_2).1∧List.length (Prod.snd x_2).1+(1:Nat)≤(4294967296:Nat))∧dA (o9 t n most N T st s) (fun x'=>Hint.ok (o9 t n most N T st s) x'∧Hint.mu (o9 t n most N T st s) x'<Hint.mu (o9 t n most N T st s) x) [.ptr 0 0,.ptr 2 0,.int .i64 most,.O,.O,.O,.O,.O,.O,.O,.tslice 4 0 (List.length (Prod.snd x_2).1+1) 3,.O,.O,.O,.O,.tslice 3 0 (List.length T) 3,.int .i64 (↑(List.length T):Int),.int .i64 (W ((↑x.1:Int)+1)),.O,.O,.O,.O,.O,.O,.O,.O,.O,.O,.O,.O,.O,.O,.O,.O,.O,.O,.O,.O,.O,.O,.O,.O,.O,.O,.O,.O,.O,.O,.O,.O,.O,.O,.O,.O,.O,.O,.O,.O] [some (.cells [.int .i64 (FtO.s (ftF t n (Prod.snd (Prod.snd x_2.2).2).1 (Prod.snd (Prod.snd (Prod.snd x_2).2).2).1 (Prod.snd (Prod.snd x_2.2).2).2.2)).1,.int .i64 (FtO.s (ftF t n (Prod.snd (Prod.snd x_2.2).2).1 (Prod.snd (Prod.snd (Prod.snd x_2).2).2).1 (Prod.snd (Prod.snd x_2.2).2).2.2)).2,.slice 1 0 (List.length (FtO.s (ftF t n (Prod.snd (Prod.snd x_2.2).2).1 (Prod.snd (Prod.snd (Prod.snd x_2).2).2).1 (Prod.snd (Prod.snd x_2.2).2).2.2)).3) 1,.int .i64 (FtO.s (ftF t n (Prod.snd (Prod.snd x_2.2).2).1 (Prod.snd (Prod.snd (Prod.snd x_2).2).2).1 (Prod.snd (Prod.snd x_2.2).2).2.2)).4,.int .i64 (FtO.s (ftF t n (Prod.snd (Prod.snd x_2.2).2).1 (Prod.snd (Prod.snd (Prod.snd x_2).2).2).1 (Prod.snd (Prod.snd x_2.2).2).2.2)).5,.int .i64 (FtO.s (ftF t n (Prod.snd (Prod.snd x_2.2).2).1 (Prod.snd (Prod.snd (Prod.snd x_2).2).2).1 (Prod.snd (Prod.snd x_2.2).2).2.2)).6,.int .u64 (FtO.s (ftF t n (Prod.snd (Prod.snd x_2.2).2).1 (Prod.snd (Prod.snd (Prod.snd x_2).2).2).1 (Prod.snd (Prod.snd x_2.2).2).2.2)).7,.int .u64 (FtO.s (ftF t n (Prod.snd (Prod.snd x_2.2).2).1 (Prod.snd (Prod.snd (Prod.snd x_2).2).2).1 (Prod.snd (Prod.snd x_2.2).2).2.2)).8,.bool (FtO.s (ftF t n (Prod.snd (Prod.snd x_2.2).2).1 (Prod.snd (Prod.snd (Prod.snd x_2).2).2).1 (Prod.snd (Prod.snd x_2.2).2).2.2)).9]),some (.ints (some .u64) (FtO.s (ftF t n (Prod.snd (Prod.snd x_2.2).2).1 (Prod.snd (Prod.snd (Prod.snd x_2).2).2).1 (Prod.snd (Prod.snd x_2.2).2).2.2)).3),some (.abs (.store t n (ftF t n (Prod.snd (Prod.snd x_2.2).2).1 (Prod.snd (Prod.snd (Prod.snd x_2).2).2).1 (Prod.snd (Prod.snd x_2.2).2).2.2).3) []),some (.tab [some .i64,some .i64,some .i64] T),some (.tab [some .i64,none,some .i64] ((Prod.snd x_2).1++ [[(FtO.x (ftF t n (Prod.snd (Prod.snd x_2.2).2).1 (Prod.snd (Prod.snd (Prod.snd x_2).2).2).1 (Prod.snd (Prod.snd x_2.2).2).2.2)).1,bif (FtO.x (ftF t n (Prod.snd (Prod.snd x_2.2).2).1 (Prod.snd (Prod.snd (Prod.snd x_2).2).2).1 (Prod.snd (Prod.snd x_2.2).2).2.2)).2 then 1 else 0,(FtO.x (ftF t n (Prod.snd (Prod.snd x_2.2).2).1 (Prod.snd (Prod.snd (Prod.snd x_2).2).2).1 (Prod.snd (Prod.snd x_2.2).2).2.2)).3]]))]else dA (HRc t n most N T st s (↑(Prod.fst x):Int)) (fun x'=>Hint.ok (HRc t n most N T st s (↑(Prod.fst x):Int)) x'∧Hint.mu (HRc t n most N T st s (↑(Prod.fst x):Int)) x'<Hint.mu (HRc t n most N T st s (↑(Prod.fst x):Int)) x_2) [.ptr 0 0,.ptr 2 0,.int .i64 most,.O,.O,.O,.O,.O,.O,.O,.tslice 4 0 (List.length (Prod.snd x_2).1) 3,.O,.ptr 5 0,.O,.ptr 6 0,.tslice 3 0 (List.length T) 3,.int .i64 (↑(List.length T):Int),.int .i64 (↑x.1:Int),.O,.O,.O,.O,.O,.O,.O,.O,.O,.O,.O,.O,.O,.O,.O,.O,.O,.O,.O,.O,.O,.O,.O,.O,.O,.O,.O,.O,.O,.O,.O,.O,.O,.O,.O,.O,.O,.O,.O,.O] [some (.cells [.int .i64 (FtO.s (ftF t n (Prod.snd (Prod.snd x_2.2).2).1 (Prod.snd (Prod.snd (Prod.snd x_2).2).2).1 (Prod.snd (Prod.snd x_2.2).2).2.2)).1,.int .i64 (FtO.s (ftF t n (Prod.snd (Prod.snd x_2.2).2).1 (Prod.snd (Prod.snd (Prod.snd x_2).2).2).1 (Prod.snd (Prod.snd x_2.2).2).2.2)).2,.slice 1 0 (List.length (FtO.s (ftF t n (Prod.snd (Prod.snd x_2.2).2).1 (Prod.snd (Prod.snd (Prod.snd x_2).2).2).1 (Prod.snd (Prod.snd x_2.2).2).2.2)).3) 1,.int .i64 (FtO.s (ftF t n (Prod.snd (Prod.snd x_2.2).2).1 (Prod.snd (Prod.snd (Prod.snd x_2).2).2).1 (Prod.snd (Prod.snd x_2.2).2).2.2)).4,.int .i64 (FtO.s (ftF t n (Prod.snd (Prod.snd x_2.2).2).1 (Prod.snd (Prod.snd (Prod.snd x_2).2).2).1 (Prod.snd (Prod.snd x_2.2).2).2.2)).5,.int .i64 (FtO.s (ftF t n (Prod.snd (Prod.snd x_2.2).2).1 (Prod.snd (Prod.snd (Prod.snd x_2).2).2).1 (Prod.snd (Prod.snd x_2.2).2).2.2)).6,.int .u64 (FtO.s (ftF t n (Prod.snd (Prod.snd x_2.2).2).1 (Prod.snd (Prod.snd (Prod.snd x_2).2).2).1 (Prod.snd (Prod.snd x_2.2).2).2.2)).7,.int .u64 (FtO.s (ftF t n (Prod.snd (Prod.snd x_2.2).2).1 (Prod.snd (Prod.snd (Prod.snd x_2).2).2).1 (Prod.snd (Prod.snd x_2.2).2).2.2)).8,.bool (FtO.s (ftF t n (Prod.snd (Prod.snd x_2.2).2).1 (Prod.snd (Prod.snd (Prod.snd x_2).2).2).1 (Prod.snd (Prod.snd x_2.2).2).2.2)).9]),some (.ints (some .u64) (FtO.s (ftF t n (Prod.snd (Prod.snd x_2.2).2).1 (Prod.snd (Prod.snd (Prod.snd x_2).2).2).1 (Prod.snd (Prod.snd x_2.2).2).2.2)).3),some (.abs (.store t n (ftF t n (Prod.snd (Prod.snd x_2.2).2).1 (Prod.snd (Prod.snd (Prod.snd x_2).2).2).1 (Prod.snd (Prod.snd x_2.2).2).2.2).3) []),some (.tab [some .i64,some .i64,some .i64] T),some (.tab [some .i64,none,some .i64] (Prod.snd x_2).1),some (.cells [.int .i64 (r0 (List.getD T (Int.toNat (↑x.1:Int)) [])),.int .i64 (r1 (List.getD T (Int.toNat (↑x.1:Int)) [])),.int .i64 (r2 (List.getD T (Int.toNat (↑x.1:Int)) []))]),some (.abs (.fast t n (ftF t n (Prod.snd (Prod.snd x_2.2).2).1 (Prod.snd (Prod.snd (Prod.snd x_2).2).2).1 (Prod.snd (Prod.snd x_2.2).2).2.2).2) [2])]else dA (HRb t n most N T st s (↑(Prod.fst x):Int)) (fun x'=>Hint.ok (HRb t n most N T st s (↑(Prod.fst x):Int)) x'∧Hint.mu (HRb t n most N T st s (↑(Prod.fst x):Int)) x'<Hint.mu (HRb t n most N T st s (↑(Prod.fst x):Int)) x_1) [.ptr 0 0,.ptr 2 0,.int .i64 most,.O,.O,.O,.O,.O,.O,.O,.tslice 4 0 (List.length (Prod.snd x_1).1) 3,.O,.ptr 5 0,.ptr 6 0,.O,.tslice 3 0 (List.length T) 3,.int .i64 (↑(List.length T):Int),.int .i64 (↑x.1:Int),.O,.O,.O,.O,.O,.O,.O,.O,.O,.O,.O,.O,.O,.O,.O,.O,.O,.O,.O,.O,.O,.O,.O,.O,.O,.O,.O,.O,.O,.O,.O,.O,.O,.O,.O,.O,.O,.O,.O,.O] [some (.cells [.int .i64 (EO.s (enF t n (Prod.snd (Prod.snd x_1.2).2).1 (Prod.snd (Prod.snd (Prod.snd x_1).2).2).1 (Prod.snd (Prod.snd x_1.2).2).2.2)).1,.int .i64 (EO.s (enF t n (Prod.snd (Prod.snd x_1.2).2).1 (Prod.snd (Prod.snd (Prod.snd x_1).2).2).1 (Prod.snd (Prod.snd x_1.2).2).2.2)).2,.slice 1 0 (List.length (EO.s (enF t n (Prod.snd (Prod.snd x_1.2).2).1 (Prod.snd (Prod.snd (Prod.snd x_1).2).2).1 (Prod.snd (Prod.snd x_1.2).2).2.2)).3) 1,.int .i64 (EO.s (enF t n (Prod.snd (Prod.snd x_1.2).2).1 (Prod.snd (Prod.snd (Prod.snd x_1).2).2).1 (Prod.snd (Prod.snd x_1.2).2).2.2)).4,.int .i64 (EO.s (enF t n (Prod.snd (Prod.snd x_1.2).2).1 (Prod.snd (Prod.snd (Prod.snd x_1).2).2).1 (Prod.snd (Prod.snd x_1.2).2).2.2)).5,.int .i64 (EO.s (enF t n (Prod.snd (Prod.snd x_1.2).2).1 (Prod.snd (Prod.snd (Prod.snd x_1).2).2).1 (Prod.snd (Prod.snd x_1.2).2).2.2)).6,.int .u64 (EO.s (enF t n (Prod.snd (Prod.snd x_1.2).2).1 (Prod.snd (Prod.snd (Prod.snd x_1).2).2).1 (Prod.snd (Prod.snd x_1.2).2).2.2)).7,.int .u64 (EO.s (enF t n (Prod.snd (Prod.snd x_1.2).2).1 (Prod.snd (Prod.snd (Prod.snd x_1).2).2).1 (Prod.snd (Prod.snd x_1.2).2).2.2)).8,.bool (EO.s (enF t n (Prod.snd (Prod.snd x_1.2).2).1 (Prod.snd (Prod.snd (Prod.snd x_1).2).2).1 (Prod.snd (Prod.snd x_1.2).2).2.2)).9]),some (.ints (some .u64) (EO.s (enF t n (Prod.snd (Prod.snd x_1.2).2).1 (Prod.snd (Prod.snd (Prod.snd x_1).2).2).1 (Prod.snd (Prod.snd x_1.2).2).2.2)).3),some (.abs (.store t n (enF t n (Prod.snd (Prod.snd x_1.2).2).1 (Prod.snd (Prod.snd (Prod.snd x_1).2).2).1 (Prod.snd (Prod.snd x_1.2).2).2.2).3) []),some (.tab [some .i64,some .i64,some .i64] T),some (.tab [some .i64,none,some .i64] (Prod.snd x_1).1),some (.cells [.int .i64 (r0 (List.getD T (Int.toNat (↑x.1:Int)) [])),.int .i64 (r1 (List.getD T (Int.toNat (↑x.1:Int)) [])),.int .i64 (r2 (List.getD T (Int.toNat (↑x.1:Int)) []))]),some (.abs (.ensure t n (enF t n (Prod.snd (Prod.snd x_1.2).2).1 (Prod.snd (Prod.snd (Prod.snd x_1).2).2).1 (Prod.snd (Prod.snd x_1.2).2).2.2).2) [2])]else iS t n (List.headD (List.getD T (0+Int.toNat (↑x.1:Int)) []) 0) (List.headD (List.tail (List.getD T (0+Int.toNat (↑x.1:Int)) [])) 0) (List.headD (List.tail (List.tail (List.getD T (0+Int.toNat (↑x.1:Int)) []))) 0) most (Prod.snd x.2).1∧dA (HRc t n most N T st s (↑(Prod.fst x):Int)) (Hint.ok (HRc t n most N T st s (↑(Prod.fst x):Int))) [.ptr 0 0,.ptr 2 0,.int .i64 most,.O,.O,.O,.O,.O,.O,.O,.tslice 4 0 (List.length (Prod.snd x).1) 3,.O,.ptr 5 0,.O,.ptr 6 0,.tslice 3 0 (List.length T) 3,.int .i64 (↑(List.length T):Int),.int .i64 (↑x.1:Int),.O,.O,.O,.O,.O,.O,.O,.O,.O,.O,.O,.O,.O,.O,.O,.O,.O,.O,.O,.O,.O,.O,.O,.O,.O,.O,.O,.O,.O,.O,.O,.O,.O,.O,.O,.O,.O,.O,.O,.O] [some (.cells [.int .i64 (Prod.snd (Prod.snd x).2).1,.int .i64 (Prod.snd (Prod.snd x).2).2,.slice 1 0 (List.length (Prod.snd (Prod.snd x).2).3) 1,.int .i64 (Prod.snd (Prod.snd x).2).4,.int .i64 (Prod.snd (Prod.snd x).2).5,.int .i64 (Prod.snd (Prod.snd x).2).6,.int .u64 (Prod.snd (Prod.snd x).2).7,.int .u64 (Prod.snd (Prod.snd x).2).8,.bool (Prod.snd (Prod.snd x).2).9]),some (.ints (some .u64) (Prod.snd (Prod.snd x).2).3),some (.abs (.store t n (ftNF t n (List.headD (List.getD T (0+Int.toNat (↑x.1:Int)) []) 0) (List.headD (List.tail (List.getD T (0+Int.toNat (↑x.1:Int)) [])) 0) (List.headD (List.tail (List.tail (List.getD T (0+Int.toNat (↑x.1:Int)) []))) 0) most (Prod.snd x.2).1).2) []),some (.tab [some .i64,some .i64,some .i64] T),some (.tab [some .i64,none,some .i64] (Prod.snd x).1),some (.cells [.int .i64 (List.headD (List.getD T (0+Int.toNat (↑x.1:Int)) []) 0),.int .i64 (List.headD (List.tail (List.getD T (0+Int.toNat (↑x.1:Int)) [])) 0),.int .i64 (List.headD (List.tail (List.tail (List.getD T (0+Int.toNat (↑x.1:Int)) []))) 0)]),some (.abs (.fast t n (ftNF t n (List.headD (List.getD T (0+Int.toNat (↑x.1:Int)) []) 0) (List.headD (List.tail (List.getD T (0+Int.toNat (↑x.1:Int)) [])) 0) (List.headD (List.tail (List.tail (List.getD T (0+Int.toNat (↑x.1:Int)) []))) 0) most (Prod.snd x.2).1).1) [2])]∧ ∀(x_1:Hint.X (HRc t n most N T st s (↑(Prod.fst x):Int))),H9 t n most N T st s (↑x.1:Int) x_1→((lE' (Prod.snd (Prod.snd (Prod.snd x_1.2).2).2).3∧t=t∧n=n)∧ftOk t n (Prod.snd (Prod.snd x_1.2).2).1 (Prod.snd (Prod.snd (Prod.snd x_1).2).2).1 (Prod.snd (Prod.snd x_1.2).2).2.2)∧bif (ftF t n (Prod.snd (Prod.snd x_1.2).2).1 (Prod.snd (Prod.snd (Prod.snd x_1).2).2).1 (Prod.snd (Prod.snd x_1.2).2).2.2).1 then bif (FtO.x (ftF t n (Prod.snd (Prod.snd x_1.2).2).1 (Prod.snd (Prod.snd (Prod.snd x_1).2).2).1 (Prod.snd (Prod.snd x_1.2).2).2.2)).4 then K (.tup [.tslice 4 0 (List.length (Prod.snd x_1).1) 3,.bool false]) [some (.cells [.int .i64 (FtO.s (ftF t n (Prod.snd (Prod.snd x_1.2).2).1 (Prod.snd (Prod.snd (Prod.snd x_1).2).2).1 (Prod.snd (Prod.snd x_1.2).2).2.2)).1,.int .i64 (FtO.s (ftF t n (Prod.snd (Prod.snd x_1.2).2).1 (Prod.snd (Prod.snd (Prod.snd x_1).2).2).1 (Prod.snd (Prod.snd x_1.2).2).2.2)).2,.slice 1 0 (List.length (FtO.s (ftF t n (Prod.snd (Prod.snd x_1.2).2).1 (Prod.snd (Prod.snd (Prod.snd x_1).2).2).1 (Prod.snd (Prod.snd x_1.2).2).2.2)).3) 1,.int .i64 (FtO.s (ftF t n (Prod.snd (Prod.snd x_1.2).2).1 (Prod.snd (Prod.snd (Prod.snd x_1).2).2).1 (Prod.snd (Prod.snd x_1.2).2).2.2)).4,.int .i64 (FtO.s (ftF t n (Prod.snd (Prod.snd x_1.2).2).1 (Prod.snd (Prod.snd (Prod.snd x_1).2).2).1 (Prod.snd (Prod.snd x_1.2).2).2.2)).5,.int .i64 (FtO.s (ftF t n (Prod.snd (Prod.snd x_1.2).2).1 (Prod.snd (Prod.snd (Prod.snd x_1).2).2).1 (Prod.snd (Prod.snd x_1.2).2).2.2)).6,.int .u64 (FtO.s (ftF t n (Prod.snd (Prod.snd x_1.2).2).1 (Prod.snd (Prod.snd (Prod.snd x_1).2).2).1 (Prod.snd (Prod.snd x_1.2).2).2.2)).7,.int .u64 (FtO.s (ftF t n (Prod.snd (Prod.snd x_1.2).2).1 (Prod.snd (Prod.snd (Prod.snd x_1).2).2).1 (Prod.snd (Prod.snd x_1.2).2).2.2)).8,.bool (FtO.s (ftF t n (Prod.snd (Prod.snd x_1.2).2).1 (Prod.snd (Prod.snd (Prod.snd x_1).2).2).1 (Prod.snd (Prod.snd x_1.2).2).2.2)).9]),some (.ints (some .u64) (FtO.s (ftF t n (Prod.snd (Prod.snd x_1.2).2).1 (Prod.snd (Prod.snd (Prod.snd x_1).2).2).1 (Prod.snd (Prod.snd x_1.2).2).2.2)).3),some (.abs (.store t n (ftF t n (Prod.snd (Prod.snd x_1.2).2).1 (Prod.snd (Prod.snd (Prod.snd x_1).2).2).1 (Prod.snd (Prod.snd x_1.2).2).2.2).3) []),some (.tab [some .i64,some .i64,some .i64] T),some (.tab [some .i64,none,some .i64] (Prod.snd x_1).1)]else(0=0∧lE' (Prod.snd x_1).1∧List.length (Prod.snd x_1).1+(1:Nat)≤(4294967296:Nat))∧dA (o9 t n most N T st s) (fun x'=>Hint.ok (o9 t n most N T st s) x'∧Hint.mu (o9 t n most N T st s) x'<Hint.mu (o9 t n most N T st s) x) [.ptr 0 0,.ptr 2 0,.int .i64 most,.O,.O,.O,.O,.O,.O,.O,.tslice 4 0 (List.length (Prod.snd x_1).1+1) 3,.O,.O,.O,.O,.tslice 3 0 (List.length T) 3,.int .i64 (↑(List.length T):Int),.int .i64 (W ((↑x.1:Int)+1)),.O,.O,.O,.O,.O,.O,.O,.O,.O,.O,.O,.O,.O,.O,.O,.O,.O,.O,.O,.O,.O,.O,.O,.O,.O,.O,.O,.O,.O,.O,.O,.O,.O,.O,.O,.O,.O,.O,.O,.O] [some (.cells [.int .i64 (FtO.s (ftF t n (Prod.snd (Prod.snd x_1.2).2).1 (Prod.snd (Prod.snd (Prod.snd x_1).2).2).1 (Prod.snd (Prod.snd x_1.2).2).2.2)).1,.int .i64 (FtO.s (ftF t n (Prod.snd (Prod.snd x_1.2).2).1 (Prod.snd (Prod.snd (Prod.snd x_1).2).2).1 (Prod.snd (Prod.snd x_1.2).2).2.2)).2,.slice 1 0 (List.length (FtO.s (ftF t n (Prod.snd (Prod.snd x_1.2).2).1 (Prod.snd (Prod.snd (Prod.snd x_1).2).2).1 (Prod.snd (Prod.snd x_1.2).2).2.2)).3) 1,.int .i64 (FtO.s (ftF t n (Prod.snd (Prod.snd x_1.2).2).1 (Prod.snd (Prod.snd (Prod.snd x_1).2).2).1 (Prod.snd (Prod.snd x_1.2).2).2.2)).4,.int .i64 (FtO.s (ftF t n (Prod.snd (Prod.snd x_1.2).2).1 (Prod.snd (Prod.snd (Prod.snd x_1).2).2).1 (Prod.snd (Prod.snd x_1.2).2).2.2)).5,.int .i64 (FtO.s (ftF t n (Prod.snd (Prod.snd x_1.2).2).1 (Prod.snd (Prod.snd (Prod.snd x_1).2).2).1 (Prod.snd (Prod.snd x_1.2).2).2.2)).6,.int .u64 (FtO.s (ftF t n (Prod.snd (Prod.snd x_1.2).2).1 (Prod.snd (Prod.snd (Prod.snd x_1).2).2).1 (Prod.snd (Prod.snd x_1.2).2).2.2)).7,.int .u64 (FtO.s (ftF t n (Prod.snd (Prod.snd x_1.2).2).1 (Prod.snd (Prod.snd (Prod.snd x_1).2).2).1 (Prod.snd (Prod.snd x_1.2).2).2.2)).8,.bool (FtO.s (ftF t n (Prod.snd (Prod.snd x_1.2).2).1 (Prod.snd (Prod.snd (Prod.snd x_1).2).2).1 (Prod.snd (Prod.snd x_1.2).2).2.2)).9]),some (.ints (some .u64) (FtO.s (ftF t n (Prod.snd (Prod.snd x_1.2).2).1 (Prod.snd (Prod.snd (Prod.snd x_1).2).2).1 (Prod.snd (Prod.snd x_1.2).2).2.2)).3),some (.abs (.store t n (ftF t n (Prod.snd (Prod.snd x_1.2).2).1 (Prod.snd (Prod.snd (Prod.snd x_1).2).2).1 (Prod.snd (Prod.snd x_1.2).2).2.2).3) []),some (.tab [some .i64,some .i64,some .i64] T),some (.tab [some .i64,none,some .i64] ((Prod.snd x_1).1++ [[(FtO.x (ftF t n (Prod.snd (Prod.snd x_1.2).2).1 (Prod.snd (Prod.snd (Prod.snd x_1).2).2).1 (Prod.snd (Prod.snd x_1.2).2).2.2)).1,bif (FtO.x (ftF t n (Prod.snd (Prod.snd x_1.2).2).1 (Prod.snd (Prod.snd (Prod.snd x_1).2).2).1 (Prod.snd (Prod.snd x_1.2).2).2.2)).2 then 1 else 0,(FtO.x (ftF t n (Prod.snd (Prod.snd x_1.2).2).1 (Prod.snd (Prod.snd (Prod.snd x_1).2).2).1 (Prod.snd (Prod.snd x_1.2).2).2.2)).3]]))]else dA (HRc t n most N T st s (↑(Prod.fst x):Int)) (fun x'=>Hint.ok (HRc t n most N T st s (↑(Prod.fst x):Int)) x'∧Hint.mu (HRc t n most N T st s (↑(Prod.fst x):Int)) x'<Hint.mu (HRc t n most N T st s (↑(Prod.fst x):Int)) x_1) [.ptr 0 0,.ptr 2 0,.int .i64 most,.O,.O,.O,.O,.O,.O,.O,.tslice 4 0 (List.length (Prod.snd x_1).1) 3,.O,.ptr 5 0,.O,.ptr 6 0,.tslice 3 0 (List.length T) 3,.int .i64 (↑(List.length T):Int),.int .i64 (↑x.1:Int),.O,.O,.O,.O,.O,.O,.O,.O,.O,.O,.O,.O,.O,.O,.O,.O,.O,.O,.O,.O,.O,.O,.O,.O,.O,.O,.O,.O,.O,.O,.O,.O,.O,.O,.O,.O,.O,.O,.O,.O] [some (.cells [.int .i64 (FtO.s (ftF t n (Prod.snd (Prod.snd x_1.2).2).1 (Prod.snd (Prod.snd (Prod.snd x_1).2).2).1 (Prod.snd (Prod.snd x_1.2).2).2.2)).1,.int .i64 (FtO.s (ftF t n (Prod.snd (Prod.snd x_1.2).2).1 (Prod.snd (Prod.snd (Prod.snd x_1).2).2).1 (Prod.snd (Prod.snd x_1.2).2).2.2)).2,.slice 1 0 (List.length (FtO.s (ftF t n (Prod.snd (Prod.snd x_1.2).2).1 (Prod.snd (Prod.snd (Prod.snd x_1).2).2).1 (Prod.snd (Prod.snd x_1.2).2).2.2)).3) 1,.int .i64 (FtO.s (ftF t n (Prod.snd (Prod.snd x_1.2).2).1 (Prod.snd (Prod.snd (Prod.snd x_1).2).2).1 (Prod.snd (Prod.snd x_1.2).2).2.2)).4,.int .i64 (FtO.s (ftF t n (Prod.snd (Prod.snd x_1.2).2).1 (Prod.snd (Prod.snd (Prod.snd x_1).2).2).1 (Prod.snd (Prod.snd x_1.2).2).2.2)).5,.int .i64 (FtO.s (ftF t n (Prod.snd (Prod.snd x_1.2).2).1 (Prod.snd (Prod.snd (Prod.snd x_1).2).2).1 (Prod.snd (Prod.snd x_1.2).2).2.2)).6,.int .u64 (FtO.s (ftF t n (Prod.snd (Prod.snd x_1.2).2).1 (Prod.snd (Prod.snd (Prod.snd x_1).2).2).1 (Prod.snd (Prod.snd x_1.2).2).2.2)).7,.int .u64 (FtO.s (ftF t n (Prod.snd (Prod.snd x_1.2).2).1 (Prod.snd (Prod.snd (Prod.snd x_1).2).2).1 (Prod.snd (Prod.snd x_1.2).2).2.2)).8,.bool (FtO.s (ftF t n (Prod.snd (Prod.snd x_1.2).2).1 (Prod.snd (Prod.snd (Prod.snd x_1).2).2).1 (Prod.snd (Prod.snd x_1.2).2).2.2)).9]),some (.ints (some .u64) (FtO.s (ftF t n (Prod.snd (Prod.snd x_1.2).2).1 (Prod.snd (Prod.snd (Prod.snd x_1).2).2).1 (Prod.snd (Prod.snd x_1.2).2).2.2)).3),some (.abs (.store t n (ftF t n (Prod.snd (Prod.snd x_1.2).2).1 (Prod.snd (Prod.snd (Prod.snd x_1).2).2).1 (Prod.snd (Prod.snd x_1.2).2).2.2).3) []),some (.tab [some .i64,some .i64,some .i64] T),some (.tab [some .i64,none,some .i64] (Prod.snd x_1).1),some (.cells [.int .i64 (r0 (List.getD T (Int.toNat (↑x.1:Int)) [])),.int .i64 (r1 (List.getD T (Int.toNat (↑x.1:Int)) [])),.int .i64 (r2 (List.getD T (Int.toNat (↑x.1:Int)) []))]),some (.abs (.fast t n (ftF t n (Prod.snd (Prod.snd x_1.2).2).1 (Prod.snd (Prod.snd (Prod.snd x_1).2).2).1 (Prod.snd (Prod.snd x_1.2).2).2.2).2) [2])]else iS t n (List.headD (List.getD T (0+Int.toNat (↑x.1:Int)) []) 0) (List.headD (List.tail (List.getD T (0+Int.toNat (↑x.1:Int)) [])) 0) (List.headD (List.tail (List.tail (List.getD T (0+Int.toNat (↑x.1:Int)) []))) 0) most (Prod.snd x.2).1∧dA (HRc t n most N T st s (↑(Prod.fst x):Int)) (Hint.ok (HRc t n most N T st s (↑(Prod.fst x):Int))) [.ptr 0 0,.ptr 2 0,.int .i64 most,.O,.O,.O,.O,.O,.O,.O,.tslice 4 0 (List.length (Prod.snd x).1) 3,.O,.ptr 5 0,.O,.ptr 6 0,.tslice 3 0 (List.length T) 3,.int .i64 (↑(List.length T):Int),.int .i64 (↑x.1:Int),.O,.O,.O,.O,.O,.O,.O,.O,.O,.O,.O,.O,.O,.O,.O,.O,.O,.O,.O,.O,.O,.O,.O,.O,.O,.O,.O,.O,.O,.O,.O,.O,.O,.O,.O,.O,.O,.O,.O,.O] [some (.cells [.int .i64 (Prod.snd (Prod.snd x).2).1,.int .i64 (Prod.snd (Prod.snd x).2).2,.slice 1 0 (List.length (Prod.snd (Prod.snd x).2).3) 1,.int .i64 (Prod.snd (Prod.snd x).2).4,.int .i64 (Prod.snd (Prod.snd x).2).5,.int .i64 (Prod.snd (Prod.snd x).2).6,.int .u64 (Prod.snd (Prod.snd x).2).7,.int .u64 (Prod.snd (Prod.snd x).2).8,.bool (Prod.snd (Prod.snd x).2).9]),some (.ints (some .u64) (Prod.snd (Prod.snd x).2).3),some (.abs (.store t n (ftNF t n (List.headD (List.getD T (0+Int.toNat (↑x.1:Int)) []) 0) (List.headD (List.tail (List.getD T (0+Int.toNat (↑x.1:Int)) [])) 0) (List.headD (List.tail (List.tail (List.getD T (0+Int.toNat (↑x.1:Int)) []))) 0) most (Prod.snd x.2).1).2) []),some (.tab [some .i64,some .i64,some .i64] T),some (.tab [some .i64,none,some .i64] (Prod.snd x).1),some (.cells [.int .i64 (List.headD (List.getD T (0+Int.toNat (↑x.1:Int)) []) 0),.int .i64 (List.headD (List.tail (List.getD T (0+Int.toNat (↑x.1:Int)) [])) 0),.int .i64 (List.headD (List.tail (List.tail (List.getD T (0+Int.toNat (↑x.1:Int)) []))) 0)]),some (.abs (.fast t n (ftNF t n (List.headD (List.getD T (0+Int.toNat (↑x.1:Int)) []) 0) (List.headD (List.tail (List.getD T (0+Int.toNat (↑x.1:Int)) [])) 0) (List.headD (List.tail (List.tail (List.getD T (0+Int.toNat (↑x.1:Int)) []))) 0) most (Prod.snd x.2).1).1) [2])]∧ ∀(x_1:Hint.X (HRc t n most N T st s (↑(Prod.fst x):Int))),H9 t n most N T st s (↑x.1:Int) x_1→((lE' (Prod.snd (Prod.snd (Prod.snd x_1.2).2).2).3∧t=t∧n=n)∧ftOk t n (Prod.snd (Prod.snd x_1.2).2).1 (Prod.snd (Prod.snd (Prod.snd x_1).2).2).1 (Prod.snd (Prod.snd x_1.2).2).2.2)∧bif (ftF t n (Prod.snd (Prod.snd x_1.2).2).1 (Prod.snd (Prod.snd (Prod.snd x_1).2).2).1 (Prod.snd (Prod.snd x_1.2).2).2.2).1 then bif (FtO.x (ftF t n (Prod.snd (Prod.snd x_1.2).2).1 (Prod.snd (Prod.snd (Prod.snd x_1).2).2).1 (Prod.snd (Prod.snd x_1.2).2).2.2)).4 then K (.tup [.tslice 4 0 (List.length (Prod.snd x_1).1) 3,.bool false]) [some (.cells [.int .i64 (FtO.s (ftF t n (Prod.snd (Prod.snd x_1.2).2).1 (Prod.snd (Prod.snd (Prod.snd x_1).2).2).1 (Prod.snd (Prod.snd x_1.2).2).2.2)).1,.int .i64 (FtO.s (ftF t n (Prod.snd (Prod.snd x_1.2).2).1 (Prod.snd (Prod.snd (Prod.snd x_1).2).2).1 (Prod.snd (Prod.snd x_1.2).2).2.2)).2,.slice 1 0 (List.length (FtO.s (ftF t n (Prod.snd (Prod.snd x_1.2).2).1 (Prod.snd (Prod.snd (Prod.snd x_1).2).2).1 (Prod.snd (Prod.snd x_1.2).2).2.2)).3) 1,.int .i64 (FtO.s (ftF t n (Prod.snd (Prod.snd x_1.2).2).1 (Prod.snd (Prod.snd (Prod.snd x_1).2).2).1 (Prod.snd (Prod.snd x_1.2).2).2.2)).4,.int .i64 (FtO.s (ftF t n (Prod.snd (Prod.snd x_1.2).2).1 (Prod.snd (Prod.snd (Prod.snd x_1).2).2).1 (Prod.snd (Prod.snd x_1.2).2).2.2)).5,.int .i64 (FtO.s (ftF t n (Prod.snd (Prod.snd x_1.2).2).1 (Prod.snd (Prod.snd (Prod.snd x_1).2).2).1 (Prod.snd (Prod.snd x_1.2).2).2.2)).6,.int .u64 (FtO.s (ftF t n (Prod.snd (Prod.snd x_1.2).2).1 (Prod.snd (Prod.snd (Prod.snd x_1).2).2).1 (Prod.snd (Prod.snd x_1.2).2).2.2)).7,.int .u64 (FtO.s (ftF t n (Prod.snd (Prod.snd x_1.2).2).1 (Prod.snd (Prod.snd (Prod.snd x_1).2).2).1 (Prod.snd (Prod.snd x_1.2).2).2.2)).8,.bool (FtO.s (ftF t n (Prod.snd (Prod.snd x_1.2).2).1 (Prod.snd (Prod.snd (Prod.snd x_1).2).2).1 (Prod.snd (Prod.snd x_1.2).2).2.2)).9]),some (.ints (some .u64) (FtO.s (ftF t n (Prod.snd (Prod.snd x_1.2).2).1 (Prod.snd (Prod.snd (Prod.snd x_1).2).2).1 (Prod.snd (Prod.snd x_1.2).2).2.2)).3),some (.abs (.store t n (ftF t n (Prod.snd (Prod.snd x_1.2).2).1 (Prod.snd (Prod.snd (Prod.snd x_1).2).2).1 (Prod.snd (Prod.snd x_1.2).2).2.2).3) []),some (.tab [some .i64,some .i64,some .i64] T),some (.tab [some .i64,none,some .i64] (Prod.snd x_1).1)]else(0=0∧lE' (Prod.snd x_1).1∧List.length (Prod.snd x_1).1+(1:Nat)≤(4294967296:Nat))∧dA (o9 t n most N T st s) (fun x'=>Hint.ok (o9 t n most N T st s) x'∧Hint.mu (o9 t n most N T st s) x'<Hint.mu (o9 t n most N T st s) x) [.ptr 0 0,.ptr 2 0,.int .i64 most,.O,.O,.O,.O,.O,.O,.O,.tslice 4 0 (List.length (Prod.snd x_1).1+1) 3,.O,.O,.O,.O,.tslice 3 0 (List.length T) 3,.int .i64 (↑(List.length T):Int),.int .i64 (W ((↑x.1:Int)+1)),.O,.O,.O,.O,.O,.O,.O,.O,.O,.O,.O,.O,.O,.O,.O,.O,.O,.O,.O,.O,.O,.O,.O,.O,.O,.O,.O,.O,.O,.O,.O,.O,.O,.O,.O,.O,.O,.O,.O,.O] [some (.cells [.int .i64 (FtO.s (ftF t n (Prod.snd (Prod.snd x_1.2).2).1 (Prod.snd (Prod.snd (Prod.snd x_1).2).2).1 (Prod.snd (Prod.snd x_1.2).2).2.2)).1,.int .i64 (FtO.s (ftF t n (Prod.snd (Prod.snd x_1.2).2).1 (Prod.snd (Prod.snd (Prod.snd x_1).2).2).1 (Prod.snd (Prod.snd x_1.2).2).2.2)).2,.slice 1 0 (List.length (FtO.s (ftF t n (Prod.snd (Prod.snd x_1.2).2).1 (Prod.snd (Prod.snd (Prod.snd x_1).2).2).1 (Prod.snd (Prod.snd x_1.2).2).2.2)).3) 1,.int .i64 (FtO.s (ftF t n (Prod.snd (Prod.snd x_1.2).2).1 (Prod.snd (Prod.snd (Prod.snd x_1).2).2).1 (Prod.snd (Prod.snd x_1.2).2).2.2)).4,.int .i64 (FtO.s (ftF t n (Prod.snd (Prod.snd x_1.2).2).1 (Prod.snd (Prod.snd (Prod.snd x_1).2).2).1 (Prod.snd (Prod.snd x_1.2).2).2.2)).5,.int .i64 (FtO.s (ftF t n (Prod.snd (Prod.snd x_1.2).2).1 (Prod.snd (Prod.snd (Prod.snd x_1).2).2).1 (Prod.snd (Prod.snd x_1.2).2).2.2)).6,.int .u64 (FtO.s (ftF t n (Prod.snd (Prod.snd x_1.2).2).1 (Prod.snd (Prod.snd (Prod.snd x_1).2).2).1 (Prod.snd (Prod.snd x_1.2).2).2.2)).7,.int .u64 (FtO.s (ftF t n (Prod.snd (Prod.snd x_1.2).2).1 (Prod.snd (Prod.snd (Prod.snd x_1).2).2).1 (Prod.snd (Prod.snd x_1.2).2).2.2)).8,.bool (FtO.s (ftF t n (Prod.snd (Prod.snd x_1.2).2).1 (Prod.snd (Prod.snd (Prod.snd x_1).2).2).1 (Prod.snd (Prod.snd x_1.2).2).2.2)).9]),some (.ints (some .u64) (FtO.s (ftF t n (Prod.snd (Prod.snd x_1.2).2).1 (Prod.snd (Prod.snd (Prod.snd x_1).2).2).1 (Prod.snd (Prod.snd x_1.2).2).2.2)).3),some (.abs (.store t n (ftF t n (Prod.snd (Prod.snd x_1.2).2).1 (Prod.snd (Prod.snd (Prod.snd x_1).2).2).1 (Prod.snd (Prod.snd x_1.2).2).2.2).3) []),some (.tab [some .i64,some .i64,some .i64] T),some (.tab [some .i64,none,some .i64] ((Prod.snd x_1).1++ [[(FtO.x (ftF t n (Prod.snd (Prod.snd x_1.2).2).1 (Prod.snd (Prod.snd (Prod.snd x_1).2).2).1 (Prod.snd (Prod.snd x_1.2).2).2.2)).1,bif (FtO.x (ftF t n (Prod.snd (Prod.snd x_1.2).2).1 (Prod.snd (Prod.snd (Prod.snd x_1).2).2).1 (Prod.snd (Prod.snd x_1.2).2).2.2)).2 then 1 else 0,(FtO.x (ftF t n (Prod.snd (Prod.snd x_1.2).2).1 (Prod.snd (Prod.snd (Prod.snd x_1).2).2).1 (Prod.snd (Prod.snd x_1.2).2).2.2)).3]]))]else dA (HRc t n most N T st s (↑(Prod.fst x):Int)) (fun x'=>Hint.ok (HRc t n most N T st s (↑(Prod.fst x):Int)) x'∧Hint.mu (HRc t n most N T st s (↑(Prod.fst x):Int)) x'<Hint.mu (HRc t n most N T st s (↑(Prod.fst x):Int)) x_1) [.ptr 0 0,.ptr 2 0,.int .i64 most,.O,.O,.O,.O,.O,.O,.O,.tslice 4 0 (List.length (Prod.snd x_1).1) 3,.O,.ptr 5 0,.O,.ptr 6 0,.tslice 3 0 (List.length T) 3,.int .i64 (↑(List.length T):Int),.int .i64 (↑x.1:Int),.O,.O,.O,.O,.O,.O,.O,.O,.O,.O,.O,.O,.O,.O,.O,.O,.O,.O,.O,.O,.O,.O,.O,.O,.O,.O,.O,.O,.O,.O,.O,.O,.O,.O,.O,.O,.O,.O,.O,.O] [some (.cells [.int .i64 (FtO.s (ftF t n (Prod.snd (Prod.snd x_1.2).2).1 (Prod.snd (Prod.snd (Prod.snd x_1).2).2).1 (Prod.snd (Prod.snd x_1.2).2).2.2)).1,.int .i64 (FtO.s (ftF t n (Prod.snd (Prod.snd x_1.2).2).1 (Prod.snd (Prod.snd (Prod.snd x_1).2).2).1 (Prod.snd (Prod.snd x_1.2).2).2.2)).2,.slice 1 0 (List.length (FtO.s (ftF t n (Prod.snd (Prod.snd x_1.2).2).1 (Prod.snd (Prod.snd (Prod.snd x_1).2).2).1 (Prod.snd (Prod.snd x_1.2).2).2.2)).3) 1,.int .i64 (FtO.s (ftF t n (Prod.snd (Prod.snd x_1.2).2).1 (Prod.snd (Prod.snd (Prod.snd x_1).2).2).1 (Prod.snd (Prod.snd x_1.2).2).2.2)).4,.int .i64 (FtO.s (ftF t n (Prod.snd (Prod.snd x_1.2).2).1 (Prod.snd (Prod.snd (Prod.snd x_1).2).2).1 (Prod.snd (Prod.snd x_1.2).2).2.2)).5,.int .i64 (FtO.s (ftF t n (Prod.snd (Prod.snd x_1.2).2).1 (Prod.snd (Prod.snd (Prod.snd x_1).2).2).1 (Prod.snd (Prod.snd x_1.2).2).2.2)).6,.int .u64 (FtO.s (ftF t n (Prod.snd (Prod.snd x_1.2).2).1 (Prod.snd (Prod.snd (Prod.snd x_1).2).2).1 (Prod.snd (Prod.snd x_1.2).2).2.2)).7,.int .u64 (FtO.s (ftF t n (Prod.snd (Prod.snd x_1.2).2).1 (Prod.snd (Prod.snd (Prod.snd x_1).2).2).1 (Prod.snd (Prod.snd x_1.2).2).2.2)).8,.bool (FtO.s (ftF t n (Prod.snd (Prod.snd x_1.2).2).1 (Prod.snd (Prod.snd (Prod.snd x_1).2).2).1 (Prod.snd (Prod.snd x_1.2).2).2.2)).9]),some (.ints (some .u64) (FtO.s (ftF t n (Prod.snd (Prod.snd x_1.2).2).1 (Prod.snd (Prod.snd (Prod.snd x_1).2).2).1 (Prod.snd (Prod.snd x_1.2).2).2.2)).3),some (.abs (.store t n (ftF t n (Prod.snd (Prod.snd x_1.2).2).1 (Prod.snd (Prod.snd (Prod.snd x_1).2).2).1 (Prod.snd (Prod.snd x_1.2).2).2.2).3) []),some (.tab [some .i64,some .i64,some .i64] T),some (.tab [some .i64,none,some .i64] (Prod.snd x_1).1),some (.cells [.int .i64 (r0 (List.getD T (Int.toNat (↑x.1:Int)) [])),.int .i64 (r1 (List.getD T (Int.toNat (↑x.1:Int)) [])),.int .i64 (r2 (List.getD T (Int.toNat (↑x.1:Int)) []))]),some (.abs (.fast t n (ftF t n (Prod.snd (Prod.snd x_1.2).2).1 (Prod.snd (Prod.snd (Prod.snd x_1).2).2).1 (Prod.snd (Prod.snd x_1.2).2).2.2).2) [2])]else K (.tup [.tslice 4 0 (List.length (Prod.snd x).1) 3,.bool true]) [some (.cells [.int .i64 (Prod.snd (Prod.snd x).2).1,.int .i64 (Prod.snd (Prod.snd x).2).2,.slice 1 0 (List.length (Prod.snd (Prod.snd x).2).3) 1,.int .i64 (Prod.snd (Prod.snd x).2).4,.int .i64 (Prod.snd (Prod.snd x).2).5,.int .i64 (Prod.snd (Prod.snd x).2).6,.int .u64 (Prod.snd (Prod.snd x).2).7,.int .u64 (Prod.snd (Prod.snd x).2).8,.bool (Prod.snd (Prod.snd x).2).9]),some (.ints (some .u64) (Prod.snd (Prod.snd x).2).3),some (.abs (.store t n (Prod.snd x.2).1) []),some (.tab [some .i64,some .i64,some .i64] T),some (.tab [some .i64,none,some .i64] (Prod.snd x).1)]
theorem z1(t n most:Int)(N:Nat)(T:List (List Int))(st:STS)(s:MS)(K:AVal→aA Ob→Prop)(h:CB t n most N T st s K):cT' 31 [.ptr 0 0,.ptr 2 0,.int .i64 most,.tslice 3 0 T.length 3] [bB 1 s,bC s,some (.abs (.store t n st) []),some (.tab KT T)] K:=by
 refine J8 (aH (E:=EFr) Tryz.checked.mixed (L:=IM t n most N T st s) (n:=10) (aV (by kernel_rfl) h))
theorem p5(t n most:Int)(N:Nat)(r:List Int)(T:List (List Int))(st:STS)(s:MS):frF t n most N (r::T) st s=bif (frX t n most N r st s).1.failed then([],false,(frX t n most N r st s).2)else(m0 (frX t n most N r st s).1::(frF t n most N T (frX t n most N r st s).2.1 (frX t n most N r st s).2.2).1,(frF t n most N T (frX t n most N r st s).2.1 (frX t n most N r st s).2.2).2):=rfl
theorem kC(t n:Int)(f:Nat)(x:FTS)(st:STS)(s:MS):m8 t n (f+1) x st s=bif (ftF t n x st s).d then((ftF t n x st s).x,(ftF t n x st s).st,(ftF t n x st s).s)else m8 t n f (ftF t n x st s).x (ftF t n x st s).st (ftF t n x st s).s :=rfl
theorem wD(t n:Int)(f:Nat)(x:ENS)(st:STS)(s:MS):pV t n (f+1) x st s=bif (enF t n x st s).d then(true,(enF t n x st s).e,(enF t n x st s).st,(enF t n x st s).s)else pV t n f (enF t n x st s).e (enF t n x st s).st (enF t n x st s).s :=rfl
theorem HK(t n most:Int)(N:Nat)(T:List (List Int))(st:STS)(s:MS)(K:AVal→aA Ob→Prop)(hT:T.length≤1000000)(ok:u2 t n most N T st s)
 (hK:K (.tup [.tslice 4 0 (frF t n most N T st s).1.length 3,.bool (frF t n most N T st s).2.1]) [bB 1 (frF t n most N T st s).2.2.2,bC (frF t n most N T st s).2.2.2,some (.abs (.store t n (frF t n most N T st s).2.2.1) []),some (.tab KT T),some (.tab KR (frF t n most N T st s).1)]):CB t n most N T st s K:=by
 unfold CB
 refine⟨a9 (H:=o9 t n most N T st s) (0,[],st,s) rfl ⟨Nat.zero_le _,rfl,ok,rfl⟩,?_⟩
 rintro⟨i,R,st1,s1⟩ ⟨h1,hl,ok1,eq1⟩
 dsimp only at h1 hl ok1 eq1⊢
 have hti:((i:Nat):Int).toNat =i:=rfl
 refine tI (fun hi=>?_) (fun hi=>?_)
 ·have hi':i<T.length:=by omega
  have e0:0+Int.toNat ((i:Nat):Int)=i:=by omega
  have e4:W ((i:Int)+1)=((i+1:Nat):Int):=(dH (by omega)).trans rfl
  have hdr:T.drop i=T[i]::T.drop (i+1):=List.drop_eq_getElem_cons hi'
  have hg:List.getD T i []=T[i]:=by rw [gD',gE' hi'];rfl
  have a0:frA t n most N T st s (i,R,st1,s1):=⟨h1,hl,ok1,eq1⟩
  have okr:=ok1
  rw [hdr]at okr
  have okr:p6 t n most N T[i] st1 s1∧_:=okr
  obtain⟨⟨okE',okN,HV⟩,_⟩:=okr
  rw [e0]
  refine⟨⟨by omega,by omega⟩,hi',trivial,aO (fun hlk=>?_) (fun hlk=>?_)⟩
  ·have hlk:cU (r1 (List.getD T i []))=true:=hlk
   rw [hg]at hlk
   refine aO (fun hz=>?_) (fun hz=>?_)
   ·have hz:ieq st1.sp 0=true:=hz
    have hz0:st1.sp=0:=by simpa [cH]using hz
    refine⟨⟨⟨rfl,rfl,rfl⟩,trivial⟩,a9 (H:=HRb t n most N T st s i) (N,R,st1,s1,oC,st1,s1) rfl ⟨⟨by omega,by omega⟩,a0,by dsimp only;rw [hti,hg,hlk,hz];rfl,okE' hlk hz0,rfl⟩,?_⟩
    rintro⟨f,R1,sq,mq,e,sr,mr⟩ ⟨i0,a,lk,oke,eqe⟩
    dsimp only at a lk oke eqe⊢
    cases f with
    | zero=>exact oke.elim
    | succ f=>
      have oke:okE t n e sr mr∧((enF t n e sr mr).d =false→nM t n f (enF t n e sr mr).e (enF t n e sr mr).st (enF t n e sr mr).s):=oke
      refine⟨⟨⟨rfl,rfl,rfl⟩,oke.1⟩,aO (fun hd=>?_) (fun hd=>?_)⟩
      ·have hd:(enF t n e sr mr).d =true:=hd
       rw [wD,hd,cond_true]at eqe
       have okr2:=a.ok
       dsimp only at okr2
       rw [hti,hdr]at okr2
       have okr2:p6 t n most N T[i] sq mq∧_:=okr2
       obtain⟨⟨_,okN2,okF2⟩,_⟩:=okr2
       rw [hti,hg]at lk
       have eE:frE t n N (r1 T[i]) sq mq=((enF t n e sr mr).st,(enF t n e sr mr).s):=by
        unfold frE
        rw [lk,cond_true,eqe]
       have eX:frX t n most N T[i] sq mq=m8 t n N (ftNF t n (r0 T[i]) (r1 T[i]) (r2 T[i]) most (enF t n e sr mr).st).1 (ftNF t n (r0 T[i]) (r1 T[i]) (r2 T[i]) most (enF t n e sr mr).st).2 (enF t n e sr mr).s :=by
        unfold frX
        rw [eE]
       rw [eE]at okN2 okF2
       refine⟨by rw [hti,hg];exact okN2,a9 (H:=HRc t n most N T st s i) (N,R1,sq,mq,(ftNF t n (r0 T[i]) (r1 T[i]) (r2 T[i]) most (enF t n e sr mr).st).1,(ftNF t n (r0 T[i]) (r1 T[i]) (r2 T[i]) most (enF t n e sr mr).st).2,(enF t n e sr mr).s) (by simp only [hti,hg,HRc]<;>rfl) ⟨i0,a,okF2,by dsimp only;rw [hti,hg];exact eX⟩,?_⟩
       rintro⟨f,R2,sa,ma,y,sb,mb⟩ ⟨i0,a,okf,eqf⟩
       dsimp only at a okf eqf⊢
       cases f with
       | zero=>exact okf.elim
       | succ f=>
         have okf:ftOk t n y sb mb∧((ftF t n y sb mb).d =false→p7 t n f (ftF t n y sb mb).x (ftF t n y sb mb).st (ftF t n y sb mb).s):=okf
         rw [hti]at a eqf
         rw [hg]at eqf
         obtain⟨g1,gl,gok,geq⟩:=a
         dsimp only at g1 gl gok geq
         rw [hdr,p5]at geq
         rw [hdr]at gok
         have gok:p6 t n most N T[i] sa ma∧((frX t n most N T[i] sa ma).1.failed =false→u2 t n most N (T.drop (i+1)) (frX t n most N T[i] sa ma).2.1 (frX t n most N T[i] sa ma).2.2):=gok
         refine⟨⟨⟨rfl,rfl,rfl⟩,okf.1⟩,aO (fun hd=>?_) (fun hd=>?_)⟩
         ·have hd:(ftF t n y sb mb).d =true:=hd
          rw [kC,hd,cond_true]at eqf
          rw [eqf]at geq gok
          refine aO (fun hf=>?_) (fun hf=>?_)
          ·have hf:(ftF t n y sb mb).x.failed =true:=hf
           dsimp only at geq
           rw [hf,cond_true,List.append_nil]at geq
           rw [geq]at hK
           exact hK
          ·have hf:(ftF t n y sb mb).x.failed =false:=hf
           dsimp only at geq
           rw [hf,cond_false]at geq
           refine⟨⟨rfl,rfl,by omega⟩,a9 (H:=o9 t n most N T st s) (i+1,R2++ [m0 (ftF t n y sb mb).x],(ftF t n y sb mb).st,(ftF t n y sb mb).s) ?_ ⟨⟨hi',by show(R2++ [m0 _]).length =i+1;rw [List.length_append,gl];rfl,gok.2 hf,?_⟩,by show T.length - (i+1)<T.length - i;omega⟩⟩
           ·simp only [e4,o9,List.length_append,List.length_singleton]
            rfl
           ·rw [geq]
            simp only [List.append_assoc,List.singleton_append]
         ·have hd:(ftF t n y sb mb).d =false:=hd
          rw [kC,hd,cond_false]at eqf
          exact a9 (H:=HRc t n most N T st s i) (f,R2,sa,ma,(ftF t n y sb mb).x,(ftF t n y sb mb).st,(ftF t n y sb mb).s) rfl ⟨⟨i0,⟨g1,gl,by rw [hti,hdr];exact gok,by dsimp only;rw [hti,hdr,p5];exact geq⟩,okf.2 hd,by dsimp only;rw [hti,hg];exact eqf⟩,by show f<f+1;omega⟩
      ·have hd:(enF t n e sr mr).d =false:=hd
       rw [wD,hd,cond_false]at eqe
       exact a9 (H:=HRb t n most N T st s i) (f,R1,sq,mq,(enF t n e sr mr).e,(enF t n e sr mr).st,(enF t n e sr mr).s) rfl ⟨⟨i0,a,lk,oke.2 hd,eqe⟩,by show f<f+1;omega⟩
   ·have hz:ieq st1.sp 0=false:=hz
    have eE:frE t n N (r1 T[i]) st1 s1=(st1,s1):=by unfold frE;rw [hlk,hz];rfl
    have eX:frX t n most N T[i] st1 s1=m8 t n N (ftNF t n (r0 T[i]) (r1 T[i]) (r2 T[i]) most st1).1 (ftNF t n (r0 T[i]) (r1 T[i]) (r2 T[i]) most st1).2 s1:=by
     unfold frX
     rw [eE]
    rw [eE]at okN HV
    refine⟨by rw [hg];exact okN,a9 (H:=HRc t n most N T st s i) (N,R,st1,s1,(ftNF t n (r0 T[i]) (r1 T[i]) (r2 T[i]) most st1).1,(ftNF t n (r0 T[i]) (r1 T[i]) (r2 T[i]) most st1).2,s1) (by simp only [hti,hg,HRc]<;>rfl) ⟨⟨by omega,by omega⟩,a0,HV,by dsimp only;rw [hti,hg];exact eX⟩,?_⟩
    rintro⟨f,R2,sa,ma,y,sb,mb⟩ ⟨i0,a,okf,eqf⟩
    dsimp only at a okf eqf⊢
    cases f with
    | zero=>exact okf.elim
    | succ f=>
      have okf:ftOk t n y sb mb∧((ftF t n y sb mb).d =false→p7 t n f (ftF t n y sb mb).x (ftF t n y sb mb).st (ftF t n y sb mb).s):=okf
      rw [hti]at a eqf
      rw [hg]at eqf
      obtain⟨g1,gl,gok,geq⟩:=a
      dsimp only at g1 gl gok geq
      rw [hdr,p5]at geq
      rw [hdr]at gok
      have gok:p6 t n most N T[i] sa ma∧((frX t n most N T[i] sa ma).1.failed =false→u2 t n most N (T.drop (i+1)) (frX t n most N T[i] sa ma).2.1 (frX t n most N T[i] sa ma).2.2):=gok
      refine⟨⟨⟨rfl,rfl,rfl⟩,okf.1⟩,aO (fun hd=>?_) (fun hd=>?_)⟩
      ·have hd:(ftF t n y sb mb).d =true:=hd
       rw [kC,hd,cond_true]at eqf
       rw [eqf]at geq gok
       refine aO (fun hf=>?_) (fun hf=>?_)
       ·have hf:(ftF t n y sb mb).x.failed =true:=hf
        dsimp only at geq
        rw [hf,cond_true,List.append_nil]at geq
        rw [geq]at hK
        exact hK
       ·have hf:(ftF t n y sb mb).x.failed =false:=hf
        dsimp only at geq
        rw [hf,cond_false]at geq
        refine⟨⟨rfl,rfl,by omega⟩,a9 (H:=o9 t n most N T st s) (i+1,R2++ [m0 (ftF t n y sb mb).x],(ftF t n y sb mb).st,(ftF t n y sb mb).s) ?_ ⟨⟨hi',by show(R2++ [m0 _]).length =i+1;rw [List.length_append,gl];rfl,gok.2 hf,?_⟩,by show T.length - (i+1)<T.length - i;omega⟩⟩
        ·simp only [e4,o9,List.length_append,List.length_singleton]
         rfl
        ·rw [geq]
         simp only [List.append_assoc,List.singleton_append]
      ·have hd:(ftF t n y sb mb).d =false:=hd
       rw [kC,hd,cond_false]at eqf
       exact a9 (H:=HRc t n most N T st s i) (f,R2,sa,ma,(ftF t n y sb mb).x,(ftF t n y sb mb).st,(ftF t n y sb mb).s) rfl ⟨⟨i0,⟨g1,gl,by rw [hti,hdr];exact gok,by dsimp only;rw [hti,hdr,p5];exact geq⟩,okf.2 hd,by dsimp only;rw [hti,hg];exact eqf⟩,by show f<f+1;omega⟩
  ·have hlk:cU (r1 (List.getD T i []))=false:=hlk
   rw [hg]at hlk
   have eE:frE t n N (r1 T[i]) st1 s1=(st1,s1):=by unfold frE;rw [hlk];rfl
   have eX:frX t n most N T[i] st1 s1=m8 t n N (ftNF t n (r0 T[i]) (r1 T[i]) (r2 T[i]) most st1).1 (ftNF t n (r0 T[i]) (r1 T[i]) (r2 T[i]) most st1).2 s1:=by
    unfold frX
    rw [eE]
   rw [eE]at okN HV
   refine⟨by rw [hg];exact okN,a9 (H:=HRc t n most N T st s i) (N,R,st1,s1,(ftNF t n (r0 T[i]) (r1 T[i]) (r2 T[i]) most st1).1,(ftNF t n (r0 T[i]) (r1 T[i]) (r2 T[i]) most st1).2,s1) (by simp only [hti,hg,HRc]<;>rfl) ⟨⟨by omega,by omega⟩,a0,HV,by dsimp only;rw [hti,hg];exact eX⟩,?_⟩
   rintro⟨f,R2,sa,ma,y,sb,mb⟩ ⟨i0,a,okf,eqf⟩
   dsimp only at a okf eqf⊢
   cases f with
   | zero=>exact okf.elim
   | succ f=>
     have okf:ftOk t n y sb mb∧((ftF t n y sb mb).d =false→p7 t n f (ftF t n y sb mb).x (ftF t n y sb mb).st (ftF t n y sb mb).s):=okf
     rw [hti]at a eqf
     rw [hg]at eqf
     obtain⟨g1,gl,gok,geq⟩:=a
     dsimp only at g1 gl gok geq
     rw [hdr,p5]at geq
     rw [hdr]at gok
     have gok:p6 t n most N T[i] sa ma∧((frX t n most N T[i] sa ma).1.failed =false→u2 t n most N (T.drop (i+1)) (frX t n most N T[i] sa ma).2.1 (frX t n most N T[i] sa ma).2.2):=gok
     refine⟨⟨⟨rfl,rfl,rfl⟩,okf.1⟩,aO (fun hd=>?_) (fun hd=>?_)⟩
     ·have hd:(ftF t n y sb mb).d =true:=hd
      rw [kC,hd,cond_true]at eqf
      rw [eqf]at geq gok
      refine aO (fun hf=>?_) (fun hf=>?_)
      ·have hf:(ftF t n y sb mb).x.failed =true:=hf
       dsimp only at geq
       rw [hf,cond_true,List.append_nil]at geq
       rw [geq]at hK
       exact hK
      ·have hf:(ftF t n y sb mb).x.failed =false:=hf
       dsimp only at geq
       rw [hf,cond_false]at geq
       refine⟨⟨rfl,rfl,by omega⟩,a9 (H:=o9 t n most N T st s) (i+1,R2++ [m0 (ftF t n y sb mb).x],(ftF t n y sb mb).st,(ftF t n y sb mb).s) ?_ ⟨⟨hi',by show(R2++ [m0 _]).length =i+1;rw [List.length_append,gl];rfl,gok.2 hf,?_⟩,by show T.length - (i+1)<T.length - i;omega⟩⟩
       ·simp only [e4,o9,List.length_append,List.length_singleton]
        rfl
       ·rw [geq]
        simp only [List.append_assoc,List.singleton_append]
     ·have hd:(ftF t n y sb mb).d =false:=hd
      rw [kC,hd,cond_false]at eqf
      exact a9 (H:=HRc t n most N T st s i) (f,R2,sa,ma,(ftF t n y sb mb).x,(ftF t n y sb mb).st,(ftF t n y sb mb).s) rfl ⟨⟨i0,⟨g1,gl,by rw [hti,hdr];exact gok,by dsimp only;rw [hti,hdr,p5];exact geq⟩,okf.2 hd,by dsimp only;rw [hti,hg];exact eqf⟩,by show f<f+1;omega⟩
 ·have hi':T.length=i:=by omega
  rw [show T.drop i=[]from List.drop_eq_nil_of_le (by omega)]at eq1
  have eq1:frF t n most N T st s=(R++ [],true,st1,s1):=eq1
  rw [List.append_nil]at eq1
  rw [eq1]at hK
  exact hK
def xZ(t n most:Int)(T:List (List Int))(st:STS)(s:MS):List (List Int)×Bool×STS×MS:=frF t n most 20000 T st s
def z0(t n most:Int)(T:List (List Int))(st:STS)(s:MS):Prop:=u2 t n most 20000 T st s
noncomputable def frS:aK Ob:=fun args h=>match args,h with
 | [.ptr 0 0,.ptr 2 0,.int .i64 most,.tslice 3 0 l 3],[e1,e2,some (.abs (.store t n st) []),some (.tab [some .i64,some .i64,some .i64] T)]=>(match eJ 1 [e1,e2]with
   | some (l2,s)=>some (.pre ((l2=s.xs.length∧l=T.length)∧T.length≤1000000∧z0 t n most T st s) (.ret (.tup [.tslice 4 0 (xZ t n most T st s).1.length 3,.bool (xZ t n most T st s).2.1]) [bB 1 (xZ t n most T st s).2.2.2,bC (xZ t n most T st s).2.2.2,some (.abs (.store t n (xZ t n most T st s).2.2.1) []),some (.tab [some .i64,some .i64,some .i64] T),some (.tab [some .i64,none,some .i64] (xZ t n most T st s).1)]))
   | none=>none)
 | _,_=>none
theorem DM:sT' 31 frS:=by
 intro args h o ho K hK
 unfold frS at ho
 split at ho
 case h_2=>cases ho
 rename_i most l e1 e2 t n st T
 split at ho<;>cases ho
 rename_i l2 s hm
 obtain⟨⟨⟨hl2,rfl⟩,hT,ok⟩,hK⟩:=hK
 have hh:=bW hm hl2
 cases hh
 exact z1 t n most 20000 T st s K (HK t n most 20000 T st s K hT ok hK)
noncomputable def ftRunZ:aK Ob:=fun args h=>match args,h with
 | [.ptr 0 0,.int .i64 most,.slice 2 0 1 1],[e1,e2,some (.cells [.iface 35 (.ptr 3 0)]),some (.abs (.fast t n x) [4]),some (.abs (.store t2 n2 st) [])]=>(match eJ 1 [e1,e2]with
   | some (l,s)=>some (.pre ((l=s.xs.length∧t2=t∧n2=n)∧(0≤most∧most≤1000000)∧kK t n most.toNat x st s) (.ite (aW t n most.toNat x st s).2.1 (.ret (.tup [.int .i64 ((aW t n most.toNat x st s).1:Int),.bool true]) [bB 1 (aW t n most.toNat x st s).2.2.2.2,bC (aW t n most.toNat x st s).2.2.2.2,some (.cells [.iface 35 (.ptr 3 0)]),some (.cells [.ptr 4 0,.int .i64 (aW t n most.toNat x st s).2.2.1.code,.bool (aW t n most.toNat x st s).2.2.1.okk,.int .i64 (aW t n most.toNat x st s).2.2.1.val,.bool (aW t n most.toNat x st s).2.2.1.failed,.int .i64 (aW t n most.toNat x st s).2.2.1.tries,.int .i64 (aW t n most.toNat x st s).2.2.1.sh,.int .i64 (aW t n most.toNat x st s).2.2.1.kd,.int .i64 (aW t n most.toNat x st s).2.2.1.ky,.int .i64 (aW t n most.toNat x st s).2.2.1.most,.int .i64 (aW t n most.toNat x st s).2.2.1.at',.bool (aW t n most.toNat x st s).2.2.1.p.now,.int .i64 (aW t n most.toNat x st s).2.2.1.p.code,.bool (aW t n most.toNat x st s).2.2.1.p.okk,.int .i64 (aW t n most.toNat x st s).2.2.1.p.val,.int .i64 (aW t n most.toNat x st s).2.2.1.p.addr,.int .u64 (aW t n most.toNat x st s).2.2.1.p.old,.int .i64 (aW t n most.toNat x st s).2.2.1.p.nxt,.bool (aW t n most.toNat x st s).2.2.1.p.mark,.int .i64 (aW t n most.toNat x st s).2.2.1.p.pops,.O,.O,.O]),some (.abs (.store t n (aW t n most.toNat x st s).2.2.2.1) [])]) (.ret (.tup [.int .i64 ((aW t n most.toNat x st s).1:Int),.bool false]) [bB 1 (aW t n most.toNat x st s).2.2.2.2,bC (aW t n most.toNat x st s).2.2.2.2,some (.cells [.iface 35 (.ptr 3 0)]),some (.abs (.fast t n (aW t n most.toNat x st s).2.2.1) [4]),some (.abs (.store t n (aW t n most.toNat x st s).2.2.2.1) [])])))
   | none=>none)
 | _,_=>none
theorem x4:sT' 20 ftRunZ:=by
 intro args h o ho K hK
 unfold ftRunZ at ho
 split at ho
 case h_2=>cases ho
 rename_i most e1 e2 t n x t2 n2 st
 split at ho<;>cases ho
 rename_i l s hm
 obtain⟨⟨⟨hl,rfl,rfl⟩,hb,ok⟩,hK⟩:=hK
 unfold kK at ok
 unfold aW at hK
 have hh:=bW hm hl
 cases hh
 refine p9 t2 n2 most.toNat most x st s _ (DO t2 n2 most.toNat most x st s _ (by omega) (by omega) ok ?_)
 generalize bY t2 n2 most.toNat x st s=r at hK⊢
 obtain⟨c,b,y,sy,my⟩:=r
 cases b with
 | true=>exact hK
 | false=>exact hK
def stNewZ:aK Ob:=fun args h=>match args,h with
 | [.agg [.int .i64 t,.int .i64 n],.int .i64 me],[]=>some (.pre True (.ret (.ptr 0 0) [some (.abs (.store t n ⟨me,0,[]⟩) [])]))
 | _,_=>none
theorem yP:sT' 19 stNewZ:=by
 intro args h o ho K hK
 unfold stNewZ at ho
 split at ho<;>cases ho
 rename_i t n me
 obtain⟨_,hK⟩:=hK
 refine aC.pack (tb:=tbl) ?_
 refine tR [.agg [.int .i64 t,.int .i64 n],.int .i64 me] [] _ rfl _ ⟨trivial,⟨[0,1],[some (.abs (.store t n ⟨me,0,[]⟩) [])],.store t n ⟨me,0,[]⟩,0,0,iB t n ⟨me,0,[]⟩,[],by kernel_rfl,by kernel_rfl,rfl,rfl,hK⟩⟩
noncomputable def runZ:aK Ob:=ftRunZ
theorem C4:sT' 20 runZ:=x4
noncomputable def EFs:=((EFr.addS 19 stNewZ yP).addS 20 runZ C4).addS 31 (aK.or frS (i8 [(.slot 3,.tab [some .i64,some .i64,some .i64])] frS)) (KS DM (i9 DM))
def qW(K:AVal→aA Ob→Prop):Prop:=True∧bif !fP 1 3 then K (.bool false) []else(((0:Int)≤(1:Int)∧(1:Int)≤(100000:Int))∧(0:Int)≤(3:Int)∧(3:Int)≤(100000:Int))∧((((0:Int)≤(1:Int)∧(1:Int)≤(100000:Int))∧(0:Int)≤(3:Int)∧(3:Int)≤(100000:Int))∧True)∧((0:Int)≤(2:Int)*3+5*1+6∧2*3+5*1+(6:Int)=(2:Int)*3+5*1+6∧2*3+5*1+(6:Int)≤(4294967296:Int))∧True∧iS 1 3 4 5 0 0 {me:=0,sp:=0,R:=[] } ∧((17=17∧(1:Int)=(1:Int)∧(3:Int)=(3:Int))∧((0:Int)≤(9:Int)∧(9:Int)≤(1000000:Int))∧kK 1 3 9 (ftNF 1 3 4 5 0 0 {me:=0,sp:=0,R:=[] }).1 (ftNF 1 3 4 5 0 0 {me:=0,sp:=0,R:=[] }).2 {t:=1,n:=3,xs:=List.replicate (Int.toNat (2*3+5*1+6)) 0,c:=0,k:=0,a:=0,o:=0,w:=0,ok:=false})∧bif (Prod.snd (aW 1 3 9 (ftNF 1 3 4 5 0 0 {me:=0,sp:=0,R:=[] }).1 (ftNF 1 3 4 5 0 0 {me:=0,sp:=0,R:=[] }).2 {t:=1,n:=3,xs:=List.replicate (Int.toNat (2*3+5*1+6)) 0,c:=0,k:=0,a:=0,o:=0,w:=0,ok:=false})).1 then((lE' (Prod.snd (Prod.snd (aW 1 3 9 (ftNF 1 3 4 5 0 0 {me:=0,sp:=0,R:=[] }).1 (ftNF 1 3 4 5 0 0 {me:=0,sp:=0,R:=[] }).2 {t:=1,n:=3,xs:=List.replicate (Int.toNat (2*3+5*1+6)) 0,c:=0,k:=0,a:=0,o:=0,w:=0,ok:=false}).2).2).3∧2=2)∧List.length [[4,4,8],[4,5,0]]≤(1000000:Nat)∧z0 1 3 0 [[4,4,8],[4,5,0]] (Prod.snd (Prod.snd (aW 1 3 9 (ftNF 1 3 4 5 0 0 {me:=0,sp:=0,R:=[] }).1 (ftNF 1 3 4 5 0 0 {me:=0,sp:=0,R:=[] }).2 {t:=1,n:=3,xs:=List.replicate (Int.toNat (2*3+5*1+6)) 0,c:=0,k:=0,a:=0,o:=0,w:=0,ok:=false})).2).1 (Prod.snd (aW 1 3 9 (ftNF 1 3 4 5 0 0 {me:=0,sp:=0,R:=[] }).1 (ftNF 1 3 4 5 0 0 {me:=0,sp:=0,R:=[] }).2 {t:=1,n:=3,xs:=List.replicate (Int.toNat (2*3+5*1+6)) 0,c:=0,k:=0,a:=0,o:=0,w:=0,ok:=false}).2).2.2)∧bif ieq (↑(aW 1 3 9 (ftNF 1 3 4 5 0 0 {me:=0,sp:=0,R:=[] }).1 (ftNF 1 3 4 5 0 0 {me:=0,sp:=0,R:=[] }).2 {t:=1,n:=3,xs:=List.replicate (Int.toNat (2*3+5*1+6)) 0,c:=0,k:=0,a:=0,o:=0,w:=0,ok:=false}).1:Int) 1 then bif !(Prod.fst (Prod.snd (aW 1 3 9 (ftNF 1 3 4 5 0 0 {me:=0,sp:=0,R:=[] }).1 (ftNF 1 3 4 5 0 0 {me:=0,sp:=0,R:=[] }).2 {t:=1,n:=3,xs:=List.replicate (Int.toNat (2*3+5*1+6)) 0,c:=0,k:=0,a:=0,o:=0,w:=0,ok:=false})).2).4 then bif bif ieq (Prod.fst (Prod.snd (aW 1 3 9 (ftNF 1 3 4 5 0 0 {me:=0,sp:=0,R:=[] }).1 (ftNF 1 3 4 5 0 0 {me:=0,sp:=0,R:=[] }).2 {t:=1,n:=3,xs:=List.replicate (Int.toNat (2*3+5*1+6)) 0,c:=0,k:=0,a:=0,o:=0,w:=0,ok:=false})).2).1 0 then bif !(Prod.fst (Prod.snd (aW 1 3 9 (ftNF 1 3 4 5 0 0 {me:=0,sp:=0,R:=[] }).1 (ftNF 1 3 4 5 0 0 {me:=0,sp:=0,R:=[] }).2 {t:=1,n:=3,xs:=List.replicate (Int.toNat (2*3+5*1+6)) 0,c:=0,k:=0,a:=0,o:=0,w:=0,ok:=false})).2).2 then bif ieq (Prod.fst (Prod.snd (aW 1 3 9 (ftNF 1 3 4 5 0 0 {me:=0,sp:=0,R:=[] }).1 (ftNF 1 3 4 5 0 0 {me:=0,sp:=0,R:=[] }).2 {t:=1,n:=3,xs:=List.replicate (Int.toNat (2*3+5*1+6)) 0,c:=0,k:=0,a:=0,o:=0,w:=0,ok:=false})).2).3 0 then true else false else false else false then bif (Prod.snd (xZ 1 3 0 [[4,4,8],[4,5,0]] (Prod.snd (Prod.snd (aW 1 3 9 (ftNF 1 3 4 5 0 0 {me:=0,sp:=0,R:=[] }).1 (ftNF 1 3 4 5 0 0 {me:=0,sp:=0,R:=[] }).2 {t:=1,n:=3,xs:=List.replicate (Int.toNat (2*3+5*1+6)) 0,c:=0,k:=0,a:=0,o:=0,w:=0,ok:=false})).2).1 (Prod.snd (aW 1 3 9 (ftNF 1 3 4 5 0 0 {me:=0,sp:=0,R:=[] }).1 (ftNF 1 3 4 5 0 0 {me:=0,sp:=0,R:=[] }).2 {t:=1,n:=3,xs:=List.replicate (Int.toNat (2*3+5*1+6)) 0,c:=0,k:=0,a:=0,o:=0,w:=0,ok:=false}).2).2.2)).1 then bif ieq (↑(List.length (xZ 1 3 0 [[4,4,8],[4,5,0]] (Prod.snd (Prod.snd (aW 1 3 9 (ftNF 1 3 4 5 0 0 {me:=0,sp:=0,R:=[] }).1 (ftNF 1 3 4 5 0 0 {me:=0,sp:=0,R:=[] }).2 {t:=1,n:=3,xs:=List.replicate (Int.toNat (2*3+5*1+6)) 0,c:=0,k:=0,a:=0,o:=0,w:=0,ok:=false})).2).1 (Prod.snd (aW 1 3 9 (ftNF 1 3 4 5 0 0 {me:=0,sp:=0,R:=[] }).1 (ftNF 1 3 4 5 0 0 {me:=0,sp:=0,R:=[] }).2 {t:=1,n:=3,xs:=List.replicate (Int.toNat (2*3+5*1+6)) 0,c:=0,k:=0,a:=0,o:=0,w:=0,ok:=false}).2).2.2).1):Int) 2 then((0:Int)≤(1:Int)∧(1:Int)<(↑(List.length (xZ 1 3 0 [[4,4,8],[4,5,0]] (Prod.snd (Prod.snd (aW 1 3 9 (ftNF 1 3 4 5 0 0 {me:=0,sp:=0,R:=[] }).1 (ftNF 1 3 4 5 0 0 {me:=0,sp:=0,R:=[] }).2 {t:=1,n:=3,xs:=List.replicate (Int.toNat (2*3+5*1+6)) 0,c:=0,k:=0,a:=0,o:=0,w:=0,ok:=false})).2).1 (Prod.snd (aW 1 3 9 (ftNF 1 3 4 5 0 0 {me:=0,sp:=0,R:=[] }).1 (ftNF 1 3 4 5 0 0 {me:=0,sp:=0,R:=[] }).2 {t:=1,n:=3,xs:=List.replicate (Int.toNat (2*3+5*1+6)) 0,c:=0,k:=0,a:=0,o:=0,w:=0,ok:=false}).2).2.2).1):Int))∧0+Int.toNat (1:Int)<List.length (xZ 1 3 0 [[4,4,8],[4,5,0]] (Prod.snd (Prod.snd (aW 1 3 9 (ftNF 1 3 4 5 0 0 {me:=0,sp:=0,R:=[] }).1 (ftNF 1 3 4 5 0 0 {me:=0,sp:=0,R:=[] }).2 {t:=1,n:=3,xs:=List.replicate (Int.toNat (2*3+5*1+6)) 0,c:=0,k:=0,a:=0,o:=0,w:=0,ok:=false})).2).1 (Prod.snd (aW 1 3 9 (ftNF 1 3 4 5 0 0 {me:=0,sp:=0,R:=[] }).1 (ftNF 1 3 4 5 0 0 {me:=0,sp:=0,R:=[] }).2 {t:=1,n:=3,xs:=List.replicate (Int.toNat (2*3+5*1+6)) 0,c:=0,k:=0,a:=0,o:=0,w:=0,ok:=false}).2).2.2).1∧K (.bool (bif ieq (List.headD (List.getD (xZ 1 3 0 [[4,4,8],[4,5,0]] (Prod.snd (Prod.snd (aW 1 3 9 (ftNF 1 3 4 5 0 0 {me:=0,sp:=0,R:=[] }).1 (ftNF 1 3 4 5 0 0 {me:=0,sp:=0,R:=[] }).2 {t:=1,n:=3,xs:=List.replicate (Int.toNat (2*3+5*1+6)) 0,c:=0,k:=0,a:=0,o:=0,w:=0,ok:=false})).2).1 (Prod.snd (aW 1 3 9 (ftNF 1 3 4 5 0 0 {me:=0,sp:=0,R:=[] }).1 (ftNF 1 3 4 5 0 0 {me:=0,sp:=0,R:=[] }).2 {t:=1,n:=3,xs:=List.replicate (Int.toNat (2*3+5*1+6)) 0,c:=0,k:=0,a:=0,o:=0,w:=0,ok:=false}).2).2.2).1 (0+Int.toNat 1) []) 0) 0 then bif bif !ieq (List.headD (List.tail (List.getD (xZ 1 3 0 [[4,4,8],[4,5,0]] (Prod.snd (Prod.snd (aW 1 3 9 (ftNF 1 3 4 5 0 0 {me:=0,sp:=0,R:=[] }).1 (ftNF 1 3 4 5 0 0 {me:=0,sp:=0,R:=[] }).2 {t:=1,n:=3,xs:=List.replicate (Int.toNat (2*3+5*1+6)) 0,c:=0,k:=0,a:=0,o:=0,w:=0,ok:=false})).2).1 (Prod.snd (aW 1 3 9 (ftNF 1 3 4 5 0 0 {me:=0,sp:=0,R:=[] }).1 (ftNF 1 3 4 5 0 0 {me:=0,sp:=0,R:=[] }).2 {t:=1,n:=3,xs:=List.replicate (Int.toNat (2*3+5*1+6)) 0,c:=0,k:=0,a:=0,o:=0,w:=0,ok:=false}).2).2.2).1 (0+Int.toNat 1) [])) 0) 0 then true else false then bif ieq (List.headD (List.tail (List.tail (List.getD (xZ 1 3 0 [[4,4,8],[4,5,0]] (Prod.snd (Prod.snd (aW 1 3 9 (ftNF 1 3 4 5 0 0 {me:=0,sp:=0,R:=[] }).1 (ftNF 1 3 4 5 0 0 {me:=0,sp:=0,R:=[] }).2 {t:=1,n:=3,xs:=List.replicate (Int.toNat (2*3+5*1+6)) 0,c:=0,k:=0,a:=0,o:=0,w:=0,ok:=false})).2).1 (Prod.snd (aW 1 3 9 (ftNF 1 3 4 5 0 0 {me:=0,sp:=0,R:=[] }).1 (ftNF 1 3 4 5 0 0 {me:=0,sp:=0,R:=[] }).2 {t:=1,n:=3,xs:=List.replicate (Int.toNat (2*3+5*1+6)) 0,c:=0,k:=0,a:=0,o:=0,w:=0,ok:=false}).2).2.2).1 (0+Int.toNat 1) []))) 0) 8 then true else false else false else false)) []else K (.bool false) []else K (.bool false) []else K (.bool false) []else K (.bool false) []else K (.bool false) []else((lE' (Prod.snd (Prod.snd (aW 1 3 9 (ftNF 1 3 4 5 0 0 {me:=0,sp:=0,R:=[] }).1 (ftNF 1 3 4 5 0 0 {me:=0,sp:=0,R:=[] }).2 {t:=1,n:=3,xs:=List.replicate (Int.toNat (2*3+5*1+6)) 0,c:=0,k:=0,a:=0,o:=0,w:=0,ok:=false}).2).2).3∧2=2)∧List.length [[4,4,8],[4,5,0]]≤(1000000:Nat)∧z0 1 3 0 [[4,4,8],[4,5,0]] (Prod.snd (Prod.snd (aW 1 3 9 (ftNF 1 3 4 5 0 0 {me:=0,sp:=0,R:=[] }).1 (ftNF 1 3 4 5 0 0 {me:=0,sp:=0,R:=[] }).2 {t:=1,n:=3,xs:=List.replicate (Int.toNat (2*3+5*1+6)) 0,c:=0,k:=0,a:=0,o:=0,w:=0,ok:=false})).2).1 (Prod.snd (aW 1 3 9 (ftNF 1 3 4 5 0 0 {me:=0,sp:=0,R:=[] }).1 (ftNF 1 3 4 5 0 0 {me:=0,sp:=0,R:=[] }).2 {t:=1,n:=3,xs:=List.replicate (Int.toNat (2*3+5*1+6)) 0,c:=0,k:=0,a:=0,o:=0,w:=0,ok:=false}).2).2.2)∧bif ieq (↑(aW 1 3 9 (ftNF 1 3 4 5 0 0 {me:=0,sp:=0,R:=[] }).1 (ftNF 1 3 4 5 0 0 {me:=0,sp:=0,R:=[] }).2 {t:=1,n:=3,xs:=List.replicate (Int.toNat (2*3+5*1+6)) 0,c:=0,k:=0,a:=0,o:=0,w:=0,ok:=false}).1:Int) 1 then K (.bool false) []else K (.bool false) []
theorem uO(K:AVal→aA Ob→Prop)(h:qW K):cT' 14 [] [] K:=by
 refine J8 (cM' (E:=EFs) (by kernel_rfl) h)
set_option maxRecDepth 100000 in
theorem BG(K:AVal→aA Ob→Prop)(hK:K (.bool true) []):qW K:=by
 unfold qW
 with_unfolding_all repeat' (first | exact hK | trivial | decide | apply And.intro | apply okE.mk | apply okAl.mk | (intro h;exact absurd h (by decide)) | intro _)
def aw18S:aK Ob:=fun args h=>match args,h with
 | [],[]=>some (.pre True (.ret (.bool true) ([])))
 | _,_=>none
theorem BF:sT' 14 aw18S:=by
 intro args h o ho K hK
 unfold aw18S at ho
 split at ho
 case h_2=>cases ho
 simp only [sI']at ho;subst ho
 obtain⟨_,hK⟩:=hK
 exact uO K (BG K hK)
noncomputable def EFt:=EFs.addS 14 aw18S BF
noncomputable def EFu:=EFt.addS 15 (aK.or fillS (i8 [(.slot 3,.ints (some .i64))] fillS)) (KS rJ (i9 rJ))
def wX(sh kd ky most:Int)(K:AVal→aA Ob→Prop):Prop:=True∧(2=2∧rH 2 3 [4,6])∧True∧bif dF sh kd ky then bif !ieq kd 1 then bif !ieq kd 4 then K (.bool true) []else(lE' (aZ 1 2 ((↑(List.length [4,6]):Int)+3) [4,6]).3∧List.length (aZ 1 2 ((↑(List.length [4,6]):Int)+3) [4,6]).3≤(4294967296:Nat))∧(True∧True)∧(iS 2 ((↑(List.length [4,6]):Int)+3) sh kd ky most {me:=0,sp:=0,R:=[] } ∧True)∧((lE' (aZ 1 2 ((↑(List.length [4,6]):Int)+3) [4,6]).3∧(2:Int)=(2:Int)∧(↑(List.length [4,6]):Int)+(3:Int)=(↑(List.length [4,6]):Int)+3)∧((0:Int)≤(9:Int)∧(9:Int)≤(1000000:Int))∧kK 2 ((↑(List.length [4,6]):Int)+3) 9 (ftNF 2 ((↑(List.length [4,6]):Int)+3) sh kd ky most {me:=0,sp:=0,R:=[] }).1 (ftNF 2 ((↑(List.length [4,6]):Int)+3) sh kd ky most {me:=0,sp:=0,R:=[] }).2 (aZ 1 2 ((↑(List.length [4,6]):Int)+3) [4,6]))∧bif (Prod.snd (aW 2 ((↑(List.length [4,6]):Int)+3) 9 (ftNF 2 ((↑(List.length [4,6]):Int)+3) sh kd ky most {me:=0,sp:=0,R:=[] }).1 (ftNF 2 ((↑(List.length [4,6]):Int)+3) sh kd ky most {me:=0,sp:=0,R:=[] }).2 (aZ 1 2 ((↑(List.length [4,6]):Int)+3) [4,6]))).1 then bif ieq (↑(aW 2 ((↑(List.length [4,6]):Int)+3) 9 (ftNF 2 ((↑(List.length [4,6]):Int)+3) sh kd ky most {me:=0,sp:=0,R:=[] }).1 (ftNF 2 ((↑(List.length [4,6]):Int)+3) sh kd ky most {me:=0,sp:=0,R:=[] }).2 (aZ 1 2 ((↑(List.length [4,6]):Int)+3) [4,6])).1:Int) 1 then bif (Prod.fst (Prod.snd (aW 2 ((↑(List.length [4,6]):Int)+3) 9 (ftNF 2 ((↑(List.length [4,6]):Int)+3) sh kd ky most {me:=0,sp:=0,R:=[] }).1 (ftNF 2 ((↑(List.length [4,6]):Int)+3) sh kd ky most {me:=0,sp:=0,R:=[] }).2 (aZ 1 2 ((↑(List.length [4,6]):Int)+3) [4,6]))).2).4 then bif bif ieq (Prod.fst (Prod.snd (aW 2 ((↑(List.length [4,6]):Int)+3) 9 (ftNF 2 ((↑(List.length [4,6]):Int)+3) sh kd ky most {me:=0,sp:=0,R:=[] }).1 (ftNF 2 ((↑(List.length [4,6]):Int)+3) sh kd ky most {me:=0,sp:=0,R:=[] }).2 (aZ 1 2 ((↑(List.length [4,6]):Int)+3) [4,6]))).2).1 0 then bif !(Prod.fst (Prod.snd (aW 2 ((↑(List.length [4,6]):Int)+3) 9 (ftNF 2 ((↑(List.length [4,6]):Int)+3) sh kd ky most {me:=0,sp:=0,R:=[] }).1 (ftNF 2 ((↑(List.length [4,6]):Int)+3) sh kd ky most {me:=0,sp:=0,R:=[] }).2 (aZ 1 2 ((↑(List.length [4,6]):Int)+3) [4,6]))).2).2 then bif ieq (Prod.fst (Prod.snd (aW 2 ((↑(List.length [4,6]):Int)+3) 9 (ftNF 2 ((↑(List.length [4,6]):Int)+3) sh kd ky most {me:=0,sp:=0,R:=[] }).1 (ftNF 2 ((↑(List.length [4,6]):Int)+3) sh kd ky most {me:=0,sp:=0,R:=[] }).2 (aZ 1 2 ((↑(List.length [4,6]):Int)+3) [4,6]))).2).3 0 then true else false else false else false then bif ieq (Prod.fst (Prod.snd (aW 2 ((↑(List.length [4,6]):Int)+3) 9 (ftNF 2 ((↑(List.length [4,6]):Int)+3) sh kd ky most {me:=0,sp:=0,R:=[] }).1 (ftNF 2 ((↑(List.length [4,6]):Int)+3) sh kd ky most {me:=0,sp:=0,R:=[] }).2 (aZ 1 2 ((↑(List.length [4,6]):Int)+3) [4,6]))).2).5 0 then bif bif ieq (Prod.snd (Prod.snd (aW 2 ((↑(List.length [4,6]):Int)+3) 9 (ftNF 2 ((↑(List.length [4,6]):Int)+3) sh kd ky most {me:=0,sp:=0,R:=[] }).1 (ftNF 2 ((↑(List.length [4,6]):Int)+3) sh kd ky most {me:=0,sp:=0,R:=[] }).2 (aZ 1 2 ((↑(List.length [4,6]):Int)+3) [4,6])).2).2).1 (aZ 1 2 ((↑(List.length [4,6]):Int)+3) [4,6]).1 then bif ieq (Prod.snd (Prod.snd (aW 2 ((↑(List.length [4,6]):Int)+3) 9 (ftNF 2 ((↑(List.length [4,6]):Int)+3) sh kd ky most {me:=0,sp:=0,R:=[] }).1 (ftNF 2 ((↑(List.length [4,6]):Int)+3) sh kd ky most {me:=0,sp:=0,R:=[] }).2 (aZ 1 2 ((↑(List.length [4,6]):Int)+3) [4,6])).2).2).2 (aZ 1 2 ((↑(List.length [4,6]):Int)+3) [4,6]).2 then true else false else false then(((lE' (Prod.snd (Prod.snd (aW 2 ((↑(List.length [4,6]):Int)+3) 9 (ftNF 2 ((↑(List.length [4,6]):Int)+3) sh kd ky most {me:=0,sp:=0,R:=[] }).1 (ftNF 2 ((↑(List.length [4,6]):Int)+3) sh kd ky most {me:=0,sp:=0,R:=[] }).2 (aZ 1 2 ((↑(List.length [4,6]):Int)+3) [4,6])).2).2).3∧lE' (aZ 1 2 ((↑(List.length [4,6]):Int)+3) [4,6]).3)∧List.length (Prod.snd (Prod.snd (aW 2 ((↑(List.length [4,6]):Int)+3) 9 (ftNF 2 ((↑(List.length [4,6]):Int)+3) sh kd ky most {me:=0,sp:=0,R:=[] }).1 (ftNF 2 ((↑(List.length [4,6]):Int)+3) sh kd ky most {me:=0,sp:=0,R:=[] }).2 (aZ 1 2 ((↑(List.length [4,6]):Int)+3) [4,6])).2).2).3≤(4294967296:Nat))∧True)∧K (.bool (l1 (Prod.snd (Prod.snd (aW 2 ((↑(List.length [4,6]):Int)+3) 9 (ftNF 2 ((↑(List.length [4,6]):Int)+3) sh kd ky most {me:=0,sp:=0,R:=[] }).1 (ftNF 2 ((↑(List.length [4,6]):Int)+3) sh kd ky most {me:=0,sp:=0,R:=[] }).2 (aZ 1 2 ((↑(List.length [4,6]):Int)+3) [4,6])).2).2).3 (aZ 1 2 ((↑(List.length [4,6]):Int)+3) [4,6]).3)) []else K (.bool false) []else K (.bool false) []else K (.bool false) []else K (.bool false) []else K (.bool false) []else bif ieq (↑(aW 2 ((↑(List.length [4,6]):Int)+3) 9 (ftNF 2 ((↑(List.length [4,6]):Int)+3) sh kd ky most {me:=0,sp:=0,R:=[] }).1 (ftNF 2 ((↑(List.length [4,6]):Int)+3) sh kd ky most {me:=0,sp:=0,R:=[] }).2 (aZ 1 2 ((↑(List.length [4,6]):Int)+3) [4,6])).1:Int) 1 then K (.bool false) []else K (.bool false) []else(lE' (aZ 1 2 ((↑(List.length [4,6]):Int)+3) [4,6]).3∧List.length (aZ 1 2 ((↑(List.length [4,6]):Int)+3) [4,6]).3≤(4294967296:Nat))∧(True∧True)∧(iS 2 ((↑(List.length [4,6]):Int)+3) sh kd ky most {me:=0,sp:=0,R:=[] } ∧True)∧((lE' (aZ 1 2 ((↑(List.length [4,6]):Int)+3) [4,6]).3∧(2:Int)=(2:Int)∧(↑(List.length [4,6]):Int)+(3:Int)=(↑(List.length [4,6]):Int)+3)∧((0:Int)≤(9:Int)∧(9:Int)≤(1000000:Int))∧kK 2 ((↑(List.length [4,6]):Int)+3) 9 (ftNF 2 ((↑(List.length [4,6]):Int)+3) sh kd ky most {me:=0,sp:=0,R:=[] }).1 (ftNF 2 ((↑(List.length [4,6]):Int)+3) sh kd ky most {me:=0,sp:=0,R:=[] }).2 (aZ 1 2 ((↑(List.length [4,6]):Int)+3) [4,6]))∧bif (Prod.snd (aW 2 ((↑(List.length [4,6]):Int)+3) 9 (ftNF 2 ((↑(List.length [4,6]):Int)+3) sh kd ky most {me:=0,sp:=0,R:=[] }).1 (ftNF 2 ((↑(List.length [4,6]):Int)+3) sh kd ky most {me:=0,sp:=0,R:=[] }).2 (aZ 1 2 ((↑(List.length [4,6]):Int)+3) [4,6]))).1 then bif ieq (↑(aW 2 ((↑(List.length [4,6]):Int)+3) 9 (ftNF 2 ((↑(List.length [4,6]):Int)+3) sh kd ky most {me:=0,sp:=0,R:=[] }).1 (ftNF 2 ((↑(List.length [4,6]):Int)+3) sh kd ky most {me:=0,sp:=0,R:=[] }).2 (aZ 1 2 ((↑(List.length [4,6]):Int)+3) [4,6])).1:Int) 1 then bif (Prod.fst (Prod.snd (aW 2 ((↑(List.length [4,6]):Int)+3) 9 (ftNF 2 ((↑(List.length [4,6]):Int)+3) sh kd ky most {me:=0,sp:=0,R:=[] }).1 (ftNF 2 ((↑(List.length [4,6]):Int)+3) sh kd ky most {me:=0,sp:=0,R:=[] }).2 (aZ 1 2 ((↑(List.length [4,6]):Int)+3) [4,6]))).2).4 then bif bif ieq (Prod.fst (Prod.snd (aW 2 ((↑(List.length [4,6]):Int)+3) 9 (ftNF 2 ((↑(List.length [4,6]):Int)+3) sh kd ky most {me:=0,sp:=0,R:=[] }).1 (ftNF 2 ((↑(List.length [4,6]):Int)+3) sh kd ky most {me:=0,sp:=0,R:=[] }).2 (aZ 1 2 ((↑(List.length [4,6]):Int)+3) [4,6]))).2).1 0 then bif !(Prod.fst (Prod.snd (aW 2 ((↑(List.length [4,6]):Int)+3) 9 (ftNF 2 ((↑(List.length [4,6]):Int)+3) sh kd ky most {me:=0,sp:=0,R:=[] }).1 (ftNF 2 ((↑(List.length [4,6]):Int)+3) sh kd ky most {me:=0,sp:=0,R:=[] }).2 (aZ 1 2 ((↑(List.length [4,6]):Int)+3) [4,6]))).2).2 then bif ieq (Prod.fst (Prod.snd (aW 2 ((↑(List.length [4,6]):Int)+3) 9 (ftNF 2 ((↑(List.length [4,6]):Int)+3) sh kd ky most {me:=0,sp:=0,R:=[] }).1 (ftNF 2 ((↑(List.length [4,6]):Int)+3) sh kd ky most {me:=0,sp:=0,R:=[] }).2 (aZ 1 2 ((↑(List.length [4,6]):Int)+3) [4,6]))).2).3 0 then true else false else false else false then bif ieq (Prod.fst (Prod.snd (aW 2 ((↑(List.length [4,6]):Int)+3) 9 (ftNF 2 ((↑(List.length [4,6]):Int)+3) sh kd ky most {me:=0,sp:=0,R:=[] }).1 (ftNF 2 ((↑(List.length [4,6]):Int)+3) sh kd ky most {me:=0,sp:=0,R:=[] }).2 (aZ 1 2 ((↑(List.length [4,6]):Int)+3) [4,6]))).2).5 0 then bif bif ieq (Prod.snd (Prod.snd (aW 2 ((↑(List.length [4,6]):Int)+3) 9 (ftNF 2 ((↑(List.length [4,6]):Int)+3) sh kd ky most {me:=0,sp:=0,R:=[] }).1 (ftNF 2 ((↑(List.length [4,6]):Int)+3) sh kd ky most {me:=0,sp:=0,R:=[] }).2 (aZ 1 2 ((↑(List.length [4,6]):Int)+3) [4,6])).2).2).1 (aZ 1 2 ((↑(List.length [4,6]):Int)+3) [4,6]).1 then bif ieq (Prod.snd (Prod.snd (aW 2 ((↑(List.length [4,6]):Int)+3) 9 (ftNF 2 ((↑(List.length [4,6]):Int)+3) sh kd ky most {me:=0,sp:=0,R:=[] }).1 (ftNF 2 ((↑(List.length [4,6]):Int)+3) sh kd ky most {me:=0,sp:=0,R:=[] }).2 (aZ 1 2 ((↑(List.length [4,6]):Int)+3) [4,6])).2).2).2 (aZ 1 2 ((↑(List.length [4,6]):Int)+3) [4,6]).2 then true else false else false then(((lE' (Prod.snd (Prod.snd (aW 2 ((↑(List.length [4,6]):Int)+3) 9 (ftNF 2 ((↑(List.length [4,6]):Int)+3) sh kd ky most {me:=0,sp:=0,R:=[] }).1 (ftNF 2 ((↑(List.length [4,6]):Int)+3) sh kd ky most {me:=0,sp:=0,R:=[] }).2 (aZ 1 2 ((↑(List.length [4,6]):Int)+3) [4,6])).2).2).3∧lE' (aZ 1 2 ((↑(List.length [4,6]):Int)+3) [4,6]).3)∧List.length (Prod.snd (Prod.snd (aW 2 ((↑(List.length [4,6]):Int)+3) 9 (ftNF 2 ((↑(List.length [4,6]):Int)+3) sh kd ky most {me:=0,sp:=0,R:=[] }).1 (ftNF 2 ((↑(List.length [4,6]):Int)+3) sh kd ky most {me:=0,sp:=0,R:=[] }).2 (aZ 1 2 ((↑(List.length [4,6]):Int)+3) [4,6])).2).2).3≤(4294967296:Nat))∧True)∧K (.bool (l1 (Prod.snd (Prod.snd (aW 2 ((↑(List.length [4,6]):Int)+3) 9 (ftNF 2 ((↑(List.length [4,6]):Int)+3) sh kd ky most {me:=0,sp:=0,R:=[] }).1 (ftNF 2 ((↑(List.length [4,6]):Int)+3) sh kd ky most {me:=0,sp:=0,R:=[] }).2 (aZ 1 2 ((↑(List.length [4,6]):Int)+3) [4,6])).2).2).3 (aZ 1 2 ((↑(List.length [4,6]):Int)+3) [4,6]).3)) []else K (.bool false) []else K (.bool false) []else K (.bool false) []else K (.bool false) []else K (.bool false) []else bif ieq (↑(aW 2 ((↑(List.length [4,6]):Int)+3) 9 (ftNF 2 ((↑(List.length [4,6]):Int)+3) sh kd ky most {me:=0,sp:=0,R:=[] }).1 (ftNF 2 ((↑(List.length [4,6]):Int)+3) sh kd ky most {me:=0,sp:=0,R:=[] }).2 (aZ 1 2 ((↑(List.length [4,6]):Int)+3) [4,6])).1:Int) 1 then K (.bool false) []else K (.bool false) []else(lE' (aZ 1 2 ((↑(List.length [4,6]):Int)+3) [4,6]).3∧List.length (aZ 1 2 ((↑(List.length [4,6]):Int)+3) [4,6]).3≤(4294967296:Nat))∧(True∧True)∧(iS 2 ((↑(List.length [4,6]):Int)+3) sh kd ky most {me:=0,sp:=0,R:=[] } ∧True)∧((lE' (aZ 1 2 ((↑(List.length [4,6]):Int)+3) [4,6]).3∧(2:Int)=(2:Int)∧(↑(List.length [4,6]):Int)+(3:Int)=(↑(List.length [4,6]):Int)+3)∧((0:Int)≤(9:Int)∧(9:Int)≤(1000000:Int))∧kK 2 ((↑(List.length [4,6]):Int)+3) 9 (ftNF 2 ((↑(List.length [4,6]):Int)+3) sh kd ky most {me:=0,sp:=0,R:=[] }).1 (ftNF 2 ((↑(List.length [4,6]):Int)+3) sh kd ky most {me:=0,sp:=0,R:=[] }).2 (aZ 1 2 ((↑(List.length [4,6]):Int)+3) [4,6]))∧bif (Prod.snd (aW 2 ((↑(List.length [4,6]):Int)+3) 9 (ftNF 2 ((↑(List.length [4,6]):Int)+3) sh kd ky most {me:=0,sp:=0,R:=[] }).1 (ftNF 2 ((↑(List.length [4,6]):Int)+3) sh kd ky most {me:=0,sp:=0,R:=[] }).2 (aZ 1 2 ((↑(List.length [4,6]):Int)+3) [4,6]))).1 then bif ieq (↑(aW 2 ((↑(List.length [4,6]):Int)+3) 9 (ftNF 2 ((↑(List.length [4,6]):Int)+3) sh kd ky most {me:=0,sp:=0,R:=[] }).1 (ftNF 2 ((↑(List.length [4,6]):Int)+3) sh kd ky most {me:=0,sp:=0,R:=[] }).2 (aZ 1 2 ((↑(List.length [4,6]):Int)+3) [4,6])).1:Int) 1 then bif (Prod.fst (Prod.snd (aW 2 ((↑(List.length [4,6]):Int)+3) 9 (ftNF 2 ((↑(List.length [4,6]):Int)+3) sh kd ky most {me:=0,sp:=0,R:=[] }).1 (ftNF 2 ((↑(List.length [4,6]):Int)+3) sh kd ky most {me:=0,sp:=0,R:=[] }).2 (aZ 1 2 ((↑(List.length [4,6]):Int)+3) [4,6]))).2).4 then bif bif ieq (Prod.fst (Prod.snd (aW 2 ((↑(List.length [4,6]):Int)+3) 9 (ftNF 2 ((↑(List.length [4,6]):Int)+3) sh kd ky most {me:=0,sp:=0,R:=[] }).1 (ftNF 2 ((↑(List.length [4,6]):Int)+3) sh kd ky most {me:=0,sp:=0,R:=[] }).2 (aZ 1 2 ((↑(List.length [4,6]):Int)+3) [4,6]))).2).1 0 then bif !(Prod.fst (Prod.snd (aW 2 ((↑(List.length [4,6]):Int)+3) 9 (ftNF 2 ((↑(List.length [4,6]):Int)+3) sh kd ky most {me:=0,sp:=0,R:=[] }).1 (ftNF 2 ((↑(List.length [4,6]):Int)+3) sh kd ky most {me:=0,sp:=0,R:=[] }).2 (aZ 1 2 ((↑(List.length [4,6]):Int)+3) [4,6]))).2).2 then bif ieq (Prod.fst (Prod.snd (aW 2 ((↑(List.length [4,6]):Int)+3) 9 (ftNF 2 ((↑(List.length [4,6]):Int)+3) sh kd ky most {me:=0,sp:=0,R:=[] }).1 (ftNF 2 ((↑(List.length [4,6]):Int)+3) sh kd ky most {me:=0,sp:=0,R:=[] }).2 (aZ 1 2 ((↑(List.length [4,6]):Int)+3) [4,6]))).2).3 0 then true else false else false else false then bif ieq (Prod.fst (Prod.snd (aW 2 ((↑(List.length [4,6]):Int)+3) 9 (ftNF 2 ((↑(List.length [4,6]):Int)+3) sh kd ky most {me:=0,sp:=0,R:=[] }).1 (ftNF 2 ((↑(List.length [4,6]):Int)+3) sh kd ky most {me:=0,sp:=0,R:=[] }).2 (aZ 1 2 ((↑(List.length [4,6]):Int)+3) [4,6]))).2).5 0 then bif bif ieq (Prod.snd (Prod.snd (aW 2 ((↑(List.length [4,6]):Int)+3) 9 (ftNF 2 ((↑(List.length [4,6]):Int)+3) sh kd ky most {me:=0,sp:=0,R:=[] }).1 (ftNF 2 ((↑(List.length [4,6]):Int)+3) sh kd ky most {me:=0,sp:=0,R:=[] }).2 (aZ 1 2 ((↑(List.length [4,6]):Int)+3) [4,6])).2).2).1 (aZ 1 2 ((↑(List.length [4,6]):Int)+3) [4,6]).1 then bif ieq (Prod.snd (Prod.snd (aW 2 ((↑(List.length [4,6]):Int)+3) 9 (ftNF 2 ((↑(List.length [4,6]):Int)+3) sh kd ky most {me:=0,sp:=0,R:=[] }).1 (ftNF 2 ((↑(List.length [4,6]):Int)+3) sh kd ky most {me:=0,sp:=0,R:=[] }).2 (aZ 1 2 ((↑(List.length [4,6]):Int)+3) [4,6])).2).2).2 (aZ 1 2 ((↑(List.length [4,6]):Int)+3) [4,6]).2 then true else false else false then(((lE' (Prod.snd (Prod.snd (aW 2 ((↑(List.length [4,6]):Int)+3) 9 (ftNF 2 ((↑(List.length [4,6]):Int)+3) sh kd ky most {me:=0,sp:=0,R:=[] }).1 (ftNF 2 ((↑(List.length [4,6]):Int)+3) sh kd ky most {me:=0,sp:=0,R:=[] }).2 (aZ 1 2 ((↑(List.length [4,6]):Int)+3) [4,6])).2).2).3∧lE' (aZ 1 2 ((↑(List.length [4,6]):Int)+3) [4,6]).3)∧List.length (Prod.snd (Prod.snd (aW 2 ((↑(List.length [4,6]):Int)+3) 9 (ftNF 2 ((↑(List.length [4,6]):Int)+3) sh kd ky most {me:=0,sp:=0,R:=[] }).1 (ftNF 2 ((↑(List.length [4,6]):Int)+3) sh kd ky most {me:=0,sp:=0,R:=[] }).2 (aZ 1 2 ((↑(List.length [4,6]):Int)+3) [4,6])).2).2).3≤(4294967296:Nat))∧True)∧K (.bool (l1 (Prod.snd (Prod.snd (aW 2 ((↑(List.length [4,6]):Int)+3) 9 (ftNF 2 ((↑(List.length [4,6]):Int)+3) sh kd ky most {me:=0,sp:=0,R:=[] }).1 (ftNF 2 ((↑(List.length [4,6]):Int)+3) sh kd ky most {me:=0,sp:=0,R:=[] }).2 (aZ 1 2 ((↑(List.length [4,6]):Int)+3) [4,6])).2).2).3 (aZ 1 2 ((↑(List.length [4,6]):Int)+3) [4,6]).3)) []else K (.bool false) []else K (.bool false) []else K (.bool false) []else K (.bool false) []else K (.bool false) []else bif ieq (↑(aW 2 ((↑(List.length [4,6]):Int)+3) 9 (ftNF 2 ((↑(List.length [4,6]):Int)+3) sh kd ky most {me:=0,sp:=0,R:=[] }).1 (ftNF 2 ((↑(List.length [4,6]):Int)+3) sh kd ky most {me:=0,sp:=0,R:=[] }).2 (aZ 1 2 ((↑(List.length [4,6]):Int)+3) [4,6])).1:Int) 1 then K (.bool false) []else K (.bool false) []
theorem yD(sh kd ky most:Int)(K:AVal→aA Ob→Prop)(h:wX sh kd ky most K):cT' 3 [.agg [.int .i64 sh,.int .i64 kd,.int .i64 ky],.int .i64 most] [] K:=by
 refine J8 (cM' (E:=EFu) (by kernel_rfl) h)
theorem nE'{P Q:Prop}(h:¬P:=by dsimp only;decide):P→Q:=fun e=>absurd e h
theorem Tr.run_ite{X:Type}{K:X→Prop}{b:Bool}{l r:Tr X}(h1:b=true→l.run K)(h2:b=false→r.run K):(Tr.ite b l r).run K:=aO h1 h2
theorem z8(sh ky:Int):0≤fD sh ky∧fD sh ky≤3:=by
 unfold fD
 cases ieq sh 2 with
 | true=>exact⟨Int.emod_nonneg _ (by decide),by have:=Int.emod_lt_of_pos ky (b:=4) (by decide);show ky%4≤3;omega⟩
 | false=>exact⟨Int.le_refl 0,(by decide:(0:Int)≤3)⟩
inductive tV {σ:Type} (F:σ→Bool×σ):Nat→σ→σ→Prop where
 | nil (a:σ):tV F 0 a a
 | cons {k:Nat} {a b c:σ} (h:F a=(false,b)) (t:tV F k b c):tV F (k+1) a c
theorem tV.trans{σ:Type}{F:σ→Bool×σ}{i j:Nat}{a b c:σ}(h:tV F i a b)(g:tV F j b c):tV F (j+i) a c:=by
 induction h with
 | nil a=>exact g
 | cons h t ih=>exact tV.cons h (ih g)
theorem tV.one{σ:Type}{F:σ→Bool×σ}{a b:σ}(h:F a=(false,b)):tV F 1 a b:=tV.cons h (tV.nil _)
def xC{σ:Type}(F:σ→Bool×σ)(k:Nat)(a z:σ):Prop:= ∃j b,k=j+1∧tV F j a b∧F b=(true,z)
theorem xC.of{σ:Type}{F:σ→Bool×σ}{k j:Nat}{a b z:σ}(h:tV F k a b)(g:xC F j b z):xC F (j+k) a z:=by
 obtain⟨i,c,rfl,h1,h2⟩:=g
 exact⟨i+k,c,by omega,h.trans h1,h2⟩
theorem xC.one{σ:Type}{F:σ→Bool×σ}{a z:σ}(h:F a=(true,z)):xC F 1 a z:=⟨0,a,rfl,tV.nil _,h⟩
theorem xC.cons{σ:Type}{F:σ→Bool×σ}{j:Nat}{a b z:σ}(h:F a=(false,b))(g:xC F j b z):xC F (j+1) a z:=xC.of (tV.one h) g
abbrev G1(x:Int):Int:=aB x 10 9
abbrev IR(x:Int):Int:=aB x 0 10
abbrev HT(x:Int):Bool:=ieq (aB x 19 1) 1
abbrev BL(x:Int):Int:=aB x 20 5
structure HV (k n c v:Int):Prop where
 k:0≤k∧k<1024
 n:0≤n∧n<512
 c:0≤c∧c<32
 v:0≤v∧v<262144
def HF(t n:Int)(p:FNS×MS):Bool×(FNS×MS):=((aE t n p.1 p.2).d,((aE t n p.1 p.2).x,(aE t n p.1 p.2).s))
theorem zZ{t n:Int}{x:FNS}{s:MS}(h:x.at'=0)(hm:HT (aD s.xs x.pred)=false):aE t n x s=⟨ieq (G1 (aD s.xs x.pred)) 0,{x with pw:=aD s.xs x.pred,curr:=G1 (aD s.xs x.pred),cw:=0,at':=1,cl:=bT},s.loadd x.pred⟩:=by
 unfold aE HG
 rw [h]
 show(p0 t n x s).val =_
 unfold p0
 simp only [Tr.val,hm,cond_false]
 rfl
structure Nd where
 a:Int
 k:Int
 m:Bool
def ch(n:Int)(xs:List Int):Int→List Nd→Prop
 | a,[]=>G1 (aD xs a)=0
 | a,b::L=>G1 (aD xs a)=b.a∧(1≤b.a∧b.a≤n)∧IR (aD xs b.a)=b.k∧HT (aD xs b.a)=b.m∧BL (aD xs b.a)=0∧ch n xs b.a L
def sc(k:Int):List Nd→List Nd×List Nd×List Nd
 | []=>([],[],[])
 | b::L=>bif b.m then((sc k L).1,b::(sc k L).2.1,(sc k L).2.2)else(if k≤b.k then([],[],b::L)else(b::(sc k L).1,(sc k L).2.1,(sc k L).2.2))
def FR:List Nd→Int
 | []=>0
 | b::_=>b.a
def IQ(xs:List Int):List Nd→Int
 | []=>0
 | b::_=>aD xs b.a
theorem G4{n:Int}{xs:List Int} : ∀ {L:List Nd} {a:Int},ch n xs a L→G1 (aD xs a)=FR L
 | [],a,h=>h
 | b::L,a,h=>h.1
theorem HO{n:Int}{xs:List Int}{a:Int}{L:List Nd}(h:ch n xs a L):ieq (FR L) 0=L.isEmpty:=by
 cases L with
 | nil=>rfl
 | cons b L=>
   have:=h.2.1.1
   show ieq b.a 0=false
   rw [cH,beq_eq_false_iff_ne];omega
structure FC (t n p:Int) (L:List Nd) (x:FNS) (s:MS):Prop where
 ht:1≤t∧t≤1000
 hn:1≤n∧n≤1000
 len:(s.xs.length:Int)=2*n+5*t+6
 me:0≤x.me∧x.me<t
 hp:1≤p∧p≤n+4
 mp:HT (aD s.xs p)=false
 cp:BL (aD s.xs p)=0
 ch:ch n s.xs p L
 nd:(p::L.map Nd.a).Nodup
 mv:0≤x.moved∧x.moved+L.length≤n
structure DI (n p:Int) (L:List Nd) (x:FNS) (s:MS) (z:FNS) (s':MS) (j:Nat):Prop where
 ch:ch n s'.xs p ((sc x.key L).1++(sc x.key L).2.2)
 pred:z.pred=((sc x.key L).1.map Nd.a).getLastD p
 pw:z.pw=aD s'.xs z.pred
 curr:z.curr=FR (sc x.key L).2.2
 cw:z.cw=IQ s'.xs (sc x.key L).2.2
 ul:z.ul=x.ul++(sc x.key L).2.1.map Nd.a
 tries:z.tries=x.tries
 ab:z.ab=x.ab
 me:z.me=x.me
 same: ∀a,a≠2*n+5+2*x.me→a≠2*n+5+2*x.me+1→a∉p::(sc x.key L).1.map Nd.a→aD s'.xs a=aD s.xs a
 p3:IR (aD s'.xs p)=IR (aD s.xs p)∧HT (aD s'.xs p)=HT (aD s.xs p)∧BL (aD s'.xs p)=BL (aD s.xs p)
 t:s'.t=s.t
 n:s'.n=s.n
 c:s'.c=s.c+j
 len:s'.xs.length=s.xs.length
 okw:I7 s.xs→I7 s'.xs
theorem FA{t n:Int}{x:FNS}{s:MS}{d:Bool}{x':FNS}{s':MS}(h:aE t n x s=⟨d,x',s'⟩):HF t n (x,s)=(d,(x',s')):=by
 unfold HF;rw [h]
theorem DI.nil{n p:Int}{x:FNS}{s:MS}(h2:x.pred=p)(h3:x.pw=aD s.xs p)(h4:x.curr=0)(h5:x.cw=0)(hz:G1 (aD s.xs p)=0):DI n p [] x s x s 0 where
 ch:=hz
 pred:=h2
 pw:=by rw [h2];exact h3
 curr:=h4
 cw:=h5
 ul:=by simp [sc]
 tries:=rfl
 ab:=rfl
 me:=rfl
 same:=fun _ _ _ _=>rfl
 p3:=⟨rfl,rfl,rfl⟩
 t:=rfl
 n:=rfl
 c:=by simp
 len:=rfl
 okw:=id
theorem DI.pre{n p:Int}{L:List Nd}{x x1:FNS}{s s1:MS}{z:FNS}{s':MS}{j:Nat}(h:DI n p L x1 s1 z s' j)(hx:s1.xs=s.xs)(hc:s1.c=s.c+1)(ht:s1.t=s.t)(hn:s1.n=s.n)
 (k:x1.key=x.key) (u:x1.ul=x.ul) (tr:x1.tries=x.tries) (ab:x1.ab=x.ab) (me:x1.me=x.me):DI n p L x s z s' (j+1) where
 ch:=by have:=h.ch;rw [k]at this;exact this
 pred:=by have:=h.pred;rw [k]at this;exact this
 pw:=h.pw
 curr:=by have:=h.curr;rw [k]at this;exact this
 cw:=by have:=h.cw;rw [k]at this;exact this
 ul:=by have:=h.ul;rw [k,u]at this;exact this
 tries:=h.tries.trans tr
 ab:=h.ab.trans ab
 me:=h.me.trans me
 same:=by have:=h.same;rw [k,me,hx]at this;exact this
 p3:=by have:=h.p3;rw [hx]at this;exact this
 t:=h.t.trans ht
 n:=h.n.trans hn
 c:=by rw [h.c,hc];omega
 len:=by rw [h.len,hx]
 okw:=by rw [←hx];exact h.okw
def GS(t n:Int)(L:List Nd):Prop:= ∀(p:Int) (x:FNS) (s:MS),x.at'=1→x.pred=p→x.pw=aD s.xs p→x.curr=FR L→x.cw=0→L≠ []→FC t n p L x s→
    ∃j z s',(∀lim,xC (HF t n) j ({x with limit:=lim},s) ({z with limit:=lim},s'))∧DI n p L x s z s' j∧j≤5*L.length
def VS(t n:Int)(L:List Nd):Prop:= ∀(p:Int) (x:FNS) (s:MS),x.at'=0→x.pred=p→FC t n p L x s→
    ∃j z s',(∀lim,xC (HF t n) j ({x with limit:=lim},s) ({z with limit:=lim},s'))∧DI n p L x s z s' j∧j≤5*L.length+1
theorem VS.of{t n:Int}{L:List Nd}(hg:GS t n L):VS t n L:=by
 intro p x s h1 h2 hc
 subst h2
 have hv: ∀lim,HF t n ({x with limit:=lim},s)=(L.isEmpty,({x with pw:=aD s.xs x.pred,curr:=FR L,cw:=0,at':=1,cl:=bT,limit:=lim},s.loadd x.pred)):=by
  intro lim
  have:=FA (zZ (t:=t) (n:=n) (x:= {x with limit:=lim}) (s:=s) h1 hc.mp)
  rw [this]
  have e:=G4 hc.ch
  simp only [e,HO hc.ch]
 cases L with
 | nil=>exact⟨1,{x with pw:=aD s.xs x.pred,curr:=0,cw:=0,at':=1,cl:=bT},s.loadd x.pred,fun lim=>xC.one (hv lim),(DI.nil (x:= {x with pw:=aD s.xs x.pred,curr:=0,cw:=0,at':=1,cl:=bT}) (s:=s.loadd x.pred) rfl rfl rfl rfl hc.ch).pre rfl rfl rfl rfl rfl rfl rfl rfl rfl,by simp⟩
 | cons b L=>
   obtain⟨j,z,s',e,f,hl⟩:=hg x.pred {x with pw:=aD s.xs x.pred,curr:=FR (b::L),cw:=0,at':=1,cl:=bT} (s.loadd x.pred) rfl rfl rfl rfl rfl (by simp) ⟨hc.ht,hc.hn,hc.len,hc.me,hc.hp,hc.mp,hc.cp,hc.ch,hc.nd,hc.mv⟩
   exact⟨j+1,z,s',fun lim=>xC.cons (hv lim) (e lim),f.pre rfl rfl rfl rfl rfl rfl rfl rfl rfl,by omega⟩
inductive Pa where
 | now (b:Bool)
 | link
 | mark (v:Int)
 | pop (v:Int)
def Pa.ok:Pa→Bool
 | .now b=>b
 | _=>true
def Pa.val:Pa→Int
 | .mark v=>v
 | .pop v=>v
 | _=>0
def Pa.new(ky sp:Int)(B:List Nd):Pa→List Nd
 | .now _=>B
 | .link =>⟨sp,ky,false⟩::B
 | .mark _=>(match B with | []=>[] | b::B'=>⟨b.a,b.k,true⟩::B')
 | .pop _=>B.tail
def Pa.sp(sp:Int):Pa→Int
 | .link =>0
 | _=>sp
def Pa.pops(B:List Nd):Pa→List Int
 | .pop _=>[FR B]
 | _=>[]
theorem FM{t n:Int}{x:FTS}{st:STS}{s:MS}(h0:x.at'=0)(h:dF x.sh x.kd x.ky=false∨cU x.kd=true∧st.sp=0):ftF t n x st s=⟨true,{x with failed:=true,at':=0,cl:=bT,pr:=eI},st,s.loadd 0⟩:=by
 unfold ftF G0
 rw [h0]
 show(m9 t n x st s).val =_
 unfold m9
 cases hr:dF x.6 x.7 x.8 with
 | false=>
   simp only [Tr.val,hr,Bool.not_false,cond_true]
   rfl
 | true=>
   rcases h with h | ⟨h1,h2⟩
   ·exact absurd (show dF x.6 x.7 x.8=false from h) (by rw [hr];decide)
   ·have h1:cU x.7=true:=h1
    have h2:ieq st.2 0=true:=by rw [show st.2=0 from h2];exact jF 0
    simp only [Tr.val,hr,h1,h2,Bool.not_true,cond_true,cond_false]
    rfl
theorem CV{sh kd ky most:Int}{m:MS}(hc:0≤m.c∧m.c≤4611686018427387904)(h:dF sh kd ky=false∨cU kd=true∧(0:Int)=0):
 kK 2 5 9 (ftNF 2 5 sh kd ky most ⟨0,0,[]⟩).1 (ftNF 2 5 sh kd ky most ⟨0,0,[]⟩).2 m∧
 aW 2 5 9 (ftNF 2 5 sh kd ky most ⟨0,0,[]⟩).1 (ftNF 2 5 sh kd ky most ⟨0,0,[]⟩).2 m=(1,true,{ (ftNF 2 5 sh kd ky most ⟨0,0,[]⟩).1 with failed:=true,at':=0,cl:=bT,pr:=eI},⟨0,0,[]⟩,m.loadd 0):=by
 have e:=FM (t:=2) (n:=5) (x:=(ftNF 2 5 sh kd ky most ⟨0,0,[]⟩).1) (st:=⟨0,0,[]⟩) (s:=m) rfl h
 have e2:(ftNF 2 5 sh kd ky most ⟨0,0,[]⟩).2=⟨0,0,[]⟩:=rfl
 constructor
 ·unfold kK
  rw [p8,e2,e]
  refine⟨?_,fun q=>Bool.noConfusion q⟩
  unfold ftOk G0
  rw [show(ftNF 2 5 sh kd ky most ⟨0,0,[]⟩).1.at' =0 from rfl]
  show(m9 2 5 (ftNF 2 5 sh kd ky most ⟨0,0,[]⟩).1 ⟨0,0,[]⟩ m).ok
  unfold m9
  have hsh:(ftNF 2 5 sh kd ky most ⟨0,0,[]⟩).1.6=sh:=rfl
  have hkd:(ftNF 2 5 sh kd ky most ⟨0,0,[]⟩).1.7=kd:=rfl
  have hky:(ftNF 2 5 sh kd ky most ⟨0,0,[]⟩).1.8=ky:=rfl
  have hz:ieq (0:Int) 0=true:=jF 0
  cases hr:dF sh kd ky with
  | false=>
    simp only [Tr.ok,hsh,hkd,hky,hr,Bool.not_false,cond_true]
    simp [hc]
  | true=>
    rcases h with h | ⟨h1,_⟩
    ·rw [hr]at h;cases h
    ·simp only [Tr.ok,hsh,hkd,hky,hr,h1,hz,Bool.not_true,cond_true,cond_false]
     simp [hc]
 ·unfold aW
  rw [wR,e2,e]
  rfl
theorem CU(sh kd ky most:Int):iS 2 5 sh kd ky most ⟨0,0,[]⟩:=by
 have hh:0≤fD sh ky∧fD sh ky≤3:=z8 sh ky
 unfold iS CF tB B7
 simp only [Tr.ok]
 repeat' (first | exact trivial | rfl | omega | decide | apply And.intro)
theorem tH{kd:Int} :cU kd=true↔kd=1∨kd=4:=by
 unfold cU;simp [cH]
theorem CT: ∃m:MS,aZ 1 2 5 [4,6]=m∧m.t=2∧m.n=5∧m.xs.length=26∧(0≤m.c∧m.c≤4611686018427387904):=⟨_,rfl,by kernel_rfl,by kernel_rfl,by kernel_rfl,by decide,by decide⟩
theorem FX(sh kd ky most:Int)(K:AVal→aA Ob→Prop)(hK:K (.bool true) []):wX sh kd ky most K:=by
 unfold wX
 have h5:((([4,6]:List Nat).length :Int)+3)=5:=rfl
 rw [h5]
 obtain⟨m,hm,m1,m2,m3,m4⟩:=CT
 have hnew:=CU sh kd ky most
 have hrun:=CV (sh:=sh) (kd:=kd) (ky:=ky) (most:=most) m4
 rw [hm]
 refine⟨trivial,⟨rfl,⟨by decide,by decide,by kernel_rfl,by decide⟩⟩,trivial,aO (fun hr=>?_) (fun hr=>?_)⟩
 ·refine aO (fun h1=>?_) (fun h1=>?_)
  ·refine aO (fun h4=>hK) (fun h4=>?_)
   have h4:kd=4:=by simpa [cH]using h4
   obtain⟨r1,r2⟩:=hrun (.inr ⟨tH.2 (.inr h4),rfl⟩)
   refine⟨⟨rfl,by omega⟩,⟨trivial,trivial⟩,⟨hnew,trivial⟩,⟨⟨rfl,rfl,rfl⟩,⟨by decide,by decide⟩,r1⟩,?_⟩
   rw [r2]
   dsimp only [MS.loadd,MS.did]
   have hx:(ftNF 2 5 sh kd ky most ⟨0,0,[]⟩).1= {code:=0,okk:=false,val:=0,failed:=false,tries:=0,sh:=sh,kd:=kd,ky:=ky,most:=most,at':=0,p:=BP,fn:=u1 2 5 0 (fD sh ky) (nJ sh kd ky) (W (most - 0)),cl:=bT,pr:=eI} :=rfl
   rw [hx]
   simp only [jF,lF,cond_true,Bool.not_false,Int.ofNat_one]
   exact⟨⟨⟨⟨trivial,trivial⟩,by omega⟩,trivial⟩,hK⟩
  ·have h1:kd=1:=by simpa [cH]using h1
   obtain⟨r1,r2⟩:=hrun (.inr ⟨tH.2 (.inl h1),rfl⟩)
   refine⟨⟨rfl,by omega⟩,⟨trivial,trivial⟩,⟨hnew,trivial⟩,⟨⟨rfl,rfl,rfl⟩,⟨by decide,by decide⟩,r1⟩,?_⟩
   rw [r2]
   dsimp only [MS.loadd,MS.did]
   have hx:(ftNF 2 5 sh kd ky most ⟨0,0,[]⟩).1= {code:=0,okk:=false,val:=0,failed:=false,tries:=0,sh:=sh,kd:=kd,ky:=ky,most:=most,at':=0,p:=BP,fn:=u1 2 5 0 (fD sh ky) (nJ sh kd ky) (W (most - 0)),cl:=bT,pr:=eI} :=rfl
   rw [hx]
   simp only [jF,lF,cond_true,Bool.not_false,Int.ofNat_one]
   exact⟨⟨⟨⟨trivial,trivial⟩,by omega⟩,trivial⟩,hK⟩
 ·obtain⟨r1,r2⟩:=hrun (.inl hr)
  refine⟨⟨rfl,by omega⟩,⟨trivial,trivial⟩,⟨hnew,trivial⟩,⟨⟨rfl,rfl,rfl⟩,⟨by decide,by decide⟩,r1⟩,?_⟩
  rw [r2]
  dsimp only [MS.loadd,MS.did]
  have hx:(ftNF 2 5 sh kd ky most ⟨0,0,[]⟩).1= {code:=0,okk:=false,val:=0,failed:=false,tries:=0,sh:=sh,kd:=kd,ky:=ky,most:=most,at':=0,p:=BP,fn:=u1 2 5 0 (fD sh ky) (nJ sh kd ky) (W (most - 0)),cl:=bT,pr:=eI} :=rfl
  rw [hx]
  simp only [jF,lF,cond_true,Bool.not_false,Int.ofNat_one]
  exact⟨⟨⟨⟨trivial,trivial⟩,by omega⟩,trivial⟩,hK⟩
end Go.Sh
