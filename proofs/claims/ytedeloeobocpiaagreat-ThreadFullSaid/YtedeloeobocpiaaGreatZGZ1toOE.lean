import Derived.Test.YtedeloeobocpiaaGreatZGHtoGZ
set_option linter.all false
set_option maxHeartbeats 8000000
namespace Go.Sh
open Go Go.Proofs
variable [Con]
def dQ(sh h k:Int):Bool:=bif ieq sh 2 then !ieq (Int.tmod k 4) h else ilt 0 h
def eT(sh h n:Int):List Int→Int→Int→Int→Int→MS→MS
 | [],i,a,ky,vr,s=>s.stored a (a7 ky 0 false 0 vr)
 | k::ks,i,a,ky,vr,s=>bif dQ sh h k then eT sh h n ks (i+1) a ky vr s else eT sh h n ks (i+1) (i+1) k 3 ((s.stored a (a7 ky (i+1) false 0 vr)).stored (n+4+(i+1)) 1)
def fO(sh n:Int)(xs:List Int):Nat→Int→MS→MS
 | 0,h,s=>s
 | f+1,h,s=>fO sh n xs f (h+1) (eT sh h n xs 0 (n+1+h) 0 0 s)
def memN(t n:Int):MS:= {t:=t,n:=n,xs:=List.replicate (2*n+5*t+6).toNat 0,c:=0,k:=0,a:=0,o:=0,w:=0,ok:=false}
structure oN (sh t n:Int) (xs:List Int) (x:Nat×MS):Prop where
 h4:x.1≤4
 c:0≤x.2.c∧x.2.c≤1000*x.1
 eq:fO sh n xs 4 0 (memN t n)=fO sh n xs (4 - x.1) x.1 x.2
structure uI (sh t n:Int) (xs:List Int) (h:Int) (x:Nat×Int×Int×Int×MS):Prop where
 h4:0≤h∧h<4
 hi:x.1≤xs.length
 ky:0≤x.2.2.1∧x.2.2.1<1024
 vr:0≤x.2.2.2.1∧x.2.2.2.1<262144
 c:0≤x.2.2.2.2.c∧x.2.2.2.2.c≤1000*h+3*x.1
 eq:fO sh n xs 4 0 (memN t n)=fO sh n xs (3 - h).toNat (h+1) (eT sh h n (xs.drop x.1) x.1 x.2.1 x.2.2.1 x.2.2.2.1 x.2.2.2.2)
def NC(sh t m:Int)(xs:List Int):Hint Ob:= {X:=Nat×MS,st:=fun x=>([.int .i64 sh,.O,.O,.slice 0 0 xs.length 1,.O,.O,.O,.O,.O,.ptr 1 0,.ptr 2 0,.ptr 3 0,.O,.int .i64 (x.1:Int)]++List.replicate 79 .O,[some (.ints (some .i64) xs),some (.cells [.int .i64 0,.int .i64 0]),some (.cells [.int .i64 t,.int .i64 (IntKind.wrap .i64 ((xs.length:Int)+m))]),bA 4 x.2,bB x.2]),ok:=oN sh t (IntKind.wrap .i64 ((xs.length:Int)+m)) xs,mu:=fun x=>4 - x.1,keep:=[0,3,9,10,11,13] }
def HFi(sh t m:Int)(xs:List Int)(h:Int):Hint Ob:= {X:=Nat×Int×Int×Int×MS,st:=fun x=>([.int .i64 sh,.O,.O,.slice 0 0 xs.length 1,.O,.O,.O,.O,.O,.ptr 1 0,.ptr 2 0,.ptr 3 0,.O,.int .i64 h,.int .i64 x.2.1,.ptr 5 0]++List.replicate 28 .O ++ [.slice 0 0 xs.length 1,.int .i64 (xs.length:Int),.int .i64 (x.1:Int)]++List.replicate 46 .O,[some (.ints (some .i64) xs),some (.cells [.int .i64 0,.int .i64 0]),some (.cells [.int .i64 t,.int .i64 (IntKind.wrap .i64 ((xs.length:Int)+m))]),bA 4 x.2.2.2.2,bB x.2.2.2.2,some (.cells [.int .i64 x.2.2.1,.int .i64 0,.bool false,.int .i64 0,.int .i64 x.2.2.2.1])]),ok:=uI sh t (IntKind.wrap .i64 ((xs.length:Int)+m)) xs h,mu:=fun x=>xs.length - x.1,keep:=[0,3,9,10,11,13,14,15,44,45,46] }
def Z3(sh t m:Int)(xs:List Int):FuncId→Nat→Option (rU Ob):=fun _ k=>if k=6 then some (.states (NC sh t m xs))else if k=10 then some (.statesAt 13 (HFi sh t m xs))else some (.rounds 12)
def zW(sh t m:Int)(xs:List Int)(K:AVal→aD Ob→Prop):Prop:=True∧bif !fP t (W ((↑xs.length:Int)+m))then K (.tup [.raw (Value.pointer none),.agg [.int .i64 t,.int .i64 (W ((↑xs.length:Int)+m))]]) [some (.ints (some .i64) xs)]else(((0:Int)≤t∧t≤(100000:Int))∧(0:Int)≤W ((↑xs.length:Int)+m)∧W ((↑xs.length:Int)+m)≤(100000:Int))∧bif ilt (2*W ((↑xs.length:Int)+m)+5*t+6) (↑0:Int)then K (.tup [.raw (Value.pointer none),.agg [.int .i64 t,.int .i64 (W ((↑xs.length:Int)+m))]]) [some (.ints (some .i64) xs)]else((((0:Int)≤t∧t≤(100000:Int))∧(0:Int)≤W ((↑xs.length:Int)+m)∧W ((↑xs.length:Int)+m)≤(100000:Int))∧True)∧((0:Int)≤(2:Int)*W ((↑xs.length:Int)+m)+5*t+6∧2*W ((↑xs.length:Int)+m)+5*t+(6:Int)=(2:Int)*W ((↑xs.length:Int)+m)+5*t+6∧2*W ((↑xs.length:Int)+m)+5*t+(6:Int)≤(4294967296:Int))∧okSt (NC sh t m xs) (Hint.ok (NC sh t m xs)) (.int .i64 sh::.O::.O::.slice 0 0 xs.length 1::.O::.O::.O::.O::.O::.ptr 1 0::.ptr 2 0::.ptr 3 0::.O::.int .i64 0::(tO' 79 [])) [some (.ints (some .i64) xs),some (.cells [.int .i64 0,.int .i64 0]),some (.cells [.int .i64 t,.int .i64 (W ((↑xs.length:Int)+m))]),some (.cells [.int .i64 t,.int .i64 (W ((↑xs.length:Int)+m)),.slice 4 0 (Int.toNat (2*W ((↑xs.length:Int)+m)+5*t+6)) 1,.int .i64 0,.int .i64 0,.int .i64 0,.int .u64 0,.int .u64 0,.bool false]),some (.ints (some .u64) (List.replicate (Int.toNat (2*W ((↑xs.length:Int)+m)+5*t+6)) 0))]∧ ∀(x:(Nat×MS)),oN sh t (W ((↑xs.length:Int)+m)) xs x→bif ilt (↑x.1:Int) 4 then(((0:Int)≤W ((↑xs.length:Int)+m)∧W ((↑xs.length:Int)+m)≤(100000:Int))∧(-1000000:Int)≤(↑x.1:Int)∧(↑x.1:Int)≤(1000000:Int))∧okSt (HFi sh t m xs (↑(Prod.fst x):Int)) (Hint.ok (HFi sh t m xs (↑(Prod.fst x):Int))) (.int .i64 sh::.O::.O::.slice 0 0 xs.length 1::.O::.O::.O::.O::.O::.ptr 1 0::.ptr 2 0::.ptr 3 0::.O::.int .i64 (↑x.1:Int)::.int .i64 (W ((↑xs.length:Int)+m)+1+(↑x.1:Int))::.ptr 5 0::(tO' 28 (.slice 0 0 xs.length 1::.int .i64 (↑xs.length:Int)::.int .i64 0::(tO' 46 [])))) [some (.ints (some .i64) xs),some (.cells [.int .i64 0,.int .i64 0]),some (.cells [.int .i64 t,.int .i64 (W ((↑xs.length:Int)+m))]),some (.cells [.int .i64 (Prod.snd x).1,.int .i64 (Prod.snd x).2,.slice 4 0 (List.length (Prod.snd x).3) 1,.int .i64 (Prod.snd x).4,.int .i64 (Prod.snd x).5,.int .i64 (Prod.snd x).6,.int .u64 (Prod.snd x).7,.int .u64 (Prod.snd x).8,.bool (Prod.snd x).9]),some (.ints (some .u64) (Prod.snd x).3),some (.cells [.int .i64 0,.int .i64 0,.bool false,.int .i64 0,.int .i64 0])]∧ ∀(x_1:Hint.X (HFi sh t m xs (↑(Prod.fst x):Int))),uI sh t (W ((↑xs.length:Int)+m)) xs (↑x.1:Int) x_1→bif ilt (↑x_1.1:Int) (↑xs.length:Int)then((0:Int)≤(↑x_1.1:Int)∧(↑x_1.1:Int)<(↑xs.length:Int))∧0+Int.toNat (↑x_1.1:Int)*(1:Nat)<xs.length∧bif ieq sh 2 then(4:Int)≠(0:Int)∧bif !ieq (Int.tmod (List.getD xs (0+Int.toNat (↑x_1.1:Int)*1) 0) 4) (↑x.1:Int)then okSt (HFi sh t m xs (↑(Prod.fst x):Int)) (fun x'=>Hint.ok (HFi sh t m xs (↑(Prod.fst x):Int)) x'∧Hint.mu (HFi sh t m xs (↑(Prod.fst x):Int)) x'<Hint.mu (HFi sh t m xs (↑(Prod.fst x):Int)) x_1) (.int .i64 sh::.O::.O::.slice 0 0 xs.length 1::.O::.O::.O::.O::.O::.ptr 1 0::.ptr 2 0::.ptr 3 0::.O::.int .i64 (↑x.1:Int)::.int .i64 (Prod.snd x_1).1::.ptr 5 0::(tO' 28 (.slice 0 0 xs.length 1::.int .i64 (↑xs.length:Int)::.int .i64 (W ((↑x_1.1:Int)+1))::(tO' 46 [])))) [some (.ints (some .i64) xs),some (.cells [.int .i64 0,.int .i64 0]),some (.cells [.int .i64 t,.int .i64 (W ((↑xs.length:Int)+m))]),some (.cells [.int .i64 (Prod.snd (Prod.snd x_1.2).2).1,.int .i64 (Prod.snd (Prod.snd x_1.2).2).2,.slice 4 0 (List.length (Prod.snd (Prod.snd x_1.2).2).3) 1,.int .i64 (Prod.snd (Prod.snd x_1.2).2).4,.int .i64 (Prod.snd (Prod.snd x_1.2).2).5,.int .i64 (Prod.snd (Prod.snd x_1.2).2).6,.int .u64 (Prod.snd (Prod.snd x_1.2).2).7,.int .u64 (Prod.snd (Prod.snd x_1.2).2).8,.bool (Prod.snd (Prod.snd x_1.2).2).9]),some (.ints (some .u64) (Prod.snd (Prod.snd x_1.2).2).3),some (.cells [.int .i64 (Prod.snd x_1.2).1,.int .i64 0,.bool false,.int .i64 0,.int .i64 (Prod.snd (Prod.snd x_1).2).1])]else bif !ieq sh 2 then bif ilt 0 (↑x.1:Int)then okSt (HFi sh t m xs (↑(Prod.fst x):Int)) (fun x'=>Hint.ok (HFi sh t m xs (↑(Prod.fst x):Int)) x'∧Hint.mu (HFi sh t m xs (↑(Prod.fst x):Int)) x'<Hint.mu (HFi sh t m xs (↑(Prod.fst x):Int)) x_1) (.int .i64 sh::.O::.O::.slice 0 0 xs.length 1::.O::.O::.O::.O::.O::.ptr 1 0::.ptr 2 0::.ptr 3 0::.O::.int .i64 (↑x.1:Int)::.int .i64 (Prod.snd x_1).1::.ptr 5 0::(tO' 28 (.slice 0 0 xs.length 1::.int .i64 (↑xs.length:Int)::.int .i64 (W ((↑x_1.1:Int)+1))::(tO' 46 [])))) [some (.ints (some .i64) xs),some (.cells [.int .i64 0,.int .i64 0]),some (.cells [.int .i64 t,.int .i64 (W ((↑xs.length:Int)+m))]),some (.cells [.int .i64 (Prod.snd (Prod.snd x_1.2).2).1,.int .i64 (Prod.snd (Prod.snd x_1.2).2).2,.slice 4 0 (List.length (Prod.snd (Prod.snd x_1.2).2).3) 1,.int .i64 (Prod.snd (Prod.snd x_1.2).2).4,.int .i64 (Prod.snd (Prod.snd x_1.2).2).5,.int .i64 (Prod.snd (Prod.snd x_1.2).2).6,.int .u64 (Prod.snd (Prod.snd x_1.2).2).7,.int .u64 (Prod.snd (Prod.snd x_1.2).2).8,.bool (Prod.snd (Prod.snd x_1.2).2).9]),some (.ints (some .u64) (Prod.snd (Prod.snd x_1.2).2).3),some (.cells [.int .i64 (Prod.snd x_1.2).1,.int .i64 0,.bool false,.int .i64 0,.int .i64 (Prod.snd (Prod.snd x_1).2).1])]else(((0:Int)≤(Prod.snd x_1.2).1∧(Prod.snd x_1.2).1<(1024:Int))∧((0:Int)≤W ((↑x_1.1:Int)+1)∧W ((↑x_1.1:Int)+1)<(512:Int))∧((0:Int)≤(0:Int)∧(0:Int)<(32:Int))∧(0:Int)≤(Prod.snd (Prod.snd x_1).2).1∧(Prod.snd (Prod.snd x_1).2).1<(262144:Int))∧(lE' (Prod.snd (Prod.snd x_1.2).2).3∧(0:Int)≤(Prod.snd (Prod.snd x_1.2).2).4∧(Prod.snd (Prod.snd x_1.2).2).4≤(4611686018427387904:Int))∧(((0:Int)≤t∧t≤(100000:Int))∧((0:Int)≤W ((↑xs.length:Int)+m)∧W ((↑xs.length:Int)+m)≤(100000:Int))∧(-1099511627776:Int)≤W ((↑x_1.1:Int)+1)∧W ((↑x_1.1:Int)+1)≤(1099511627776:Int))∧(lE' (aK (Prod.snd (Prod.snd x_1.2).2).3 (Prod.snd x_1).1 (a7 (Prod.snd x_1.2).1 (W ((↑x_1.1:Int)+1)) false 0 (Prod.snd (Prod.snd x_1).2).1))∧(0:Int)≤(Prod.snd (Prod.snd x_1.2).2).4+1∧(Prod.snd (Prod.snd x_1.2).2).4+(1:Int)≤(4611686018427387904:Int))∧okSt (HFi sh t m xs (↑(Prod.fst x):Int)) (fun x'=>Hint.ok (HFi sh t m xs (↑(Prod.fst x):Int)) x'∧Hint.mu (HFi sh t m xs (↑(Prod.fst x):Int)) x'<Hint.mu (HFi sh t m xs (↑(Prod.fst x):Int)) x_1) (.int .i64 sh::.O::.O::.slice 0 0 xs.length 1::.O::.O::.O::.O::.O::.ptr 1 0::.ptr 2 0::.ptr 3 0::.O::.int .i64 (↑x.1:Int)::.int .i64 (W ((↑x_1.1:Int)+1))::.ptr 5 0::(tO' 28 (.slice 0 0 xs.length 1::.int .i64 (↑xs.length:Int)::.int .i64 (W ((↑x_1.1:Int)+1))::(tO' 46 [])))) [some (.ints (some .i64) xs),some (.cells [.int .i64 0,.int .i64 0]),some (.cells [.int .i64 t,.int .i64 (W ((↑xs.length:Int)+m))]),some (.cells [.int .i64 (Prod.snd (Prod.snd x_1.2).2).1,.int .i64 (Prod.snd (Prod.snd x_1.2).2).2,.slice 4 0 (List.length (aK (aK (Prod.snd (Prod.snd x_1.2).2).3 (Prod.snd x_1).1 (a7 (Prod.snd x_1.2).1 (W ((↑x_1.1:Int)+1)) false 0 (Prod.snd (Prod.snd x_1).2).1)) (W ((↑xs.length:Int)+m)+4+W ((↑x_1.1:Int)+1)) 1)) 1,.int .i64 ((Prod.snd (Prod.snd x_1.2).2).4+1+1),.int .i64 2,.int .i64 (W ((↑xs.length:Int)+m)+4+W ((↑x_1.1:Int)+1)),.int .u64 (aB (aK (Prod.snd (Prod.snd x_1.2).2).3 (Prod.snd x_1).1 (a7 (Prod.snd x_1.2).1 (W ((↑x_1.1:Int)+1)) false 0 (Prod.snd (Prod.snd x_1).2).1)) (W ((↑xs.length:Int)+m)+4+W ((↑x_1.1:Int)+1))),.int .u64 (bif bK (aK (Prod.snd (Prod.snd x_1.2).2).3 (Prod.snd x_1).1 (a7 (Prod.snd x_1.2).1 (W ((↑x_1.1:Int)+1)) false 0 (Prod.snd (Prod.snd x_1).2).1)) (W ((↑xs.length:Int)+m)+4+W ((↑x_1.1:Int)+1))then 1 else 0),.bool (bK (aK (Prod.snd (Prod.snd x_1.2).2).3 (Prod.snd x_1).1 (a7 (Prod.snd x_1.2).1 (W ((↑x_1.1:Int)+1)) false 0 (Prod.snd (Prod.snd x_1).2).1)) (W ((↑xs.length:Int)+m)+4+W ((↑x_1.1:Int)+1)))]),some (.ints (some .u64) (aK (aK (Prod.snd (Prod.snd x_1.2).2).3 (Prod.snd x_1).1 (a7 (Prod.snd x_1.2).1 (W ((↑x_1.1:Int)+1)) false 0 (Prod.snd (Prod.snd x_1).2).1)) (W ((↑xs.length:Int)+m)+4+W ((↑x_1.1:Int)+1)) 1)),some (.cells [.int .i64 (List.getD xs (0+Int.toNat (↑x_1.1:Int)*1) 0),.int .i64 0,.bool false,.int .i64 0,.int .i64 3])]else(((0:Int)≤(Prod.snd x_1.2).1∧(Prod.snd x_1.2).1<(1024:Int))∧((0:Int)≤W ((↑x_1.1:Int)+1)∧W ((↑x_1.1:Int)+1)<(512:Int))∧((0:Int)≤(0:Int)∧(0:Int)<(32:Int))∧(0:Int)≤(Prod.snd (Prod.snd x_1).2).1∧(Prod.snd (Prod.snd x_1).2).1<(262144:Int))∧(lE' (Prod.snd (Prod.snd x_1.2).2).3∧(0:Int)≤(Prod.snd (Prod.snd x_1.2).2).4∧(Prod.snd (Prod.snd x_1.2).2).4≤(4611686018427387904:Int))∧(((0:Int)≤t∧t≤(100000:Int))∧((0:Int)≤W ((↑xs.length:Int)+m)∧W ((↑xs.length:Int)+m)≤(100000:Int))∧(-1099511627776:Int)≤W ((↑x_1.1:Int)+1)∧W ((↑x_1.1:Int)+1)≤(1099511627776:Int))∧(lE' (aK (Prod.snd (Prod.snd x_1.2).2).3 (Prod.snd x_1).1 (a7 (Prod.snd x_1.2).1 (W ((↑x_1.1:Int)+1)) false 0 (Prod.snd (Prod.snd x_1).2).1))∧(0:Int)≤(Prod.snd (Prod.snd x_1.2).2).4+1∧(Prod.snd (Prod.snd x_1.2).2).4+(1:Int)≤(4611686018427387904:Int))∧okSt (HFi sh t m xs (↑(Prod.fst x):Int)) (fun x'=>Hint.ok (HFi sh t m xs (↑(Prod.fst x):Int)) x'∧Hint.mu (HFi sh t m xs (↑(Prod.fst x):Int)) x'<Hint.mu (HFi sh t m xs (↑(Prod.fst x):Int)) x_1) (.int .i64 sh::.O::.O::.slice 0 0 xs.length 1::.O::.O::.O::.O::.O::.ptr 1 0::.ptr 2 0::.ptr 3 0::.O::.int .i64 (↑x.1:Int)::.int .i64 (W ((↑x_1.1:Int)+1))::.ptr 5 0::(tO' 28 (.slice 0 0 xs.length 1::.int .i64 (↑xs.length:Int)::.int .i64 (W ((↑x_1.1:Int)+1))::(tO' 46 [])))) [some (.ints (some .i64) xs),some (.cells [.int .i64 0,.int .i64 0]),some (.cells [.int .i64 t,.int .i64 (W ((↑xs.length:Int)+m))]),some (.cells [.int .i64 (Prod.snd (Prod.snd x_1.2).2).1,.int .i64 (Prod.snd (Prod.snd x_1.2).2).2,.slice 4 0 (List.length (aK (aK (Prod.snd (Prod.snd x_1.2).2).3 (Prod.snd x_1).1 (a7 (Prod.snd x_1.2).1 (W ((↑x_1.1:Int)+1)) false 0 (Prod.snd (Prod.snd x_1).2).1)) (W ((↑xs.length:Int)+m)+4+W ((↑x_1.1:Int)+1)) 1)) 1,.int .i64 ((Prod.snd (Prod.snd x_1.2).2).4+1+1),.int .i64 2,.int .i64 (W ((↑xs.length:Int)+m)+4+W ((↑x_1.1:Int)+1)),.int .u64 (aB (aK (Prod.snd (Prod.snd x_1.2).2).3 (Prod.snd x_1).1 (a7 (Prod.snd x_1.2).1 (W ((↑x_1.1:Int)+1)) false 0 (Prod.snd (Prod.snd x_1).2).1)) (W ((↑xs.length:Int)+m)+4+W ((↑x_1.1:Int)+1))),.int .u64 (bif bK (aK (Prod.snd (Prod.snd x_1.2).2).3 (Prod.snd x_1).1 (a7 (Prod.snd x_1.2).1 (W ((↑x_1.1:Int)+1)) false 0 (Prod.snd (Prod.snd x_1).2).1)) (W ((↑xs.length:Int)+m)+4+W ((↑x_1.1:Int)+1))then 1 else 0),.bool (bK (aK (Prod.snd (Prod.snd x_1.2).2).3 (Prod.snd x_1).1 (a7 (Prod.snd x_1.2).1 (W ((↑x_1.1:Int)+1)) false 0 (Prod.snd (Prod.snd x_1).2).1)) (W ((↑xs.length:Int)+m)+4+W ((↑x_1.1:Int)+1)))]),some (.ints (some .u64) (aK (aK (Prod.snd (Prod.snd x_1.2).2).3 (Prod.snd x_1).1 (a7 (Prod.snd x_1.2).1 (W ((↑x_1.1:Int)+1)) false 0 (Prod.snd (Prod.snd x_1).2).1)) (W ((↑xs.length:Int)+m)+4+W ((↑x_1.1:Int)+1)) 1)),some (.cells [.int .i64 (List.getD xs (0+Int.toNat (↑x_1.1:Int)*1) 0),.int .i64 0,.bool false,.int .i64 0,.int .i64 3])]else bif !ieq sh 2 then bif ilt 0 (↑x.1:Int)then okSt (HFi sh t m xs (↑(Prod.fst x):Int)) (fun x'=>Hint.ok (HFi sh t m xs (↑(Prod.fst x):Int)) x'∧Hint.mu (HFi sh t m xs (↑(Prod.fst x):Int)) x'<Hint.mu (HFi sh t m xs (↑(Prod.fst x):Int)) x_1) (.int .i64 sh::.O::.O::.slice 0 0 xs.length 1::.O::.O::.O::.O::.O::.ptr 1 0::.ptr 2 0::.ptr 3 0::.O::.int .i64 (↑x.1:Int)::.int .i64 (Prod.snd x_1).1::.ptr 5 0::(tO' 28 (.slice 0 0 xs.length 1::.int .i64 (↑xs.length:Int)::.int .i64 (W ((↑x_1.1:Int)+1))::(tO' 46 [])))) [some (.ints (some .i64) xs),some (.cells [.int .i64 0,.int .i64 0]),some (.cells [.int .i64 t,.int .i64 (W ((↑xs.length:Int)+m))]),some (.cells [.int .i64 (Prod.snd (Prod.snd x_1.2).2).1,.int .i64 (Prod.snd (Prod.snd x_1.2).2).2,.slice 4 0 (List.length (Prod.snd (Prod.snd x_1.2).2).3) 1,.int .i64 (Prod.snd (Prod.snd x_1.2).2).4,.int .i64 (Prod.snd (Prod.snd x_1.2).2).5,.int .i64 (Prod.snd (Prod.snd x_1.2).2).6,.int .u64 (Prod.snd (Prod.snd x_1.2).2).7,.int .u64 (Prod.snd (Prod.snd x_1.2).2).8,.bool (Prod.snd (Prod.snd x_1.2).2).9]),some (.ints (some .u64) (Prod.snd (Prod.snd x_1.2).2).3),some (.cells [.int .i64 (Prod.snd x_1.2).1,.int .i64 0,.bool false,.int .i64 0,.int .i64 (Prod.snd (Prod.snd x_1).2).1])]else(((0:Int)≤(Prod.snd x_1.2).1∧(Prod.snd x_1.2).1<(1024:Int))∧((0:Int)≤W ((↑x_1.1:Int)+1)∧W ((↑x_1.1:Int)+1)<(512:Int))∧((0:Int)≤(0:Int)∧(0:Int)<(32:Int))∧(0:Int)≤(Prod.snd (Prod.snd x_1).2).1∧(Prod.snd (Prod.snd x_1).2).1<(262144:Int))∧(lE' (Prod.snd (Prod.snd x_1.2).2).3∧(0:Int)≤(Prod.snd (Prod.snd x_1.2).2).4∧(Prod.snd (Prod.snd x_1.2).2).4≤(4611686018427387904:Int))∧(((0:Int)≤t∧t≤(100000:Int))∧((0:Int)≤W ((↑xs.length:Int)+m)∧W ((↑xs.length:Int)+m)≤(100000:Int))∧(-1099511627776:Int)≤W ((↑x_1.1:Int)+1)∧W ((↑x_1.1:Int)+1)≤(1099511627776:Int))∧(lE' (aK (Prod.snd (Prod.snd x_1.2).2).3 (Prod.snd x_1).1 (a7 (Prod.snd x_1.2).1 (W ((↑x_1.1:Int)+1)) false 0 (Prod.snd (Prod.snd x_1).2).1))∧(0:Int)≤(Prod.snd (Prod.snd x_1.2).2).4+1∧(Prod.snd (Prod.snd x_1.2).2).4+(1:Int)≤(4611686018427387904:Int))∧okSt (HFi sh t m xs (↑(Prod.fst x):Int)) (fun x'=>Hint.ok (HFi sh t m xs (↑(Prod.fst x):Int)) x'∧Hint.mu (HFi sh t m xs (↑(Prod.fst x):Int)) x'<Hint.mu (HFi sh t m xs (↑(Prod.fst x):Int)) x_1) (.int .i64 sh::.O::.O::.slice 0 0 xs.length 1::.O::.O::.O::.O::.O::.ptr 1 0::.ptr 2 0::.ptr 3 0::.O::.int .i64 (↑x.1:Int)::.int .i64 (W ((↑x_1.1:Int)+1))::.ptr 5 0::(tO' 28 (.slice 0 0 xs.length 1::.int .i64 (↑xs.length:Int)::.int .i64 (W ((↑x_1.1:Int)+1))::(tO' 46 [])))) [some (.ints (some .i64) xs),some (.cells [.int .i64 0,.int .i64 0]),some (.cells [.int .i64 t,.int .i64 (W ((↑xs.length:Int)+m))]),some (.cells [.int .i64 (Prod.snd (Prod.snd x_1.2).2).1,.int .i64 (Prod.snd (Prod.snd x_1.2).2).2,.slice 4 0 (List.length (aK (aK (Prod.snd (Prod.snd x_1.2).2).3 (Prod.snd x_1).1 (a7 (Prod.snd x_1.2).1 (W ((↑x_1.1:Int)+1)) false 0 (Prod.snd (Prod.snd x_1).2).1)) (W ((↑xs.length:Int)+m)+4+W ((↑x_1.1:Int)+1)) 1)) 1,.int .i64 ((Prod.snd (Prod.snd x_1.2).2).4+1+1),.int .i64 2,.int .i64 (W ((↑xs.length:Int)+m)+4+W ((↑x_1.1:Int)+1)),.int .u64 (aB (aK (Prod.snd (Prod.snd x_1.2).2).3 (Prod.snd x_1).1 (a7 (Prod.snd x_1.2).1 (W ((↑x_1.1:Int)+1)) false 0 (Prod.snd (Prod.snd x_1).2).1)) (W ((↑xs.length:Int)+m)+4+W ((↑x_1.1:Int)+1))),.int .u64 (bif bK (aK (Prod.snd (Prod.snd x_1.2).2).3 (Prod.snd x_1).1 (a7 (Prod.snd x_1.2).1 (W ((↑x_1.1:Int)+1)) false 0 (Prod.snd (Prod.snd x_1).2).1)) (W ((↑xs.length:Int)+m)+4+W ((↑x_1.1:Int)+1))then 1 else 0),.bool (bK (aK (Prod.snd (Prod.snd x_1.2).2).3 (Prod.snd x_1).1 (a7 (Prod.snd x_1.2).1 (W ((↑x_1.1:Int)+1)) false 0 (Prod.snd (Prod.snd x_1).2).1)) (W ((↑xs.length:Int)+m)+4+W ((↑x_1.1:Int)+1)))]),some (.ints (some .u64) (aK (aK (Prod.snd (Prod.snd x_1.2).2).3 (Prod.snd x_1).1 (a7 (Prod.snd x_1.2).1 (W ((↑x_1.1:Int)+1)) false 0 (Prod.snd (Prod.snd x_1).2).1)) (W ((↑xs.length:Int)+m)+4+W ((↑x_1.1:Int)+1)) 1)),some (.cells [.int .i64 (List.getD xs (0+Int.toNat (↑x_1.1:Int)*1) 0),.int .i64 0,.bool false,.int .i64 0,.int .i64 3])]else(((0:Int)≤(Prod.snd x_1.2).1∧(Prod.snd x_1.2).1<(1024:Int))∧((0:Int)≤W ((↑x_1.1:Int)+1)∧W ((↑x_1.1:Int)+1)<(512:Int))∧((0:Int)≤(0:Int)∧(0:Int)<(32:Int))∧(0:Int)≤(Prod.snd (Prod.snd x_1).2).1∧(Prod.snd (Prod.snd x_1).2).1<(262144:Int))∧(lE' (Prod.snd (Prod.snd x_1.2).2).3∧(0:Int)≤(Prod.snd (Prod.snd x_1.2).2).4∧(Prod.snd (Prod.snd x_1.2).2).4≤(4611686018427387904:Int))∧(((0:Int)≤t∧t≤(100000:Int))∧((0:Int)≤W ((↑xs.length:Int)+m)∧W ((↑xs.length:Int)+m)≤(100000:Int))∧(-1099511627776:Int)≤W ((↑x_1.1:Int)+1)∧W ((↑x_1.1:Int)+1)≤(1099511627776:Int))∧(lE' (aK (Prod.snd (Prod.snd x_1.2).2).3 (Prod.snd x_1).1 (a7 (Prod.snd x_1.2).1 (W ((↑x_1.1:Int)+1)) false 0 (Prod.snd (Prod.snd x_1).2).1))∧(0:Int)≤(Prod.snd (Prod.snd x_1.2).2).4+1∧(Prod.snd (Prod.snd x_1.2).2).4+(1:Int)≤(4611686018427387904:Int))∧okSt (HFi sh t m xs (↑(Prod.fst x):Int)) (fun x'=>Hint.ok (HFi sh t m xs (↑(Prod.fst x):Int)) x'∧Hint.mu (HFi sh t m xs (↑(Prod.fst x):Int)) x'<Hint.mu (HFi sh t m xs (↑(Prod.fst x):Int)) x_1) (.int .i64 sh::.O::.O::.slice 0 0 xs.length 1::.O::.O::.O::.O::.O::.ptr 1 0::.ptr 2 0::.ptr 3 0::.O::.int .i64 (↑x.1:Int)::.int .i64 (W ((↑x_1.1:Int)+1))::.ptr 5 0::(tO' 28 (.slice 0 0 xs.length 1::.int .i64 (↑xs.length:Int)::.int .i64 (W ((↑x_1.1:Int)+1))::(tO' 46 [])))) [some (.ints (some .i64) xs),some (.cells [.int .i64 0,.int .i64 0]),some (.cells [.int .i64 t,.int .i64 (W ((↑xs.length:Int)+m))]),some (.cells [.int .i64 (Prod.snd (Prod.snd x_1.2).2).1,.int .i64 (Prod.snd (Prod.snd x_1.2).2).2,.slice 4 0 (List.length (aK (aK (Prod.snd (Prod.snd x_1.2).2).3 (Prod.snd x_1).1 (a7 (Prod.snd x_1.2).1 (W ((↑x_1.1:Int)+1)) false 0 (Prod.snd (Prod.snd x_1).2).1)) (W ((↑xs.length:Int)+m)+4+W ((↑x_1.1:Int)+1)) 1)) 1,.int .i64 ((Prod.snd (Prod.snd x_1.2).2).4+1+1),.int .i64 2,.int .i64 (W ((↑xs.length:Int)+m)+4+W ((↑x_1.1:Int)+1)),.int .u64 (aB (aK (Prod.snd (Prod.snd x_1.2).2).3 (Prod.snd x_1).1 (a7 (Prod.snd x_1.2).1 (W ((↑x_1.1:Int)+1)) false 0 (Prod.snd (Prod.snd x_1).2).1)) (W ((↑xs.length:Int)+m)+4+W ((↑x_1.1:Int)+1))),.int .u64 (bif bK (aK (Prod.snd (Prod.snd x_1.2).2).3 (Prod.snd x_1).1 (a7 (Prod.snd x_1.2).1 (W ((↑x_1.1:Int)+1)) false 0 (Prod.snd (Prod.snd x_1).2).1)) (W ((↑xs.length:Int)+m)+4+W ((↑x_1.1:Int)+1))then 1 else 0),.bool (bK (aK (Prod.snd (Prod.snd x_1.2).2).3 (Prod.snd x_1).1 (a7 (Prod.snd x_1.2).1 (W ((↑x_1.1:Int)+1)) false 0 (Prod.snd (Prod.snd x_1).2).1)) (W ((↑xs.length:Int)+m)+4+W ((↑x_1.1:Int)+1)))]),some (.ints (some .u64) (aK (aK (Prod.snd (Prod.snd x_1.2).2).3 (Prod.snd x_1).1 (a7 (Prod.snd x_1.2).1 (W ((↑x_1.1:Int)+1)) false 0 (Prod.snd (Prod.snd x_1).2).1)) (W ((↑xs.length:Int)+m)+4+W ((↑x_1.1:Int)+1)) 1)),some (.cells [.int .i64 (List.getD xs (0+Int.toNat (↑x_1.1:Int)*1) 0),.int .i64 0,.bool false,.int .i64 0,.int .i64 3])]else(((0:Int)≤(Prod.snd x_1.2).1∧(Prod.snd x_1.2).1<(1024:Int))∧((0:Int)≤(0:Int)∧(0:Int)<(512:Int))∧((0:Int)≤(0:Int)∧(0:Int)<(32:Int))∧(0:Int)≤(Prod.snd (Prod.snd x_1).2).1∧(Prod.snd (Prod.snd x_1).2).1<(262144:Int))∧(lE' (Prod.snd (Prod.snd x_1.2).2).3∧(0:Int)≤(Prod.snd (Prod.snd x_1.2).2).4∧(Prod.snd (Prod.snd x_1.2).2).4≤(4611686018427387904:Int))∧okSt (NC sh t m xs) (fun x'=>Hint.ok (NC sh t m xs) x'∧Hint.mu (NC sh t m xs) x'<Hint.mu (NC sh t m xs) x) (.int .i64 sh::.O::.O::.slice 0 0 xs.length 1::.O::.O::.O::.O::.O::.ptr 1 0::.ptr 2 0::.ptr 3 0::.O::.int .i64 (W ((↑x.1:Int)+1))::(tO' 79 [])) [some (.ints (some .i64) xs),some (.cells [.int .i64 0,.int .i64 0]),some (.cells [.int .i64 t,.int .i64 (W ((↑xs.length:Int)+m))]),some (.cells [.int .i64 (Prod.snd (Prod.snd x_1.2).2).1,.int .i64 (Prod.snd (Prod.snd x_1.2).2).2,.slice 4 0 (List.length (aK (Prod.snd (Prod.snd x_1.2).2).3 (Prod.snd x_1).1 (a7 (Prod.snd x_1.2).1 0 false 0 (Prod.snd (Prod.snd x_1).2).1))) 1,.int .i64 ((Prod.snd (Prod.snd x_1.2).2).4+1),.int .i64 2,.int .i64 (Prod.snd x_1).1,.int .u64 (aB (Prod.snd (Prod.snd x_1.2).2).3 (Prod.snd x_1).1),.int .u64 (bif bK (Prod.snd (Prod.snd x_1.2).2).3 (Prod.snd x_1).1 then a7 (Prod.snd x_1.2).1 0 false 0 (Prod.snd (Prod.snd x_1).2).1 else 0),.bool (bK (Prod.snd (Prod.snd x_1.2).2).3 (Prod.snd x_1).1)]),some (.ints (some .u64) (aK (Prod.snd (Prod.snd x_1.2).2).3 (Prod.snd x_1).1 (a7 (Prod.snd x_1.2).1 0 false 0 (Prod.snd (Prod.snd x_1).2).1)))]else K (.tup [.ptr 1 0,.agg [.int .i64 t,.int .i64 (W ((↑xs.length:Int)+m))]]) [some (.ints (some .i64) xs),some (.cells [.int .i64 (Prod.snd x).1,.int .i64 (Prod.snd x).2,.slice 2 0 (List.length (Prod.snd x).3) 1,.int .i64 (Prod.snd x).4,.int .i64 (Prod.snd x).5,.int .i64 (Prod.snd x).6,.int .u64 (Prod.snd x).7,.int .u64 (Prod.snd x).8,.bool (Prod.snd x).9]),some (.ints (some .u64) (Prod.snd x).3)]
theorem F0(sh t m:Int)(xs:List Int)(K:AVal→aD Ob→Prop)(h:zW sh t m xs K):cT' 15 [.int .i64 sh,.int .i64 t,.int .i64 m,.slice 0 0 xs.length 1] [some (.ints (some .i64) xs)] K:=by
 refine aEl (aE (E:=EZ) Tryz.checked.mixed (L:=Z3 sh t m xs) (n:=10) (aN (by kernel_rfl) h))
theorem tK(sh h n k:Int)(ks:List Int)(i a ky vr:Int)(s:MS)(e:dQ sh h k=true):eT sh h n (k::ks) i a ky vr s=eT sh h n ks (i+1) a ky vr s:=by show cond _ _ _=_;rw [e];rfl
theorem tL(sh h n k:Int)(ks:List Int)(i a ky vr:Int)(s:MS)(e:dQ sh h k=false):eT sh h n (k::ks) i a ky vr s=eT sh h n ks (i+1) (i+1) k 3 ((s.stored a (a7 ky (i+1) false 0 vr)).stored (n+4+(i+1)) 1):=by show cond _ _ _=_;rw [e];rfl
theorem vI(sh n:Int)(xs:List Int)(h:Nat)(hh:h<4)(s:MS):fO sh n xs (4 - h) h s=fO sh n xs (3 - (h:Int)).toNat ((h:Int)+1) (eT sh h n xs 0 (n+1+h) 0 0 s):=by
 have:4 - h=(3 - (h:Int)).toNat +1:=by omega
 rw [this];rfl
theorem TY(sh t m:Int)(xs:List Int)(K:AVal→aD Ob→Prop)(hm:0≤m∧m≤100)(hl:xs.length≤100)(hr:fP t (xs.length+m)=true)(hk: ∀k∈xs,0≤k∧k<1024)
 (hK:K (.tup [.ptr 1 0,.agg [.int .i64 t,.int .i64 (xs.length+m)]]) [some (.ints (some .i64) xs),bA 2 (fO sh (xs.length+m) xs 4 0 (memN t (xs.length+m))),bB (fO sh (xs.length+m) xs 4 0 (memN t (xs.length+m)))]):zW sh t m xs K:=by
 unfold zW;have hr2:=kD.1 hr;have hn:W ((xs.length:Int)+m)=xs.length+m:=cJ (by omega)
 have hr':fP t (W ((xs.length:Int)+m))=true:=by rw [hn];exact hr
 have hz:(2*W ((xs.length:Int)+m)+5*t+6).toNat =(2*((xs.length:Int)+m)+5*t+6).toNat :=by rw [hn]
 rw [hr'];refine⟨trivial,aM (fun e=>by cases e) (fun _=>⟨⟨by omega,by omega,by omega⟩,aM (fun e=>?_) (fun _=>⟨⟨⟨by omega,by omega,by omega⟩,trivial⟩,⟨by omega,rfl,by omega⟩,?_,?_⟩)⟩)⟩
 ·rw [bP,dT']at e;omega
 ·refine aS (H:=NC sh t m xs) ((0:Nat),memN t (W ((xs.length:Int)+m))) ?_ ⟨Nat.zero_le _,⟨Int.le_refl 0,by show(0:Int)≤_;omega⟩,rfl⟩
  simp only [NC,bA,bB,memN,List.length_replicate];rfl
 ·rintro⟨h,s⟩ ⟨h4,hc,heq⟩;simp only at h4 hc heq;refine aM (fun e1=>?_) (fun e1=>?_)
  ·rw [bP,dT']at e1;refine⟨⟨by omega,by omega,by omega⟩,aS (H:=HFi sh t m xs (h:Int)) ((0:Nat),(W ((xs.length:Int)+m)+1+h,((0:Int),((0:Int),s)))) rfl ⟨by omega,Nat.zero_le _,⟨Int.le_refl 0,by show(0:Int)<1024;omega⟩,⟨Int.le_refl 0,by show(0:Int)<262144;omega⟩,⟨hc.1,by show s.c≤1000*(h:Int)+3*((0:Nat):Int);omega⟩,?_⟩,?_⟩
   ·rw [heq,vI _ _ _ _ (by omega)];rfl
   ·rintro⟨i,a,ky,vr,s1⟩ ⟨g4,gi,gk,gv,gc,geq⟩;simp only at g4 gi gk gv gc geq;have gc2:s1.c≤1000*(h:Int)+3*i:=gc.2;have gc1:0≤s1.c:=gc.1;have gh:(h:Int)<4:=g4.2
    have hskip: ∀(hi:i<xs.length),dQ sh h (xs.getD (0+(i:Int).toNat *1) 0)=true→okSt (HFi sh t m xs h) (fun x'=>Hint.ok (HFi sh t m xs h) x'∧Hint.mu (HFi sh t m xs h) x'<Hint.mu (HFi sh t m xs h) (i,a,ky,vr,s1)) ((HFi sh t m xs h).st ((i+1:Nat),a,ky,vr,s1)).1 ((HFi sh t m xs h).st ((i+1:Nat),a,ky,vr,s1)).2:=by
     intro hi hs;refine aS (H:=HFi sh t m xs h) ((i+1:Nat),a,ky,vr,s1) rfl ⟨⟨g4,hi,gk,gv,⟨gc.1,by show s1.c≤1000*(h:Int)+3*((i+1:Nat):Int);omega⟩,?_⟩,by show xs.length - (i+1)<xs.length - i;omega⟩
     have e2:0+(i:Int).toNat *1=i:=by omega
     have e3:xs.getD i 0=xs[i]:=by rw [gD',gE' hi];rfl
     rw [e2,e3]at hs;rw [geq,List.drop_eq_getElem_cons hi,tK _ _ _ _ _ _ _ _ _ _ hs];rfl
    have hput: ∀(hi:i<xs.length),dQ sh h (xs.getD (0+(i:Int).toNat *1) 0)=false→okSt (HFi sh t m xs h) (fun x'=>Hint.ok (HFi sh t m xs h) x'∧Hint.mu (HFi sh t m xs h) x'<Hint.mu (HFi sh t m xs h) (i,a,ky,vr,s1)) ((HFi sh t m xs h).st ((i+1:Nat),((i+1:Nat):Int),(xs.getD (0+(i:Int).toNat *1) 0,(3:Int),((s1.stored a (a7 ky ((i:Int)+1) false 0 vr)).stored (W ((xs.length:Int)+m)+4+((i:Int)+1)) 1)))).1 ((HFi sh t m xs h).st ((i+1:Nat),((i+1:Nat):Int),(xs.getD (0+(i:Int).toNat *1) 0,(3:Int),((s1.stored a (a7 ky ((i:Int)+1) false 0 vr)).stored (W ((xs.length:Int)+m)+4+((i:Int)+1)) 1)))).2:=by
     intro hi hs;have e2:0+(i:Int).toNat *1=i:=by omega
     rw [e2]at hs⊢;have e3:xs.getD i 0=xs[i]:=by rw [gD',gE' hi];rfl
     rw [e3]at hs⊢;refine aS (H:=HFi sh t m xs h) _ rfl ⟨⟨g4,hi,hk _ (List.getElem_mem hi),⟨by show(0:Int)≤3;omega,by show(3:Int)<262144;omega⟩,⟨?_,?_⟩,?_⟩,by show xs.length - (i+1)<xs.length - i;omega⟩
     ·show 0≤s1.c+1+1;omega
     ·show s1.c+1+1≤1000*(h:Int)+3*((i+1:Nat):Int);omega
     ·rw [geq,List.drop_eq_getElem_cons hi,tL _ _ _ _ _ _ _ _ _ _ hs];rfl
    have e4:i<xs.length→W ((i:Int)+1)=((i+1:Nat):Int):=fun hi=>(cJ (by omega)).trans rfl
    have e4':W ((h:Int)+1)=((h+1:Nat):Int):=(cJ (by have:(h:Int)<4:=g4.2;omega)).trans rfl
    refine aM (fun e2=>?_) (fun e2=>?_)
    ·rw [bP,dT']at e2;have hi:i<xs.length:=by omega
     have e4:=e4 hi;have e0:0+(i:Int).toNat *1<xs.length:=by omega
     refine⟨by omega,e0,?_⟩
     have hput:=hput hi;have hskip:=hskip hi;unfold dQ at hput hskip;simp only [e4]at hput hskip⊢;refine aM (fun e5=>?_) (fun e5=>?_)
     ·rw [e5]at hput hskip;refine⟨by decide,aM (fun e6=>?_) (fun e6=>?_)⟩
      ·exact hskip e6
      ·rw [e5];refine aM (fun e7=>by cases e7) (fun _=>?_)
       refine⟨⟨gk,⟨by omega,by omega⟩,⟨by decide,by decide⟩,gv⟩,⟨trivial,gc.1,by omega⟩,⟨⟨by omega,by omega⟩,⟨by omega,by omega⟩,by omega,by omega⟩,⟨trivial,by omega,by omega⟩,?_⟩
       exact hput e6
     ·rw [e5]at hput hskip;rw [e5];refine aM (fun _=>aM (fun e6=>?_) (fun e6=>?_)) (fun e7=>by cases e7)
      ·exact hskip e6
      ·refine⟨⟨gk,⟨by omega,by omega⟩,⟨by decide,by decide⟩,gv⟩,⟨trivial,gc.1,by omega⟩,⟨⟨by omega,by omega⟩,⟨by omega,by omega⟩,by omega,by omega⟩,⟨trivial,by omega,by omega⟩,?_⟩
       exact hput e6
    ·rw [bP,dF']at e2;have hi:i=xs.length:=by omega
     subst hi;refine⟨⟨gk,⟨by decide,by decide⟩,⟨by decide,by decide⟩,gv⟩,⟨rfl,gc1,by show s1.c≤4611686018427387904;omega⟩,aS (H:=NC sh t m xs) ((h+1:Nat),s1.stored a (a7 ky 0 false 0 vr)) ?_ ⟨⟨by show h+1≤4;omega,⟨by show 0≤s1.c+1;omega,by show s1.c+1≤1000*((h+1:Nat):Int);omega⟩,?_⟩,by show 4 - (h+1)<4 - h;omega⟩⟩
     ·simp only [NC,←e4'];rfl
     ·rw [geq,List.drop_length];have e9:(3 - (h:Int)).toNat =4 - (h+1):=by omega
      rw [e9];rfl
  ·rw [bP,dF']at e1;have e5:h=4:=by omega
   subst e5;have heq':fO sh (W ((xs.length:Int)+m)) xs 4 0 (memN t (W ((xs.length:Int)+m)))=s:=heq;rw [hn]at heq';rw [heq']at hK;rw [hn];exact hK
def eM(sh t n:Int)(xs:List Int):MS:=fO sh n xs 4 0 (memN t n)
structure vH (t m:Int) (xs:List Int):Prop where
 hm:0≤m∧m≤100
 hl:xs.length≤100
 hr:fP t (xs.length+m)=true
 hk: ∀k∈xs,0≤k∧k<1024
def NB(sh t m:Int):Hint Ob:= {X:=Nat×MS,st:=fun x=>([.int .i64 sh,.O,.O,.raw (.slice none 0 0),.O,.O,.O,.O,.O,.ptr 0 0,.ptr 1 0,.ptr 2 0,.O,.int .i64 (x.1:Int)]++List.replicate 79 .O,[some (.cells [.int .i64 0,.int .i64 0]),some (.cells [.int .i64 t,.int .i64 (IntKind.wrap .i64 (((0:Nat):Int)+m))]),bA 3 x.2,bB x.2]),ok:=oN sh t (IntKind.wrap .i64 (((0:Nat):Int)+m)) [],mu:=fun x=>4 - x.1,keep:=[0,3,9,10,11,13] }
def Z4(sh t m:Int):FuncId→Nat→Option (rU Ob):=fun _ k=>if k=6 then some (.states (NB sh t m))else some (.rounds 2)
def uJ(sh t m:Int)(K:AVal→aD Ob→Prop):Prop:=True∧bif !fP t (W ((↑0:Int)+m))then K (.tup [.raw (Value.pointer none),.agg [.int .i64 t,.int .i64 (W ((↑0:Int)+m))]]) []else(((0:Int)≤t∧t≤(100000:Int))∧(0:Int)≤W ((↑0:Int)+m)∧W ((↑0:Int)+m)≤(100000:Int))∧bif ilt (2*W ((↑0:Int)+m)+5*t+6) (↑0:Int)then K (.tup [.raw (Value.pointer none),.agg [.int .i64 t,.int .i64 (W ((↑0:Int)+m))]]) []else((((0:Int)≤t∧t≤(100000:Int))∧(0:Int)≤W ((↑0:Int)+m)∧W ((↑0:Int)+m)≤(100000:Int))∧True)∧((0:Int)≤(2:Int)*W ((↑0:Int)+m)+5*t+6∧2*W ((↑0:Int)+m)+5*t+(6:Int)=(2:Int)*W ((↑0:Int)+m)+5*t+6∧2*W ((↑0:Int)+m)+5*t+(6:Int)≤(4294967296:Int))∧okSt (NB sh t m) (Hint.ok (NB sh t m)) (.int .i64 sh::.O::.O::.raw (Value.slice none 0 0)::.O::.O::.O::.O::.O::.ptr 0 0::.ptr 1 0::.ptr 2 0::.O::.int .i64 0::(tO' 79 [])) [some (.cells [.int .i64 0,.int .i64 0]),some (.cells [.int .i64 t,.int .i64 (W ((↑0:Int)+m))]),some (.cells [.int .i64 t,.int .i64 (W ((↑0:Int)+m)),.slice 3 0 (Int.toNat (2*W ((↑0:Int)+m)+5*t+6)) 1,.int .i64 0,.int .i64 0,.int .i64 0,.int .u64 0,.int .u64 0,.bool false]),some (.ints (some .u64) (List.replicate (Int.toNat (2*W ((↑0:Int)+m)+5*t+6)) 0))]∧ ∀(x:(Nat×MS)),oN sh t (W ((↑0:Int)+m)) [] x→bif ilt (↑x.1:Int) 4 then(((0:Int)≤W ((↑0:Int)+m)∧W ((↑0:Int)+m)≤(100000:Int))∧(-1000000:Int)≤(↑x.1:Int)∧(↑x.1:Int)≤(1000000:Int))∧(((0:Int)≤(0:Int)∧(0:Int)<(1024:Int))∧((0:Int)≤(0:Int)∧(0:Int)<(512:Int))∧((0:Int)≤(0:Int)∧(0:Int)<(32:Int))∧(0:Int)≤(0:Int)∧(0:Int)<(262144:Int))∧(lE' (Prod.snd x).3∧(0:Int)≤(Prod.snd x).4∧(Prod.snd x).4≤(4611686018427387904:Int))∧okSt (NB sh t m) (fun x'=>Hint.ok (NB sh t m) x'∧Hint.mu (NB sh t m) x'<Hint.mu (NB sh t m) x) (.int .i64 sh::.O::.O::.raw (Value.slice none 0 0)::.O::.O::.O::.O::.O::.ptr 0 0::.ptr 1 0::.ptr 2 0::.O::.int .i64 (W ((↑x.1:Int)+1))::(tO' 79 [])) [some (.cells [.int .i64 0,.int .i64 0]),some (.cells [.int .i64 t,.int .i64 (W ((↑0:Int)+m))]),some (.cells [.int .i64 (Prod.snd x).1,.int .i64 (Prod.snd x).2,.slice 3 0 (List.length (aK (Prod.snd x).3 (W ((↑0:Int)+m)+1+(↑x.1:Int)) (a7 0 0 false 0 0))) 1,.int .i64 ((Prod.snd x).4+1),.int .i64 2,.int .i64 (W ((↑0:Int)+m)+1+(↑x.1:Int)),.int .u64 (aB (Prod.snd x).3 (W ((↑0:Int)+m)+1+(↑x.1:Int))),.int .u64 (bif bK (Prod.snd x).3 (W ((↑0:Int)+m)+1+(↑x.1:Int))then a7 0 0 false 0 0 else 0),.bool (bK (Prod.snd x).3 (W ((↑0:Int)+m)+1+(↑x.1:Int)))]),some (.ints (some .u64) (aK (Prod.snd x).3 (W ((↑0:Int)+m)+1+(↑x.1:Int)) (a7 0 0 false 0 0)))]else K (.tup [.ptr 0 0,.agg [.int .i64 t,.int .i64 (W ((↑0:Int)+m))]]) [some (.cells [.int .i64 (Prod.snd x).1,.int .i64 (Prod.snd x).2,.slice 1 0 (List.length (Prod.snd x).3) 1,.int .i64 (Prod.snd x).4,.int .i64 (Prod.snd x).5,.int .i64 (Prod.snd x).6,.int .u64 (Prod.snd x).7,.int .u64 (Prod.snd x).8,.bool (Prod.snd x).9]),some (.ints (some .u64) (Prod.snd x).3)]
theorem CT(sh t m:Int)(K:AVal→aD Ob→Prop)(h:uJ sh t m K):cT' 15 [.int .i64 sh,.int .i64 t,.int .i64 m,.raw (.slice none 0 0)] [] K:=by
 refine aEl (aE (E:=EZ) Tryz.checked.mixed (L:=Z4 sh t m) (n:=10) (aN (by kernel_rfl) h))
theorem OR(sh t m:Int)(K:AVal→aD Ob→Prop)(ok:vH t m [])
 (hK:K (.tup [.ptr 0 0,.agg [.int .i64 t,.int .i64 m]]) [bA 1 (eM sh t m []),bB (eM sh t m [])]):uJ sh t m K:=by
 obtain⟨hm,hl,hr,hk⟩:=ok;have h00:((([]:List Int).length :Int)+m)=m:=by simp
 rw [h00]at hr;unfold uJ;have hr2:=kD.1 hr;have hn:W (0+m)=m:=(cJ (by omega)).trans (by omega)
 have hr':fP t (W (0+m))=true:=by rw [hn];exact hr
 rw [hr'];refine⟨trivial,aM (fun e=>by cases e) (fun _=>⟨⟨by omega,by omega,by omega⟩,aM (fun e=>?_) (fun _=>⟨⟨⟨by omega,by omega,by omega⟩,trivial⟩,⟨by omega,rfl,by omega⟩,?_,?_⟩)⟩)⟩
 ·rw [bP,dT']at e;omega
 ·refine aS (H:=NB sh t m) ((0:Nat),memN t (W (0+m))) ?_ ⟨Nat.zero_le _,⟨Int.le_refl 0,by show(0:Int)≤_;omega⟩,rfl⟩
  simp only [NB,bA,bB,memN,List.length_replicate];rfl
 ·rintro⟨h,s⟩ ⟨h4,hc,heq⟩;simp only at h4 hc heq;have gc1:0≤s.c:=hc.1;refine aM (fun e1=>?_) (fun e1=>?_)
  ·rw [bP,dT']at e1;have e1:(h:Int)<4:=e1;have e4':W ((h:Int)+1)=((h+1:Nat):Int):=(cJ (by omega)).trans rfl
   refine⟨⟨by omega,by omega,by omega⟩,⟨⟨by decide,by decide⟩,⟨by decide,by decide⟩,⟨by decide,by decide⟩,by decide,by decide⟩,⟨rfl,gc1,by show s.c≤4611686018427387904;omega⟩,aS (H:=NB sh t m) ((h+1:Nat),s.stored (W (0+m)+1+h) (a7 0 0 false 0 0)) ?_ ⟨⟨by show h+1≤4;omega,⟨by show 0≤s.c+1;omega,by show s.c+1≤1000*((h+1:Nat):Int);omega⟩,?_⟩,by show 4 - (h+1)<4 - h;omega⟩⟩
   ·simp only [NB,←e4'];rfl
   ·have e9:(3 - (h:Int)).toNat =4 - (h+1):=by omega
    refine Eq.trans heq ?_;rw [vI _ _ _ _ (by omega),e9];rfl
  ·rw [bP,dF']at e1;have e1: ¬(h:Int)<4:=e1;have e5:h=4:=by omega
   subst e5;have heq':fO sh (W (0+m)) [] 4 0 (memN t (W (0+m)))=s:=heq;rw [hn]at heq';unfold eM at hK;rw [heq']at hK;rw [hn];exact hK
def fillSa:aH Ob:=fun args h=>match args,h with
 | [.int .i64 sh,.int .i64 t,.int .i64 m,.slice 0 0 k 1],[some (.ints (some .i64) xs)]=>some (.pre (k=xs.length∧vH t m xs) (.ret (.tup [.ptr 1 0,.agg [.int .i64 t,.int .i64 (xs.length+m)]]) [some (.ints (some .i64) xs),bA 2 (eM sh t (xs.length+m) xs),bB (eM sh t (xs.length+m) xs)]))
 | _,_=>none
def fillSb:aH Ob:=fun args h=>match args,h with
 | [.int .i64 sh,.int .i64 t,.int .i64 m,.raw (.slice none 0 0)],[]=>some (.pre (vH t m []) (.ret (.tup [.ptr 0 0,.agg [.int .i64 t,.int .i64 m]]) [bA 1 (eM sh t m []),bB (eM sh t m [])]))
 | _,_=>none
theorem OQ:sT' 15 fillSa:=by
 intro args h o ho K hK;unfold fillSa at ho;split at ho<;>cases ho
 rename_i sh t m k xs;obtain⟨⟨rfl,ok⟩,hK⟩:=hK;exact F0 sh t m xs K (TY sh t m xs K ok.hm ok.hl ok.hr ok.hk hK)
theorem CS:sT' 15 fillSb:=by
 intro args h o ho K hK;unfold fillSb at ho;split at ho<;>cases ho
 rename_i sh t m;obtain⟨ok,hK⟩:=hK;exact CT sh t m K (OR sh t m K ok hK)
noncomputable def fillS:aH Ob:=aH.or fillSa fillSb
theorem zY:sT' 15 fillS:=aEA OQ CS
noncomputable def EF1:=EZ.addS 15 fillS zY
def stNewS:aH Ob:=fun args h=>match args,h with
 | [.agg [.int .i64 t,.int .i64 n],.int .i64 me],[]=>some (.pre True (.ret (.ptr 0 0) [stC 1 t n ⟨me,0,[]⟩,gZ ⟨me,0,[]⟩]))
 | _,_=>none
theorem EB:sT' 19 stNewS:=by
 intro args h o ho K hK;unfold stNewS at ho;split at ho<;>cases ho
 rename_i t n me;obtain⟨_,hK⟩:=hK;have hK:K (.ptr 0 0) [stC 1 t n ⟨me,0,[]⟩,gZ ⟨me,0,[]⟩]:=hK;refine aEl (aEQ (cs:=[(.cell 1 4,.ints (some .i64))]) (cM' (E:=EF1) (q:=K (.ptr 0 0) [some (.cells [.int .i64 t,.int .i64 n,.int .i64 me,.int .i64 0,.slice 1 0 0 1]),some (.ints (some .i64) [])]) (by kernel_rfl) ?_))
 exact hK
noncomputable def EF2:=EF1.addS 19 stNewS EB
noncomputable def EF3:pZ Ob Tryz.prog:=EF2
def enNSA:aH Ob:=fun args h=>match args,h with
 | [.ptr 0 0],[some (.abs (.store t n st) [])]=>some (.pre (CA t n st).ok (.ret (.ptr 1 0) [some (.abs (.store t n (CA t n st).val) []),some (.abs (.ensure t n aU) [0])]))
 | _,_=>none
theorem TL:sT' 37 enNSA:=by
 intro args h o ho K hK
 unfold enNSA at ho
 split at ho<;>cases ho
 rename_i t n st
 obtain⟨ok,hK⟩:=hK
 refine aC.pack (tb:=tbl) (aC.unpack (tb:=tbl) (Mc.store t n st) 0 0 (dI t n st) [] rfl rfl rfl rfl ?_)
 refine FT [.ptr 0 0] [stC 1 t n st,gZ st] _ rfl _ ⟨⟨rfl,ok⟩,⟨[0,2,1],[some (.abs (.store t n (CA t n st).val) []),some (.abs (.ensure t n aU) [0])],.store t n (CA t n st).val,0,0,dI t n (CA t n st).val,[],by kernel_rfl,by kernel_rfl,rfl,rfl,hK⟩⟩
def ftNSA:aH Ob:=fun args h=>match args,h with
 | [.ptr 0 0,.agg [.int .i64 sh,.int .i64 kd,.int .i64 ky],.int .i64 most],[some (.abs (.store t n st) [])]=>some (.pre (tR t n sh kd ky most st) (.ret (.ptr 1 0) [some (.abs (.store t n (ftNF t n sh kd ky most st).2) []),some (.abs (.fast t n (ftNF t n sh kd ky most st).1) [0])]))
 | _,_=>none
theorem UC:sT' 18 ftNSA:=by
 intro args h o ho K hK
 unfold ftNSA at ho
 split at ho<;>cases ho
 rename_i sh kd ky most t n st
 obtain⟨ok,hK⟩:=hK
 refine aC.pack (tb:=tbl) (aC.unpack (tb:=tbl) (Mc.store t n st) 0 0 (dI t n st) [] rfl rfl rfl rfl ?_)
 refine F5 [.ptr 0 0,.agg [.int .i64 sh,.int .i64 kd,.int .i64 ky],.int .i64 most] [stC 1 t n st,gZ st] _ rfl _ ⟨⟨rfl,ok⟩,⟨[0,2,1],[some (.abs (.store t n (ftNF t n sh kd ky most st).2) []),some (.abs (.fast t n (ftNF t n sh kd ky most st).1) [0])],.store t n (ftNF t n sh kd ky most st).2,0,0,dI t n (ftNF t n sh kd ky most st).2,[],by kernel_rfl,by kernel_rfl,rfl,rfl,hK⟩⟩
noncomputable def EFr:=(EF3.addS 37 (aH.or enNSA enNS) (aEA TL FT)).addS 18 (aH.or ftNSA ftNS) (aEA UC F5)
def r0(r:List Int):Int:=List.headD r 0
def r1(r:List Int):Int:=List.headD (List.tail r) 0
def r2(r:List Int):Int:=List.headD (List.tail (List.tail r)) 0
abbrev KT:List Code1:=[some .i64,some .i64,some .i64]
abbrev KR:List Code1:=[some .i64,none,some .i64]
def stNewZ:aH Ob:=fun args h=>match args,h with
 | [.agg [.int .i64 t,.int .i64 n],.int .i64 me],[]=>some (.pre True (.ret (.ptr 0 0) [some (.abs (.store t n ⟨me,0,[]⟩) [])]))
 | _,_=>none
theorem MQ:sT' 19 stNewZ:=by
 intro args h o ho K hK
 unfold stNewZ at ho
 split at ho<;>cases ho
 rename_i t n me
 obtain⟨_,hK⟩:=hK
 refine aC.pack (tb:=tbl) ?_
 refine EB [.agg [.int .i64 t,.int .i64 n],.int .i64 me] [] _ rfl _ ⟨trivial,⟨[0,1],[some (.abs (.store t n ⟨me,0,[]⟩) [])],.store t n ⟨me,0,[]⟩,0,0,dI t n ⟨me,0,[]⟩,[],by kernel_rfl,by kernel_rfl,rfl,rfl,hK⟩⟩
noncomputable def EFs:=((EFr.addS 19 stNewZ MQ))
noncomputable def EFt:=EFs
def rI:AVal→Int
 | .int _ n=>n
 | _=>0
def rK(row:Nat→List AVal)(i:Nat):Int:=rI ((row i).getD 0 .O)
def rY(row:Nat→List AVal)(i:Nat):Int:=rI ((row i).getD 1 .O)
structure dS (row:Nat→List AVal):Prop where
 h:row=fun i=>[.int .i64 (rK row i),.int .i64 (rY row i)]
def kV(k:Int)(m:Nat)(f g:Nat→Int):Bool:=(List.range m).all fun j=>aZ k (f j) (g j)
theorem pT{k:Int}{m:Nat}{f g:Nat→Int} :kV k m f g=true↔ ∀j,j<m→aZ k (f j) (g j)=true:=by
 unfold kV;simp
def inF(f g:Nat→Int)(k:Int):Nat→Bool
 | 0=>false
 | n+1=>bif ieq (g n) k&&ieq (f n) 1 then true else bif ieq (g n) k&&ieq (f n) 2 then false else inF f g k n
def inO(f g:Nat→Int)(k:Int)(n:Nat):Bool:=inF f g k n
def bG(f:Nat→Int):Nat→Int
 | 0=>0
 | n+1=>bif ieq (f n) 4 then bG f n+1 else bif ilt 0 (bG f n)then bG f n - 1 else bG f n
def cM(f g:Nat→Int):Nat→List Int
 | 0=>[]
 | n+1=>bif ieq (f n) 4 then cM f g n++ [g n]else cM f g n
def lL(f g:Nat→Int)(n:Nat):List Int:=(cM f g n).drop (((cM f g n).length :Int) - bG f n).toNat
def eC(f g:Nat→Int):Nat→Int→List Int
 | 0,_=>[]
 | i+1,need=>bif ilt 0 need then(bif ieq (f i) 4&&ieq (bG f i) (need - 1)then g i::eC f g i (need - 1)else eC f g i need)else []
def jS(f g:Nat→Int)(n:Nat):List Int:=eC f g n (bG f n)
def setF(f g:Nat→Int)(n:Nat):List Int:=((List.range 1000).map fun i:Nat=>(i:Int)).filter fun k=>inF f g k n
def bH(sh:Int)(f g:Nat→Int)(n:Nat):List Int:=bif ieq sh 3 then lL f g n else bif ieq sh 4 then jS f g n else setF f g n
def AO(sh:Int)(f g:Nat→Int)(n:Nat)(kd ky:Int):Bool×Int:=
 bif ieq kd 1 then(!inF f g ky n,0)else bif ieq kd 2||ieq kd 3 then(inF f g ky n,0)else bif ieq kd 4 then(true,0)else match bH sh f g n with
  | []=>(false,0)
  | x::_=>(true,x)
theorem dO{a b:Int}(h:a≠b):ieq a b=false:=by rw [bN,beq_eq_false_iff_ne];exact h
theorem jN(f:Nat→Int)(n:Nat):0≤bG f n:=by
 induction n with
 | zero=>exact Int.le_refl 0
 | succ n this=>
   show 0≤(bif ieq (f n) 4 then bG f n+1 else bif ilt 0 (bG f n)then bG f n - 1 else bG f n)
   cases ieq (f n) 4 with
   | true=>rw [cond_true];omega
   | false=>
     rw [cond_false]
     cases h:ilt 0 (bG f n)with
     | true=>rw [cond_true];rw [bP,dT']at h;omega
     | false=>rw [cond_false];exact this
theorem PX(f:Nat→Int)(n:Nat):bG f n≤n:=by
 induction n with
 | zero=>exact Int.le_refl 0
 | succ n this=>
   have h0:=jN f n
   show(bif ieq (f n) 4 then bG f n+1 else bif ilt 0 (bG f n)then bG f n - 1 else bG f n)≤((n+1:Nat):Int)
   cases ieq (f n) 4 with
   | true=>rw [cond_true];omega
   | false=>
     rw [cond_false]
     cases ilt 0 (bG f n)with
     | true=>rw [cond_true];omega
     | false=>rw [cond_false];omega
theorem x9(f g:Nat→Int)(n:Nat):bG f n≤(cM f g n).length :=by
 induction n with
 | zero=>exact Int.le_refl 0
 | succ n this=>
   show(bif ieq (f n) 4 then bG f n+1 else bif ilt 0 (bG f n)then bG f n - 1 else bG f n)≤((bif ieq (f n) 4 then cM f g n++ [g n]else cM f g n:List Int).length :Int)
   cases ieq (f n) 4 with
   | true=>rw [cond_true,cond_true,List.length_append];simp;omega
   | false=>
     rw [cond_false,cond_false]
     cases ilt 0 (bG f n)with
     | true=>rw [cond_true];omega
     | false=>rw [cond_false];omega
theorem QQ(f g:Nat→Int)(n:Nat):(cM f g n).length ≤n:=by
 induction n with
 | zero=>exact Nat.le_refl 0
 | succ n this=>
   show(bif ieq (f n) 4 then cM f g n++ [g n]else cM f g n:List Int).length ≤n+1
   cases ieq (f n) 4 with
   | true=>rw [cond_true,List.length_append];simp;omega
   | false=>rw [cond_false];omega
def fH(sh:Int)(f g:Nat→Int)(n:Nat):List Int:=bif ieq sh 3 then cM f g n else bH sh f g n
def eJ(sh:Int)(f g:Nat→Int)(n:Nat):Nat:=bif ieq sh 3 then(((cM f g n).length :Int) - bG f n).toNat else 0
theorem vR(sh:Int)(f g:Nat→Int)(n:Nat):(fH sh f g n).drop (eJ sh f g n)=bH sh f g n∧eJ sh f g n+(bH sh f g n).length =(fH sh f g n).length :=by
 unfold fH eJ bH
 cases ieq sh 3 with
 | true=>
   have:=x9 f g n
   have:=jN f n
   refine⟨rfl,?_⟩
   unfold lL
   simp only [cond_true,List.length_drop]
   omega
 | false=>exact⟨rfl,by simp⟩
def resB(sh:Int)(f g:Nat→Int)(n:Nat)(kd ky:Int):Bool:=(AO sh f g n kd ky).1
def resV(sh:Int)(f g:Nat→Int)(n:Nat)(kd ky:Int):Int:=(AO sh f g n kd ky).2
noncomputable def EV0:=EFt.addS 15 (aH.or fillS (mV [(.slot 3,.ints (some .i64))] fillS)) (aEA zY (mW zY))
structure aC0 (k:Int) (m:Nat) (f g:Nat→Int) (x:Nat):Prop where
 h1:x≤m
 h2:inF f g k m=inF f g k x
def rS(k:Int)(m:Nat)(f g:Nat→Int):Hint Ob:= {X:=Nat,st:=fun x=>([.view m 2 (fun i=>[.int .i64 (f i),.int .i64 (g i)]),.int .i64 k,.O,.O,.O,.int .i64 ((x:Int) - 1)]++List.replicate 37 .O,[]),ok:=aC0 k m f g,mu:=fun x=>x,keep:=[0,1,5] }
def PJ(k:Int)(m:Nat)(f g:Nat→Int)(K:AVal→aD Ob→Prop):Prop:=okSt (rS k m f g) (Hint.ok (rS k m f g)) [.view m 2 fun i=>[.int .i64 (f i),.int .i64 (g i)],.int .i64 k,.O,.O,.O,.int .i64 (W ((↑m:Int) - 1)),.O,.O,.O,.O,.O,.O,.O,.O,.O,.O,.O,.O,.O,.O,.O,.O,.O,.O,.O,.O,.O,.O,.O,.O,.O,.O,.O,.O,.O,.O,.O,.O,.O,.O,.O,.O,.O] []∧ ∀(x:Nat),aC0 k m f g x→bif ile 0 ((↑x:Int) - 1)then((0:Int)≤(↑x:Int) - 1∧(↑x:Int) - (1:Int)<(↑m:Int))∧bif ieq (g (Int.toNat ((↑x:Int) - 1))) k then((0:Int)≤(↑x:Int) - 1∧(↑x:Int) - (1:Int)<(↑m:Int))∧bif ieq (f (Int.toNat ((↑x:Int) - 1))) 1 then K (.bool true) []else((0:Int)≤(↑x:Int) - 1∧(↑x:Int) - (1:Int)<(↑m:Int))∧bif ieq (g (Int.toNat ((↑x:Int) - 1))) k then((0:Int)≤(↑x:Int) - 1∧(↑x:Int) - (1:Int)<(↑m:Int))∧bif ieq (f (Int.toNat ((↑x:Int) - 1))) 2 then K (.bool false) []else okSt (rS k m f g) (fun x'=>Hint.ok (rS k m f g) x'∧Hint.mu (rS k m f g) x'<Hint.mu (rS k m f g) x) [.view m 2 fun i=>[.int .i64 (f i),.int .i64 (g i)],.int .i64 k,.O,.O,.O,.int .i64 (W ((↑x:Int) - 1 - 1)),.O,.O,.O,.O,.O,.O,.O,.O,.O,.O,.O,.O,.O,.O,.O,.O,.O,.O,.O,.O,.O,.O,.O,.O,.O,.O,.O,.O,.O,.O,.O,.O,.O,.O,.O,.O,.O] []else okSt (rS k m f g) (fun x'=>Hint.ok (rS k m f g) x'∧Hint.mu (rS k m f g) x'<Hint.mu (rS k m f g) x) [.view m 2 fun i=>[.int .i64 (f i),.int .i64 (g i)],.int .i64 k,.O,.O,.O,.int .i64 (W ((↑x:Int) - 1 - 1)),.O,.O,.O,.O,.O,.O,.O,.O,.O,.O,.O,.O,.O,.O,.O,.O,.O,.O,.O,.O,.O,.O,.O,.O,.O,.O,.O,.O,.O,.O,.O,.O,.O,.O,.O,.O,.O] []else((0:Int)≤(↑x:Int) - 1∧(↑x:Int) - (1:Int)<(↑m:Int))∧bif ieq (g (Int.toNat ((↑x:Int) - 1))) k then((0:Int)≤(↑x:Int) - 1∧(↑x:Int) - (1:Int)<(↑m:Int))∧bif ieq (f (Int.toNat ((↑x:Int) - 1))) 2 then K (.bool false) []else okSt (rS k m f g) (fun x'=>Hint.ok (rS k m f g) x'∧Hint.mu (rS k m f g) x'<Hint.mu (rS k m f g) x) [.view m 2 fun i=>[.int .i64 (f i),.int .i64 (g i)],.int .i64 k,.O,.O,.O,.int .i64 (W ((↑x:Int) - 1 - 1)),.O,.O,.O,.O,.O,.O,.O,.O,.O,.O,.O,.O,.O,.O,.O,.O,.O,.O,.O,.O,.O,.O,.O,.O,.O,.O,.O,.O,.O,.O,.O,.O,.O,.O,.O,.O,.O] []else okSt (rS k m f g) (fun x'=>Hint.ok (rS k m f g) x'∧Hint.mu (rS k m f g) x'<Hint.mu (rS k m f g) x) [.view m 2 fun i=>[.int .i64 (f i),.int .i64 (g i)],.int .i64 k,.O,.O,.O,.int .i64 (W ((↑x:Int) - 1 - 1)),.O,.O,.O,.O,.O,.O,.O,.O,.O,.O,.O,.O,.O,.O,.O,.O,.O,.O,.O,.O,.O,.O,.O,.O,.O,.O,.O,.O,.O,.O,.O,.O,.O,.O,.O,.O,.O] []else K (.bool false) []
theorem LO(k:Int)(m:Nat)(f g:Nat→Int)(K:AVal→aD Ob→Prop)(h:PJ k m f g K):cT' 86 [.view m 2 (fun i=>[.int .i64 (f i),.int .i64 (g i)]),.int .i64 k] [] K:=by
 refine aEl (aE (E:=EV0) Tryz.checked.mixed (L:=(fun _ _=>some (.states (rS k m f g)))) (n:=10) (aN (by kernel_rfl) h))
structure aC3 (m:Nat) (f:Nat→Int) (x:Nat):Prop where
 h1:x≤m
def wY(m:Nat)(f g:Nat→Int):Hint Ob:= {X:=Nat,st:=fun x=>([.view m 2 (fun i=>[.int .i64 (f i),.int .i64 (g i)]),.O,.O,.int .i64 (bG f x),.int .i64 (x:Int)]++List.replicate 19 .O,[]),ok:=aC3 m f,mu:=fun x=>m - x,keep:=[0,3,4] }
def PW(m:Nat)(f g:Nat→Int)(K:AVal→aD Ob→Prop):Prop:=okSt (wY m f g) (Hint.ok (wY m f g)) [.view m 2 fun i=>[.int .i64 (f i),.int .i64 (g i)],.O,.O,.int .i64 0,.int .i64 0,.O,.O,.O,.O,.O,.O,.O,.O,.O,.O,.O,.O,.O,.O,.O,.O,.O,.O,.O] []∧ ∀(x:Nat),aC3 m f x→bif ilt (↑x:Int) (↑m:Int)then((0:Int)≤(↑x:Int)∧(↑x:Int)<(↑m:Int))∧bif ieq (f (Int.toNat (↑x:Int))) 4 then okSt (wY m f g) (fun x'=>Hint.ok (wY m f g) x'∧Hint.mu (wY m f g) x'<Hint.mu (wY m f g) x) [.view m 2 fun i=>[.int .i64 (f i),.int .i64 (g i)],.O,.O,.int .i64 (W (bG f x+1)),.int .i64 (W ((↑x:Int)+1)),.O,.O,.O,.O,.O,.O,.O,.O,.O,.O,.O,.O,.O,.O,.O,.O,.O,.O,.O] []else bif ilt 0 (bG f x)then okSt (wY m f g) (fun x'=>Hint.ok (wY m f g) x'∧Hint.mu (wY m f g) x'<Hint.mu (wY m f g) x) [.view m 2 fun i=>[.int .i64 (f i),.int .i64 (g i)],.O,.O,.int .i64 (W (bG f x - 1)),.int .i64 (W ((↑x:Int)+1)),.O,.O,.O,.O,.O,.O,.O,.O,.O,.O,.O,.O,.O,.O,.O,.O,.O,.O,.O] []else okSt (wY m f g) (fun x'=>Hint.ok (wY m f g) x'∧Hint.mu (wY m f g) x'<Hint.mu (wY m f g) x) [.view m 2 fun i=>[.int .i64 (f i),.int .i64 (g i)],.O,.O,.int .i64 (bG f x),.int .i64 (W ((↑x:Int)+1)),.O,.O,.O,.O,.O,.O,.O,.O,.O,.O,.O,.O,.O,.O,.O,.O,.O,.O,.O] []else K (.int .i64 (bG f x)) []
theorem LV(m:Nat)(f g:Nat→Int)(K:AVal→aD Ob→Prop)(h:PW m f g K):cT' 147 [.view m 2 (fun i=>[.int .i64 (f i),.int .i64 (g i)])] [] K:=by
 refine aEl (aE (E:=EV0) Tryz.checked.mixed (L:=(fun _ _=>some (.states (wY m f g)))) (n:=10) (aN (by kernel_rfl) h))
theorem aAN(k:Int)(m:Nat)(f g:Nat→Int)(K:AVal→aD Ob→Prop)(hm:m≤4611686018427387904)(hK:K (.bool (inF f g k m)) []):PJ k m f g K:=by
 have w1:W ((m:Int) - 1)=(m:Int) - 1:=cJ ⟨by omega,by omega⟩
 refine⟨aS (H:=rS k m f g) m (by simp only [w1,rS]<;>rfl) ⟨Nat.le_refl _,rfl⟩,?_⟩
 rintro x ⟨h1,h2⟩
 refine aM (fun e=>?_) (fun e=>?_)
 ·rw [cD,dT']at e
  obtain⟨y,rfl⟩: ∃y,x=y+1:=⟨x - 1,by omega⟩
  have ey:Int.toNat (((y+1:Nat):Int) - 1)=y:=by omega
  have w2:W (((y+1:Nat):Int) - 1 - 1)=(y:Int) - 1:=(cJ ⟨by omega,by omega⟩).trans (by omega)
  have hin:inF f g k (y+1)=bif ieq (g y) k&&ieq (f y) 1 then true else bif ieq (g y) k&&ieq (f y) 2 then false else inF f g k y:=rfl
  have next:inF f g k (y+1)=inF f g k y→okSt (rS k m f g) (fun x'=>Hint.ok (rS k m f g) x'∧Hint.mu (rS k m f g) x'<Hint.mu (rS k m f g) (y+1)) ((rS k m f g).st y).1 ((rS k m f g).st y).2:=
   fun h=>aS (H:=rS k m f g) y rfl ⟨⟨by omega,h2.trans h⟩,Nat.lt_succ_self y⟩
  rw [ey,w2]
  refine⟨⟨by omega,by omega⟩,aM (fun a=>?_) (fun a=>?_)⟩
  ·refine⟨⟨by omega,by omega⟩,aM (fun b=>?_) (fun b=>?_)⟩
   ·rw [h2,hin,a,b]at hK;exact hK
   ·refine⟨⟨by omega,by omega⟩,aM (fun a2=>⟨⟨by omega,by omega⟩,aM (fun c=>?_) (fun c=>?_)⟩) (fun a2=>?_)⟩
    ·rw [h2,hin,a,b,c]at hK;exact hK
    ·exact next (by rw [hin,a,b,c];rfl)
    ·rw [a]at a2;cases a2
  ·refine⟨⟨by omega,by omega⟩,aM (fun a2=>?_) (fun a2=>?_)⟩
   ·rw [a]at a2;cases a2
   ·exact next (by rw [hin,a];rfl)
 ·rw [cD,dF']at e
  have hx:x=0:=by omega
  subst hx
  rw [h2]at hK
  exact hK
theorem aA0(m:Nat)(f g:Nat→Int)(K:AVal→aD Ob→Prop)(hm:m≤4611686018427387904)(hK:K (.int .i64 (bG f m)) []):PW m f g K:=by
 refine⟨aS (H:=wY m f g) (0:Nat) rfl ⟨Nat.zero_le _⟩,?_⟩
 rintro x ⟨h1⟩
 refine nR (fun e=>?_) (fun e=>?_)
 ·have e4:W ((x:Int)+1)=((x+1:Nat):Int):=(cJ (by omega)).trans rfl
  have h0:=jN f x
  have hn:=PX f x
  have w1:W (bG f x+1)=bG f x+1:=cJ (by omega)
  have w2:W (bG f x - 1)=bG f x - 1:=cJ (by omega)
  have hs:bG f (x+1)=bif ieq (f x) 4 then bG f x+1 else bif ilt 0 (bG f x)then bG f x - 1 else bG f x:=rfl
  have next: ∀v,bG f (x+1)=v→okSt (wY m f g) (fun x'=>Hint.ok (wY m f g) x'∧Hint.mu (wY m f g) x'<Hint.mu (wY m f g) x) ([.view m 2 (fun i=>[.int .i64 (f i),.int .i64 (g i)]),.O,.O,.int .i64 v,.int .i64 ((x+1:Nat):Int)]++List.replicate 19 .O) []:=
   fun v h=>aS (H:=wY m f g) (x+1:Nat) (by rw [←h];rfl) ⟨⟨by omega⟩,by show m - (x+1)<m - x;omega⟩
  rw [e4,w1,w2]
  refine⟨⟨by omega,by omega⟩,aM (fun a=>?_) (fun a=>aM (fun b=>?_) (fun b=>?_))⟩
  ·have a:ieq (f x) 4=true:=a
   exact next _ (by rw [hs,a];rfl)
  ·have a:ieq (f x) 4=false:=a
   exact next _ (by rw [hs,a,b];rfl)
  ·have a:ieq (f x) 4=false:=a
   exact next _ (by rw [hs,a,b];rfl)
 ·have hx:x=m:=by omega
  subst hx
  exact hK
def innS:aH Ob:=fun args h=>match args,h with
 | [.view m 2 row,.int .i64 k],[]=>some (.pre (m≤4611686018427387904∧dS row) (.ret (.bool (inO (rK row) (rY row) k m)) []))
 | _,_=>none
theorem aAM:sT' 86 innS:=by
 intro args h o ho K hK
 unfold innS at ho
 split at ho<;>cases ho
 rename_i m row k
 obtain⟨⟨hm,⟨hr⟩⟩,hK⟩:=hK
 have hK:K (.bool (inF (rK row) (rY row) k m)) []:=hK
 rw [hr]
 exact LO k m (rK row) (rY row) K (aAN k m (rK row) (rY row) K hm hK)
def manS:aH Ob:=fun args h=>match args,h with
 | [.view m 2 row],[]=>some (.pre (m≤4611686018427387904∧dS row) (.ret (.int .i64 (bG (rK row) m)) []))
 | _,_=>none
theorem aAZ:sT' 147 manS:=by
 intro args h o ho K hK
 unfold manS at ho
 split at ho<;>cases ho
 rename_i m row
 obtain⟨⟨hm,⟨hr⟩⟩,hK⟩:=hK
 have hK:K (.int .i64 (bG (rK row) m)) []:=hK
 rw [hr]
 exact LV m (rK row) (rY row) K (aA0 m (rK row) (rY row) K hm hK)
noncomputable def EV1:=(EV0.addS 86 innS aAM).addS 147 manS aAZ
structure aC2 (m:Nat) (x:Nat):Prop where
 h1:x≤m
def EJ(m:Nat)(f g:Nat→Int):Hint Ob:= {X:=Nat,st:=fun x=>([.view m 2 (fun i=>[.int .i64 (f i),.int .i64 (g i)]),.O,.O,.slice 0 0 (cM f g x).length 1,.int .i64 (x:Int)]++List.replicate 27 .O,[some (.ints (some .i64) (cM f g x))]),ok:=aC2 m,mu:=fun x=>m - x,keep:=[0,3,4],casts:=[(.slot 3,.ints (some .i64))] }
def PR(m:Nat)(f g:Nat→Int)(K:AVal→aD Ob→Prop):Prop:=okSt (EJ m f g) (Hint.ok (EJ m f g)) [.view m 2 fun i=>[.int .i64 (f i),.int .i64 (g i)],.O,.O,.slice 0 0 0 1,.int .i64 0,.O,.O,.O,.O,.O,.O,.O,.O,.O,.O,.O,.O,.O,.O,.O,.O,.O,.O,.O,.O,.O,.O,.O,.O,.O,.O,.O] [some (.ints (some .i64) [])]∧ ∀(x:Nat),aC2 m x→bif ilt (↑x:Int) (↑m:Int)then((0:Int)≤(↑x:Int)∧(↑x:Int)<(↑m:Int))∧bif ieq (f (Int.toNat (↑x:Int))) 4 then((0:Int)≤(↑x:Int)∧(↑x:Int)<(↑m:Int))∧(0=0∧lE' (cM f g x)∧1=1∧List.length (cM f g x)+(1:Nat)≤(4294967296:Nat))∧okSt (EJ m f g) (fun x'=>Hint.ok (EJ m f g) x'∧Hint.mu (EJ m f g) x'<Hint.mu (EJ m f g) x) [.view m 2 fun i=>[.int .i64 (f i),.int .i64 (g i)],.O,.O,.slice 0 0 (List.length (cM f g x)+1) 1,.int .i64 (W ((↑x:Int)+1)),.O,.O,.O,.O,.O,.O,.O,.O,.O,.O,.O,.O,.O,.O,.O,.O,.O,.O,.O,.O,.O,.O,.O,.O,.O,.O,.O] [some (.ints (some .i64) (cM f g x++ [g (Int.toNat (↑x:Int))]))]else okSt (EJ m f g) (fun x'=>Hint.ok (EJ m f g) x'∧Hint.mu (EJ m f g) x'<Hint.mu (EJ m f g) x) [.view m 2 fun i=>[.int .i64 (f i),.int .i64 (g i)],.O,.O,.slice 0 0 (List.length (cM f g x)) 1,.int .i64 (W ((↑x:Int)+1)),.O,.O,.O,.O,.O,.O,.O,.O,.O,.O,.O,.O,.O,.O,.O,.O,.O,.O,.O,.O,.O,.O,.O,.O,.O,.O,.O] [some (.ints (some .i64) (cM f g x))]else(m≤(4611686018427387904:Nat)∧dS fun i=>[.int .i64 (f i),.int .i64 (g i)])∧((0:Int)≤W ((↑(List.length (cM f g x)):Int) - bG (rK fun i=>[.int .i64 (f i),.int .i64 (g i)]) m)∧Int.toNat (W ((↑(List.length (cM f g x)):Int) - bG (rK fun i=>[.int .i64 (f i),.int .i64 (g i)]) m))≤List.length (cM f g x))∧K (.slice 0 (0+Int.toNat (W ((↑(List.length (cM f g x)):Int) - bG (rK fun i=>[.int .i64 (f i),.int .i64 (g i)]) m))*1) (List.length (cM f g x) - Int.toNat (W ((↑(List.length (cM f g x)):Int) - bG (rK fun i=>[.int .i64 (f i),.int .i64 (g i)]) m))) 1) [some (.ints (some .i64) (cM f g x))]
theorem LT(m:Nat)(f g:Nat→Int)(K:AVal→aD Ob→Prop)(h:PR m f g K):cT' 87 [.view m 2 (fun i=>[.int .i64 (f i),.int .i64 (g i)])] [] K:=by
 refine aEl (aE (E:=EV1) Tryz.checked.mixed (L:=(fun _ _=>some (.states (EJ m f g)))) (n:=10) (aN (by kernel_rfl) h))
structure aC4 (m:Nat) (f g:Nat→Int) (x:Nat×Int×List Int):Prop where
 h1:x.1≤m
 h0:0≤x.2.1∧x.2.1≤m
 hl:x.2.2.length+x.1≤m
 eq:jS f g m=x.2.2++eC f g x.1 x.2.1
def tZ(m:Nat)(f g:Nat→Int):Hint Ob:= {X:=Nat×Int×List Int,st:=fun x=>([.view m 2 (fun i=>[.int .i64 (f i),.int .i64 (g i)]),.O,.O,.slice 0 0 x.2.2.length 1,.int .i64 x.2.1,.int .i64 ((x.1:Int) - 1)]++List.replicate 39 .O,[some (.ints (some .i64) x.2.2)]),ok:=aC4 m f g,mu:=fun x=>x.1,keep:=[0,3,4,5],casts:=[(.slot 3,.ints (some .i64))] }
def I2(m:Nat)(f g:Nat→Int)(K:AVal→aD Ob→Prop):Prop:=(m≤(4611686018427387904:Nat)∧dS fun i=>[.int .i64 (f i),.int .i64 (g i)])∧okSt (tZ m f g) (Hint.ok (tZ m f g)) [.view m 2 fun i=>[.int .i64 (f i),.int .i64 (g i)],.O,.O,.slice 0 0 0 1,.int .i64 (bG (rK fun i=>[.int .i64 (f i),.int .i64 (g i)]) m),.int .i64 (W ((↑m:Int) - 1)),.O,.O,.O,.O,.O,.O,.O,.O,.O,.O,.O,.O,.O,.O,.O,.O,.O,.O,.O,.O,.O,.O,.O,.O,.O,.O,.O,.O,.O,.O,.O,.O,.O,.O,.O,.O,.O,.O,.O] [some (.ints (some .i64) [])]∧ ∀(x:(Nat×Int×List Int)),aC4 m f g x→bif ile 0 ((↑x.1:Int) - 1)then bif ilt 0 (Prod.snd x).1 then((0:Int)≤(↑x.1:Int) - 1∧(↑x.1:Int) - (1:Int)<(↑m:Int))∧bif ieq (f (Int.toNat ((↑x.1:Int) - 1))) 4 then((0:Int)≤(↑x.1:Int) - 1∧Int.toNat ((↑x.1:Int) - 1)≤m)∧(Int.toNat ((↑x.1:Int) - 1)≤(4611686018427387904:Nat)∧dS fun i=>[.int .i64 (f i),.int .i64 (g i)])∧bif ieq (bG (rK fun i=>[.int .i64 (f i),.int .i64 (g i)]) (Int.toNat ((↑x.1:Int) - 1))) (W ((Prod.snd x).1 - 1))then((0:Int)≤(↑x.1:Int) - 1∧(↑x.1:Int) - (1:Int)<(↑m:Int))∧(0=0∧lE' (Prod.snd x).2∧1=1∧List.length (Prod.snd x).2+(1:Nat)≤(4294967296:Nat))∧okSt (tZ m f g) (fun x'=>Hint.ok (tZ m f g) x'∧Hint.mu (tZ m f g) x'<Hint.mu (tZ m f g) x) [.view m 2 fun i=>[.int .i64 (f i),.int .i64 (g i)],.O,.O,.slice 0 0 (List.length (Prod.snd x).2+1) 1,.int .i64 (W ((Prod.snd x).1 - 1)),.int .i64 (W ((↑x.1:Int) - 1 - 1)),.O,.O,.O,.O,.O,.O,.O,.O,.O,.O,.O,.O,.O,.O,.O,.O,.O,.O,.O,.O,.O,.O,.O,.O,.O,.O,.O,.O,.O,.O,.O,.O,.O,.O,.O,.O,.O,.O,.O] [some (.ints (some .i64) ((Prod.snd x).2++ [g (Int.toNat ((↑x.1:Int) - 1))]))]else okSt (tZ m f g) (fun x'=>Hint.ok (tZ m f g) x'∧Hint.mu (tZ m f g) x'<Hint.mu (tZ m f g) x) [.view m 2 fun i=>[.int .i64 (f i),.int .i64 (g i)],.O,.O,.slice 0 0 (List.length (Prod.snd x).2) 1,.int .i64 (Prod.snd x).1,.int .i64 (W ((↑x.1:Int) - 1 - 1)),.O,.O,.O,.O,.O,.O,.O,.O,.O,.O,.O,.O,.O,.O,.O,.O,.O,.O,.O,.O,.O,.O,.O,.O,.O,.O,.O,.O,.O,.O,.O,.O,.O,.O,.O,.O,.O,.O,.O] [some (.ints (some .i64) (Prod.snd x).2)]else okSt (tZ m f g) (fun x'=>Hint.ok (tZ m f g) x'∧Hint.mu (tZ m f g) x'<Hint.mu (tZ m f g) x) [.view m 2 fun i=>[.int .i64 (f i),.int .i64 (g i)],.O,.O,.slice 0 0 (List.length (Prod.snd x).2) 1,.int .i64 (Prod.snd x).1,.int .i64 (W ((↑x.1:Int) - 1 - 1)),.O,.O,.O,.O,.O,.O,.O,.O,.O,.O,.O,.O,.O,.O,.O,.O,.O,.O,.O,.O,.O,.O,.O,.O,.O,.O,.O,.O,.O,.O,.O,.O,.O,.O,.O,.O,.O,.O,.O] [some (.ints (some .i64) (Prod.snd x).2)]else K (.slice 0 0 (List.length (Prod.snd x).2) 1) [some (.ints (some .i64) (Prod.snd x).2)]else K (.slice 0 0 (List.length (Prod.snd x).2) 1) [some (.ints (some .i64) (Prod.snd x).2)]
theorem L6(m:Nat)(f g:Nat→Int)(K:AVal→aD Ob→Prop)(h:I2 m f g K):cT' 88 [.view m 2 (fun i=>[.int .i64 (f i),.int .i64 (g i)])] [] K:=by
 refine aEl (aE (E:=EV1) Tryz.checked.mixed (L:=(fun _ _=>some (.states (tZ m f g)))) (n:=10) (aN (by kernel_rfl) h))
theorem gX(f g:Nat→Int):dS (fun i=>[.int .i64 (f i),.int .i64 (g i)]):=⟨rfl⟩
theorem XT(f g:Nat→Int):rK (fun i=>[.int .i64 (f i),.int .i64 (g i)])=f:=rfl
theorem aAX(m:Nat)(f g:Nat→Int)(K:AVal→aD Ob→Prop)(hm:m≤1000000)(hK:K (.slice 0 (((cM f g m).length :Int) - bG f m).toNat (lL f g m).length 1) [some (.ints (some .i64) (cM f g m))]):PR m f g K:=by
 refine⟨aS (H:=EJ m f g) (0:Nat) rfl ⟨Nat.zero_le _⟩,?_⟩
 rintro x ⟨h1⟩
 refine nR (fun e=>?_) (fun e=>?_)
 ·have e4:W ((x:Int)+1)=((x+1:Nat):Int):=(cJ (by omega)).trans rfl
  have hp:=QQ f g x
  have hs:cM f g (x+1)=bif ieq (f x) 4 then cM f g x++ [g x]else cM f g x:=rfl
  rw [e4]
  refine⟨⟨by omega,by omega⟩,aM (fun a=>?_) (fun a=>?_)⟩
  ·have a:ieq (f x) 4=true:=a
   rw [a]at hs
   refine⟨⟨by omega,by omega⟩,⟨rfl,rfl,rfl,by omega⟩,aS (H:=EJ m f g) (x+1:Nat) ?_ ⟨⟨by omega⟩,by show m - (x+1)<m - x;omega⟩⟩
   simp only [EJ,hs,cond_true,List.length_append,List.length_singleton]
   rfl
  ·have a:ieq (f x) 4=false:=a
   rw [a]at hs
   refine aS (H:=EJ m f g) (x+1:Nat) ?_ ⟨⟨by omega⟩,by show m - (x+1)<m - x;omega⟩
   simp only [EJ,hs,cond_false]
   rfl
 ·have hx:x=m:=by omega
  subst hx
  have hp:=QQ f g x
  have h0:=jN f x
  have hn:=x9 f g x
  have w1:W (((cM f g x).length :Int) - bG f x)=((cM f g x).length :Int) - bG f x:=cJ (by omega)
  rw [XT,w1]
  refine⟨⟨by omega,gX f g⟩,⟨by omega,by omega⟩,?_⟩
  have e1:0+(((cM f g x).length :Int) - bG f x).toNat *1=(((cM f g x).length :Int) - bG f x).toNat :=by omega
  have e2:(cM f g x).length - (((cM f g x).length :Int) - bG f x).toNat =(lL f g x).length :=by unfold lL;rw [List.length_drop]
  rw [e1,e2]
  exact hK
theorem aA8(m:Nat)(f g:Nat→Int)(K:AVal→aD Ob→Prop)(hm:m≤1000000)(hK:K (.slice 0 0 (jS f g m).length 1) [some (.ints (some .i64) (jS f g m))]):I2 m f g K:=by
 have h0:=jN f m
 have hn:=PX f m
 have w1:W ((m:Int) - 1)=(m:Int) - 1:=cJ (by omega)
 have rk0:rK (fun i=>[.int .i64 (f (0+i)),.int .i64 (g (0+i))])=f:=by funext i;show f (0+i)=f i;rw [Nat.zero_add]
 unfold I2
 rw [XT,w1]
 refine⟨⟨by omega,gX f g⟩,aS (H:=tZ m f g) (m,bG f m,[]) rfl ⟨Nat.le_refl _,⟨h0,hn⟩,by simp,rfl⟩,?_⟩
 rintro⟨x,nd,out⟩ ⟨h1,hnd,hl,heq⟩
 dsimp only at h1 hnd hl heq⊢
 have e0:nd≤0→eC f g x nd=[]:=by
  intro h
  cases x with
  | zero=>rfl
  | succ x=>
    show(bif ilt 0 nd then _ else [])=_
    rw [bP,decide_eq_false (by omega)];rfl
 refine aM (fun e=>?_) (fun e=>?_)
 ·rw [cD,dT']at e
  obtain⟨y,rfl⟩: ∃y,x=y+1:=⟨x - 1,by omega⟩
  have ey:Int.toNat (((y+1:Nat):Int) - 1)=y:=by omega
  have w2:W (((y+1:Nat):Int) - 1 - 1)=(y:Int) - 1:=(cJ ⟨by omega,by omega⟩).trans (by omega)
  refine nR (fun q=>?_) (fun q=>?_)
  ·have hp:eC f g (y+1) nd=bif ieq (f y) 4&&ieq (bG f y) (nd - 1)then g y::eC f g y (nd - 1)else eC f g y nd:=by
    show(bif ilt 0 nd then _ else _)=_
    rw [bP,decide_eq_true q];rfl
   have w3:W (nd - 1)=nd - 1:=cJ (by omega)
   have next:eC f g (y+1) nd=eC f g y nd→okSt (tZ m f g) (fun x'=>Hint.ok (tZ m f g) x'∧Hint.mu (tZ m f g) x'<Hint.mu (tZ m f g) (y+1,nd,out)) ((tZ m f g).st (y,nd,out)).1 ((tZ m f g).st (y,nd,out)).2:=
    fun h=>aS (H:=tZ m f g) (y,nd,out) rfl ⟨⟨by show y≤m;omega,hnd,by show out.length+y≤m;omega,by show _=out++eC f g y nd;rw [←h];exact heq⟩,Nat.lt_succ_self y⟩
   rw [ey,w2,w3]
   refine⟨⟨by omega,by omega⟩,aM (fun a=>?_) (fun a=>?_)⟩
   ·refine⟨⟨by omega,by omega⟩,⟨by omega,gX _ _⟩,aM (fun b=>?_) (fun b=>?_)⟩
    ·refine⟨⟨by omega,by omega⟩,⟨rfl,rfl,rfl,by omega⟩,aS (H:=tZ m f g) (y,nd - 1,out++ [g y]) ?_ ⟨⟨by show y≤m;omega,by show 0≤nd - 1∧nd - 1≤m;omega,by show(out++ [g y]).length +y≤m;rw [List.length_append];simp;omega,?_⟩,Nat.lt_succ_self y⟩⟩
     ·simp only [tZ,List.length_append,List.length_singleton]<;>rfl
     ·show jS f g m=out++ [g y]++eC f g y (nd - 1)
      have b:ieq (bG f y) (nd - 1)=true:=b
      rw [heq,hp,a,b];simp
    ·have b:ieq (bG f y) (nd - 1)=false:=b
     exact next (by rw [hp,a,b];rfl)
   ·exact next (by rw [hp,a];rfl)
  ·rw [e0 q,List.append_nil]at heq
   rw [heq]at hK
   exact hK
 ·rw [cD,dF']at e
  have hx:x=0:=by omega
  subst hx
  rw [show eC f g 0 nd=[]from rfl,List.append_nil]at heq
  rw [heq]at hK
  exact hK
def linS:aH Ob:=fun args h=>match args,h with
 | [.view m 2 row],[]=>some (.pre (m≤1000000∧dS row) (.ret (.slice 0 (((cM (rK row) (rY row) m).length :Int) - bG (rK row) m).toNat (lL (rK row) (rY row) m).length 1) [some (.ints (some .i64) (cM (rK row) (rY row) m))]))
 | _,_=>none
def pilS:aH Ob:=fun args h=>match args,h with
 | [.view m 2 row],[]=>some (.pre (m≤1000000∧dS row) (.ret (.slice 0 0 (jS (rK row) (rY row) m).length 1) [some (.ints (some .i64) (jS (rK row) (rY row) m))]))
 | _,_=>none
theorem aAW:sT' 87 linS:=by
 intro args h o ho K hK
 unfold linS at ho
 split at ho<;>cases ho
 rename_i m row
 obtain⟨⟨hm,⟨hr⟩⟩,hK⟩:=hK
 rw [hr]
 exact LT m (rK row) (rY row) K (aAX m (rK row) (rY row) K hm hK)
theorem aA7:sT' 88 pilS:=by
 intro args h o ho K hK
 unfold pilS at ho
 split at ho<;>cases ho
 rename_i m row
 obtain⟨⟨hm,⟨hr⟩⟩,hK⟩:=hK
 rw [hr]
 exact L6 m (rK row) (rY row) K (aA8 m (rK row) (rY row) K hm hK)
noncomputable def EV2:=(EV1.addS 87 linS aAW).addS 88 pilS aA7
def gG(f g:Nat→Int)(m k:Nat):List Int:=((List.range k).map fun i:Nat=>(i:Int)).filter fun k=>inF f g k m
structure aC1 (x:Nat):Prop where
 h1:x≤1000
def EI(sh:Int)(m:Nat)(f g:Nat→Int):Hint Ob:= {X:=Nat,st:=fun x=>([.int .i64 sh,.view m 2 (fun i=>[.int .i64 (f i),.int .i64 (g i)]),.O,.O,.O,.slice 0 0 (gG f g m x).length 1,.int .i64 (x:Int)]++List.replicate 20 .O,[some (.ints (some .i64) (gG f g m x))]),ok:=aC1,mu:=fun x=>1000 - x,keep:=[0,1,5,6],casts:=[(.slot 5,.ints (some .i64))] }
def IW(sh:Int)(m:Nat)(f g:Nat→Int)(K:AVal→aD Ob→Prop):Prop:=bif ieq sh 3 then(m≤(1000000:Nat)∧dS fun i=>[.int .i64 (f i),.int .i64 (g i)])∧K (.slice 0 (Int.toNat ((↑(List.length (cM (rK fun i=>[.int .i64 (f i),.int .i64 (g i)]) (rY fun i=>[.int .i64 (f i),.int .i64 (g i)]) m)):Int) - bG (rK fun i=>[.int .i64 (f i),.int .i64 (g i)]) m)) (List.length (lL (rK fun i=>[.int .i64 (f i),.int .i64 (g i)]) (rY fun i=>[.int .i64 (f i),.int .i64 (g i)]) m)) 1) [some (.ints (some .i64) (cM (rK fun i=>[.int .i64 (f i),.int .i64 (g i)]) (rY fun i=>[.int .i64 (f i),.int .i64 (g i)]) m))]else bif ieq sh 4 then(m≤(1000000:Nat)∧dS fun i=>[.int .i64 (f i),.int .i64 (g i)])∧K (.slice 0 0 (List.length (jS (rK fun i=>[.int .i64 (f i),.int .i64 (g i)]) (rY fun i=>[.int .i64 (f i),.int .i64 (g i)]) m)) 1) [some (.ints (some .i64) (jS (rK fun i=>[.int .i64 (f i),.int .i64 (g i)]) (rY fun i=>[.int .i64 (f i),.int .i64 (g i)]) m))]else okSt (EI sh m f g) (Hint.ok (EI sh m f g)) [.int .i64 sh,.view m 2 fun i=>[.int .i64 (f i),.int .i64 (g i)],.O,.O,.O,.slice 0 0 0 1,.int .i64 0,.O,.O,.O,.O,.O,.O,.O,.O,.O,.O,.O,.O,.O,.O,.O,.O,.O,.O,.O,.O] [some (.ints (some .i64) [])]∧ ∀(x:Nat),aC1 x→bif ile (↑x:Int) 999 then(m≤(4611686018427387904:Nat)∧dS fun i=>[.int .i64 (f i),.int .i64 (g i)])∧bif inO (rK fun i=>[.int .i64 (f i),.int .i64 (g i)]) (rY fun i=>[.int .i64 (f i),.int .i64 (g i)]) (↑x:Int) m then(0=0∧lE' (gG f g m x)∧1=1∧List.length (gG f g m x)+(1:Nat)≤(4294967296:Nat))∧okSt (EI sh m f g) (fun x'=>Hint.ok (EI sh m f g) x'∧Hint.mu (EI sh m f g) x'<Hint.mu (EI sh m f g) x) [.int .i64 sh,.view m 2 fun i=>[.int .i64 (f i),.int .i64 (g i)],.O,.O,.O,.slice 0 0 (List.length (gG f g m x)+1) 1,.int .i64 (W ((↑x:Int)+1)),.O,.O,.O,.O,.O,.O,.O,.O,.O,.O,.O,.O,.O,.O,.O,.O,.O,.O,.O,.O] [some (.ints (some .i64) (gG f g m x++ [(↑x:Int)]))]else okSt (EI sh m f g) (fun x'=>Hint.ok (EI sh m f g) x'∧Hint.mu (EI sh m f g) x'<Hint.mu (EI sh m f g) x) [.int .i64 sh,.view m 2 fun i=>[.int .i64 (f i),.int .i64 (g i)],.O,.O,.O,.slice 0 0 (List.length (gG f g m x)) 1,.int .i64 (W ((↑x:Int)+1)),.O,.O,.O,.O,.O,.O,.O,.O,.O,.O,.O,.O,.O,.O,.O,.O,.O,.O,.O,.O] [some (.ints (some .i64) (gG f g m x))]else K (.slice 0 0 (List.length (gG f g m x)) 1) [some (.ints (some .i64) (gG f g m x))]
theorem LR(sh:Int)(m:Nat)(f g:Nat→Int)(K:AVal→aD Ob→Prop)(h:IW sh m f g K):cT' 35 [.int .i64 sh,.view m 2 (fun i=>[.int .i64 (f i),.int .i64 (g i)])] [] K:=by
 refine aEl (aE (E:=EV2) Tryz.checked.mixed (L:=(fun _ _=>some (.states (EI sh m f g)))) (n:=10) (aN (by kernel_rfl) h))
theorem aAT(sh:Int)(m:Nat)(f g:Nat→Int)(K:AVal→aD Ob→Prop)(hm:m≤1000000)(hK:K (.slice 0 (eJ sh f g m) (bH sh f g m).length 1) [some (.ints (some .i64) (fH sh f g m))]):IW sh m f g K:=by
 have rk0:rK (fun i=>[.int .i64 (f i),.int .i64 (g i)])=f:=rfl
 have ry0:rY (fun i=>[.int .i64 (f i),.int .i64 (g i)])=g:=rfl
 unfold IW
 unfold eJ fH bH at hK
 refine aM (fun a=>?_) (fun a=>aM (fun b=>?_) (fun b=>?_))
 ·rw [a]at hK
  exact⟨⟨hm,gX f g⟩,hK⟩
 ·rw [a,b]at hK
  exact⟨⟨hm,gX f g⟩,hK⟩
 ·rw [a,b]at hK
  refine⟨aS (H:=EI sh m f g) (0:Nat) rfl ⟨Nat.zero_le _⟩,?_⟩
  rintro x ⟨h1⟩
  refine tU (fun e=>?_) (fun e=>?_)
  ·have e4:W ((x:Int)+1)=((x+1:Nat):Int):=(cJ (by omega)).trans rfl
   have hs:gG f g m (x+1)=gG f g m x++(if inF f g x m then [(x:Int)]else []):=by
    unfold gG
    rw [List.range_succ,List.map_append,List.filter_append]
    congr 1
    cases q:inF f g x m<;>simp [q]
   have hlen:(gG f g m x).length ≤x:=by
    unfold gG
    refine Nat.le_trans (List.length_filter_le _ _) ?_
    simp
   rw [e4]
   refine⟨⟨by omega,gX f g⟩,aM (fun c=>?_) (fun c=>?_)⟩
   ·have c:inF f g x m=true:=c
    rw [c]at hs
    refine⟨⟨rfl,rfl,rfl,by omega⟩,aS (H:=EI sh m f g) (x+1:Nat) ?_ ⟨⟨by omega⟩,by show 1000 - (x+1)<1000 - x;omega⟩⟩
    simp only [EI,hs,if_true,List.length_append,List.length_singleton]
    rfl
   ·have c:inF f g x m=false:=c
    rw [c]at hs
    simp only [Bool.false_eq_true,if_false,List.append_nil]at hs
    refine aS (H:=EI sh m f g) (x+1:Nat) ?_ ⟨⟨by omega⟩,by show 1000 - (x+1)<1000 - x;omega⟩
    simp only [EI,hs]
    rfl
  ·have hx:x=1000:=by omega
   subst hx
   have hto:setF f g m=gG f g m 1000:=by unfold setF gG;rfl
   simp only [cond_false,hto]at hK
   exact hK
def itsS:aH Ob:=fun args h=>match args,h with
 | [.int .i64 sh,.view m 2 row],[]=>some (.pre (m≤1000000∧dS row) (.ret (.slice 0 (eJ sh (rK row) (rY row) m) (bH sh (rK row) (rY row) m).length 1) [some (.ints (some .i64) (fH sh (rK row) (rY row) m))]))
 | _,_=>none
theorem aAS:sT' 35 itsS:=by
 intro args h o ho K hK
 unfold itsS at ho
 split at ho<;>cases ho
 rename_i sh m row
 obtain⟨⟨hm,⟨hr⟩⟩,hK⟩:=hK
 rw [hr]
 exact LR sh m (rK row) (rY row) K (aAT sh m (rK row) (rY row) K hm hK)
noncomputable def EV3:=EV2.addS 35 itsS aAS
def I8(sh:Int)(m:Nat)(f g:Nat→Int)(kd ky:Int)(K:AVal→aD Ob→Prop):Prop:=bif ieq kd 1 then(m≤(4611686018427387904:Nat)∧dS fun i=>[.int .i64 (f i),.int .i64 (g i)])∧K (.agg [.int .i64 0,.bool !inO (rK fun i=>[.int .i64 (f i),.int .i64 (g i)]) (rY fun i=>[.int .i64 (f i),.int .i64 (g i)]) ky m,.int .i64 0]) []else bif ieq kd 2 then(m≤(4611686018427387904:Nat)∧dS fun i=>[.int .i64 (f i),.int .i64 (g i)])∧K (.agg [.int .i64 0,.bool (inO (rK fun i=>[.int .i64 (f i),.int .i64 (g i)]) (rY fun i=>[.int .i64 (f i),.int .i64 (g i)]) ky m),.int .i64 0]) []else bif ieq kd 3 then(m≤(4611686018427387904:Nat)∧dS fun i=>[.int .i64 (f i),.int .i64 (g i)])∧K (.agg [.int .i64 0,.bool (inO (rK fun i=>[.int .i64 (f i),.int .i64 (g i)]) (rY fun i=>[.int .i64 (f i),.int .i64 (g i)]) ky m),.int .i64 0]) []else bif ieq kd 4 then K (.agg [.int .i64 0,.bool true,.int .i64 0]) []else(m≤(1000000:Nat)∧dS fun i=>[.int .i64 (f i),.int .i64 (g i)])∧bif ieq (↑(List.length (bH sh (rK fun i=>[.int .i64 (f i),.int .i64 (g i)]) (rY fun i=>[.int .i64 (f i),.int .i64 (g i)]) m)):Int) 0 then K (.agg [.int .i64 0,.bool false,.int .i64 0]) []else((0:Int)≤(0:Int)∧(0:Int)<(↑(List.length (bH sh (rK fun i=>[.int .i64 (f i),.int .i64 (g i)]) (rY fun i=>[.int .i64 (f i),.int .i64 (g i)]) m)):Int))∧eJ sh (rK fun i=>[.int .i64 (f i),.int .i64 (g i)]) (rY fun i=>[.int .i64 (f i),.int .i64 (g i)]) m+Int.toNat 0*(1:Nat)<List.length (fH sh (rK fun i=>[.int .i64 (f i),.int .i64 (g i)]) (rY fun i=>[.int .i64 (f i),.int .i64 (g i)]) m)∧K (.agg [.int .i64 0,.bool true,.int .i64 (List.getD (fH sh (rK fun i=>[.int .i64 (f i),.int .i64 (g i)]) (rY fun i=>[.int .i64 (f i),.int .i64 (g i)]) m) (eJ sh (rK fun i=>[.int .i64 (f i),.int .i64 (g i)]) (rY fun i=>[.int .i64 (f i),.int .i64 (g i)]) m+Int.toNat 0*1) 0)]) []
theorem MN(sh:Int)(m:Nat)(f g:Nat→Int)(kd ky:Int)(K:AVal→aD Ob→Prop)(h:I8 sh m f g kd ky K):cT' 32 [.int .i64 sh,.view m 2 (fun i=>[.int .i64 (f i),.int .i64 (g i)]),.agg [.int .i64 kd,.int .i64 ky]] [] K:=by
 refine aEl (cM' (E:=EV3) (by kernel_rfl) h)
theorem aBj(sh:Int)(m:Nat)(f g:Nat→Int)(kd ky:Int)(K:AVal→aD Ob→Prop)(hm:m≤1000000)(hK:K (.agg [.int .i64 0,.bool (resB sh f g m kd ky),.int .i64 (resV sh f g m kd ky)]) []):I8 sh m f g kd ky K:=by
 have hp:m≤4611686018427387904:=by omega
 unfold I8
 unfold resB resV AO at hK
 refine aM (fun a=>⟨⟨hp,gX f g⟩,?_⟩) (fun a=>aM (fun b=>⟨⟨hp,gX f g⟩,?_⟩) (fun b=>aM (fun c=>⟨⟨hp,gX f g⟩,?_⟩) (fun c=>aM (fun d=>?_) (fun d=>⟨⟨hm,gX f g⟩,aM (fun e=>?_) (fun e=>?_)⟩))))
 ·rw [a]at hK;exact hK
 ·rw [a,b]at hK;exact hK
 ·rw [a,b,c]at hK;exact hK
 ·rw [a,b,c,d]at hK;exact hK
 ·rw [a,b,c,d]at hK
  have e:ieq ((bH sh f g m).length :Int) 0=true:=e
  have h0:bH sh f g m=[]:=by
   rw [bN,beq_iff_eq]at e
   exact List.length_eq_zero_iff.1 (by omega)
  simp only [h0]at hK
  exact hK
 ·rw [a,b,c,d]at hK
  have e:ieq ((bH sh f g m).length :Int) 0=false:=e
  obtain⟨q1,q2⟩:=vR sh f g m
  have rk0:rK (fun i=>[.int .i64 (f i),.int .i64 (g i)])=f:=rfl
  have ry0:rY (fun i=>[.int .i64 (f i),.int .i64 (g i)])=g:=rfl
  rw [rk0,ry0]
  cases hi:bH sh f g m with
  | nil=>rw [hi]at e;cases e
  | cons x v=>
    rw [hi]at q1 q2
    simp only [hi]at hK
    simp only [List.length_cons]at q2⊢
    have e2:eJ sh f g m+Int.toNat 0*1=eJ sh f g m:=by simp
    have e3:List.getD (fH sh f g m) (eJ sh f g m) 0=x:=by
     have:(fH sh f g m)[eJ sh f g m]? =some x:=by
      have h2:=congrArg (fun l:List Int=>l[0]?) q1
      simpa [List.getElem?_drop]using h2
     rw [gD',this];rfl
    rw [e2,e3]
    exact⟨⟨by omega,by omega⟩,by omega,hK⟩
def resS:aH Ob:=fun args h=>match args,h with
 | [.int .i64 sh,.view m 2 row,.agg [.int .i64 kd,.int .i64 ky]],[]=>some (.pre (m≤1000000∧dS row) (.ret (.agg [.int .i64 0,.bool (resB sh (rK row) (rY row) m kd ky),.int .i64 (resV sh (rK row) (rY row) m kd ky)]) []))
 | _,_=>none
theorem aBi:sT' 32 resS:=by
 intro args h o ho K hK
 unfold resS at ho
 split at ho<;>cases ho
 rename_i sh m row kd ky
 obtain⟨⟨hm,⟨hr⟩⟩,hK⟩:=hK
 rw [hr]
 exact MN sh m (rK row) (rY row) kd ky K (aBj sh m (rK row) (rY row) kd ky K hm hK)
noncomputable def EV4:=EV3.addS 32 resS aBi
def sO(xs:List Int)(nd:Int):Nat→Int→List Int→List Int
 | 0,_,out=>out
 | k+1,n,out=>bif bR nd n then bif !hasB out n then sO xs nd k (aA (aB xs n) 10 9) (out++ [n])else out else out
def ndF(xs:List Int)(nd hd:Int):List Int:=sO xs nd (nd.toNat+1) (aA (aB xs (nd+1+hd)) 10 9) []
def iM(nd:Int)(out:List Int):Nat:=((List.range nd.toNat).filter (fun(j:Nat)=>!hasB out ((j:Int)+1))).length
theorem GW{p q:Nat→Bool}(hpq: ∀j,p j=true→q j=true)(l:List Nat):(l.filter p).length ≤(l.filter q).length :=by
 induction l with
 | nil=>exact Nat.le_refl _
 | cons b l ih=>
   simp only [List.filter_cons]
   cases hp:p b with
   | true=>rw [hpq b hp];simp;exact ih
   | false=>cases hq:q b<;>simp<;>omega
theorem GY{p q:Nat→Bool}(l:List Nat)(hpq: ∀j,p j=true→q j=true)(h: ∃j,j∈l∧q j=true∧p j=false):(l.filter p).length <(l.filter q).length :=by
 induction l with
 | nil=>obtain⟨j,hj,_⟩:=h;cases hj
 | cons a l ih=>
   have hle:=GW hpq l
   simp only [List.filter_cons]
   obtain⟨j,hj,hq,hp⟩:=h
   rcases List.mem_cons.1 hj with rfl | hj
   ·rw [hp,hq];simp;omega
   ·have:=ih ⟨j,hj,hq,hp⟩
    cases hp2:p a with
    | true=>rw [hpq a hp2];simp;exact this
    | false=>cases hq2:q a<;>simp<;>omega
theorem LZ{nd n:Int}{out:List Int}(h1:bR nd n=true)(h2:hasB out n=false):iM nd (out++ [n])<iM nd out:=by
 have h1:=pR.1 h1
 have h2:n∉out:=by intro hm;rw [gL.2 hm]at h2;cases h2
 unfold iM
 refine GY _ (fun j hj=>?_) ⟨(n - 1).toNat,?_,?_,?_⟩
 ·cases e:hasB out ((j:Int)+1)with
  | false=>rfl
  | true=>
    have:hasB (out++ [n]) ((j:Int)+1)=true:=gL.2 (List.mem_append_left _ (gL.1 e))
    rw [this]at hj;cases hj
 ·rw [List.mem_range];omega
 ·have e:(((n - 1).toNat :Nat):Int)+1=n:=by omega
  rw [e]
  cases e2:hasB out n with
  | false=>rfl
  | true=>exact absurd (gL.1 e2) h2
 ·have e:(((n - 1).toNat :Nat):Int)+1=n:=by omega
  rw [e,gL.2 (List.mem_append_right _ (List.mem_singleton.2 rfl))];rfl
theorem DN(nd:Int):iM nd []≤nd.toNat:=by
 unfold iM
 exact Nat.le_trans (List.length_filter_le _ _) (by simp)
structure aCR (xs:List Int) (nd:Int) (R:List Int) (x:Int×List Int):Prop where
 hb:(x.2.length:Int)≤nd.toNat
 ex: ∃k,iM nd x.2<k∧sO xs nd k x.1 x.2=R
 hc:x.2.length+iM nd x.2≤nd.toNat
def RS(s:MS)(lt ln:Int)(R:List Int):Hint Ob:= {X:=Int×List Int,st:=fun x=>([.ptr 0 0,.O,.O,.O,.ptr 2 0,.O,.O,.slice 3 0 x.2.length 1,.int .i64 x.1]++List.replicate 26 .O,[bA 1 s,bB s,some (.cells [.int .i64 lt,.int .i64 ln]),some (.ints (some .i64) x.2)]),ok:=aCR s.xs ln R,mu:=fun x=>iM ln x.2,keep:=[0,4,7,8],casts:=[(.slot 7,.ints (some .i64))] }
def aA3(s:MS)(lt ln hd:Int)(R:List Int)(K:AVal→aD Ob→Prop):Prop:=(((0:Int)≤ln∧ln≤(100000:Int))∧(-1000000:Int)≤hd∧hd≤(1000000:Int))∧(lE' s.3∧True)∧True∧okSt (RS s lt ln R) (Hint.ok (RS s lt ln R)) [.ptr 0 0,.O,.O,.O,.ptr 2 0,.O,.O,.slice 3 0 0 1,.int .i64 (aA (aB s.3 (ln+1+hd)) 10 9),.O,.O,.O,.O,.O,.O,.O,.O,.O,.O,.O,.O,.O,.O,.O,.O,.O,.O,.O,.O,.O,.O,.O,.O,.O,.O] [some (.cells [.int .i64 s.1,.int .i64 s.2,.slice 1 0 (List.length s.3) 1,.int .i64 s.4,.int .i64 s.5,.int .i64 s.6,.int .u64 s.7,.int .u64 s.8,.bool s.9]),some (.ints (some .u64) s.3),some (.cells [.int .i64 lt,.int .i64 ln]),some (.ints (some .i64) [])]∧ ∀(x:(Int×List Int)),aCR s.3 ln R x→True∧bif bR ln x.1 then(lE' x.2∧List.length x.2≤(4294967296:Nat))∧bif !hasB x.2 x.1 then(0=0∧lE' x.2∧1=1∧List.length x.2+(1:Nat)≤(4294967296:Nat))∧(lE' s.3∧True)∧True∧okSt (RS s lt ln R) (fun x'=>Hint.ok (RS s lt ln R) x'∧Hint.mu (RS s lt ln R) x'<Hint.mu (RS s lt ln R) x) [.ptr 0 0,.O,.O,.O,.ptr 2 0,.O,.O,.slice 3 0 (List.length x.2+1) 1,.int .i64 (aA (aB s.3 x.1) 10 9),.O,.O,.O,.O,.O,.O,.O,.O,.O,.O,.O,.O,.O,.O,.O,.O,.O,.O,.O,.O,.O,.O,.O,.O,.O,.O] [some (.cells [.int .i64 s.1,.int .i64 s.2,.slice 1 0 (List.length s.3) 1,.int .i64 s.4,.int .i64 s.5,.int .i64 s.6,.int .u64 s.7,.int .u64 s.8,.bool s.9]),some (.ints (some .u64) s.3),some (.cells [.int .i64 lt,.int .i64 ln]),some (.ints (some .i64) (x.2++ [x.1]))]else K (.slice 2 0 (List.length x.2) 1) [some (.cells [.int .i64 s.1,.int .i64 s.2,.slice 1 0 (List.length s.3) 1,.int .i64 s.4,.int .i64 s.5,.int .i64 s.6,.int .u64 s.7,.int .u64 s.8,.bool s.9]),some (.ints (some .u64) s.3),some (.ints (some .i64) x.2)]else K (.slice 2 0 (List.length x.2) 1) [some (.cells [.int .i64 s.1,.int .i64 s.2,.slice 1 0 (List.length s.3) 1,.int .i64 s.4,.int .i64 s.5,.int .i64 s.6,.int .u64 s.7,.int .u64 s.8,.bool s.9]),some (.ints (some .u64) s.3),some (.ints (some .i64) x.2)]
theorem P0(s:MS)(lt ln hd:Int)(R:List Int)(K:AVal→aD Ob→Prop)(h:aA3 s lt ln hd R K):cT' 58 [.ptr 0 0,.agg [.int .i64 lt,.int .i64 ln],.int .i64 hd] [bA 1 s,bB s] K:=by
 exact aEl (aE (E:=EV4) Tryz.checked.mixed (L:=fun _ _=>some (.states (RS s lt ln R))) (n:=10) (aN (by kernel_rfl) h))
theorem aCT(s:MS)(lt ln hd:Int)(K:AVal→aD Ob→Prop)(h1:0≤ln∧ln≤100000)(h2: -1000000≤hd∧hd≤1000000)(hK:K (.slice 2 0 (ndF s.xs ln hd).length 1) [bA 1 s,bB s,some (.ints (some .i64) (ndF s.xs ln hd))]):aA3 s lt ln hd (ndF s.xs ln hd) K:=by
 refine⟨⟨h1,h2⟩,⟨rfl,trivial⟩,trivial,aS (H:=RS s lt ln (ndF s.xs ln hd)) (aA (aB s.xs (ln+1+hd)) 10 9,[]) rfl ⟨by show((0:Nat):Int)≤_;omega,⟨ln.toNat+1,by have:=DN ln;show iM ln []<ln.toNat+1;omega,rfl⟩,by have:=DN ln;show 0+iM ln []≤ln.toNat;omega⟩,?_⟩
 rintro⟨n,out⟩ ⟨hb,⟨k,hk,hR⟩,hc⟩
 dsimp only at hb hk hR hc⊢
 have stop: ∀(h:bif bR ln n then !hasB out n else false),True:=fun _=>trivial
 refine⟨trivial,aM (fun e1=>⟨⟨rfl,by omega⟩,aM (fun e2=>?_) (fun e2=>?_)⟩) (fun e1=>?_)⟩
 ·have e2':hasB out n=false:=by simpa using e2
  have hlt:=LZ (nd:=ln) e1 e2'
  cases k with
  | zero=>omega
  | succ k=>
    unfold sO at hR
    rw [e1,e2]at hR
    simp only [cond_true]at hR
    refine⟨⟨rfl,rfl,rfl,by omega⟩,⟨rfl,trivial⟩,trivial,aS (H:=RS s lt ln (ndF s.xs ln hd)) (aA (aB s.xs n) 10 9,out++ [n]) (by simp only [RS,List.length_append,List.length_singleton]<;>rfl) ⟨⟨?_,⟨k,by show iM ln (out++ [n])<k;omega,hR⟩,?_⟩,hlt⟩⟩
    ·show((out++ [n]).length :Int)≤_
     rw [List.length_append,List.length_singleton];omega
    ·show(out++ [n]).length +iM ln (out++ [n])≤_
     rw [List.length_append,List.length_singleton];omega
 ·have hR2:out=ndF s.xs ln hd:=by
   cases k with
   | zero=>omega
   | succ k=>
     unfold sO at hR
     rw [e1,e2]at hR
     exact hR
  rw [←hR2]at hK
  exact hK
 ·have hR2:out=ndF s.xs ln hd:=by
   cases k with
   | zero=>omega
   | succ k=>
     unfold sO at hR
     rw [e1]at hR
     exact hR
  rw [←hR2]at hK
  exact hK
theorem PY(xs:List Int)(nd:Int)(k:Nat): ∀(n:Int) (out:List Int),(sO xs nd k n out).length ≤out.length+k:=by
 induction k with
 | zero=>intro n out;unfold sO;omega
 | succ k ih=>
   intro n out
   unfold sO
   cases bR nd n<;>cases hasB out n<;>simp only [cond_true,cond_false,Bool.not_true,Bool.not_false]<;>try omega
   have:=ih (aA (aB xs n) 10 9) (out++ [n])
   rw [List.length_append,List.length_singleton]at this
   omega
theorem VJ(xs:List Int)(nd hd:Int):(ndF xs nd hd).length ≤nd.toNat+1:=by
 have:=PY xs nd (nd.toNat+1) (aA (aB xs (nd+1+hd)) 10 9) []
 unfold ndF
 simpa using this
def ndS:aH Ob:=fun args h=>match args,h with
 | [.ptr 0 0,.agg [.int .i64 lt,.int .i64 ln],.int .i64 hd],[e1,e2]=>(match cZ 1 [e1,e2]with
   | some (l,s)=>some (.pre (l=s.xs.length∧(0≤ln∧ln≤100000)∧(-1000000≤hd∧hd≤1000000)) (.ret (.slice 2 0 (ndF s.xs ln hd).length 1) [bA 1 s,bB s,some (.ints (some .i64) (ndF s.xs ln hd))]))
   | none=>none)
 | _,_=>none
theorem aCS:sT' 58 ndS:=by
 intro args h o ho K hK
 unfold ndS at ho
 split at ho
 case h_2=>cases ho
 rename_i lt ln hd e1 e2
 split at ho<;>cases ho
 rename_i l s hm
 obtain⟨⟨hl,h1,h2⟩,hK⟩:=hK
 have hh:=bC hm hl
 cases hh
 exact P0 s lt ln hd _ K (aCT s lt ln hd K h1 h2 hK)
noncomputable def EV5:=EV4.addS 58 ndS aCS
def kyL(xs ns:List Int):List Int:=(ns.filter fun a=>!ieq (aA (aB xs a) 19 1) 1).map fun a=>aA (aB xs a) 0 10
structure aCM (xs ns:List Int) (x:Nat×List Int):Prop where
 hi:x.1≤ns.length
 eq:x.2=kyL xs (ns.take x.1)
def HKY(s:MS)(ns:List Int):Hint Ob:= {X:=Nat×List Int,st:=fun x=>([.ptr 0 0,.O,.O,.O,.O,.O,.O,.slice 2 0 x.2.length 1,.O,.O,.O,.O,.O,.O,.slice 3 0 ns.length 1,.int .i64 (ns.length:Int),.int .i64 (x.1:Int)]++List.replicate 17 .O,[bA 1 s,bB s,some (.ints (some .i64) x.2),some (.ints (some .i64) ns)]),ok:=aCM s.xs ns,mu:=fun x=>ns.length - x.1,keep:=[0,7,14,15,16],casts:=[(.slot 7,.ints (some .i64))] }
def aAU(s:MS)(lt ln hd:Int)(K:AVal→aD Ob→Prop):Prop:=(lE' s.3∧((0:Int)≤ln∧ln≤(100000:Int))∧(-1000000:Int)≤hd∧hd≤(1000000:Int))∧okSt (HKY s (ndF (MS.xs s) ln hd)) (Hint.ok (HKY s (ndF (MS.xs s) ln hd))) [.ptr 0 0,.O,.O,.O,.O,.O,.O,.slice 2 0 0 1,.O,.O,.O,.O,.O,.O,.slice 3 0 (List.length (ndF s.3 ln hd)) 1,.int .i64 (↑(List.length (ndF s.3 ln hd)):Int),.int .i64 0,.O,.O,.O,.O,.O,.O,.O,.O,.O,.O,.O,.O,.O,.O,.O,.O,.O] [some (.cells [.int .i64 s.1,.int .i64 s.2,.slice 1 0 (List.length s.3) 1,.int .i64 s.4,.int .i64 s.5,.int .i64 s.6,.int .u64 s.7,.int .u64 s.8,.bool s.9]),some (.ints (some .u64) s.3),some (.ints (some .i64) []),some (.ints (some .i64) (ndF s.3 ln hd))]∧ ∀(x:Hint.X (HKY s (ndF (MS.xs s) ln hd))),aCM s.3 (ndF s.3 ln hd) x→bif ilt (↑x.1:Int) (↑(List.length (ndF s.3 ln hd)):Int)then((0:Int)≤(↑x.1:Int)∧(↑x.1:Int)<(↑(List.length (ndF s.3 ln hd)):Int))∧0+Int.toNat (↑x.1:Int)*(1:Nat)<List.length (ndF s.3 ln hd)∧(lE' s.3∧True)∧True∧bif !ieq (aA (aB s.3 (List.getD (ndF s.3 ln hd) (0+Int.toNat (↑x.1:Int)*1) 0)) 19 1) 1 then(0=0∧lE' x.2∧1=1∧List.length x.2+(1:Nat)≤(4294967296:Nat))∧okSt (HKY s (ndF (MS.xs s) ln hd)) (fun x'=>Hint.ok (HKY s (ndF (MS.xs s) ln hd)) x'∧Hint.mu (HKY s (ndF (MS.xs s) ln hd)) x'<Hint.mu (HKY s (ndF (MS.xs s) ln hd)) x) [.ptr 0 0,.O,.O,.O,.O,.O,.O,.slice 2 0 (List.length x.2+1) 1,.O,.O,.O,.O,.O,.O,.slice 3 0 (List.length (ndF s.3 ln hd)) 1,.int .i64 (↑(List.length (ndF s.3 ln hd)):Int),.int .i64 (W ((↑x.1:Int)+1)),.O,.O,.O,.O,.O,.O,.O,.O,.O,.O,.O,.O,.O,.O,.O,.O,.O] [some (.cells [.int .i64 s.1,.int .i64 s.2,.slice 1 0 (List.length s.3) 1,.int .i64 s.4,.int .i64 s.5,.int .i64 s.6,.int .u64 s.7,.int .u64 s.8,.bool s.9]),some (.ints (some .u64) s.3),some (.ints (some .i64) (x.2++ [aA (aB s.3 (List.getD (ndF s.3 ln hd) (0+Int.toNat (↑x.1:Int)*1) 0)) 0 10])),some (.ints (some .i64) (ndF s.3 ln hd))]else okSt (HKY s (ndF (MS.xs s) ln hd)) (fun x'=>Hint.ok (HKY s (ndF (MS.xs s) ln hd)) x'∧Hint.mu (HKY s (ndF (MS.xs s) ln hd)) x'<Hint.mu (HKY s (ndF (MS.xs s) ln hd)) x) [.ptr 0 0,.O,.O,.O,.O,.O,.O,.slice 2 0 (List.length x.2) 1,.O,.O,.O,.O,.O,.O,.slice 3 0 (List.length (ndF s.3 ln hd)) 1,.int .i64 (↑(List.length (ndF s.3 ln hd)):Int),.int .i64 (W ((↑x.1:Int)+1)),.O,.O,.O,.O,.O,.O,.O,.O,.O,.O,.O,.O,.O,.O,.O,.O,.O] [some (.cells [.int .i64 s.1,.int .i64 s.2,.slice 1 0 (List.length s.3) 1,.int .i64 s.4,.int .i64 s.5,.int .i64 s.6,.int .u64 s.7,.int .u64 s.8,.bool s.9]),some (.ints (some .u64) s.3),some (.ints (some .i64) x.2),some (.ints (some .i64) (ndF s.3 ln hd))]else K (.slice 2 0 (List.length x.2) 1) [some (.cells [.int .i64 s.1,.int .i64 s.2,.slice 1 0 (List.length s.3) 1,.int .i64 s.4,.int .i64 s.5,.int .i64 s.6,.int .u64 s.7,.int .u64 s.8,.bool s.9]),some (.ints (some .u64) s.3),some (.ints (some .i64) x.2)]
theorem PP(s:MS)(lt ln hd:Int)(K:AVal→aD Ob→Prop)(h:aAU s lt ln hd K):cT' 59 [.ptr 0 0,.agg [.int .i64 lt,.int .i64 ln],.int .i64 hd] [bA 1 s,bB s] K:=by
 exact aEl (aE (E:=EV5) Tryz.checked.mixed (L:=fun _ _=>some (.states (HKY s (ndF s.xs ln hd)))) (n:=10) (aN (by kernel_rfl) h))
theorem RC{ns:List Int}{i:Nat}(hi:i<ns.length):ns.take (i+1)=ns.take i++ [ns.getD i 0]:=by
 rw [List.take_succ,gD',gE' hi];rfl
theorem XL{xs ns:List Int}{i:Nat}(hi:i<ns.length)(h:(!ieq (aA (aB xs (ns.getD i 0)) 19 1) 1)=true):kyL xs (ns.take (i+1))=kyL xs (ns.take i)++ [aA (aB xs (ns.getD i 0)) 0 10]:=by
 unfold kyL
 rw [RC hi,List.filter_append,List.map_append]
 simp only [List.filter_cons,List.filter_nil,h,if_true,List.map_cons,List.map_nil]
theorem aCN{xs ns:List Int}{i:Nat}(hi:i<ns.length)(h:(!ieq (aA (aB xs (ns.getD i 0)) 19 1) 1)=false):kyL xs (ns.take (i+1))=kyL xs (ns.take i):=by
 unfold kyL
 rw [RC hi,List.filter_append,List.map_append]
 simp only [List.filter_cons,List.filter_nil,h,Bool.false_eq_true,if_false,List.map_nil,List.append_nil]
theorem VC(xs ns:List Int):(kyL xs ns).length ≤ns.length:=by
 unfold kyL
 rw [List.length_map];exact List.length_filter_le _ _
def keyF(xs:List Int)(nd hd:Int):List Int:=kyL xs (ndF xs nd hd)
theorem aCP(s:MS)(lt ln hd:Int)(K:AVal→aD Ob→Prop)(h1:0≤ln∧ln≤100000)(h2: -1000000≤hd∧hd≤1000000)(hK:K (.slice 2 0 (keyF s.xs ln hd).length 1) [bA 1 s,bB s,some (.ints (some .i64) (keyF s.xs ln hd))]):aAU s lt ln hd K:=by
 have hlen:=VJ s.xs ln hd
 unfold keyF at hK
 refine⟨⟨rfl,h1,h2⟩,aS (H:=HKY s (ndF s.xs ln hd)) ((0:Nat),[]) rfl ⟨Nat.zero_le _,rfl⟩,?_⟩
 have hlen':(ndF s.3 ln hd).length ≤ln.toNat+1:=hlen
 generalize ndF s.xs ln hd=ns at hK hlen⊢
 rintro⟨i,out⟩ ⟨hi,heq⟩
 dsimp only at hi heq
 subst heq
 have hkl:(kyL s.xs (ns.take i)).length ≤i:=Nat.le_trans (VC _ _) (List.length_take_le _ _)
 refine aM (fun e=>?_) (fun e=>?_)
 ·rw [bP,dT']at e
  have e:(i:Int)<(ns.length:Int):=e
  have hil:i<ns.length:=by omega
  have e4:W ((i:Int)+1)=((i+1:Nat):Int):=by rw [W,cJ (by omega)];rfl
  have e0:0+Int.toNat (i:Int)*1=i:=by omega
  have hk1:(kyL s.xs (ns.take i)).length +1≤4294967296:=by omega
  refine⟨⟨by show(0:Int)≤(i:Int);omega,e⟩,by show 0+Int.toNat (i:Int)*1<ns.length;omega,⟨rfl,trivial⟩,trivial,aM (fun e2=>⟨⟨rfl,rfl,rfl,hk1⟩,?_⟩) (fun e2=>?_)⟩
  ·have e2:(!ieq (aA (aB s.xs (ns.getD (0+Int.toNat (i:Int)*1) 0)) 19 1) 1)=true:=e2
   rw [e0]at e2
   refine aS (H:=HKY s ns) (i+1,kyL s.xs (ns.take (i+1))) ?_ ⟨⟨hil,rfl⟩,by show ns.length - (i+1)<ns.length - i;omega⟩
   show((HKY s ns).st (i+1,kyL s.xs (ns.take (i+1))))=_
   have hl:(kyL s.xs (ns.take (i+1))).length =(kyL s.xs (ns.take i)).length +1:=by rw [XL hil e2];simp
   simp only [HKY,hl]
   rw [XL hil e2]
   simp only [e4,e0]
   rfl
  ·have e2:(!ieq (aA (aB s.xs (ns.getD (0+Int.toNat (i:Int)*1) 0)) 19 1) 1)=false:=e2
   rw [e0]at e2
   refine aS (H:=HKY s ns) (i+1,kyL s.xs (ns.take (i+1))) ?_ ⟨⟨hil,rfl⟩,by show ns.length - (i+1)<ns.length - i;omega⟩
   rw [aCN hil e2]
   simp only [HKY,e4]
   rfl
 ·rw [bP,dF']at e
  have e: ¬(i:Int)<(ns.length:Int):=e
  have hil:i=ns.length:=by omega
  subst hil
  rw [List.take_length]
  exact hK
def kyS:aH Ob:=fun args h=>match args,h with
 | [.ptr 0 0,.agg [.int .i64 lt,.int .i64 ln],.int .i64 hd],[e1,e2]=>(match cZ 1 [e1,e2]with
   | some (l,s)=>some (.pre (l=s.xs.length∧(0≤ln∧ln≤100000)∧(-1000000≤hd∧hd≤1000000)) (.ret (.slice 2 0 (keyF s.xs ln hd).length 1) [bA 1 s,bB s,some (.ints (some .i64) (keyF s.xs ln hd))]))
   | none=>none)
 | _,_=>none
theorem aCO:sT' 59 kyS:=by
 intro args h o ho K hK
 unfold kyS at ho
 split at ho
 case h_2=>cases ho
 rename_i lt ln hd e1 e2
 split at ho<;>cases ho
 rename_i l s hm
 obtain⟨⟨hl,h1,h2⟩,hK⟩:=hK
 have hh:=bC hm hl
 cases hh
 exact PP s lt ln hd K (aCP s lt ln hd K h1 h2 hK)
noncomputable def EV6:=EV5.addS 59 kyS aCO
def fT:List Int→List (Int×Int)→List (Int×Int)
 | [],m=>m
 | k::ks,m=>fT ks (dG m k (W ((mget m k).getD 0+1)))
def eF(m:List (Int×Int)):Nat→List Int
 | 0=>[]
 | k+1=>eF m k++List.replicate ((mget m (k:Int)).getD 0).toNat (k:Int)
def cntM(xs:List Int)(n:Int):List (Int×Int):=fT (keyF xs n 3) (fT (keyF xs n 2) (fT (keyF xs n 1) (fT (keyF xs n 0) [])))
def dJ(xs:List Int)(n sh:Int):List Int:=bif ilt 2 sh then keyF xs n 0 else eF (cntM xs n) 1024
end Go.Sh
