import Derived.Test.YtedeloeobocpiaaGreatZFB5toQT2
set_option linter.all false
set_option maxHeartbeats 8000000
namespace Go.Sh
open Go Go.Proofs
variable [Con]
def kT(sh:Int):Int:=IntKind.wrap .i64 (1+Int.tmod (IntKind.wrap .i64 sh) 4)
abbrev TAX:=Nat×STS×STS×STS×MS
structure aEz (m:Nat) (J:TAX→Prop) (x:TAX):Prop where
 h:x.1≤m
 j:J x
def z8(sh:Int)(m:Nat)(f g:Nat→Int)(ws:List Int)(J:TAX→Prop):Hint Ob:= {X:=TAX,st:=fun x=>([.O,.view m 2 (fun i=>[.int .i64 (f i),.int .i64 (g i)]),.iview (some .u8) ws,.O,.O,.O,.O,.int .i64 (kT sh),.ptr 0 0,.ptr 2 0,.slice 3 0 3 1]++List.replicate 40 .O ++ [.view m 2 (fun i=>[.int .i64 (f i),.int .i64 (g i)]),.int .i64 (m:Int),.int .i64 (x.1:Int)]++List.replicate 91 .O,[aY 1 x.2.2.2.2,aZ x.2.2.2.2,some (.cells [.int .i64 3,.int .i64 70]),some (.cells [.ptr 4 0,.ptr 5 0,.ptr 6 0]),some (.abs (.store 3 70 x.2.1) []),some (.abs (.store 3 70 x.2.2.1) []),some (.abs (.store 3 70 x.2.2.2.1) [])]),ok:=aEz m J,mu:=fun x=>m - x.1,keep:=[1,2,7,8,9,10,51,52,53] }
def aEH(sh:Int)(m:Nat)(f g:Nat→Int)(ws:List Int)(J:TAX→Prop):FuncId→Nat→Option (p7 Ob):=fun _ k=>if k=11 then some (.states (z8 sh m f g ws J))else some (.rounds 5)
def wI(ws:List Int)(i:Nat):Nat:=0+Int.toNat (Int.tmod (IntKind.wrap .i64 (List.getD ws (Int.toNat (Int.tmod (i:Int) (ws.length:Int))) 0)) 3)*1
def tN(sh:Int)(f g:Nat→Int)(i:Nat)(st:STS):DOS×STS:=dqNF 3 70 (kT sh) (f i) (g i) (Int.tmod (i:Int) 3) st
def tR(sh:Int)(f g:Nat→Int)(i:Nat)(st:STS)(s:MS):Nat×Bool×DOS×STS×MS:=kZ 3 70 3000 (tN sh f g i st).1 (tN sh f g i st).2 s
def tS(sh:Int)(f g:Nat→Int)(i:Nat)(st:STS)(s:MS):STS:=(tR sh f g i st s).2.2.2.1
def tM(sh:Int)(f g:Nat→Int)(i:Nat)(st:STS)(s:MS):MS:=(tR sh f g i st s).2.2.2.2
def KV(sh:Int)(m:Nat)(f g:Nat→Int)(ws:List Int)(J:TAX→Prop)(K:AVal→aD Ob→Prop):Prop:=True∧(4:Int)≠(0:Int)∧bif ilt 20 (↑m:Int)then K (.bool true) []else(m≤(4611686018427387904:Nat)∧dM fun i=>[.int .i64 (f i),.int .i64 (g i)])∧bif !lK (kT sh) m f g then K (.bool true) []else bif ieq (↑(List.length ws):Int) 0 then K (.bool true) []else HE 3 70 []∧(True∧True)∧(True∧True)∧(True∧True)∧okSt (z8 sh m f g ws J) (Hint.ok (z8 sh m f g ws J)) (.O::(.view m 2 fun i=>[.int .i64 (f i),.int .i64 (g i)])::.iview (some .u8) ws::.O::.O::.O::.O::.int .i64 (kT sh)::.ptr 0 0::.ptr 2 0::.slice 3 0 3 1::(tO' 40 ((.view m 2 fun i=>[.int .i64 (f i),.int .i64 (g i)])::.int .i64 (↑m:Int)::.int .i64 0::(tO' 91 [])))) [some (.cells [.int .i64 (eB (kT sh) 3 70 []).1,.int .i64 (eB (kT sh) 3 70 []).2,.slice 1 0 (List.length (eB (kT sh) 3 70 []).3) 1,.int .i64 (eB (kT sh) 3 70 []).4,.int .i64 (eB (kT sh) 3 70 []).5,.int .i64 (eB (kT sh) 3 70 []).6,.int .u64 (eB (kT sh) 3 70 []).7,.int .u64 (eB (kT sh) 3 70 []).8,.bool (eB (kT sh) 3 70 []).9]),some (.ints (some .u64) (eB (kT sh) 3 70 []).3),some (.cells [.int .i64 3,.int .i64 70]),some (.cells [.ptr 4 0,.ptr 5 0,.ptr 6 0]),some (.abs (.store 3 70 {me:=0,sp:=0,R:=[] }) []),some (.abs (.store 3 70 {me:=1,sp:=0,R:=[] }) []),some (.abs (.store 3 70 {me:=2,sp:=0,R:=[] }) [])]∧ ∀(x:TAX),aEz m J x→bif ilt (↑x.1:Int) (↑m:Int)then((0:Int)≤(↑x.1:Int)∧(↑x.1:Int)<(↑m:Int))∧(↑(List.length ws):Int)≠(0:Int)∧((0:Int)≤Int.tmod (↑x.1:Int) (↑(List.length ws):Int)∧Int.tmod (↑x.1:Int) (↑(List.length ws):Int)<(↑(List.length ws):Int))∧(3:Int)≠(0:Int)∧((0:Int)≤Int.tmod (W (List.getD ws (Int.toNat (Int.tmod (↑x.1:Int) (↑(List.length ws):Int))) 0)) 3∧Int.tmod (W (List.getD ws (Int.toNat (Int.tmod (↑x.1:Int) (↑(List.length ws):Int))) 0)) (3:Int)<(↑3:Int))∧bif Nat.beq (wI ws x.1) 0 then(3:Int)≠(0:Int)∧(uF 3 70 (kT sh) (f (Int.toNat (↑x.1:Int))) (g (Int.toNat (↑x.1:Int))) (Int.tmod (↑x.1:Int) 3) (Prod.snd x).1∧True)∧((lE' (Prod.snd (Prod.snd x.2).2).3∧(3:Int)=(3:Int)∧(70:Int)=(70:Int))∧((0:Int)≤(3000:Int)∧(3000:Int)≤(1000000:Int))∧yR 3 70 3000 (tN sh f g x.1 x.2.1).1 (tN sh f g x.1 x.2.1).2 (Prod.snd x.2).2.2)∧bif (Prod.snd (tR sh f g x.1 x.2.1 x.2.2.2.2)).1 then bif (Prod.fst (Prod.snd (tR sh f g x.1 x.2.1 x.2.2.2.2)).2).4 then K (.bool false) []else((0:Int)≤(↑x.1:Int)∧Int.toNat (↑x.1:Int)≤m)∧((Int.toNat (↑x.1:Int)≤(1000000:Nat)∧dM fun i=>[.int .i64 (f i),.int .i64 (g i)])∧True)∧bif !bif ieq (Prod.fst (Prod.snd (tR sh f g x.1 x.2.1 x.2.2.2.2)).2).1 0 then bif bif (Prod.fst (Prod.snd (tR sh f g x.1 x.2.1 x.2.2.2.2)).2).2 then resB (kT sh) f g (Int.toNat (↑x.1:Int)) (f (Int.toNat (↑x.1:Int))) (g (Int.toNat (↑x.1:Int)))else !resB (kT sh) f g (Int.toNat (↑x.1:Int)) (f (Int.toNat (↑x.1:Int))) (g (Int.toNat (↑x.1:Int)))then bif ieq (Prod.fst (Prod.snd (tR sh f g x.1 x.2.1 x.2.2.2.2)).2).3 (tQ (kT sh) f g (Int.toNat (↑x.1:Int)) (f (Int.toNat (↑x.1:Int))) (g (Int.toNat (↑x.1:Int))))then true else false else false else false then K (.bool false) []else(((lE' (tM sh f g x.1 x.2.1 x.2.2.2.2).3∧(3:Int)=(3:Int)∧(70:Int)=(70:Int)∧(3:Int)=(3:Int)∧(70:Int)=(70:Int)∧(3:Int)=(3:Int)∧(70:Int)=(70:Int))∧((0:Int)≤(3:Int)∧(3:Int)≤(100000:Int))∧((0:Int)≤(70:Int)∧(70:Int)<(100000:Int))∧List.length (tS sh f g x.1 x.2.1 x.2.2.2.2).3≤(1000000:Nat)∧List.length (Prod.fst (Prod.snd x).2).3≤(1000000:Nat)∧List.length (Prod.fst (Prod.snd x.2).2).3≤(1000000:Nat)∧OI (tM sh f g x.1 x.2.1 x.2.2.2.2).3 3 70)∧True)∧bif !jY (tM sh f g x.1 x.2.1 x.2.2.2.2).3 70 [(tS sh f g x.1 x.2.1 x.2.2.2.2),(Prod.snd x.2).1,(Prod.snd (Prod.snd x).2).1]then K (.bool false) []else((lE' (tM sh f g x.1 x.2.1 x.2.2.2.2).3∧(0:Int)≤(70:Int)∧(70:Int)≤(100000:Int))∧True)∧((0:Int)≤W ((↑x.1:Int)+1)∧Int.toNat (W ((↑x.1:Int)+1))≤m)∧((Int.toNat (W ((↑x.1:Int)+1))≤(1000000:Nat)∧dM fun i=>[.int .i64 (f i),.int .i64 (g i)])∧True)∧(((lE' (d0 (tM sh f g x.1 x.2.1 x.2.2.2.2).3 70 (kT sh))∧eQ (kT sh) f g (Int.toNat (W ((↑x.1:Int)+1)))+List.length (bT (kT sh) f g (Int.toNat (W ((↑x.1:Int)+1))))=List.length (fP (kT sh) f g (Int.toNat (W ((↑x.1:Int)+1)))))∧List.length (d0 (tM sh f g x.1 x.2.1 x.2.2.2.2).3 70 (kT sh))≤(4294967296:Nat))∧True)∧bif !nG (d0 (tM sh f g x.1 x.2.1 x.2.2.2.2).3 70 (kT sh)) (List.drop (eQ (kT sh) f g (Int.toNat (W ((↑x.1:Int)+1)))) (fP (kT sh) f g (Int.toNat (W ((↑x.1:Int)+1)))))then K (.bool false) []else((lE' (tM sh f g x.1 x.2.1 x.2.2.2.2).3∧((0:Int)≤(70:Int)∧(70:Int)≤(100000:Int))∧(-1000000:Int)≤(0:Int)∧(0:Int)≤(1000000:Int))∧True)∧((lE' (tM sh f g x.1 x.2.1 x.2.2.2.2).3∧((0:Int)≤(70:Int)∧(70:Int)≤(100000:Int))∧(-1000000:Int)≤(0:Int)∧(0:Int)≤(1000000:Int))∧True)∧bif !ieq (↑(List.length (ndF (tM sh f g x.1 x.2.1 x.2.2.2.2).3 70 0)):Int) (↑(List.length (keyF (tM sh f g x.1 x.2.1 x.2.2.2.2).3 70 0)):Int)then K (.bool false) []else((lE' (tM sh f g x.1 x.2.1 x.2.2.2.2).3∧((0:Int)≤(70:Int)∧(70:Int)≤(100000:Int))∧(-1000000:Int)≤W (0+1)∧W (0+1)≤(1000000:Int))∧True)∧((lE' (tM sh f g x.1 x.2.1 x.2.2.2.2).3∧((0:Int)≤(70:Int)∧(70:Int)≤(100000:Int))∧(-1000000:Int)≤W (0+1)∧W (0+1)≤(1000000:Int))∧True)∧bif !ieq (↑(List.length (ndF (tM sh f g x.1 x.2.1 x.2.2.2.2).3 70 (W (0+1)))):Int) (↑(List.length (keyF (tM sh f g x.1 x.2.1 x.2.2.2.2).3 70 (W (0+1)))):Int)then K (.bool false) []else((lE' (tM sh f g x.1 x.2.1 x.2.2.2.2).3∧((0:Int)≤(70:Int)∧(70:Int)≤(100000:Int))∧(-1000000:Int)≤W (W (0+1)+1)∧W (W (0+1)+1)≤(1000000:Int))∧True)∧((lE' (tM sh f g x.1 x.2.1 x.2.2.2.2).3∧((0:Int)≤(70:Int)∧(70:Int)≤(100000:Int))∧(-1000000:Int)≤W (W (0+1)+1)∧W (W (0+1)+1)≤(1000000:Int))∧True)∧bif !ieq (↑(List.length (ndF (tM sh f g x.1 x.2.1 x.2.2.2.2).3 70 (W (W (0+1)+1)))):Int) (↑(List.length (keyF (tM sh f g x.1 x.2.1 x.2.2.2.2).3 70 (W (W (0+1)+1)))):Int)then K (.bool false) []else((lE' (tM sh f g x.1 x.2.1 x.2.2.2.2).3∧((0:Int)≤(70:Int)∧(70:Int)≤(100000:Int))∧(-1000000:Int)≤W (W (W (0+1)+1)+1)∧W (W (W (0+1)+1)+1)≤(1000000:Int))∧True)∧((lE' (tM sh f g x.1 x.2.1 x.2.2.2.2).3∧((0:Int)≤(70:Int)∧(70:Int)≤(100000:Int))∧(-1000000:Int)≤W (W (W (0+1)+1)+1)∧W (W (W (0+1)+1)+1)≤(1000000:Int))∧True)∧bif !ieq (↑(List.length (ndF (tM sh f g x.1 x.2.1 x.2.2.2.2).3 70 (W (W (W (0+1)+1)+1)))):Int) (↑(List.length (keyF (tM sh f g x.1 x.2.1 x.2.2.2.2).3 70 (W (W (W (0+1)+1)+1)))):Int)then K (.bool false) []else okSt (z8 sh m f g ws J) (fun x'=>Hint.ok (z8 sh m f g ws J) x'∧Hint.mu (z8 sh m f g ws J) x'<Hint.mu (z8 sh m f g ws J) x) (.O::(.view m 2 fun i=>[.int .i64 (f i),.int .i64 (g i)])::.iview (some .u8) ws::.O::.O::.O::.O::.int .i64 (kT sh)::.ptr 0 0::.ptr 2 0::.slice 3 0 3 1::(tO' 40 ((.view m 2 fun i=>[.int .i64 (f i),.int .i64 (g i)])::.int .i64 (↑m:Int)::.int .i64 (W ((↑x.1:Int)+1))::(tO' 91 [])))) [some (.cells [.int .i64 (tM sh f g x.1 x.2.1 x.2.2.2.2).1,.int .i64 (tM sh f g x.1 x.2.1 x.2.2.2.2).2,.slice 1 0 (List.length (tM sh f g x.1 x.2.1 x.2.2.2.2).3) 1,.int .i64 (tM sh f g x.1 x.2.1 x.2.2.2.2).4,.int .i64 (tM sh f g x.1 x.2.1 x.2.2.2.2).5,.int .i64 (tM sh f g x.1 x.2.1 x.2.2.2.2).6,.int .u64 (tM sh f g x.1 x.2.1 x.2.2.2.2).7,.int .u64 (tM sh f g x.1 x.2.1 x.2.2.2.2).8,.bool (tM sh f g x.1 x.2.1 x.2.2.2.2).9]),some (.ints (some .u64) (tM sh f g x.1 x.2.1 x.2.2.2.2).3),some (.cells [.int .i64 3,.int .i64 70]),some (.cells [.ptr 4 0,.ptr 5 0,.ptr 6 0]),some (.abs (.store 3 70 (tS sh f g x.1 x.2.1 x.2.2.2.2)) []),some (.abs (.store 3 70 (Prod.snd x.2).1) []),some (.abs (.store 3 70 (Prod.snd (Prod.snd x).2).1) [])]else K (.bool false) []else bif Nat.beq (wI ws x.1) 1 then(3:Int)≠(0:Int)∧(uF 3 70 (kT sh) (f (Int.toNat (↑x.1:Int))) (g (Int.toNat (↑x.1:Int))) (Int.tmod (↑x.1:Int) 3) (Prod.snd x.2).1∧True)∧((lE' (Prod.snd (Prod.snd x.2).2).3∧(3:Int)=(3:Int)∧(70:Int)=(70:Int))∧((0:Int)≤(3000:Int)∧(3000:Int)≤(1000000:Int))∧yR 3 70 3000 (tN sh f g x.1 x.2.2.1).1 (tN sh f g x.1 x.2.2.1).2 (Prod.snd x.2).2.2)∧bif (Prod.snd (tR sh f g x.1 x.2.2.1 x.2.2.2.2)).1 then bif (Prod.fst (Prod.snd (tR sh f g x.1 x.2.2.1 x.2.2.2.2)).2).4 then K (.bool false) []else((0:Int)≤(↑x.1:Int)∧Int.toNat (↑x.1:Int)≤m)∧((Int.toNat (↑x.1:Int)≤(1000000:Nat)∧dM fun i=>[.int .i64 (f i),.int .i64 (g i)])∧True)∧bif !bif ieq (Prod.fst (Prod.snd (tR sh f g x.1 x.2.2.1 x.2.2.2.2)).2).1 0 then bif bif (Prod.fst (Prod.snd (tR sh f g x.1 x.2.2.1 x.2.2.2.2)).2).2 then resB (kT sh) f g (Int.toNat (↑x.1:Int)) (f (Int.toNat (↑x.1:Int))) (g (Int.toNat (↑x.1:Int)))else !resB (kT sh) f g (Int.toNat (↑x.1:Int)) (f (Int.toNat (↑x.1:Int))) (g (Int.toNat (↑x.1:Int)))then bif ieq (Prod.fst (Prod.snd (tR sh f g x.1 x.2.2.1 x.2.2.2.2)).2).3 (tQ (kT sh) f g (Int.toNat (↑x.1:Int)) (f (Int.toNat (↑x.1:Int))) (g (Int.toNat (↑x.1:Int))))then true else false else false else false then K (.bool false) []else(((lE' (tM sh f g x.1 x.2.2.1 x.2.2.2.2).3∧(3:Int)=(3:Int)∧(70:Int)=(70:Int)∧(3:Int)=(3:Int)∧(70:Int)=(70:Int)∧(3:Int)=(3:Int)∧(70:Int)=(70:Int))∧((0:Int)≤(3:Int)∧(3:Int)≤(100000:Int))∧((0:Int)≤(70:Int)∧(70:Int)<(100000:Int))∧List.length (Prod.fst x.2).3≤(1000000:Nat)∧List.length (tS sh f g x.1 x.2.2.1 x.2.2.2.2).3≤(1000000:Nat)∧List.length (Prod.fst (Prod.snd x.2).2).3≤(1000000:Nat)∧OI (tM sh f g x.1 x.2.2.1 x.2.2.2.2).3 3 70)∧True)∧bif !jY (tM sh f g x.1 x.2.2.1 x.2.2.2.2).3 70 [(Prod.snd x).1,(tS sh f g x.1 x.2.2.1 x.2.2.2.2),(Prod.snd (Prod.snd x).2).1]then K (.bool false) []else((lE' (tM sh f g x.1 x.2.2.1 x.2.2.2.2).3∧(0:Int)≤(70:Int)∧(70:Int)≤(100000:Int))∧True)∧((0:Int)≤W ((↑x.1:Int)+1)∧Int.toNat (W ((↑x.1:Int)+1))≤m)∧((Int.toNat (W ((↑x.1:Int)+1))≤(1000000:Nat)∧dM fun i=>[.int .i64 (f i),.int .i64 (g i)])∧True)∧(((lE' (d0 (tM sh f g x.1 x.2.2.1 x.2.2.2.2).3 70 (kT sh))∧eQ (kT sh) f g (Int.toNat (W ((↑x.1:Int)+1)))+List.length (bT (kT sh) f g (Int.toNat (W ((↑x.1:Int)+1))))=List.length (fP (kT sh) f g (Int.toNat (W ((↑x.1:Int)+1)))))∧List.length (d0 (tM sh f g x.1 x.2.2.1 x.2.2.2.2).3 70 (kT sh))≤(4294967296:Nat))∧True)∧bif !nG (d0 (tM sh f g x.1 x.2.2.1 x.2.2.2.2).3 70 (kT sh)) (List.drop (eQ (kT sh) f g (Int.toNat (W ((↑x.1:Int)+1)))) (fP (kT sh) f g (Int.toNat (W ((↑x.1:Int)+1)))))then K (.bool false) []else((lE' (tM sh f g x.1 x.2.2.1 x.2.2.2.2).3∧((0:Int)≤(70:Int)∧(70:Int)≤(100000:Int))∧(-1000000:Int)≤(0:Int)∧(0:Int)≤(1000000:Int))∧True)∧((lE' (tM sh f g x.1 x.2.2.1 x.2.2.2.2).3∧((0:Int)≤(70:Int)∧(70:Int)≤(100000:Int))∧(-1000000:Int)≤(0:Int)∧(0:Int)≤(1000000:Int))∧True)∧bif !ieq (↑(List.length (ndF (tM sh f g x.1 x.2.2.1 x.2.2.2.2).3 70 0)):Int) (↑(List.length (keyF (tM sh f g x.1 x.2.2.1 x.2.2.2.2).3 70 0)):Int)then K (.bool false) []else((lE' (tM sh f g x.1 x.2.2.1 x.2.2.2.2).3∧((0:Int)≤(70:Int)∧(70:Int)≤(100000:Int))∧(-1000000:Int)≤W (0+1)∧W (0+1)≤(1000000:Int))∧True)∧((lE' (tM sh f g x.1 x.2.2.1 x.2.2.2.2).3∧((0:Int)≤(70:Int)∧(70:Int)≤(100000:Int))∧(-1000000:Int)≤W (0+1)∧W (0+1)≤(1000000:Int))∧True)∧bif !ieq (↑(List.length (ndF (tM sh f g x.1 x.2.2.1 x.2.2.2.2).3 70 (W (0+1)))):Int) (↑(List.length (keyF (tM sh f g x.1 x.2.2.1 x.2.2.2.2).3 70 (W (0+1)))):Int)then K (.bool false) []else((lE' (tM sh f g x.1 x.2.2.1 x.2.2.2.2).3∧((0:Int)≤(70:Int)∧(70:Int)≤(100000:Int))∧(-1000000:Int)≤W (W (0+1)+1)∧W (W (0+1)+1)≤(1000000:Int))∧True)∧((lE' (tM sh f g x.1 x.2.2.1 x.2.2.2.2).3∧((0:Int)≤(70:Int)∧(70:Int)≤(100000:Int))∧(-1000000:Int)≤W (W (0+1)+1)∧W (W (0+1)+1)≤(1000000:Int))∧True)∧bif !ieq (↑(List.length (ndF (tM sh f g x.1 x.2.2.1 x.2.2.2.2).3 70 (W (W (0+1)+1)))):Int) (↑(List.length (keyF (tM sh f g x.1 x.2.2.1 x.2.2.2.2).3 70 (W (W (0+1)+1)))):Int)then K (.bool false) []else((lE' (tM sh f g x.1 x.2.2.1 x.2.2.2.2).3∧((0:Int)≤(70:Int)∧(70:Int)≤(100000:Int))∧(-1000000:Int)≤W (W (W (0+1)+1)+1)∧W (W (W (0+1)+1)+1)≤(1000000:Int))∧True)∧((lE' (tM sh f g x.1 x.2.2.1 x.2.2.2.2).3∧((0:Int)≤(70:Int)∧(70:Int)≤(100000:Int))∧(-1000000:Int)≤W (W (W (0+1)+1)+1)∧W (W (W (0+1)+1)+1)≤(1000000:Int))∧True)∧bif !ieq (↑(List.length (ndF (tM sh f g x.1 x.2.2.1 x.2.2.2.2).3 70 (W (W (W (0+1)+1)+1)))):Int) (↑(List.length (keyF (tM sh f g x.1 x.2.2.1 x.2.2.2.2).3 70 (W (W (W (0+1)+1)+1)))):Int)then K (.bool false) []else okSt (z8 sh m f g ws J) (fun x'=>Hint.ok (z8 sh m f g ws J) x'∧Hint.mu (z8 sh m f g ws J) x'<Hint.mu (z8 sh m f g ws J) x) (.O::(.view m 2 fun i=>[.int .i64 (f i),.int .i64 (g i)])::.iview (some .u8) ws::.O::.O::.O::.O::.int .i64 (kT sh)::.ptr 0 0::.ptr 2 0::.slice 3 0 3 1::(tO' 40 ((.view m 2 fun i=>[.int .i64 (f i),.int .i64 (g i)])::.int .i64 (↑m:Int)::.int .i64 (W ((↑x.1:Int)+1))::(tO' 91 [])))) [some (.cells [.int .i64 (tM sh f g x.1 x.2.2.1 x.2.2.2.2).1,.int .i64 (tM sh f g x.1 x.2.2.1 x.2.2.2.2).2,.slice 1 0 (List.length (tM sh f g x.1 x.2.2.1 x.2.2.2.2).3) 1,.int .i64 (tM sh f g x.1 x.2.2.1 x.2.2.2.2).4,.int .i64 (tM sh f g x.1 x.2.2.1 x.2.2.2.2).5,.int .i64 (tM sh f g x.1 x.2.2.1 x.2.2.2.2).6,.int .u64 (tM sh f g x.1 x.2.2.1 x.2.2.2.2).7,.int .u64 (tM sh f g x.1 x.2.2.1 x.2.2.2.2).8,.bool (tM sh f g x.1 x.2.2.1 x.2.2.2.2).9]),some (.ints (some .u64) (tM sh f g x.1 x.2.2.1 x.2.2.2.2).3),some (.cells [.int .i64 3,.int .i64 70]),some (.cells [.ptr 4 0,.ptr 5 0,.ptr 6 0]),some (.abs (.store 3 70 (Prod.snd x).1) []),some (.abs (.store 3 70 (tS sh f g x.1 x.2.2.1 x.2.2.2.2)) []),some (.abs (.store 3 70 (Prod.snd (Prod.snd x).2).1) [])]else K (.bool false) []else bif Nat.beq (wI ws x.1) 2 then(3:Int)≠(0:Int)∧(uF 3 70 (kT sh) (f (Int.toNat (↑x.1:Int))) (g (Int.toNat (↑x.1:Int))) (Int.tmod (↑x.1:Int) 3) (Prod.snd (Prod.snd x).2).1∧True)∧((lE' (Prod.snd (Prod.snd x.2).2).3∧(3:Int)=(3:Int)∧(70:Int)=(70:Int))∧((0:Int)≤(3000:Int)∧(3000:Int)≤(1000000:Int))∧yR 3 70 3000 (tN sh f g x.1 x.2.2.2.1).1 (tN sh f g x.1 x.2.2.2.1).2 (Prod.snd x.2).2.2)∧bif (Prod.snd (tR sh f g x.1 x.2.2.2.1 x.2.2.2.2)).1 then bif (Prod.fst (Prod.snd (tR sh f g x.1 x.2.2.2.1 x.2.2.2.2)).2).4 then K (.bool false) []else((0:Int)≤(↑x.1:Int)∧Int.toNat (↑x.1:Int)≤m)∧((Int.toNat (↑x.1:Int)≤(1000000:Nat)∧dM fun i=>[.int .i64 (f i),.int .i64 (g i)])∧True)∧bif !bif ieq (Prod.fst (Prod.snd (tR sh f g x.1 x.2.2.2.1 x.2.2.2.2)).2).1 0 then bif bif (Prod.fst (Prod.snd (tR sh f g x.1 x.2.2.2.1 x.2.2.2.2)).2).2 then resB (kT sh) f g (Int.toNat (↑x.1:Int)) (f (Int.toNat (↑x.1:Int))) (g (Int.toNat (↑x.1:Int)))else !resB (kT sh) f g (Int.toNat (↑x.1:Int)) (f (Int.toNat (↑x.1:Int))) (g (Int.toNat (↑x.1:Int)))then bif ieq (Prod.fst (Prod.snd (tR sh f g x.1 x.2.2.2.1 x.2.2.2.2)).2).3 (tQ (kT sh) f g (Int.toNat (↑x.1:Int)) (f (Int.toNat (↑x.1:Int))) (g (Int.toNat (↑x.1:Int))))then true else false else false else false then K (.bool false) []else(((lE' (tM sh f g x.1 x.2.2.2.1 x.2.2.2.2).3∧(3:Int)=(3:Int)∧(70:Int)=(70:Int)∧(3:Int)=(3:Int)∧(70:Int)=(70:Int)∧(3:Int)=(3:Int)∧(70:Int)=(70:Int))∧((0:Int)≤(3:Int)∧(3:Int)≤(100000:Int))∧((0:Int)≤(70:Int)∧(70:Int)<(100000:Int))∧List.length (Prod.fst x.2).3≤(1000000:Nat)∧List.length (Prod.fst (Prod.snd x).2).3≤(1000000:Nat)∧List.length (tS sh f g x.1 x.2.2.2.1 x.2.2.2.2).3≤(1000000:Nat)∧OI (tM sh f g x.1 x.2.2.2.1 x.2.2.2.2).3 3 70)∧True)∧bif !jY (tM sh f g x.1 x.2.2.2.1 x.2.2.2.2).3 70 [(Prod.snd x).1,(Prod.snd x.2).1,(tS sh f g x.1 x.2.2.2.1 x.2.2.2.2)]then K (.bool false) []else((lE' (tM sh f g x.1 x.2.2.2.1 x.2.2.2.2).3∧(0:Int)≤(70:Int)∧(70:Int)≤(100000:Int))∧True)∧((0:Int)≤W ((↑x.1:Int)+1)∧Int.toNat (W ((↑x.1:Int)+1))≤m)∧((Int.toNat (W ((↑x.1:Int)+1))≤(1000000:Nat)∧dM fun i=>[.int .i64 (f i),.int .i64 (g i)])∧True)∧(((lE' (d0 (tM sh f g x.1 x.2.2.2.1 x.2.2.2.2).3 70 (kT sh))∧eQ (kT sh) f g (Int.toNat (W ((↑x.1:Int)+1)))+List.length (bT (kT sh) f g (Int.toNat (W ((↑x.1:Int)+1))))=List.length (fP (kT sh) f g (Int.toNat (W ((↑x.1:Int)+1)))))∧List.length (d0 (tM sh f g x.1 x.2.2.2.1 x.2.2.2.2).3 70 (kT sh))≤(4294967296:Nat))∧True)∧bif !nG (d0 (tM sh f g x.1 x.2.2.2.1 x.2.2.2.2).3 70 (kT sh)) (List.drop (eQ (kT sh) f g (Int.toNat (W ((↑x.1:Int)+1)))) (fP (kT sh) f g (Int.toNat (W ((↑x.1:Int)+1)))))then K (.bool false) []else((lE' (tM sh f g x.1 x.2.2.2.1 x.2.2.2.2).3∧((0:Int)≤(70:Int)∧(70:Int)≤(100000:Int))∧(-1000000:Int)≤(0:Int)∧(0:Int)≤(1000000:Int))∧True)∧((lE' (tM sh f g x.1 x.2.2.2.1 x.2.2.2.2).3∧((0:Int)≤(70:Int)∧(70:Int)≤(100000:Int))∧(-1000000:Int)≤(0:Int)∧(0:Int)≤(1000000:Int))∧True)∧bif !ieq (↑(List.length (ndF (tM sh f g x.1 x.2.2.2.1 x.2.2.2.2).3 70 0)):Int) (↑(List.length (keyF (tM sh f g x.1 x.2.2.2.1 x.2.2.2.2).3 70 0)):Int)then K (.bool false) []else((lE' (tM sh f g x.1 x.2.2.2.1 x.2.2.2.2).3∧((0:Int)≤(70:Int)∧(70:Int)≤(100000:Int))∧(-1000000:Int)≤W (0+1)∧W (0+1)≤(1000000:Int))∧True)∧((lE' (tM sh f g x.1 x.2.2.2.1 x.2.2.2.2).3∧((0:Int)≤(70:Int)∧(70:Int)≤(100000:Int))∧(-1000000:Int)≤W (0+1)∧W (0+1)≤(1000000:Int))∧True)∧bif !ieq (↑(List.length (ndF (tM sh f g x.1 x.2.2.2.1 x.2.2.2.2).3 70 (W (0+1)))):Int) (↑(List.length (keyF (tM sh f g x.1 x.2.2.2.1 x.2.2.2.2).3 70 (W (0+1)))):Int)then K (.bool false) []else((lE' (tM sh f g x.1 x.2.2.2.1 x.2.2.2.2).3∧((0:Int)≤(70:Int)∧(70:Int)≤(100000:Int))∧(-1000000:Int)≤W (W (0+1)+1)∧W (W (0+1)+1)≤(1000000:Int))∧True)∧((lE' (tM sh f g x.1 x.2.2.2.1 x.2.2.2.2).3∧((0:Int)≤(70:Int)∧(70:Int)≤(100000:Int))∧(-1000000:Int)≤W (W (0+1)+1)∧W (W (0+1)+1)≤(1000000:Int))∧True)∧bif !ieq (↑(List.length (ndF (tM sh f g x.1 x.2.2.2.1 x.2.2.2.2).3 70 (W (W (0+1)+1)))):Int) (↑(List.length (keyF (tM sh f g x.1 x.2.2.2.1 x.2.2.2.2).3 70 (W (W (0+1)+1)))):Int)then K (.bool false) []else((lE' (tM sh f g x.1 x.2.2.2.1 x.2.2.2.2).3∧((0:Int)≤(70:Int)∧(70:Int)≤(100000:Int))∧(-1000000:Int)≤W (W (W (0+1)+1)+1)∧W (W (W (0+1)+1)+1)≤(1000000:Int))∧True)∧((lE' (tM sh f g x.1 x.2.2.2.1 x.2.2.2.2).3∧((0:Int)≤(70:Int)∧(70:Int)≤(100000:Int))∧(-1000000:Int)≤W (W (W (0+1)+1)+1)∧W (W (W (0+1)+1)+1)≤(1000000:Int))∧True)∧bif !ieq (↑(List.length (ndF (tM sh f g x.1 x.2.2.2.1 x.2.2.2.2).3 70 (W (W (W (0+1)+1)+1)))):Int) (↑(List.length (keyF (tM sh f g x.1 x.2.2.2.1 x.2.2.2.2).3 70 (W (W (W (0+1)+1)+1)))):Int)then K (.bool false) []else okSt (z8 sh m f g ws J) (fun x'=>Hint.ok (z8 sh m f g ws J) x'∧Hint.mu (z8 sh m f g ws J) x'<Hint.mu (z8 sh m f g ws J) x) (.O::(.view m 2 fun i=>[.int .i64 (f i),.int .i64 (g i)])::.iview (some .u8) ws::.O::.O::.O::.O::.int .i64 (kT sh)::.ptr 0 0::.ptr 2 0::.slice 3 0 3 1::(tO' 40 ((.view m 2 fun i=>[.int .i64 (f i),.int .i64 (g i)])::.int .i64 (↑m:Int)::.int .i64 (W ((↑x.1:Int)+1))::(tO' 91 [])))) [some (.cells [.int .i64 (tM sh f g x.1 x.2.2.2.1 x.2.2.2.2).1,.int .i64 (tM sh f g x.1 x.2.2.2.1 x.2.2.2.2).2,.slice 1 0 (List.length (tM sh f g x.1 x.2.2.2.1 x.2.2.2.2).3) 1,.int .i64 (tM sh f g x.1 x.2.2.2.1 x.2.2.2.2).4,.int .i64 (tM sh f g x.1 x.2.2.2.1 x.2.2.2.2).5,.int .i64 (tM sh f g x.1 x.2.2.2.1 x.2.2.2.2).6,.int .u64 (tM sh f g x.1 x.2.2.2.1 x.2.2.2.2).7,.int .u64 (tM sh f g x.1 x.2.2.2.1 x.2.2.2.2).8,.bool (tM sh f g x.1 x.2.2.2.1 x.2.2.2.2).9]),some (.ints (some .u64) (tM sh f g x.1 x.2.2.2.1 x.2.2.2.2).3),some (.cells [.int .i64 3,.int .i64 70]),some (.cells [.ptr 4 0,.ptr 5 0,.ptr 6 0]),some (.abs (.store 3 70 (Prod.snd x).1) []),some (.abs (.store 3 70 (Prod.snd x.2).1) []),some (.abs (.store 3 70 (tS sh f g x.1 x.2.2.2.1 x.2.2.2.2)) [])]else K (.bool false) []else False else(((0:Int)≤(3:Int)∧(3:Int)≤(100000:Int))∧(0:Int)≤(70:Int)∧(70:Int)≤(100000:Int))∧(lE' (Prod.snd (Prod.snd x.2).2).3∧True)∧K (.bool (ieq (aB (Prod.snd (Prod.snd x.2).2).3 (2*70+5+2*3+3*3)) 0)) []
theorem OS(sh:Int)(m:Nat)(f g:Nat→Int)(ws:List Int)(J:TAX→Prop)(K:AVal→aD Ob→Prop)(h:KV sh m f g ws J K):cT' 12 [.int .u8 sh,.view m 2 (fun i=>[.int .i64 (f i),.int .i64 (g i)]),.iview (some .u8) ws] [] K:=by
 refine aFQ (aE (E:=EK3) Tryz.checked.mixed (L:=(aEH sh m f g ws J)) (n:=10) (aN (by kernel_rfl) h))
theorem aF3{X:Type}{K:X→Prop} : ∀ {t:Tr X},t.run K→t.ok
 | .ret x,k=>trivial
 | .ite b l r,k=>by cases b with
   | true=>exact aF3 (t:=l) k
   | false=>exact aF3 (t:=r) k
 | .pre p t,k=>⟨k.1,aF3 (t:=t) k.2⟩
theorem aF1{X:Type}{K:X→Prop} : ∀ {t:Tr X},t.run K→K t.val
 | .ret x,k=>k
 | .ite b l r,k=>by cases b with
   | true=>exact aF1 (t:=l) k
   | false=>exact aF1 (t:=r) k
 | .pre p t,k=>aF1 (t:=t) k.2
theorem Tr.run_ite{X:Type}{K:X→Prop}{b:Bool}{l r:Tr X}(h1:b=true→l.run K)(h2:b=false→r.run K):(Tr.ite b l r).run K:=aL h1 h2
theorem aFS{X:Type}{K:X→Prop}{b:Bool}{l r:Tr X}(h1:b=true→l.run K)(h2:b=false→r.run K):(bif b then l else r).run K:=by
 cases b with
 | true=>exact h1 rfl
 | false=>exact h2 rfl
theorem aFT{X:Type}{K:X→Prop}{p:Prop}{t:Tr X}(h1:p)(h2:t.run K):(Tr.pre p t).run K:=⟨h1,h2⟩
theorem aFU{X:Type}{K:X→Prop}{x:X}(h:K x):(Tr.ret x).run K:=h
theorem nE'{P Q:Prop}(h:¬P:=by dsimp only;decide):P→Q:=fun e=>absurd e h
structure rngU (x:Int):Prop where
 h0:0≤x
 h1:x≤18446744073709551615
theorem FR:rngU 0:=⟨by decide,by decide⟩
theorem IH(x:Int):rngU (WU x):=⟨(sU x).1,(sU x).2⟩
theorem SW{xs:List Int}(h:okW xs)(a:Int):rngU (aB xs a):=⟨(iP h a).1,(iP h a).2⟩
theorem BO{b:Bool}{x y:Int}(h1:b=true→rngU x)(h2:rngU y):rngU (bif b then x else y):=by
 cases b with
 | true=>exact h1 rfl
 | false=>exact h2
theorem lD{n w:Int}(h:aH n w=true):0≤n∧n<2^w.toNat:=by
 unfold aH at h;simp only [Bool.and_eq_true,bX,bJ,dT']at h;exact h
theorem PM(b:Bool):0≤bitI b∧bitI b≤1:=by cases b<;>decide
theorem SV{a b c d e f:Int}{m:Bool} :rngU (bif dOk a b c d e f then cT a b c d m e f else 0):=by
 refine BO (fun h=>?_) FR;unfold dOk at h;simp only [Bool.and_eq_true]at h;obtain⟨h1,h2,h3,h4,h5,h6⟩:=h;have h1:=lD h1;have h2:=lD h2;have h3:=lD h3;have h4:=lD h4;have h5:=lD h5;have h6:=lD h6;have hb:=PM m;simp only [Int.reduceToNat,Int.reducePow]at h1 h2 h3 h4 h5 h6;unfold cT;exact⟨by omega,by omega⟩
theorem X6{a b c v:Int}{m:Bool} :rngU (bif bif aH a 10 then bif aH b 9 then bif aH c 5 then aH v 18 else false else false else false then bY a b m c v else 0):=by
 refine BO (fun h=>?_) FR;cases h1:aH a 10 with
 | false=>rw [h1]at h;cases h
 | true=>
   cases h2:aH b 9 with
   | false=>rw [h1,h2]at h;cases h
   | true=>
     cases h3:aH c 5 with
     | false=>rw [h1,h2,h3]at h;cases h
     | true=>
       rw [h1,h2,h3]at h;have h:=lD (show aH v 18=true from h)
       have h1:=lD h1;have h2:=lD h2;have h3:=lD h3;have hb:=PM m;simp only [Int.reduceToNat,Int.reducePow]at h h1 h2 h3;unfold bY;exact⟨by omega,by omega⟩
structure Act1 (s s':MS):Prop where
 c:s'.c=s.c+1
 len:s'.xs.length=s.xs.length
 w:okW s.xs→okW s'.xs
 t:s'.t=s.t
 n:s'.n=s.n
theorem CE(s:MS)(k a o w:Int)(ok:Bool):Act1 s ⟨s.t,s.n,s.xs,s.c+1,k,a,o,w,ok⟩:=⟨rfl,rfl,id,rfl,rfl⟩
theorem AA(s:MS)(b v k a o w:Int)(ok:Bool)(h:rngU v):Act1 s ⟨s.t,s.n,aS s.xs b v,s.c+1,k,a,o,w,ok⟩:=⟨rfl,cC _ _ _,fun hw=>eH hw ⟨h.h0,h.h1⟩,rfl,rfl⟩
theorem IQ(s:MS)(q:Bool)(b v k a o w:Int)(ok:Bool)(h:rngU v):Act1 s ⟨s.t,s.n,bif q then aS s.xs b v else s.xs,s.c+1,k,a,o,w,ok⟩:=by
 cases q with
 | true=>exact AA s b v k a o w ok h
 | false=>exact CE s k a o w ok
theorem UV(x a:Int)(w:Int):0≤aA x a w∧aA x a w<2^w.toNat:=mN
structure lO (t n:Int) (s:MS):Prop where
 ht:1≤t∧t≤1000
 hn:1≤n∧n≤1000
 hc:0≤s.c∧s.c≤900000
 hw:okW s.xs
theorem oN{P:Prop}(h:P:=by(with_reducible first | exact FR | exact IH _ | exact SV | exact X6 | assumption)):P:=h
theorem CZ{P:Prop}(h:P:=by(simp only [aA,Int.reduceToNat,Int.reducePow];omega)):P:=h
theorem a7{P:Prop}(h:P:=by(first
 | with_reducible exact trivial
 | with_reducible rfl
 | with_reducible assumption
 | with_reducible exact CE _ _ _ _ _ _
 | ((with_reducible refine AA _ _ _ _ _ _ _ _ ?_);exact oN)
 | ((with_reducible refine IQ _ _ _ _ _ _ _ _ _ ?_);exact oN)
 | omega
 | exact CZ
 | decide)):P:=h
theorem xN{P:Prop}(h:P:=by first | exact oN | (exact SW (by assumption) _)):P:=h
theorem dI{P:Prop}(h:P:=by(dsimp only;first | omega | (constructor<;>omega) | exact CZ)):P:=h
structure Y2 (t:Int) (x:CLS):Prop where
 h:x.at'=0∨x.at'=1∨x.at'=2∨x.at'=3
structure aDm (t:Int) (s:MS) (o:ClO):Prop where
 a:Act1 s o.s
 w:o.d=false→Y2 t o.x
theorem Y3{t n:Int}{x:CLS}{s:MS}(hb:lO t n s)(hx:Y2 t x):(clT t n x s).run (aDm t s):=by
 obtain⟨⟨t0,t1⟩,⟨n0,n1⟩,⟨c0,c1⟩,hw⟩:=hb;obtain⟨h⟩:=hx;unfold clT;refine aFS (fun h0=>?_) (fun h0=>aFS (fun h1=>?_) (fun h1=>aFS (fun h2=>?_) (fun h2=>aFS (fun h3=>?_) (fun h3=>?_))))
 ·unfold CT
  (repeat' (with_reducible first | exact trivial | rfl | assumption | refine aFT ?_ ?_ | refine Tr.run_ite (fun _=>?_) (fun _=>?_) | refine aFU ?_ | refine And.intro ?_ ?_))
  all_goals first | exact a7 | (refine⟨by exact a7,fun hd=>?_⟩;first | (exact Bool.noConfusion hd) | exact⟨by dsimp only;decide⟩)
 ·unfold CU w04 w05 w06
  (repeat' (with_reducible first | exact trivial | rfl | assumption | refine aFT ?_ ?_ | refine Tr.run_ite (fun _=>?_) (fun _=>?_) | refine aFU ?_ | refine And.intro ?_ ?_))
  all_goals first | exact a7 | (refine⟨by exact a7,fun hd=>?_⟩;first | (exact Bool.noConfusion hd) | exact⟨by dsimp only;decide⟩)
 ·unfold CV w05 w06
  (repeat' (with_reducible first | exact trivial | rfl | assumption | refine aFT ?_ ?_ | refine Tr.run_ite (fun _=>?_) (fun _=>?_) | refine aFU ?_ | refine And.intro ?_ ?_))
  all_goals first | exact a7 | (refine⟨by exact a7,fun hd=>?_⟩;first | (exact Bool.noConfusion hd) | exact⟨by dsimp only;decide⟩)
 ·unfold CW w07
  (repeat' (with_reducible first | exact trivial | rfl | assumption | refine aFT ?_ ?_ | refine Tr.run_ite (fun _=>?_) (fun _=>?_) | refine aFU ?_ | refine And.intro ?_ ?_))
  all_goals first | exact a7 | (refine⟨by exact a7,fun hd=>?_⟩;first | (exact Bool.noConfusion hd) | exact⟨by dsimp only;decide⟩)
 ·simp only [bI,beq_eq_false_iff_ne]at h0 h1 h2 h3;rcases h with e | e | e | e<;>contradiction
theorem G2{t n:Int}{x:CLS}{s:MS}(hb:lO t n s)(hx:Y2 t x):PQ t n x s:=aF3 (Y3 hb hx)
theorem AI{t n:Int}{x:CLS}{s:MS}(hb:lO t n s)(hx:Y2 t x):aDm t s (dP t n x s):=aF1 (Y3 hb hx)
structure hdW (t:Int) (x:HDS):Prop where
 h:0≤x.at'∧x.at'≤1000
 u: -1≤x.u∧x.u≤1000
structure aDY (t:Int) (s:MS) (o:HdO):Prop where
 a:Act1 s o.s
 w:o.d=false→hdW t o.x
 p: -1≤o.x.u∧o.x.u≤1000
theorem ZG{t n:Int}{x:HDS}{s:MS}(hb:lO t n s)(hx:hdW t x):(hdT t n x s).run (aDY t s):=by
 obtain⟨⟨t0,t1⟩,⟨n0,n1⟩,⟨c0,c1⟩,hw⟩:=hb;obtain⟨⟨h0,h1⟩,⟨u0,u1⟩⟩:=hx;have hW:W (x.at'+1)=x.at'+1:=cJ ⟨by omega,by omega⟩
 unfold hdT;unfold Q4 w08 w09;rw [hW]
 (repeat' (with_reducible first | exact trivial | rfl | assumption | refine aFT ?_ ?_ | refine Tr.run_ite (fun _=>?_) (fun _=>?_) | refine aFU ?_ | refine And.intro ?_ ?_))
 all_goals first | exact a7 | (refine⟨by exact a7,fun hd=>by first | (exact Bool.noConfusion hd) | (refine⟨?_,?_⟩<;>dsimp only at hd⊢ <;>first | omega | (simp only [bX,dF']at hd;omega)),?_⟩;exact dI)
theorem aBG{t n:Int}{x:HDS}{s:MS}(hb:lO t n s)(hx:hdW t x):aBC t n x s:=aF3 (ZG hb hx)
theorem aBH{t n:Int}{x:HDS}{s:MS}(hb:lO t n s)(hx:hdW t x):aDY t s (hdF t n x s):=aF1 (ZG hb hx)
structure drW (t:Int) (x:DRS):Prop where
 h:0≤x.th∧x.th≤1000
 u:0≤x.at'∧x.at'≤2
structure aDI (t:Int) (s:MS) (o:DrO):Prop where
 a:Act1 s o.s
 w:o.d=false→drW t o.x
theorem Y8{t n:Int}{x:DRS}{s:MS}(hb:lO t n s)(hx:drW t x):(Y7 t n x s).run (aDI t s):=by
 obtain⟨⟨t0,t1⟩,⟨n0,n1⟩,⟨c0,c1⟩,hw⟩:=hb;obtain⟨⟨h0,h1⟩,⟨u0,u1⟩⟩:=hx;have hW:W (x.at'+1)=x.at'+1:=cJ ⟨by omega,by omega⟩
 unfold Y7;unfold LY;rw [hW]
 (repeat' (with_reducible first | exact trivial | rfl | assumption | refine aFT ?_ ?_ | refine Tr.run_ite (fun _=>?_) (fun _=>?_) | refine aFU ?_ | refine And.intro ?_ ?_))
 all_goals first | exact a7 | (refine⟨by exact a7,fun hd=>?_⟩;first | (exact Bool.noConfusion hd) | (refine⟨?_,?_⟩<;>dsimp only at hd⊢ <;>first | omega | (simp only [bX,dF']at hd;omega)))
theorem aAS{t n:Int}{x:DRS}{s:MS}(hb:lO t n s)(hx:drW t x):aAP t n x s:=aF3 (Y8 hb hx)
theorem aAT{t n:Int}{x:DRS}{s:MS}(hb:lO t n s)(hx:drW t x):aDI t s (drF t n x s):=aF1 (Y8 hb hx)
structure anW (t:Int) (x:ANS):Prop where
 h:x.at'=0∨x.at'=1∨x.at'=2∨x.at'=3∨x.at'=4
 m:0≤x.me∧x.me≤1000
 b:rngU x.bits
 q:rngU x.no
structure aDg (t:Int) (s:MS) (o:AnO):Prop where
 a:Act1 s o.s
 w:o.d=false→anW t o.x
theorem YZ{t n:Int}{x:ANS}{s:MS}(hb:lO t n s)(hx:anW t x):(anT t n x s).run (aDg t s):=by
 obtain⟨⟨t0,t1⟩,⟨n0,n1⟩,⟨c0,c1⟩,hw⟩:=hb;obtain⟨h,⟨m0,m1⟩,b,q⟩:=hx;unfold anT;refine aFS (fun h0=>?_) (fun h0=>aFS (fun h1=>?_) (fun h1=>aFS (fun h2=>?_) (fun h2=>aFS (fun h3=>?_) (fun h3=>aFS (fun h4=>?_) (fun h4=>?_)))))
 ·unfold CH w0a
  (repeat' (with_reducible first | exact trivial | rfl | assumption | refine aFT ?_ ?_ | refine Tr.run_ite (fun _=>?_) (fun _=>?_) | refine aFU ?_ | refine And.intro ?_ ?_))
  all_goals first | exact a7 | (refine⟨by exact a7,fun hd=>?_⟩;first | (exact Bool.noConfusion hd) | exact⟨by dsimp only;decide,⟨m0,m1⟩,by assumption,by exact xN⟩)
 ·unfold CI
  (repeat' (with_reducible first | exact trivial | rfl | assumption | refine aFT ?_ ?_ | refine Tr.run_ite (fun _=>?_) (fun _=>?_) | refine aFU ?_ | refine And.intro ?_ ?_))
  all_goals first | exact a7 | (refine⟨by exact a7,fun hd=>?_⟩;first | (exact Bool.noConfusion hd) | exact⟨by dsimp only;decide,⟨m0,m1⟩,by assumption,by exact xN⟩)
 ·unfold CJ w0a
  (repeat' (with_reducible first | exact trivial | rfl | assumption | refine aFT ?_ ?_ | refine Tr.run_ite (fun _=>?_) (fun _=>?_) | refine aFU ?_ | refine And.intro ?_ ?_))
  all_goals first | exact a7 | (refine⟨by exact a7,fun hd=>?_⟩;first | (exact Bool.noConfusion hd) | exact⟨by dsimp only;decide,⟨m0,m1⟩,by assumption,by exact xN⟩)
 ·unfold CK w0a
  (repeat' (with_reducible first | exact trivial | rfl | assumption | refine aFT ?_ ?_ | refine Tr.run_ite (fun _=>?_) (fun _=>?_) | refine aFU ?_ | refine And.intro ?_ ?_))
  all_goals first | exact a7 | (refine⟨by exact a7,fun hd=>?_⟩;first | (exact Bool.noConfusion hd) | exact⟨by dsimp only;decide,⟨m0,m1⟩,by assumption,by exact xN⟩)
 ·unfold CL w0b w0a
  (repeat' (with_reducible first | exact trivial | rfl | assumption | refine aFT ?_ ?_ | refine Tr.run_ite (fun _=>?_) (fun _=>?_) | refine aFU ?_ | refine And.intro ?_ ?_))
  all_goals first | exact a7 | (refine⟨by exact a7,fun hd=>?_⟩;first | (exact Bool.noConfusion hd) | exact⟨by dsimp only;decide,⟨m0,m1⟩,by assumption,by exact xN⟩)
 ·simp only [bI,beq_eq_false_iff_ne]at h0 h1 h2 h3 h4;rcases h with e | e | e | e | e<;>contradiction
theorem aAc{t n:Int}{x:ANS}{s:MS}(hb:lO t n s)(hx:anW t x):aAa t n x s:=aF3 (YZ hb hx)
theorem aAd{t n:Int}{x:ANS}{s:MS}(hb:lO t n s)(hx:anW t x):aDg t s (pO t n x s):=aF1 (YZ hb hx)
structure awW (t:Int) (x:AWS):Prop where
 m:0≤x.me∧x.me≤1000
structure aDk (t:Int) (s:MS) (o:AwO):Prop where
 a:Act1 s o.s
 w:o.d=false→awW t o.x
theorem Y1{t n:Int}{x:AWS}{s:MS}(hb:lO t n s)(hx:awW t x):(awT t n x s).run (aDk t s):=by
 obtain⟨⟨t0,t1⟩,⟨n0,n1⟩,⟨c0,c1⟩,hw⟩:=hb;obtain⟨⟨m0,m1⟩⟩:=hx;unfold awT;unfold UG w0c
 (repeat' (with_reducible first | exact trivial | rfl | assumption | refine aFT ?_ ?_ | refine Tr.run_ite (fun _=>?_) (fun _=>?_) | refine aFU ?_ | refine And.intro ?_ ?_))
 all_goals first | exact a7 | (refine⟨by exact a7,fun hd=>?_⟩;first | (exact Bool.noConfusion hd) | exact⟨⟨m0,m1⟩⟩)
theorem aAl{t n:Int}{x:AWS}{s:MS}(hb:lO t n s)(hx:awW t x):aAi t n x s:=aF3 (Y1 hb hx)
theorem aAm{t n:Int}{x:AWS}{s:MS}(hb:lO t n s)(hx:awW t x):aDk t s (gR t n x s):=aF1 (Y1 hb hx)
structure exW (t:Int) (x:EXS):Prop where
 h:x.at'=0∨x.at'=1∨x.at'=2∨x.at'=3∨x.at'=4∨x.at'=5∨x.at'=6∨x.at'=7∨x.at'=8∨x.at'=9
 m:0≤x.u∧x.u≤1000
 po:0≤x.popped∧x.popped≤1000
structure aDO (t:Int) (s:MS) (o:ExO):Prop where
 a:Act1 s o.s
 w:o.d=false→exW t o.x
 p:0≤o.x.popped∧o.x.popped≤1000
theorem Y9{t n:Int}{x:EXS}{s:MS}(hb:lO t n s)(hx:exW t x):(exT t n x s).run (aDO t s):=by
 obtain⟨⟨t0,t1⟩,⟨n0,n1⟩,⟨c0,c1⟩,hw⟩:=hb;obtain⟨h,⟨m0,m1⟩,⟨p0,p1⟩⟩:=hx;unfold exT;refine aFS (fun h0=>?_) (fun h0=>aFS (fun h1=>?_) (fun h1=>aFS (fun h2=>?_) (fun h2=>aFS (fun h3=>?_) (fun h3=>aFS (fun h4=>?_) (fun h4=>aFS (fun h5=>?_) (fun h5=>aFS (fun h6=>?_) (fun h6=>aFS (fun h7=>?_) (fun h7=>aFS (fun h8=>?_) (fun h8=>aFS (fun h9=>?_) (fun h9=>?_))))))))))
 ·unfold DD w0n w0m w0l w0s w0i w0g
  (repeat' (with_reducible first | exact trivial | rfl | assumption | refine aFT ?_ ?_ | refine Tr.run_ite (fun _=>?_) (fun _=>?_) | refine aFU ?_ | refine And.intro ?_ ?_))
  all_goals first | exact a7 | (refine⟨by exact a7,fun hd=>by first | (exact Bool.noConfusion hd) | exact⟨by dsimp only;decide,⟨m0,m1⟩,by exact dI⟩,?_⟩;exact dI)
 ·unfold DE w0f w0o w0r w0j
  (repeat' (with_reducible first | exact trivial | rfl | assumption | refine aFT ?_ ?_ | refine Tr.run_ite (fun _=>?_) (fun _=>?_) | refine aFU ?_ | refine And.intro ?_ ?_))
  all_goals first | exact a7 | (refine⟨by exact a7,fun hd=>by first | (exact Bool.noConfusion hd) | exact⟨by dsimp only;decide,⟨m0,m1⟩,by exact dI⟩,?_⟩;exact dI)
 ·unfold DF w0e w0k
  (repeat' (with_reducible first | exact trivial | rfl | assumption | refine aFT ?_ ?_ | refine Tr.run_ite (fun _=>?_) (fun _=>?_) | refine aFU ?_ | refine And.intro ?_ ?_))
  all_goals first | exact a7 | (refine⟨by exact a7,fun hd=>by first | (exact Bool.noConfusion hd) | exact⟨by dsimp only;decide,⟨m0,m1⟩,by exact dI⟩,?_⟩;exact dI)
 ·unfold DG w0k w0g
  (repeat' (with_reducible first | exact trivial | rfl | assumption | refine aFT ?_ ?_ | refine Tr.run_ite (fun _=>?_) (fun _=>?_) | refine aFU ?_ | refine And.intro ?_ ?_))
  all_goals first | exact a7 | (refine⟨by exact a7,fun hd=>by first | (exact Bool.noConfusion hd) | exact⟨by dsimp only;decide,⟨m0,m1⟩,by exact dI⟩,?_⟩;exact dI)
 ·unfold DH w0k w0g
  (repeat' (with_reducible first | exact trivial | rfl | assumption | refine aFT ?_ ?_ | refine Tr.run_ite (fun _=>?_) (fun _=>?_) | refine aFU ?_ | refine And.intro ?_ ?_))
  all_goals first | exact a7 | (refine⟨by exact a7,fun hd=>by first | (exact Bool.noConfusion hd) | exact⟨by dsimp only;decide,⟨m0,m1⟩,by exact dI⟩,?_⟩;exact dI)
 ·unfold DI w0p w0r w0d w0j
  (repeat' (with_reducible first | exact trivial | rfl | assumption | refine aFT ?_ ?_ | refine Tr.run_ite (fun _=>?_) (fun _=>?_) | refine aFU ?_ | refine And.intro ?_ ?_))
  all_goals first | exact a7 | (refine⟨by exact a7,fun hd=>by first | (exact Bool.noConfusion hd) | exact⟨by dsimp only;decide,⟨m0,m1⟩,by exact dI⟩,?_⟩;exact dI)
 ·unfold DJ w0t
  (repeat' (with_reducible first | exact trivial | rfl | assumption | refine aFT ?_ ?_ | refine Tr.run_ite (fun _=>?_) (fun _=>?_) | refine aFU ?_ | refine And.intro ?_ ?_))
  all_goals first | exact a7 | (refine⟨by exact a7,fun hd=>by first | (exact Bool.noConfusion hd) | exact⟨by dsimp only;decide,⟨m0,m1⟩,by exact dI⟩,?_⟩;exact dI)
 ·unfold DK w0g
  (repeat' (with_reducible first | exact trivial | rfl | assumption | refine aFT ?_ ?_ | refine Tr.run_ite (fun _=>?_) (fun _=>?_) | refine aFU ?_ | refine And.intro ?_ ?_))
  all_goals first | exact a7 | (refine⟨by exact a7,fun hd=>by first | (exact Bool.noConfusion hd) | exact⟨by dsimp only;decide,⟨m0,m1⟩,by exact dI⟩,?_⟩;exact dI)
 ·unfold DL w0h w0q w0g
  (repeat' (with_reducible first | exact trivial | rfl | assumption | refine aFT ?_ ?_ | refine Tr.run_ite (fun _=>?_) (fun _=>?_) | refine aFU ?_ | refine And.intro ?_ ?_))
  all_goals first | exact a7 | (refine⟨by exact a7,fun hd=>by first | (exact Bool.noConfusion hd) | exact⟨by dsimp only;decide,⟨m0,m1⟩,by exact dI⟩,?_⟩;exact dI)
 ·unfold DM w0u
  (repeat' (with_reducible first | exact trivial | rfl | assumption | refine aFT ?_ ?_ | refine Tr.run_ite (fun _=>?_) (fun _=>?_) | refine aFU ?_ | refine And.intro ?_ ?_))
  all_goals first | exact a7 | (refine⟨by exact a7,fun hd=>by first | (exact Bool.noConfusion hd) | exact⟨by dsimp only;decide,⟨m0,m1⟩,by exact dI⟩,?_⟩;exact dI)
 ·simp only [bI,beq_eq_false_iff_ne]at h0 h1 h2 h3 h4 h5 h6 h7 h8 h9;rcases h with e | e | e | e | e | e | e | e | e | e<;>contradiction
theorem aA8{t n:Int}{x:EXS}{s:MS}(hb:lO t n s)(hx:exW t x):aA6 t n x s:=aF3 (Y9 hb hx)
theorem aA9{t n:Int}{x:EXS}{s:MS}(hb:lO t n s)(hx:exW t x):aDO t s (lU t n x s):=aF1 (Y9 hb hx)
structure ZQ (t:Int) (x:PRS):Prop where
 h:True
structure aEA (t:Int) (s:MS) (st:STS) (o:PrO):Prop where
 a:Act1 s o.s
 w:o.d=false→ZQ t o.x
 st:o.st=st
theorem ZR{t n:Int}{x:PRS}{st:STS}{s:MS}(hb:lO t n s)(hx:ZQ t x):(ZP t n x st s).run (aEA t s st):=by
 obtain⟨⟨t0,t1⟩,⟨n0,n1⟩,⟨c0,c1⟩,hw⟩:=hb;obtain⟨h⟩:=hx;unfold ZP;unfold OG w0v
 (repeat' (with_reducible first | exact trivial | rfl | assumption | refine aFT ?_ ?_ | refine Tr.run_ite (fun _=>?_) (fun _=>?_) | refine aFU ?_ | refine And.intro ?_ ?_))
 all_goals first | exact a7 | (refine⟨by exact a7,fun hd=>?_,rfl⟩;first | (exact Bool.noConfusion hd) | exact⟨trivial⟩)
theorem SJ{t n:Int}{x:PRS}{st:STS}{s:MS}(hb:lO t n s)(hx:ZQ t x):SG t n x st s:=aF3 (ZR hb hx)
theorem SK{t n:Int}{x:PRS}{st:STS}{s:MS}(hb:lO t n s)(hx:ZQ t x):aEA t s st (prF t n x st s):=aF1 (ZR hb hx)
theorem gH{a b:Int}(h:ieq a b=true):a=b:=by simpa [bI]using h
theorem y5{a b:Int}(h:ieq a b=false):a≠b:=by simpa [bI]using h
def eK(l:List Int):Prop:= ∀r∈l,0≤r∧r≤1000
theorem zT:eK []:=fun r h=>nomatch h
theorem xE{l:List Int}{a:Int}(h:eK l)(ha:0≤a∧a≤1000):eK (l++ [a]):=by
 intro r hr;rcases List.mem_append.1 hr with h1 | h1
 ·exact h r h1
 ·rw [List.mem_singleton.1 h1];exact ha
theorem OP{l m:List Int}(h:eK l)(hm:eK m):eK (l++m):=by
 intro r hr;rcases List.mem_append.1 hr with h1 | h1
 ·exact h r h1
 ·exact hm r h1
theorem jA(t n a:Int):qU t n a:=⟨⟨rfl,rfl⟩,trivial⟩
theorem G1(t n a:Int):Y2 t (AG t n a):=⟨.inl rfl⟩
theorem aE6(x a:Int):0≤aA x a 9∧aA x a 9≤1000:=by
 have:=UV x a 9;simp only [Int.reduceToNat,Int.reducePow]at this;omega
structure OZ (b:Int) (x:FNS):Prop where
 m:0≤x.me∧x.me≤1000
 cu:0≤x.curr∧x.curr≤1000
 ul:eK x.ul
 ln:(x.ul.length:Int)≤b
structure WB (t:Int) (x:FNS):Prop where
 h:x.at'=0∨x.at'=1∨x.at'=2∨x.at'=3∨x.at'=4∨x.at'=5∨x.at'=6
 cl:x.at'=4→Y2 t x.cl
structure aDR (t b:Int) (s:MS) (o:FnO):Prop where
 a:Act1 s o.s
 q:OZ (b+1) o.x
 w:o.d=false→WB t o.x
theorem qF{P:Prop}(h:P:=by(refine⟨?_,⟨?_,?_,?_,?_⟩,fun hd=>?_⟩<;>first
 | exact a7
 | (exact(AI (by assumption) (by assumption)).a)
 | (constructor<;>assumption)
 | exact aE6 _ _
 | (exact xE (by assumption) ⟨by assumption,by assumption⟩)
 | exact zT
 | (dsimp only;simp only [List.length_append,List.length_singleton,List.length_nil];omega)
 | exact Bool.noConfusion hd
 | exact⟨by dsimp only;decide,fun e=>absurd e (by dsimp only;decide)⟩
 | exact⟨by dsimp only;decide,fun e=>(AI (by assumption) (by assumption)).w (by assumption)⟩
 | exact⟨by dsimp only;decide,fun e=>by dsimp only;with_reducible exact G1 _ _ _⟩)):P:=h
theorem ZA{t n b:Int}{x:FNS}{s:MS}(hb:lO t n s)(hx:WB t x)(hq:OZ b x)(hbb:b≤900000):(JQ t n x s).run (aDR t b s):=by
 have hb':=hb;obtain⟨⟨t0,t1⟩,⟨n0,n1⟩,⟨c0,c1⟩,hw⟩:=hb;obtain⟨h,hcl⟩:=hx;obtain⟨⟨m0,m1⟩,⟨q0,q1⟩,hul,hln⟩:=hq;have b0:0≤b:=by omega
 unfold JQ;refine aFS (fun h0=>?_) (fun h0=>aFS (fun h1=>?_) (fun h1=>aFS (fun h2=>?_) (fun h2=>aFS (fun h3=>?_) (fun h3=>aFS (fun h4=>?_) (fun h4=>aFS (fun h5=>?_) (fun h5=>aFS (fun h6=>?_) (fun h6=>?_)))))))
 ·unfold wE w13 w17 w11 w14 w16 w15 w1g
  (repeat' (with_reducible first | exact trivial | rfl | assumption | refine aFT ?_ ?_ | refine Tr.run_ite (fun _=>?_) (fun _=>?_) | refine aFU ?_ | refine And.intro ?_ ?_))
  all_goals first | exact a7 | exact jA _ _ _ | (simp only [List.length_append,List.length_singleton];done) | exact qF
 ·unfold yY
  (repeat' (with_reducible first | exact trivial | rfl | assumption | refine aFT ?_ ?_ | refine Tr.run_ite (fun _=>?_) (fun _=>?_) | refine aFU ?_ | refine And.intro ?_ ?_))
  all_goals first | exact a7 | exact jA _ _ _ | (simp only [List.length_append,List.length_singleton];done) | exact qF
 ·unfold wF w13 w17 w11 w14 w16 w1g w15
  (repeat' (with_reducible first | exact trivial | rfl | assumption | refine aFT ?_ ?_ | refine Tr.run_ite (fun _=>?_) (fun _=>?_) | refine aFU ?_ | refine And.intro ?_ ?_))
  all_goals first | exact a7 | exact jA _ _ _ | (simp only [List.length_append,List.length_singleton];done) | exact qF
 ·unfold n8 w1c w1e w1d w1b
  (repeat' (with_reducible first | exact trivial | rfl | assumption | refine aFT ?_ ?_ | refine Tr.run_ite (fun _=>?_) (fun _=>?_) | refine aFU ?_ | refine And.intro ?_ ?_))
  all_goals first | exact a7 | exact jA _ _ _ | (simp only [List.length_append,List.length_singleton];done) | exact qF
 ·unfold DU w0z w1a w15;have hcl4:=hcl (gH h4);have hclo:=G2 hb' hcl4
  (repeat' (with_reducible first | exact trivial | rfl | assumption | refine aFT ?_ ?_ | refine Tr.run_ite (fun _=>?_) (fun _=>?_) | refine aFU ?_ | refine And.intro ?_ ?_))
  all_goals first | exact a7 | exact jA _ _ _ | (simp only [List.length_append,List.length_singleton];done) | exact qF
 ·unfold wG w0x w0w w1a w15
  (repeat' (with_reducible first | exact trivial | rfl | assumption | refine aFT ?_ ?_ | refine Tr.run_ite (fun _=>?_) (fun _=>?_) | refine aFU ?_ | refine And.intro ?_ ?_))
  all_goals first | exact a7 | exact jA _ _ _ | (simp only [List.length_append,List.length_singleton];done) | exact qF
 ·unfold wH w15 w1h
  (repeat' (with_reducible first | exact trivial | rfl | assumption | refine aFT ?_ ?_ | refine Tr.run_ite (fun _=>?_) (fun _=>?_) | refine aFU ?_ | refine And.intro ?_ ?_))
  all_goals first | exact a7 | exact jA _ _ _ | (simp only [List.length_append,List.length_singleton];done) | exact qF
 ·simp only [bI,beq_eq_false_iff_ne]at h0 h1 h2 h3 h4 h5 h6;rcases h with e | e | e | e | e | e | e<;>contradiction
theorem HJ{t n b:Int}{x:FNS}{s:MS}(hb:lO t n s)(hx:WB t x)(hq:OZ b x)(hbb:b≤900000):MG t n x s:=aF3 (ZA hb hx hq hbb)
theorem HK{t n b:Int}{x:FNS}{s:MS}(hb:lO t n s)(hx:WB t x)(hq:OZ b x)(hbb:b≤900000):aDR t b s (fnF t n x s):=aF1 (ZA hb hx hq hbb)
theorem cW(sh ky:Int):0≤b9 sh ky∧b9 sh ky≤3:=by
 unfold b9;cases ieq sh 2 with
 | true=>exact⟨Int.emod_nonneg _ (by decide),by have:=Int.emod_lt_of_pos ky (b:=4) (by decide);show ky%4≤3;omega⟩
 | false=>exact⟨Int.le_refl 0,(by decide:(0:Int)≤3)⟩
theorem HH{t n me hd key lim:Int}(hn:1≤n∧n≤1000)(hm:0≤me∧me≤1000)(hh:0≤hd∧hd≤3):(QO t n me hd key lim).run (fun x=>WB t x∧OZ 0 x):=by
 obtain⟨n0,n1⟩:=hn;obtain⟨m0,m1⟩:=hm;obtain⟨e0,e1⟩:=hh;unfold QO w1i
 (repeat' (with_reducible first | exact trivial | rfl | assumption | refine aFT ?_ ?_ | refine Tr.run_ite (fun _=>?_) (fun _=>?_) | refine aFU ?_ | refine And.intro ?_ ?_))
 all_goals first | exact a7 | exact⟨by dsimp only;decide,fun e=>absurd e (by dsimp only;decide)⟩ | exact⟨⟨m0,m1⟩,⟨(by decide:(0:Int)≤0),(by decide:(0:Int)≤1000)⟩,zT,(by decide:((0:Nat):Int)≤0)⟩
theorem KD(sh kd ky pred pw cw sp:Int){curr:Int}(hc:0≤curr∧curr≤1000):(zK sh kd ky pred pw curr cw sp).run (fun p=>0≤p.pops∧p.pops≤1000):=by
 obtain⟨c0,c1⟩:=hc;unfold zK w00 w02 w01 w03
 (repeat' (with_reducible first | exact trivial | rfl | assumption | refine aFT ?_ ?_ | refine Tr.run_ite (fun _=>?_) (fun _=>?_) | refine aFU ?_ | refine And.intro ?_ ?_))
 all_goals first | exact a7 | (dsimp only;first | assumption | decide)
theorem FJ(sh kd ky pred pw cw sp:Int){curr:Int}(hc:0≤curr∧curr≤1000):w6 sh kd ky pred pw curr cw sp:=aF3 (KD sh kd ky pred pw cw sp hc)
theorem zL(sh kd ky pred pw cw sp:Int){curr:Int}(hc:0≤curr∧curr≤1000):0≤(aJ sh kd ky pred pw curr cw sp).pops ∧(aJ sh kd ky pred pw curr cw sp).pops ≤1000:=aF1 (KD sh kd ky pred pw cw sp hc)
theorem FI(a b c d e f g h i):(tO a b c d e f g h i).run rngU:=by
 unfold tO
 (repeat' (with_reducible first | exact trivial | rfl | assumption | refine aFT ?_ ?_ | refine Tr.run_ite (fun _=>?_) (fun _=>?_) | refine aFU ?_ | refine And.intro ?_ ?_))
 all_goals first | exact a7 | exact oN
theorem OB(a b c d e f g h i):BK a b c d e f g h i:=aF3 (FI a b c d e f g h i)
theorem OA(a b c d e f g h i):rngU (dD a b c d e f g h i):=aF1 (FI a b c d e f g h i)
theorem FH(a b c d e f g h i j):(wZ a b c d e f g h i j).run (fun r=>rngU r.1):=by
 unfold wZ
 (repeat' (with_reducible first | exact trivial | rfl | assumption | refine aFT ?_ ?_ | refine Tr.run_ite (fun _=>?_) (fun _=>?_) | refine aFU ?_ | refine And.intro ?_ ?_))
 all_goals first | exact a7 | exact oN
theorem N8(a b c d e f g h i j):BJ a b c d e f g h i j:=aF3 (FH a b c d e f g h i j)
theorem N7(a b c d e f g h i j):rngU (gM a b c d e f g h i j).1:=aF1 (FH a b c d e f g h i j)
theorem FG(a b c d e f g h i):(tL a b c d e f g h i).run (fun _=>True):=by
 unfold tL
 (repeat' (with_reducible first | exact trivial | rfl | assumption | refine aFT ?_ ?_ | refine Tr.run_ite (fun _=>?_) (fun _=>?_) | refine aFU ?_ | refine And.intro ?_ ?_))
 all_goals exact a7
theorem zJ(p:PLN):pH p.1 p.2 p.3 p.4 p.5 p.6 p.7 p.8 p.9:=aF3 (FG _ _ _ _ _ _ _ _ _)
theorem wY(a b c d e f g h i):pH a b c d e f g h i:=aF3 (FG _ _ _ _ _ _ _ _ _)
theorem iM{b c:Int}{x:FNS}(h:OZ b x)(hbc:b≤c):OZ c x:=⟨h.m,h.cu,h.ul,Int.le_trans h.ln hbc⟩
theorem rR{t n me hd key lim:Int}(hn:1≤n∧n≤1000)(hm:0≤me∧me≤1000)(hh:0≤hd∧hd≤3):pR t n me hd key lim:=aF3 (HH hn hm hh)
theorem DT{t n me hd key lim:Int}(hn:1≤n∧n≤1000)(hm:0≤me∧me≤1000)(hh:0≤hd∧hd≤3):WB t (lW t n me hd key lim):=by
 have h:=aF1 (HH (t:=t) (key:=key) (lim:=lim) hn hm hh);exact h.1
theorem DS{t n me hd key lim:Int}(hn:1≤n∧n≤1000)(hm:0≤me∧me≤1000)(hh:0≤hd∧hd≤3):OZ 0 (lW t n me hd key lim):=by
 have h:=aF1 (HH (t:=t) (key:=key) (lim:=lim) hn hm hh);exact h.2
theorem SF(t n key nx:Int)(st:STS):(XX t n key nx st).run (fun r=>r.2=st):=⟨⟨rfl,rfl,rfl⟩,rfl⟩
theorem KE(t n key nx:Int)(st:STS):FK t n key nx st:=aF3 (SF t n key nx st)
theorem SE(t n key nx:Int)(st:STS):(l8 t n key nx st).2=st:=aF1 (SF t n key nx st)
structure stW (b:Int) (st:STS):Prop where
 m:0≤st.me∧st.me≤1000
 r:eK st.R
 ln:(st.R.length:Int)≤b
theorem kI{b c:Int}{st:STS}(h:stW b st)(hbc:b≤c):stW c st:=⟨h.m,h.r,Int.le_trans h.ln hbc⟩
theorem BW{b:Int}{st:STS}{k:Int}{x:FNS}(h:stW b st)(hq:OZ (b - st.R.length+1) x):stW (b+1) {me:=st.me,sp:=k,R:=st.R++x.ul} :=
 ⟨h.m,OP h.r hq.ul,by have:=hq.ln;simp only [List.length_append];omega⟩
theorem xF{b:Int}{st:STS}{k a:Int}(h:stW b st)(ha:0≤a∧a≤1000):stW (b+1) {me:=st.me,sp:=k,R:=st.R++ [a] } :=
 ⟨h.m,xE h.r ha,by have:=h.ln;simp only [List.length_append,List.length_singleton];omega⟩
theorem S4{b:Int}{st:STS}(h:stW b st)(k:Int):stW (b+1) {me:=st.me,sp:=k,R:=st.R} :=⟨h.m,h.r,by have:=h.ln;show(st.R.length:Int)≤_;omega⟩
structure ftW (t b:Int) (st:STS) (x:FTS):Prop where
 h:x.at'=0∨x.at'=1∨x.at'=2∨x.at'=3
 fn:x.at'=0→WB t x.fn∧OZ (b - st.R.length) x.fn
 cl:x.at'=1→Y2 t x.cl
 ps:0≤x.p.pops∧x.p.pops≤1000
structure aDU (t b:Int) (s:MS) (o:FtO):Prop where
 a:Act1 s o.s
 st:stW (b+1) o.st
 w:o.d=false→ftW t (b+1) o.st o.x
theorem ZD{t n b:Int}{x:FTS}{st:STS}{s:MS}(hb:lO t n s)(hx:ftW t b st x)(hst:stW b st)(hbb:b≤900000):(QV t n x st s).run (aDU t b s):=by
 have hb':=hb;obtain⟨ht,hn,⟨c0,c1⟩,hw⟩:=hb;obtain⟨n0,n1⟩:=hn;obtain⟨t0,t1⟩:=ht;obtain⟨h,hfn,hcl,hps⟩:=hx;have hR0:=hst.ln;have hst1:stW (b+1) st:=kI hst (by omega)
 have hnn:1≤n∧n≤1000:=⟨n0,n1⟩;have b0:0≤b:=by omega
 unfold QV;refine aFS (fun h0=>?_) (fun h0=>aFS (fun h1=>?_) (fun h1=>aFS (fun h2=>?_) (fun h2=>aFS (fun h3=>?_) (fun h3=>?_))))
 ·obtain⟨hfw,hfq⟩:=hfn (gH h0);have hF:=HK hb' hfw hfq (by omega)
  have hFo:=HJ hb' hfw hfq (by omega)
  have hA:=hF.a;have hQ:=hF.q;have hQl:=hQ.ln;have hS:stW (b+1) {me:=st.me,sp:=st.sp,R:=st.R++(fnF t n x.fn s).x.ul } :=BW hst hQ;have hcu:=hQ.cu;unfold rT w1j w1k w1m w1n
  (repeat' (with_reducible first | exact trivial | rfl | assumption | refine aFT ?_ ?_ | refine Tr.run_ite (fun _=>?_) (fun _=>?_) | refine aFU ?_ | refine And.intro ?_ ?_))
  all_goals first
   | exact a7
   | exact FJ _ _ _ _ _ _ _ hcu
   | exact zJ _
   | exact wY _ _ _ _ _ _ _ _ _
   | exact jA _ _ _
   | exact KE _ _ _ _ _
   | (simp only [List.length_append];done)
   | (refine⟨by first | assumption | exact a7,?_,fun hd=>?_⟩
      ·first
        | assumption
        | (dsimp only;rw [SE];assumption)
      ·first
        | exact Bool.noConfusion hd
        | (refine⟨by dsimp only;decide,?_,?_,?_⟩
           ·first | (exact nE') | (intro _;exact⟨hF.w (by assumption),iM hQ (by dsimp only;omega)⟩)
           ·first | (exact nE') | (intro _;dsimp only;with_reducible exact G1 _ _ _)
           ·first | exact hps | exact zL _ _ _ _ _ _ _ hcu))
 ·have hc:=hcl (gH h1);have hC:=AI hb' hc;have hCo:=G2 hb' hc;have hA:=hC.a;unfold DY w1p
  (repeat' (with_reducible first | exact trivial | rfl | assumption | refine aFT ?_ ?_ | refine Tr.run_ite (fun _=>?_) (fun _=>?_) | refine aFU ?_ | refine And.intro ?_ ?_))
  all_goals first
   | exact a7
   | exact rR hnn hst.m (cW _ _)
   | (refine⟨by assumption,by assumption,fun hd=>?_⟩
      first
       | exact Bool.noConfusion hd
       | (refine⟨by dsimp only;decide,?_,?_,hps⟩
          ·first | (exact nE') | (intro _;exact⟨DT (t:=t) (n:=n) hnn hst.m (cW _ _),iM (DS (t:=t) (n:=n) hnn hst.m (cW _ _)) (by dsimp only;omega)⟩)
          ·first | (exact nE') | (intro _;exact hC.w (by assumption))))
 ·have hP:=SK (st:=st) hb' (show ZQ t x.pr from⟨trivial⟩)
  have hPo:=SJ (st:=st) hb' (show ZQ t x.pr from⟨trivial⟩)
  have hA:=hP.a;have hPs:stW (b+1) (prF t n x.pr st s).st :=by rw [hP.st];exact hst1
  unfold rU w1r
  (repeat' (with_reducible first | exact trivial | rfl | assumption | refine aFT ?_ ?_ | refine Tr.run_ite (fun _=>?_) (fun _=>?_) | refine aFU ?_ | refine And.intro ?_ ?_))
  all_goals first
   | exact a7
   | (refine⟨by assumption,by assumption,fun hd=>?_⟩
      first
       | exact Bool.noConfusion hd
       | exact⟨by dsimp only;decide,fun e=>absurd e (by dsimp only;decide),fun e=>absurd e (by dsimp only;decide),hps⟩)
 ·have hW:=OA (FTS.p x).1 (FTS.p x).2 (FTS.p x).3 (FTS.p x).4 (FTS.p x).5 (FTS.p x).6 (FTS.p x).7 (FTS.p x).8 (FTS.p x).9;have hWo:=OB (FTS.p x).1 (FTS.p x).2 (FTS.p x).3 (FTS.p x).4 (FTS.p x).5 (FTS.p x).6 (FTS.p x).7 (FTS.p x).8 (FTS.p x).9;have hS1:stW (b+1) {me:=st.me,sp:=0,R:=st.R++ [(FTS.p x).9] } :=xF hst hps;have hS2:stW (b+1) {me:=st.me,sp:=st.sp,R:=st.R++ [(FTS.p x).9] } :=xF hst hps;have hS3:stW (b+1) {me:=st.me,sp:=0,R:=st.R} :=S4 hst 0;unfold wJ w1l
  (repeat' (with_reducible first | exact trivial | rfl | assumption | refine aFT ?_ ?_ | refine Tr.run_ite (fun _=>?_) (fun _=>?_) | refine aFU ?_ | refine And.intro ?_ ?_))
  all_goals first
   | exact a7
   | exact rR hnn hst.m (cW _ _)
   | (simp only [List.length_append,List.length_singleton];done)
   | (refine⟨by exact a7,by assumption,fun hd=>?_⟩
      first
       | exact Bool.noConfusion hd
       | (refine⟨by dsimp only;decide,?_,?_,hps⟩
          ·first | (exact nE') | (intro _;exact⟨DT (t:=t) (n:=n) hnn hst.m (cW _ _),iM (DS (t:=t) (n:=n) hnn hst.m (cW _ _)) (by dsimp only;omega)⟩)
          · (exact nE')))
 ·simp only [bI,beq_eq_false_iff_ne]at h0 h1 h2 h3;rcases h with e | e | e | e<;>contradiction
theorem aBt{t n b:Int}{x:FTS}{st:STS}{s:MS}(hb:lO t n s)(hx:ftW t b st x)(hst:stW b st)(hbb:b≤900000):WM t n x st s:=aF3 (ZD hb hx hst hbb)
theorem aBu{t n b:Int}{x:FTS}{st:STS}{s:MS}(hb:lO t n s)(hx:ftW t b st x)(hst:stW b st)(hbb:b≤900000):aDU t b s (ftF t n x st s):=aF1 (ZD hb hx hst hbb)
theorem HN{t n b sh kd ky most:Int}{st:STS}(hn:1≤n∧n≤1000)(hst:stW b st):(QU t n sh kd ky most st).run (fun r=>ftW t b st r.1∧r.2=st):=by
 have hR0:=hst.ln;unfold QU
 (repeat' (with_reducible first | exact trivial | rfl | assumption | refine aFT ?_ ?_ | refine Tr.run_ite (fun _=>?_) (fun _=>?_) | refine aFU ?_ | refine And.intro ?_ ?_))
 all_goals first
  | exact a7
  | exact rR hn hst.m (cW _ _)
  | exact⟨by dsimp only;decide,fun _=>⟨DT (t:=t) (n:=n) hn hst.m (cW _ _),iM (DS (t:=t) (n:=n) hn hst.m (cW _ _)) (by omega)⟩,fun e=>absurd e (by dsimp only;decide),⟨(by decide:(0:Int)≤0),(by decide:(0:Int)≤1000)⟩⟩
theorem eW(s:MS)(a:Int):Act1 s (s.loadd a):=⟨rfl,rfl,id,rfl,rfl⟩
theorem yB(s:MS)(a o x:Int):Act1 s (s.cased a o (WU x)):=IQ s _ _ _ _ _ _ _ _ (IH x)
theorem o7(s:MS)(a x:Int):Act1 s (s.added a x):=AA s _ _ _ _ _ _ _ (IH _)
theorem m9{m:List (Int×Int)}{l:List Int}(h:eK l):eK (cK m l):=fun r hr=>h r (List.mem_filter.1 hr).1
theorem uS{m:List (Int×Int)}{l:List Int}(h:eK l):eK (aX m l):=fun r hr=>h r (List.mem_filter.1 hr).1
theorem EK(m:List (Int×Int))(l:List Int):(cK m l).length ≤l.length:=List.length_filter_le _ _
theorem FU{l:List Int}(h:eK l){j:Nat}(hj:j<l.length): -1000000≤List.getD l (j+Int.toNat 0*1) 0∧List.getD l (j+Int.toNat 0*1) 0≤1000000:=by
 have e:j+Int.toNat 0*1=j:=by simp
 rw [e,gD',gE' hj];have:=h _ (List.getElem_mem hj);show _≤l[j]∧l[j]≤_;omega
theorem EY{n a:Int}(hn:1≤n)(ha:1≤a):1≤cP n a∧cP n a≤n:=by
 unfold cP;rw [Int.tmod_eq_emod_of_nonneg (by omega)]
 have:=Int.emod_nonneg a (show n≠0 by omega)
 have:=Int.emod_lt_of_pos a (show 0<n by omega)
 omega
theorem IV{t n me:Int}(hn:1≤n):1≤at0 t n me∧at0 t n me≤n:=by
 unfold at0;cases h:bK n (aQ t n me)with
 | true=>exact kD.1 h
 | false=>exact⟨(by decide:(1:Int)≤1),hn⟩
def enI(t n b:Int)(e:ENS):Prop:=match e.ph with
 | 0=>True
 | 1=>okAl n e.x
 | 2=>True
 | 3=>(eK e.y.N∧(e.y.N.length:Int)≤b)∧0≤e.y.i∧e.y.i<2*t
 | 4=>2*t≤e.y.i∧1≤e.y.l∧e.y.gs.length=e.y.j+e.y.l∧eK e.y.gs∧eK e.y.ks∧(e.y.ks.length:Int)≤b
 | _=>False
structure aAW (t n b:Int) (s:MS) (o:EO):Prop where
 a:Act1 s o.s
 st:stW (b+1) o.st
 w:o.d=false→enI t n (b+1) o.e
theorem QB{t n b:Int}{e:ENS}{st:STS}{s:MS}(hb:lO t n s)(hx:enI t n b e)(hst:stW b st)(hbb:b≤900000):okE t n e st s:=by
 obtain⟨ht,hn,hc,hw⟩:=hb;have hl:=hst.ln;refine⟨ht,hn,⟨hc.1,by omega⟩,hst.m,by omega,?_⟩
 match e,hx with
 | ⟨0,sh,dn,x,y⟩,hx=>trivial
 | ⟨1,sh,dn,x,y⟩,hx=>exact hx
 | ⟨2,sh,dn,x,y⟩,hx=>trivial
 | ⟨3,sh,dn,x,y⟩,hx=>
   obtain⟨⟨h1,h2⟩,h3⟩:=hx;exact⟨by dsimp only at h2⊢;omega,h3⟩
 | ⟨4,sh,dn,x,y⟩,hx=>
   obtain⟨a1,a2,a3,a4,a5⟩:=hx;exact⟨a1,a2,a3,FU a4 (by omega)⟩
theorem JE{t n b:Int}{e:ENS}{st:STS}{x:AL}{s s0:MS}(ha:Act1 s0 s)(hst:stW b st)(hg:x.got=0)(hx:1≤x.at'∧x.at'≤n)(hl0:0≤x.left+1)(hl:x.left≤1000):aAW t n b s0 (AT e st x s):=by
 have hl1:=hst.ln;unfold AT;split
 ·exact⟨ha,⟨hst.m,hst.r,by dsimp only;omega⟩,fun _=>trivial⟩
 ·rename_i h;rw [bX,dF']at h;exact⟨ha,kI hst (by omega),fun _=>⟨hg,hx,by show(0:Int)≤x.left;omega,hl⟩⟩
theorem yT{t n b:Int}{e:ENS}{st:STS}{x:AL}{s:MS}(hn:1≤n)(hst:stW b st)(hx:okAl n x):aAW t n b s (jU n e st x s):=by
 obtain⟨hg,ha,hl⟩:=hx;have hl1:=hst.ln;unfold jU;split
 ·split
  ·exact⟨yB _ _ _ _,⟨hst.m,hst.r,by dsimp only;omega⟩,fun h=>Bool.noConfusion h⟩
  ·exact JE (yB _ _ _ _) hst rfl (EY hn ha.1) (by dsimp only;omega) (by dsimp only;omega)
 ·split
  ·exact JE (eW _ _) hst rfl (EY hn ha.1) (by dsimp only;omega) (by dsimp only;omega)
  ·exact⟨eW _ _,kI hst (by omega),fun _=>⟨rfl,ha,hl⟩⟩
theorem QC{t n b:Int}{e:ENS}{st:STS}{s:MS}(hb:lO t n s)(hx:enI t n b e)(hst:stW b st):aAW t n b s (enF t n e st s):=by
 obtain⟨ht,hn,hc,hw⟩:=hb;have hl1:=hst.ln;have hst1:stW (b+1) st:=kI hst (by omega)
 match e,hx with
 | ⟨0,sh,dn,x,y⟩,hx=>
   unfold enF;dsimp only;cases hc:ieq st.sp 0 with
   | true=>exact yT hn.1 hst ⟨rfl,IV hn.1,by dsimp only;omega⟩
   | false=>exact⟨eW _ _,hst1,fun h=>Bool.noConfusion h⟩
 | ⟨1,sh,dn,x,y⟩,hx=>exact yT hn.1 hst hx
 | ⟨2,sh,dn,x,y⟩,hx=>
   exact⟨eW _ _,hst1,fun _=>⟨⟨hst.r,by show(st.R.length:Int)≤_;omega⟩,(by decide:(0:Int)≤1),by show(1:Int)<_;omega⟩⟩
 | ⟨3,sh,dn,x,y⟩,hx=>
   obtain⟨⟨hN,hNl⟩,hi0,hi1⟩:=hx;dsimp only at hN hNl hi0 hi1;have hk:=EK (aV y.m n y.i s) y.N;unfold enF;dsimp only;generalize hsm:aV y.m n y.i s=sm at hk⊢;cases h1:ieq (y.i+1) (2*t)with
   | false=>
     have h1:=y5 h1;exact⟨eW _ _,hst1,fun _=>⟨⟨hN,by show((y.N).length :Int)≤_;omega⟩,by show 0≤y.i+1;omega,by show y.i+1<2*t;omega⟩⟩
   | true=>
     have h1:=gH h1;cases h2:ieq ((aX sm y.N).length :Int) 0 with
     | true=>exact⟨eW _ _,⟨hst.m,m9 hN,by show((cK sm y.N).length :Int)≤_;omega⟩,fun h=>Bool.noConfusion h⟩
     | false=>
       have h2:=y5 h2;exact⟨eW _ _,hst1,fun _=>⟨by show 2*t≤y.i+1;omega,by show 1≤(aX sm y.N).length;omega,by show(aX sm y.N).length =0+(aX sm y.N).length;omega,uS hN,m9 hN,by show((cK sm y.N).length :Int)≤_;omega⟩⟩
 | ⟨4,sh,dn,x,y⟩,hx=>
   obtain⟨a1,a2,a3,a4,a5,a6⟩:=hx;dsimp only at a1 a2 a3 a4 a5 a6;unfold enF;dsimp only;cases h1:ieq ((y.l - 1:Nat):Int) 0 with
   | true=>exact⟨o7 _ _ _,⟨hst.m,a5,by show((y.ks).length :Int)≤_;omega⟩,fun _=>trivial⟩
   | false=>
     have h1:=y5 h1;exact⟨o7 _ _ _,hst1,fun _=>⟨a1,by show 1≤y.l - 1;omega,by show(y.gs).length =y.j+1+(y.l - 1);omega,a4,a5,by show((y.ks).length :Int)≤_;omega⟩⟩
def YE(t n b:Int)(y:SWS):Prop:=match y.ph with
 | 0=>True
 | 1=>(eK y.N∧(y.N.length:Int)≤b)∧0≤y.i∧y.i<2*t
 | 2=>2*t≤y.i∧1≤y.l∧y.gs.length=y.j+y.l∧eK y.gs∧eK y.ks∧(y.ks.length:Int)≤b
 | _=>False
structure aFo (t n b:Int) (s:MS) (o:SO):Prop where
 a:Act1 s o.s
 st:stW (b+1) o.st
 w:o.d=false→YE t n (b+1) o.e
theorem aCO{t n b:Int}{e:SWS}{st:STS}{s:MS}(hb:lO t n s)(hx:YE t n b e)(hst:stW b st)(hbb:b≤900000):sH t n e st s:=by
 obtain⟨ht,hn,hc,hw⟩:=hb;have hl:=hst.ln;refine⟨ht,hn,⟨hc.1,by omega⟩,by omega,?_⟩
 match e,hx with
 | ⟨0,N,m,i,ks,fs,gs,j,l⟩,hx=>trivial
 | ⟨1,N,m,i,ks,fs,gs,j,l⟩,hx=>
   obtain⟨⟨h1,h2⟩,h3⟩:=hx;exact⟨by dsimp only at h2⊢;omega,h3⟩
 | ⟨2,N,m,i,ks,fs,gs,j,l⟩,hx=>
   obtain⟨a1,a2,a3,a4,a5⟩:=hx;exact⟨a1,a2,a3,FU a4 (by omega)⟩
theorem aCP{t n b:Int}{e:SWS}{st:STS}{s:MS}(hb:lO t n s)(hx:YE t n b e)(hst:stW b st):aFo t n b s (swF t n e st s):=by
 obtain⟨ht,hn,hc,hw⟩:=hb;have hl1:=hst.ln;have hst1:stW (b+1) st:=kI hst (by omega)
 match e,hx with
 | ⟨0,N,m,i,ks,fs,gs,j,l⟩,hx=>
   exact⟨eW _ _,hst1,fun _=>⟨⟨hst.r,by show(st.R.length:Int)≤_;omega⟩,(by decide:(0:Int)≤1),by show(1:Int)<_;omega⟩⟩
 | ⟨1,N,m,i,ks,fs,gs,j,l⟩,hx=>
   obtain⟨⟨hN,hNl⟩,hi0,hi1⟩:=hx;dsimp only at hN hNl hi0 hi1;have hk:=EK (aV m n i s) N;unfold swF;dsimp only;generalize hsm:aV m n i s=sm at hk⊢;cases h1:ieq (i+1) (2*t)with
   | false=>
     have h1:=y5 h1;exact⟨eW _ _,hst1,fun _=>⟨⟨hN,by show((N).length :Int)≤_;omega⟩,by show 0≤i+1;omega,by show i+1<2*t;omega⟩⟩
   | true=>
     have h1:=gH h1;cases h2:ieq ((aX sm N).length :Int) 0 with
     | true=>exact⟨eW _ _,⟨hst.m,m9 hN,by show((cK sm N).length :Int)≤_;omega⟩,fun h=>Bool.noConfusion h⟩
     | false=>
       have h2:=y5 h2;exact⟨eW _ _,hst1,fun _=>⟨by show 2*t≤i+1;omega,by show 1≤(aX sm N).length;omega,by show(aX sm N).length =0+(aX sm N).length;omega,uS hN,m9 hN,by show((cK sm N).length :Int)≤_;omega⟩⟩
 | ⟨2,N,m,i,ks,fs,gs,j,l⟩,hx=>
   obtain⟨a1,a2,a3,a4,a5,a6⟩:=hx;dsimp only at a1 a2 a3 a4 a5 a6;unfold swF;dsimp only;cases h1:ieq ((l - 1:Nat):Int) 0 with
   | true=>exact⟨o7 _ _ _,⟨hst.m,a5,by show((ks).length :Int)≤_;omega⟩,fun h=>Bool.noConfusion h⟩
   | false=>
     have h1:=y5 h1;exact⟨o7 _ _ _,hst1,fun _=>⟨a1,by show 1≤l - 1;omega,by show(gs).length =j+1+(l - 1);omega,a4,a5,by show((ks).length :Int)≤_;omega⟩⟩
theorem VX(t n u sh kd ky att:Int):QF t n u sh kd ky att:=⟨⟨rfl,rfl⟩,trivial⟩
theorem aDN(t n:Int){u:Int}(sh kd ky att:Int)(hu:0≤u∧u≤1000):exW t (aA2 t n u sh kd ky att):=⟨.inl rfl,hu,⟨(by decide:(0:Int)≤0),(by decide:(0:Int)≤1000)⟩⟩
structure hpW (t n b:Int) (st:STS) (x:HPS):Prop where
 h:x.at'=0∨x.at'=1∨x.at'=2∨x.at'=3∨x.at'=4∨x.at'=5∨x.at'=6∨x.at'=7∨x.at'=8∨x.at'=9
 u:0≤x.u∧x.u≤1000
 ex:x.at'=3→exW t x.ex
 en:x.at'=4→enI t n b x.en
 fn:x.at'=5→WB t x.fn∧OZ (b - st.R.length) x.fn
 cl:x.at'=7→Y2 t x.cl
 ps:0≤x.p.pops∧x.p.pops≤1000
structure aD2 (t n b:Int) (s:MS) (o:HpO):Prop where
 a:Act1 s o.s
 st:stW (b+1) o.st
 w:o.d=false→hpW t n (b+1) o.st o.x
theorem RX:(0:Int)≤0∧(0:Int)≤1000:=⟨by decide,by decide⟩
theorem ZI{t n b:Int}{x:HPS}{st:STS}{s:MS}(hb:lO t n s)(hx:hpW t n b st x)(hst:stW b st)(hbb:b≤900000):(hpT t n x st s).run (aD2 t n b s):=by
 have hb':=hb;obtain⟨ht,hn,⟨c0,c1⟩,hw⟩:=hb;obtain⟨n0,n1⟩:=hn;obtain⟨t0,t1⟩:=ht;obtain⟨h,hu,hex,hen,hfn,hcl,hps⟩:=hx;have hR0:=hst.ln;have hst1:stW (b+1) st:=kI hst (by omega)
 have hnn:1≤n∧n≤1000:=⟨n0,n1⟩;have hme:=hst.m;obtain⟨u0,u1⟩:=hu;have b0:0≤b:=by omega
 obtain⟨k0,k1⟩:=iP hw (2*n+5+2*t+3*x.1+1);unfold hpT;refine aFS (fun h0=>?c0) (fun h0=>aFS (fun h1=>?c1) (fun h1=>aFS (fun h2=>?c2) (fun h2=>aFS (fun h3=>?c3) (fun h3=>aFS (fun h4=>?c4) (fun h4=>aFS (fun h5=>?c5) (fun h5=>aFS (fun h6=>?c6) (fun h6=>aFS (fun h7=>?c7) (fun h7=>aFS (fun h8=>?c8) (fun h8=>aFS (fun h9=>?c9) (fun h9=>?c10))))))))))
 case' c0=>unfold D5 w21
 case' c1=>unfold D6 w21
 case' c2=>unfold D7 w1x w21
 case' c3=>have he:=hex (gH h3);have hE:=aA9 hb' he;have hEo:=aA8 hb' he;have hA:=hE.a;have hS:stW (b+1) {me:=st.me,sp:=st.sp,R:=st.R++ [(ExO.x (lU t n x.11 s)).1] } :=xF hst hE.p;unfold D8 w23
 case' c4=>have he:=hen (gH h4);have hE:=QC hb' he hst;have hEo:=QB hb' he hst hbb;have hA:=hE.a;have hS:=hE.st;have hme:=hS.m;have hSl:=hS.ln;unfold D9 w29 w24
 case' c5=>obtain⟨hfw,hfq⟩:=hfn (gH h5);have hF:=HK hb' hfw hfq (by omega);have hFo:=HJ hb' hfw hfq (by omega);have hA:=hF.a;have hQ:=hF.q;have hQl:=hQ.ln;have hS:stW (b+1) {me:=st.me,sp:=st.sp,R:=st.R++(fnF t n x.fn s).x.ul } :=BW hst hQ;have hcu:=hQ.cu;unfold EA w1w w20 w22
 case' c6=>unfold EB w21
 case' c7=>have hc:=hcl (gH h7);have hC:=AI hb' hc;have hCo:=G2 hb' hc;have hA:=hC.a;unfold EC w26
 case' c8=>have hP:=SK (st:=st) hb' (show ZQ t x.pr from⟨trivial⟩);have hPo:=SJ (st:=st) hb' (show ZQ t x.pr from⟨trivial⟩);have hA:=hP.a;have hPs:stW (b+1) (prF t n x.pr st s).st :=(by rw [hP.st];exact hst1);unfold EE w25
 case' c9=>have hD:=N7 (HPS.p x).1 (HPS.p x).2 (HPS.p x).3 (HPS.p x).4 (HPS.p x).5 (HPS.p x).6 (HPS.p x).7 (HPS.p x).8 (HPS.p x).9 (aA x.6 0 12);have hDo:=N8 (HPS.p x).1 (HPS.p x).2 (HPS.p x).3 (HPS.p x).4 (HPS.p x).5 (HPS.p x).6 (HPS.p x).7 (HPS.p x).8 (HPS.p x).9 (aA x.6 0 12);have hS3:stW (b+1) {me:=st.me,sp:=0,R:=st.R} :=S4 hst 0;unfold EG w1y w21
 case c10=>
  simp only [bI,beq_eq_false_iff_ne]at h0 h1 h2 h3 h4 h5 h6 h7 h8 h9;rcases h with e | e | e | e | e | e | e | e | e | e<;>contradiction
 all_goals (repeat' (with_reducible first | exact trivial | rfl | assumption | refine aFT ?_ ?_ | refine Tr.run_ite (fun _=>?_) (fun _=>?_) | refine aFU ?_ | refine And.intro ?_ ?_))
 all_goals first
  | exact a7
  | (simp only [List.length_append,List.length_singleton];done)
  | exact VX _ _ _ _ _ _ _
  | exact rR hnn hme (cW _ _)
  | exact FJ _ _ _ _ _ _ _ hcu
  | exact zJ _
  | exact wY _ _ _ _ _ _ _ _ _
  | exact jA _ _ _
  | exact KE _ _ _ _ _
  | (simp only [List.length_append];done)
  | (refine⟨by first | assumption | exact a7,?_,fun hd=>?_⟩
     ·first
       | assumption
       | (dsimp only;rw [SE];assumption)
     ·first
       | exact Bool.noConfusion hd
       | (refine⟨by dsimp only;decide,⟨u0,u1⟩,?_,?_,?_,?_,?_⟩<;>first | (exact nE') | exact hps | exact RX | (intro _;dsimp only;with_reducible exact aDN _ _ _ _ _ _ ⟨u0,u1⟩) | (intro _;exact trivial) | (intro _;exact⟨DT (t:=t) (n:=n) hnn hme (cW _ _),iM (DS (t:=t) (n:=n) hnn hme (cW _ _)) (by dsimp only;omega)⟩) | (intro _;exact hE.w (by assumption)) | (intro _;exact⟨hF.w (by assumption),iM hQ (by dsimp only;omega)⟩) | (intro _;dsimp only;with_reducible exact G1 _ _ _) | exact zL _ _ _ _ _ _ _ hcu | (intro _;exact hC.w (by assumption))))
theorem RA{t n b:Int}{x:HPS}{st:STS}{s:MS}(hb:lO t n s)(hx:hpW t n b st x)(hst:stW b st)(hbb:b≤900000):Q9 t n x st s:=aF3 (ZI hb hx hst hbb)
theorem RB{t n b:Int}{x:HPS}{st:STS}{s:MS}(hb:lO t n s)(hx:hpW t n b st x)(hst:stW b st)(hbb:b≤900000):aD2 t n b s (dH t n x st s):=aF1 (ZI hb hx hst hbb)
theorem aBM{t n b u no lim:Int}{st:STS}(hu:0≤u∧u≤1000):(NB t n u no lim st).run (fun r=>hpW t n b st r.1∧r.2=st):=by
 unfold NB
 (repeat' (with_reducible first | exact trivial | rfl | assumption | refine aFT ?_ ?_ | refine Tr.run_ite (fun _=>?_) (fun _=>?_) | refine aFU ?_ | refine And.intro ?_ ?_))
 all_goals first
  | exact a7
  | exact⟨by dsimp only;decide,hu,fun e=>absurd e (by dsimp only;decide),fun e=>absurd e (by dsimp only;decide),fun e=>absurd e (by dsimp only;decide),fun e=>absurd e (by dsimp only;decide),RX⟩
theorem X8{s k y:Int}(h:a8 s k y=true):rngU (tskV s k y):=by
 have h:=eJ.1 h;unfold tskV;refine⟨?_,?_⟩<;>omega
theorem W3(t n:Int):Q3 t n:=⟨⟨rfl,rfl⟩,trivial⟩
theorem aDX(t n:Int):hdW t (WZ t n):=⟨⟨(by decide:(0:Int)≤0),(by decide:(0:Int)≤1000)⟩,⟨(by decide:(-1:Int)≤ -1),(by decide:(-1:Int)≤1000)⟩⟩
theorem VH(t n u:Int):uG t n u:=⟨⟨rfl,rfl⟩,trivial⟩
theorem aDH(t n:Int){u:Int}(hu:0≤u∧u≤1000):drW t (nH t n u):=⟨hu,⟨(by decide:(0:Int)≤0),(by decide:(0:Int)≤2)⟩⟩
theorem UE(t n u:Int):PJ t n u:=⟨⟨rfl,rfl⟩,trivial⟩
theorem aDj(t n:Int){u:Int}(hu:0≤u∧u≤1000):awW t (aAe t n u):=⟨hu⟩
theorem T6(t n u sh kd ky:Int):PH t n u sh kd ky:=⟨trivial,⟨rfl,rfl⟩,trivial⟩
theorem aDf(t n:Int){u:Int}(sh kd ky:Int)(hu:0≤u∧u≤1000):anW t (Z6 t n u sh kd ky):=⟨.inl rfl,hu,BO X8 FR,FR⟩
theorem W9(t n u no lim:Int)(st:STS):D4 t n u no lim st:=by
 unfold D4 NB;exact⟨⟨⟨rfl,rfl,rfl⟩,by decide⟩,trivial⟩
theorem ZH{t n b u no lim:Int}{st:STS}(hu:0≤u∧u≤1000):hpW t n b st (rW t n u no lim st).1:=(aF1 (aBM (b:=b) hu)).1
theorem WL{t n b:Int}(sh kd ky most:Int){st:STS}(hn:1≤n∧n≤1000)(hst:stW b st):uN t n sh kd ky most st:=aF3 (HN hn hst)
theorem aDT{t n b:Int}(sh kd ky most:Int){st:STS}(hn:1≤n∧n≤1000)(hst:stW b st):ftW t b st (ftNF t n sh kd ky most st).1:=(aF1 (HN (t:=t) hn hst)).1
theorem A2{t n b:Int}(sh kd ky most:Int){st:STS}(hn:1≤n∧n≤1000)(hst:stW b st):(ftNF t n sh kd ky most st).2=st:=(aF1 (HN (t:=t) hn hst)).2
structure dqW (t n b:Int) (st:STS) (x:DOS):Prop where
 h:x.at'=0∨x.at'=1∨x.at'=2∨x.at'=3∨x.at'=4∨x.at'=5∨x.at'=6∨x.at'=7∨x.at'=8∨x.at'=9
 hd:x.at'=0→hdW t x.hd
 hp:x.at'=1∨x.at'=5→hpW t n b st x.hp
 en:x.at'=2→enI t n b x.en
 ft:x.at'=3→ftW t b st x.ft
 an:x.at'=4→anW t x.an
 aw:x.at'=6→awW t x.aw
 fn:x.at'=7→WB t x.fn∧OZ (b - st.R.length) x.fn
 dr:x.at'=8→drW t x.dr
 sw:x.at'=9→YE t n b x.sw
structure aDr (t n b:Int) (s:MS) (o:DqO):Prop where
 a:Act1 s o.s
 st:stW (b+1) o.st
 w:o.d=false→dqW t n (b+1) o.st o.x
theorem Y6{t n b:Int}{x:DOS}{st:STS}{s:MS}(hb:lO t n s)(hx:dqW t n b st x)(hst:stW b st)(hbb:b≤900000):(B8 t n x st s).run (aDr t n b s):=by
 have hb':=hb;obtain⟨ht,hn,⟨c0,c1⟩,hw⟩:=hb;obtain⟨n0,n1⟩:=hn;obtain⟨t0,t1⟩:=ht;obtain⟨h,xhd,xhp,xen,xft,xan,xaw,xfn,xdr,xsw⟩:=hx;have hR0:=hst.ln;have hst1:stW (b+1) st:=kI hst (by omega)
 have hnn:1≤n∧n≤1000:=⟨n0,n1⟩;have hme:=hst.m;have b0:0≤b:=by omega
 unfold B8;refine aFS (fun h0=>?c0) (fun h0=>aFS (fun h1=>?c1) (fun h1=>aFS (fun h2=>?c2) (fun h2=>aFS (fun h3=>?c3) (fun h3=>aFS (fun h4=>?c4) (fun h4=>aFS (fun h5=>?c5) (fun h5=>aFS (fun h6=>?c6) (fun h6=>aFS (fun h7=>?c7) (fun h7=>aFS (fun h8=>?c8) (fun h8=>aFS (fun h9=>?c9) (fun h9=>?c10))))))))))
 case' c0=>have hc:=xhd (gH h0);have hC:=aBH hb' hc;have hCo:=aBG hb' hc;have hA:=hC.a;have hS:=hst1;have hSl:=hS.ln;obtain⟨v0,v1⟩:=hC.p;unfold rE w2o w2q w2d w2v
 case' c1=>have hc:=xhp (.inl (gH h1));have hC:=RB hb' hc hst hbb;have hCo:=RA hb' hc hst hbb;have hA:=hC.a;have hS:=hC.st;have hme:=hS.m;have hSl:=hS.ln;unfold C3 w2c w2t w2e w2k w2v
 case' c2=>have hc:=xen (gH h2);have hC:=QC hb' hc hst;have hCo:=QB hb' hc hst hbb;have hA:=hC.a;have hS:=hC.st;have hme:=hS.m;have hSl:=hS.ln;unfold rF w2u w2i w2x w2v
 case' c3=>have hc:=xft (gH h3);have hC:=aBu hb' hc hst hbb;have hCo:=aBt hb' hc hst hbb;have hA:=hC.a;have hS:=hC.st;have hme:=hS.m;have hSl:=hS.ln;unfold rG w2b w2g w2j w2v
 case' c4=>have hc:=xan (gH h4);have hC:=aAd hb' hc;have hCo:=aAc hb' hc;have hA:=hC.a;have hS:=hst1;have hSl:=hS.ln;unfold C4 w2w w2p w2v
 case' c5=>have hc:=xhp (.inr (gH h5));have hC:=RB hb' hc hst hbb;have hCo:=RA hb' hc hst hbb;have hA:=hC.a;have hS:=hC.st;have hme:=hS.m;have hSl:=hS.ln;unfold C5 w2e w2k w2v
 case' c6=>have hc:=xaw (gH h6);have hC:=aAm hb' hc;have hCo:=aAl hb' hc;have hA:=hC.a;have hS:=hst1;have hSl:=hS.ln;unfold C6 w2f w2h w2v
 case' c7=>obtain⟨hfw,hfq⟩:=xfn (gH h7);have hF:=HK hb' hfw hfq (by omega);have hFo:=HJ hb' hfw hfq (by omega);have hA:=hF.a;have hQ:=hF.q;have hQl:=hQ.ln;have hS:stW (b+1) {me:=st.me,sp:=st.sp,R:=st.R++(fnF t n x.fn s).x.ul } :=BW hst hQ;unfold rH w2l w2v
 case' c8=>have hc:=xdr (gH h8);have hC:=aAT hb' hc;have hCo:=aAS hb' hc;have hA:=hC.a;have hS:=hst1;unfold rJ w2m w2v
 case' c9=>have hc:=xsw (gH h9);have hC:=aCP hb' hc hst;have hCo:=aCO hb' hc hst hbb;have hA:=hC.a;have hS:=hC.st;unfold rL w2r w2v
 case c10=>
  simp only [bI,beq_eq_false_iff_ne]at h0 h1 h2 h3 h4 h5 h6 h7 h8 h9;rcases h with e | e | e | e | e | e | e | e | e | e<;>contradiction
 all_goals (repeat' (with_reducible first | exact trivial | rfl | assumption | refine aFT ?_ ?_ | refine Tr.run_ite (fun _=>?_) (fun _=>?_) | refine aFU ?_ | refine And.intro ?_ ?_))
 all_goals first
  | exact a7
  | (intro _;decide)
  | assumption
  | exact VH _ _ _
  | exact UE _ _ _
  | exact T6 _ _ _ _ _ _
  | exact W9 _ _ _ _ _ _
  | exact rR hnn hme (cW _ _)
  | exact WL _ _ _ _ hnn hS
  | (simp only [List.length_append,List.length_singleton];done)
  | (refine⟨by first | assumption | exact a7,by first | assumption | (dsimp only;rw [A2 _ _ _ _ hnn hS];assumption),fun hd=>?_⟩
     first
      | exact Bool.noConfusion hd
      | (refine⟨by dsimp only;decide,?_,?_,?_,?_,?_,?_,?_,?_,?_⟩<;>first | (exact nE') | (intro _;exact hC.w (by assumption)) | (intro _;exact ZH ⟨by first | omega | (simp_all [bX,bJ];done) | (simp_all [bX,bJ];omega),v1⟩) | (intro _;exact trivial) | (intro _;dsimp only;rw [A2 _ _ _ _ hnn hS];exact aDT _ _ _ _ hnn hS) | (intro _;dsimp only;with_reducible exact aDj _ _ hme) | (intro _;dsimp only;with_reducible exact aDH _ _ hme) | (intro _;dsimp only;with_reducible exact aDf _ _ _ _ _ hme) | (intro _;exact⟨DT (t:=t) (n:=n) hnn hme (cW _ _),iM (DS (t:=t) (n:=n) hnn hme (cW _ _)) (by dsimp only;omega)⟩) | (intro _;exact ZH hme) | (intro _;exact⟨hF.w (by assumption),iM hQ (by dsimp only;omega)⟩)))
theorem P7{t n b:Int}{x:DOS}{st:STS}{s:MS}(hb:lO t n s)(hx:dqW t n b st x)(hst:stW b st)(hbb:b≤900000):dqOk t n x st s:=aF3 (Y6 hb hx hst hbb)
theorem aAL{t n b:Int}{x:DOS}{st:STS}{s:MS}(hb:lO t n s)(hx:dqW t n b st x)(hst:stW b st)(hbb:b≤900000):aDr t n b s (dqF t n x st s):=aF1 (Y6 hb hx hst hbb)
theorem P6{t n b:Int}(sh kd ky lim:Int)(st:STS):(P5 t n sh kd ky lim st).run (fun r=>dqW t n b st r.1∧r.2=st):=by
 unfold P5
 (repeat' (with_reducible first | exact trivial | rfl | assumption | refine aFT ?_ ?_ | refine Tr.run_ite (fun _=>?_) (fun _=>?_) | refine aFU ?_ | refine And.intro ?_ ?_))
 all_goals first
  | exact a7
  | exact W3 _ _
  | (intro _;decide)
  | (refine⟨by dsimp only;decide,fun _=>aDX t n,?_,?_,?_,?_,?_,?_,?_,?_⟩<;>(exact nE'))
inductive Go1 {σ:Type} (F:σ→Bool×σ):Nat→σ→σ→Prop where
 | nil (a:σ):Go1 F 0 a a
 | cons {k:Nat} {a b c:σ} (h:F a=(false,b)) (t:Go1 F k b c):Go1 F (k+1) a c
theorem Go1.trans{σ:Type}{F:σ→Bool×σ}{i j:Nat}{a b c:σ}(h:Go1 F i a b)(g:Go1 F j b c):Go1 F (j+i) a c:=by
 induction h with
 | nil a=>exact g
 | cons h t ih=>exact Go1.cons h (ih g)
theorem Go1.one{σ:Type}{F:σ→Bool×σ}{a b:σ}(h:F a=(false,b)):Go1 F 1 a b:=Go1.cons h (Go1.nil _)
theorem aGE{σ τ:Type}{F:σ→Bool×σ}{G:τ→Bool×τ}(e:σ→τ)(he: ∀a b,F a=(false,b)→G (e a)=(false,e b)){k:Nat}{a b:σ}(h:Go1 F k a b):Go1 G k (e a) (e b):=by
 induction h with
 | nil a=>exact Go1.nil _
 | cons h t ih=>exact Go1.cons (he _ _ h) ih
def End{σ:Type}(F:σ→Bool×σ)(k:Nat)(a z:σ):Prop:= ∃j b,k=j+1∧Go1 F j a b∧F b=(true,z)
theorem aGp{σ:Type}{F:σ→Bool×σ}{k j:Nat}{a b z:σ}(h:Go1 F k a b)(g:End F j b z):End F (j+k) a z:=by
 obtain⟨i,c,rfl,h1,h2⟩:=g
 exact⟨i+k,c,by omega,h.trans h1,h2⟩
theorem End.one{σ:Type}{F:σ→Bool×σ}{a z:σ}(h:F a=(true,z)):End F 1 a z:=⟨0,a,rfl,Go1.nil _,h⟩
theorem End.cons{σ:Type}{F:σ→Bool×σ}{j:Nat}{a b z:σ}(h:F a=(false,b))(g:End F j b z):End F (j+1) a z:=aGp (Go1.one h) g
abbrev nxW(x:Int):Int:=aA x 10 9
abbrev kyW(x:Int):Int:=aA x 0 10
abbrev mkW(x:Int):Bool:=ieq (aA x 19 1) 1
abbrev clW'(x:Int):Int:=aA x 20 5
abbrev vrW(x:Int):Int:=aA x 25 18
structure okF (k n c v:Int):Prop where
 k:0≤k∧k<1024
 n:0≤n∧n<512
 c:0≤c∧c<32
 v:0≤v∧v<262144
theorem vY{k n c v:Int}{m:Bool}(h:okF k n c v):aA (bY k n m c v) 0 10=k:=by
 obtain⟨h1,h2,h3,h4⟩:=h
 unfold aA bY bitI
 cases m<;>simp only [Int.reduceToNat,Int.reducePow,cond_true,cond_false]<;>omega
theorem uE{k n c v:Int}{m:Bool}(h:okF k n c v):aA (bY k n m c v) 10 9=n:=by
 obtain⟨h1,h2,h3,h4⟩:=h
 unfold aA bY bitI
 cases m<;>simp only [Int.reduceToNat,Int.reducePow,cond_true,cond_false]<;>omega
theorem pQ{k n c v:Int}{m:Bool}(h:okF k n c v):ieq (aA (bY k n m c v) 19 1) 1=m:=by
 obtain⟨h1,h2,h3,h4⟩:=h
 unfold aA bY bitI
 cases m<;>simp only [Int.reduceToNat,Int.reducePow,cond_true,cond_false,bI,beq_iff_eq,beq_eq_false_iff_ne]<;>omega
theorem qV{k n c v:Int}{m:Bool}(h:okF k n c v):aA (bY k n m c v) 20 5=c:=by
 obtain⟨h1,h2,h3,h4⟩:=h
 unfold aA bY bitI
 cases m<;>simp only [Int.reduceToNat,Int.reducePow,cond_true,cond_false]<;>omega
theorem JP(x a w:Int):aH (aA x a w) w=true:=eO.2 mN
theorem sE(v:Int):0≤aR v∧aR v<262144:=by unfold aR;omega
theorem s7(v:Int):aH (aR v) 18=true:=eO.2 (sE v)
theorem UT(x y z v:Int)(hv:0≤v∧v<262144):okF (aA x 0 10) (aA y 10 9) (aA z 20 5) v:=by
 refine⟨?_,?_,?_,hv⟩
 ·have:=mN (x:=x) (a:=0) (w:=10);simpa using this
 ·have:=mN (x:=y) (a:=10) (w:=9);simpa using this
 ·have:=mN (x:=z) (a:=20) (w:=5);simpa using this
theorem mY{k n c v:Int}{m:Bool}(h:okF k n c v):0≤bY k n m c v∧bY k n m c v≤18446744073709551615:=by
 obtain⟨h1,h2,h3,h4⟩:=h
 unfold bY bitI
 cases m<;>simp only [cond_true,cond_false]<;>omega
theorem wW{xs:List Int}{a b v:Int}(h:0≤a∧a<xs.length):aB (aS xs a v) b=if b=a then v else aB xs b:=by
 rw [vF h]
 unfold aB
 rw [List.length_set]
 by_cases e:b=a
 ·subst e
  rw [if_pos rfl,if_pos h,gD',List.getElem?_set_self (by omega)]
  rfl
 ·rw [if_neg e]
  by_cases hb:0≤b∧b<xs.length
  ·rw [if_pos hb,if_pos hb,gD',List.getElem?_set_ne (by omega),←gD']
  ·rw [if_neg hb,if_neg hb]
theorem dQ{xs:List Int}{a v:Int}(h:0≤a∧a<xs.length):aB (aS xs a v) a=v:=by rw [wW h,if_pos rfl]
theorem cO{xs:List Int}{a b v:Int}(h:b≠a):aB (aS xs a v) b=aB xs b:=by
 by_cases ha:0≤a∧a<xs.length
 ·rw [wW ha,if_neg h]
 ·rw [oM ha]
theorem HP{xs:List Int}{a:Int}(h:0≤a∧a<xs.length):bS xs a=true:=lY.2 h
theorem jK{xs:List Int}{a x:Int}(h:0≤a∧a<xs.length)(hx:aB xs a=x):aT xs a x=true:=by
 unfold aT;rw [HP h,hx,bE];rfl
def B9(t n:Int)(p:FNS×MS):Bool×(FNS×MS):=((fnF t n p.1 p.2).d,((fnF t n p.1 p.2).x,(fnF t n p.1 p.2).s))
theorem QS{t n:Int}{x:FNS}{s:MS}(h:x.at'=0)(hm:mkW (aB s.xs x.pred)=false):fnF t n x s=⟨ieq (nxW (aB s.xs x.pred)) 0,{x with pw:=aB s.xs x.pred,curr:=nxW (aB s.xs x.pred),cw:=0,at':=1,cl:=bD},s.loadd x.pred⟩:=by
 unfold fnF JQ
 rw [h]
 show(wE t n x s).val =_
 unfold wE
 simp only [Tr.val,w0y,w11,w13,w14,w15,w16,w17,w1f,w1g,w19,w1b,w1c,w1d,w1e,w0z,w1a,w0w,w0x,w1h,w1i,w02,w00,w01,w03,hm,cond_false]
 rfl
theorem QQ{t n:Int}{x:FNS}{s:MS}(h:x.at'=1):fnF t n x s=⟨false,{x with at':=2,cl:=bD},s.stored (2*n+5+2*x.me+1) (WU x.curr)⟩:=by
 unfold fnF JQ
 rw [h]
 show(yY t n x s).val =_
 rfl
theorem QP{t n:Int}{x:FNS}{s:MS}(h:x.at'=2)(he:aB s.xs x.pred=x.pw):fnF t n x s=⟨false,{x with at':=3,cl:=bD},s.loadd x.pred⟩:=by
 unfold fnF JQ
 rw [h]
 show(wF t n x s).val =_
 unfold wF
 simp only [Tr.val,w0y,w11,w13,w14,w15,w16,w17,w1f,w1g,w19,w1b,w1c,w1d,w1e,w0z,w1a,w0w,w0x,w1h,w1i,w02,w00,w01,w03,he,bE,Bool.not_true,cond_false]
 simp only [←he]
 rfl
theorem QR{t n:Int}{x:FNS}{s:MS}(h:x.at'=3)(hm:mkW (aB s.xs x.curr)=false)(hk:x.key≤kyW (aB s.xs x.curr)):fnF t n x s=⟨true,{x with cw:=aB s.xs x.curr,cl:=bD},s.loadd x.curr⟩:=by
 unfold fnF JQ
 rw [h]
 show(n8 t n x s).val =_
 unfold n8
 have hk':ile x.10 (aA (aB s.xs x.3) 0 10)=true:=by rw [bX];exact decide_eq_true hk
 simp only [Tr.val,w0y,w11,w13,w14,w15,w16,w17,w1f,w1g,w19,w1b,w1c,w1d,w1e,w0z,w1a,w0w,w0x,w1h,w1i,w02,w00,w01,w03,hm,hk',Bool.not_false,cond_true]
 simp only [←h]
 rfl
theorem WC{t n:Int}{x:FNS}{s:MS}(h:x.at'=3)(hm:mkW (aB s.xs x.curr)=false)(hk:kyW (aB s.xs x.curr)<x.key):fnF t n x s=⟨false,{x with cw:=aB s.xs x.curr,at':=6,cl:=bD},s.loadd x.curr⟩:=by
 unfold fnF JQ
 rw [h]
 show(n8 t n x s).val =_
 unfold n8
 have hk':ile x.10 (aA (aB s.xs x.3) 0 10)=false:=by rw [bX];exact decide_eq_false (by have:aA (aB s.xs x.curr) 0 10<x.key:=hk;show¬x.key≤_;omega)
 simp only [Tr.val,w0y,w11,w13,w14,w15,w16,w17,w1f,w1g,w19,w1b,w1c,w1d,w1e,w0z,w1a,w0w,w0x,w1h,w1i,w02,w00,w01,w03,hm,hk',Bool.not_false,cond_true,cond_false]
 rfl
theorem WD{t n:Int}{x:FNS}{s:MS}(h:x.at'=3)(hm:mkW (aB s.xs x.curr)=true)(hc:clW' (aB s.xs x.curr)=0)(hp:clW' x.pw=0):fnF t n x s=⟨false,{x with cw:=aB s.xs x.curr,at':=5,cl:=bD},s.loadd x.curr⟩:=by
 unfold fnF JQ
 rw [h]
 show(n8 t n x s).val =_
 unfold n8
 have hc':ieq (aA (aB s.xs x.3) 20 5) 0=true:=by rw [show aA (aB s.xs x.3) 20 5=0 from hc];exact bE 0
 have hp':ieq (aA x.2 20 5) 0=true:=by rw [show aA x.2 20 5=0 from hp];exact bE 0
 simp only [Tr.val,w0y,w11,w13,w14,w15,w16,w17,w1f,w1g,w19,w1b,w1c,w1d,w1e,w0z,w1a,w0w,w0x,w1h,w1i,w02,w00,w01,w03,hm,hc',hp',Bool.not_true,cond_false]
 cases h2:ile x.10 (aA (aB s.xs x.3) 0 10)<;>rfl
theorem WE{t n:Int}{x:FNS}{s:MS}(h:x.at'=6)(hn:n≤1000)(hm:0≤x.moved∧x.moved+1≤n):fnF t n x s=⟨false,{x with pred:=x.curr,at':=0,moved:=x.moved+1,cl:=bD},s.stored (2*n+5+2*x.me+0) (WU x.curr)⟩:=by
 unfold fnF JQ
 rw [h]
 show(wH t n x s).val =_
 unfold wH
 have hw:W (x.13+1)=x.13+1:=cJ ⟨by have:0≤x.13:=hm.1;omega,by have:x.13+1≤n:=hm.2;omega⟩
 have hk':ile (x.13+1) n=true:=by rw [bX];exact decide_eq_true hm.2
 simp only [Tr.val,w0y,w11,w13,w14,w15,w16,w17,w1f,w1g,w19,w1b,w1c,w1d,w1e,w0z,w1a,w0w,w0x,w1h,w1i,w02,w00,w01,w03,hw,hk',cond_true]
 rfl
def lnkW(pw cw:Int):Int:=bY (kyW pw) (nxW cw) (mkW pw) (clW' pw) (aR (vrW pw))
theorem XN(pw cw:Int):(bif bif aH (aA pw 0 10) 10 then bif aH (aA cw 10 9) 9 then bif aH (aA pw 20 5) 5 then aH (aR (aA pw 25 18)) 18 else false else false else false then bY (aA pw 0 10) (aA cw 10 9) (ieq (aA pw 19 1) 1) (aA pw 20 5) (aR (aA pw 25 18))else 0)=lnkW pw cw:=by
 simp only [JP,s7,cond_true]
 rfl
theorem HZ(pw cw:Int):okF (kyW pw) (nxW cw) (clW' pw) (aR (vrW pw)):=UT _ _ _ _ (sE _)
theorem MP{t n:Int}{x:FNS}{s:MS}(h:x.at'=5)(hn:n≤1000)(hm:0≤x.moved∧x.moved+1≤n)(hb:0≤x.pred∧x.pred<s.xs.length)(he:aB s.xs x.pred=x.pw)(hk:mkW x.pw=false):fnF t n x s=⟨ieq (nxW x.cw) 0,{x with pw:=lnkW x.pw x.cw,curr:=nxW x.cw,cw:=0,ul:=x.ul++ [x.curr],at':=1,moved:=x.moved+1,cl:=bD},s.cased x.pred x.pw (lnkW x.pw x.cw)⟩:=by
 unfold fnF JQ
 rw [h]
 show(wG t n x s).val =_
 unfold wG
 have hc:=jK hb he
 have hw:W (x.13+1)=x.13+1:=cJ ⟨by have:0≤x.13:=hm.1;omega,by have:x.13+1≤n:=hm.2;omega⟩
 have hk':ile (x.13+1) n=true:=by rw [bX];exact decide_eq_true hm.2
 have hm2:ieq (aA (lnkW x.2 x.4) 19 1) 1=false:=(pQ (HZ x.pw x.cw)).trans hk
 have hn2:aA (lnkW x.2 x.4) 10 9=aA x.4 10 9:=uE (HZ x.pw x.cw)
 have hi:bS s.3 x.1=true:=HP hb
 have hc2:aT s.3 x.1 x.2=true:=hc
 simp only [Tr.val,w0y,w11,w13,w14,w15,w16,w17,w1f,w1g,w19,w1b,w1c,w1d,w1e,w0z,w1a,w0w,w0x,w1h,w1i,w02,w00,w01,w03,XN,hc2,Bool.not_true,hw,hk',hm2,hn2,hi,cond_true,cond_false]
 unfold MS.cased MS.did
 simp only [hc,HP hb,cond_true]
structure Nd where
 a:Int
 k:Int
 m:Bool
def ch(n:Int)(xs:List Int):Int→List Nd→Prop
 | a,[]=>nxW (aB xs a)=0
 | a,b::L=>nxW (aB xs a)=b.a∧(1≤b.a∧b.a≤n)∧kyW (aB xs b.a)=b.k∧mkW (aB xs b.a)=b.m∧clW' (aB xs b.a)=0∧ch n xs b.a L
theorem jT{n:Int}{xs ys:List Int} : ∀ {L:List Nd} {a:Int},ch n xs a L→(∀b,b∈a::L.map Nd.a→aB ys b=aB xs b)→ch n ys a L
 | [],a,h,e=>by
   have h:nxW (aB xs a)=0:=h
   show nxW (aB ys a)=0
   rw [e a (List.mem_cons_self ..)];exact h
 | b::L,a,h,e=>by
   obtain⟨h1,h2,h3,h4,h5,h6⟩:=h
   have eb:=e b.a (by simp)
   refine⟨by rw [e a (by simp)];exact h1,h2,by rw [eb];exact h3,by rw [eb];exact h4,by rw [eb];exact h5,jT h6 (fun c hc=>e c ?_)⟩
   rw [List.map_cons]
   exact List.mem_cons_of_mem _ hc
def sc(k:Int):List Nd→List Nd×List Nd×List Nd
 | []=>([],[],[])
 | b::L=>bif b.m then((sc k L).1,b::(sc k L).2.1,(sc k L).2.2)else(if k≤b.k then([],[],b::L)else(b::(sc k L).1,(sc k L).2.1,(sc k L).2.2))
def hdN:List Nd→Int
 | []=>0
 | b::_=>b.a
def hdWd(xs:List Int):List Nd→Int
 | []=>0
 | b::_=>aB xs b.a
theorem GY{n:Int}{xs:List Int} : ∀ {L:List Nd} {a:Int},ch n xs a L→ ∀b∈L,1≤b.a∧b.a≤n
 | b::L,a,h,c,hc=>by
   rcases List.mem_cons.1 hc with e | e
   ·rw [e];exact h.2.1
   ·exact GY h.2.2.2.2.2 c e
theorem PP{n:Int}{xs:List Int} : ∀ {L:List Nd} {a:Int},ch n xs a L→nxW (aB xs a)=hdN L
 | [],a,h=>h
 | b::L,a,h=>h.1
theorem ZE{n:Int}{xs:List Int}{a:Int}{L:List Nd}(h:ch n xs a L):ieq (hdN L) 0=L.isEmpty:=by
 cases L with
 | nil=>rfl
 | cons b L=>
   have:=h.2.1.1
   show ieq b.a 0=false
   rw [bI,beq_eq_false_iff_ne];omega
structure FC (t n p:Int) (L:List Nd) (x:FNS) (s:MS):Prop where
 ht:1≤t∧t≤1000
 hn:1≤n∧n≤1000
 len:(s.xs.length:Int)=2*n+5*t+6
 me:0≤x.me∧x.me<t
 hp:1≤p∧p≤n+4
 mp:mkW (aB s.xs p)=false
 cp:clW' (aB s.xs p)=0
 ch:ch n s.xs p L
 nd:(p::L.map Nd.a).Nodup
 mv:0≤x.moved∧x.moved+L.length≤n
structure KY (n p:Int) (L:List Nd) (x:FNS) (s:MS) (z:FNS) (s':MS) (j:Nat):Prop where
 ch:ch n s'.xs p ((sc x.key L).1++(sc x.key L).2.2)
 pred:z.pred=((sc x.key L).1.map Nd.a).getLastD p
 pw:z.pw=aB s'.xs z.pred
 curr:z.curr=hdN (sc x.key L).2.2
 cw:z.cw=hdWd s'.xs (sc x.key L).2.2
 ul:z.ul=x.ul++(sc x.key L).2.1.map Nd.a
 tries:z.tries=x.tries
 ab:z.ab=x.ab
 me:z.me=x.me
 same: ∀a,a≠2*n+5+2*x.me→a≠2*n+5+2*x.me+1→a∉p::(sc x.key L).1.map Nd.a→aB s'.xs a=aB s.xs a
 p3:kyW (aB s'.xs p)=kyW (aB s.xs p)∧mkW (aB s'.xs p)=mkW (aB s.xs p)∧clW' (aB s'.xs p)=clW' (aB s.xs p)
 t:s'.t=s.t
 n:s'.n=s.n
 c:s'.c=s.c+j
 len:s'.xs.length=s.xs.length
 okw:okW s.xs→okW s'.xs
theorem n7{t n:Int}{x:FNS}{s:MS}{d:Bool}{x':FNS}{s':MS}(h:fnF t n x s=⟨d,x',s'⟩):B9 t n (x,s)=(d,(x',s')):=by
 unfold B9;rw [h]
theorem RQ(s:MS)(a:Int):(s.loadd a).xs =s.xs:=rfl
theorem nO{s:MS}{a v w:Int}(h:aT s.xs a v=true):(s.cased a v w).xs =aS s.xs a w:=by
 unfold MS.cased MS.did;rw [h];rfl
theorem kS{k:Int}{b:Nd}{L:List Nd}(hm:b.m=false)(hk:k≤b.k):sc k (b::L)=([],[],b::L):=by
 show(bif b.m then _ else _)=_;rw [hm];exact if_pos hk
theorem jF{k:Int}{b:Nd}{L:List Nd}(hm:b.m=false)(hk:b.k<k):sc k (b::L)=(b::(sc k L).1,(sc k L).2.1,(sc k L).2.2):=by
 show(bif b.m then _ else _)=_;rw [hm];exact if_neg (by omega)
theorem kR{k:Int}{b:Nd}{L:List Nd}(hm:b.m=true):sc k (b::L)=((sc k L).1,b::(sc k L).2.1,(sc k L).2.2):=by
 show(bif b.m then _ else _)=_;rw [hm];rfl
theorem BQ(k:Int): ∀L:List Nd,((sc k L).1++(sc k L).2.2).Sublist L
 | []=>List.Sublist.slnil
 | b::L=>by
   cases hm:b.m with
   | true=>rw [kR hm];exact List.Sublist.cons _ (BQ k L)
   | false=>
     by_cases hk:k≤b.k
     ·rw [kS hm hk];exact List.Sublist.refl _
     ·rw [jF hm (by omega)];exact List.Sublist.cons₂ _ (BQ k L)
theorem KY.nil{n p:Int}{x:FNS}{s:MS}(h2:x.pred=p)(h3:x.pw=aB s.xs p)(h4:x.curr=0)(h5:x.cw=0)(hz:nxW (aB s.xs p)=0):KY n p [] x s x s 0 where
 ch:=hz
 pred:=h2
 pw:=by rw [h2];exact h3
 curr:=h4
 cw:=h5
 ul:=by simp [sc]
 tries:=rfl
 ab:=rfl
 me:=rfl
 same:=fun _ _ _ _=>rfl
 p3:=⟨rfl,rfl,rfl⟩
 t:=rfl
 n:=rfl
 c:=by simp
 len:=rfl
 okw:=id
theorem KY.pre{n p:Int}{L:List Nd}{x x1:FNS}{s s1:MS}{z:FNS}{s':MS}{j:Nat}(h:KY n p L x1 s1 z s' j)(hx:s1.xs=s.xs)(hc:s1.c=s.c+1)(ht:s1.t=s.t)(hn:s1.n=s.n)
 (k:x1.key=x.key) (u:x1.ul=x.ul) (tr:x1.tries=x.tries) (ab:x1.ab=x.ab) (me:x1.me=x.me):KY n p L x s z s' (j+1) where
 ch:=by have:=h.ch;rw [k]at this;exact this
 pred:=by have:=h.pred;rw [k]at this;exact this
 pw:=h.pw
 curr:=by have:=h.curr;rw [k]at this;exact this
 cw:=by have:=h.cw;rw [k]at this;exact this
 ul:=by have:=h.ul;rw [k,u]at this;exact this
 tries:=h.tries.trans tr
 ab:=h.ab.trans ab
 me:=h.me.trans me
 same:=by have:=h.same;rw [k,me,hx]at this;exact this
 p3:=by have:=h.p3;rw [hx]at this;exact this
 t:=h.t.trans ht
 n:=h.n.trans hn
 c:=by rw [h.c,hc];omega
 len:=by rw [h.len,hx]
 okw:=by rw [←hx];exact h.okw
def GS(t n:Int)(L:List Nd):Prop:= ∀(p:Int) (x:FNS) (s:MS),x.at'=1→x.pred=p→x.pw=aB s.xs p→x.curr=hdN L→x.cw=0→L≠ []→FC t n p L x s→
    ∃j z s',(∀lim,End (B9 t n) j ({x with limit:=lim},s) ({z with limit:=lim},s'))∧KY n p L x s z s' j∧j≤5*L.length
def VS(t n:Int)(L:List Nd):Prop:= ∀(p:Int) (x:FNS) (s:MS),x.at'=0→x.pred=p→FC t n p L x s→
    ∃j z s',(∀lim,End (B9 t n) j ({x with limit:=lim},s) ({z with limit:=lim},s'))∧KY n p L x s z s' j∧j≤5*L.length+1
theorem aGI{t n:Int}{L:List Nd}(hg:GS t n L):VS t n L:=by
 intro p x s h1 h2 hc
 subst h2
 have hv: ∀lim,B9 t n ({x with limit:=lim},s)=(L.isEmpty,({x with pw:=aB s.xs x.pred,curr:=hdN L,cw:=0,at':=1,cl:=bD,limit:=lim},s.loadd x.pred)):=by
  intro lim
  have:=n7 (QS (t:=t) (n:=n) (x:= {x with limit:=lim}) (s:=s) h1 hc.mp)
  rw [this]
  have e:=PP hc.ch
  simp only [e,ZE hc.ch]
 cases L with
 | nil=>exact⟨1,{x with pw:=aB s.xs x.pred,curr:=0,cw:=0,at':=1,cl:=bD},s.loadd x.pred,fun lim=>End.one (hv lim),(KY.nil (x:= {x with pw:=aB s.xs x.pred,curr:=0,cw:=0,at':=1,cl:=bD}) (s:=s.loadd x.pred) rfl rfl rfl rfl hc.ch).pre rfl rfl rfl rfl rfl rfl rfl rfl rfl,by simp⟩
 | cons b L=>
   obtain⟨j,z,s',e,f,hl⟩:=hg x.pred {x with pw:=aB s.xs x.pred,curr:=hdN (b::L),cw:=0,at':=1,cl:=bD} (s.loadd x.pred) rfl rfl rfl rfl rfl (by simp) ⟨hc.ht,hc.hn,hc.len,hc.me,hc.hp,hc.mp,hc.cp,hc.ch,hc.nd,hc.mv⟩
   exact⟨j+1,z,s',fun lim=>End.cons (hv lim) (e lim),f.pre rfl rfl rfl rfl rfl rfl rfl rfl rfl,by omega⟩
theorem kC{L M:List Nd}(h:L.Sublist M){a:Int}(ha:a∈L.map Nd.a):a∈M.map Nd.a:=(h.map Nd.a).subset ha
theorem vH(k:Int)(L:List Nd):(sc k L).1.Sublist L:=(List.sublist_append_left _ _).trans (BQ k L)
theorem aBb{t n:Int} : ∀L:List Nd,GS t n L:=by
 intro L
 induction L with
 | nil=>intro p x s _ _ _ _ _ h;exact absurd rfl h
 | cons b L ih=>
   intro p x s h1 h2 h3 h4 h0 _ hc
   subst h2
   obtain⟨ht,hn,len,me,hp,mp,cp,hch,nd,mv⟩:=hc
   obtain⟨c1,c2,c3,c4,c5,c6⟩:=hch
   have h4:x.curr=b.a:=h4
   have hb:b.a≠x.pred:=by
    intro e;rw [List.map_cons,List.nodup_cons]at nd;exact nd.1 (by rw [e];exact List.mem_cons_self ..)
   have nd':(b.a::L.map Nd.a).Nodup :=by rw [List.map_cons,List.nodup_cons]at nd;exact nd.2
   have hpL:x.pred∉L.map Nd.a:=by
    intro e;rw [List.map_cons,List.nodup_cons]at nd;exact nd.1 (List.mem_cons_of_mem _ e)
   have hbL:b.a∉L.map Nd.a:=(List.nodup_cons.1 nd').1
   have hLr:=GY c6
   have hLs: ∀a,a∈L.map Nd.a→1≤a∧a≤n:=by
    intro a ha
    obtain⟨c,hc,rfl⟩:=List.mem_map.1 ha
    exact hLr c hc
   have mv2:x.moved+1≤n:=by have:=mv.2;simp only [List.length_cons]at this;omega
   let q1:=2*n+5+2*x.me+1
   have hq1:q1=2*n+5+2*x.me+1:=rfl
   let s1:=s.stored q1 (WU x.curr)
   have e1: ∀lim,B9 t n ({x with limit:=lim},s)=(false,({x with at':=2,cl:=bD,limit:=lim},s1)):=fun lim=>n7 (QQ (x:= {x with limit:=lim}) h1)
   have x1: ∀a,a≠q1→aB s1.xs a=aB s.xs a:=fun a ha=>cO ha
   have e2: ∀lim,B9 t n ({x with at':=2,cl:=bD,limit:=lim},s1)=(false,({x with at':=3,cl:=bD,limit:=lim},s1.loadd x.pred)):=fun lim=>
    n7 (QP (x:= {x with at':=2,cl:=bD,limit:=lim}) rfl ((x1 x.pred (by omega)).trans h3.symm))
   let s2:=s1.loadd x.pred
   have x2: ∀a,a≠q1→aB s2.xs a=aB s.xs a:=x1
   have hcw:aB s2.xs x.curr=aB s.xs b.a:=by rw [h4];exact x2 _ (by omega)
   let s3:=s2.loadd x.curr
   have x3: ∀a,a≠q1→aB s3.xs a=aB s.xs a:=x1
   have l3:s3.xs.length=s.xs.length:=cC _ _ _
   have hw:0≤WU x.curr∧WU x.curr≤18446744073709551615:=sU _
   have w3:okW s.xs→okW s3.xs:=fun h=>eH h hw
   have start: ∀ {k:Nat} {z:FNS×MS} (lim:Int),End (B9 t n) k ({x with at':=3,cl:=bD,limit:=lim},s2) z→End (B9 t n) (k+3 - 1) ({x with limit:=lim},s) z:=by
    intro k z lim h
    have:=End.cons (e1 lim) (End.cons (e2 lim) h)
    exact this
   cases hm:b.m with
   | false=>
     have hm':mkW (aB s2.xs x.curr)=false:=by rw [hcw,c4];exact hm
     by_cases hk:x.key≤b.k
     ·
      have e3: ∀lim,B9 t n ({x with at':=3,cl:=bD,limit:=lim},s2)=(true,({x with at':=3,cl:=bD,limit:=lim,cw:=aB s2.xs x.curr},s3)):=fun lim=>
       n7 (QR (x:= {x with at':=3,cl:=bD,limit:=lim}) rfl hm' (by show x.key≤kyW (aB s2.xs x.curr);rw [hcw,c3];exact hk))
      refine⟨3,{x with at':=3,cl:=bD,cw:=aB s2.xs x.curr},s3,fun lim=>start lim (End.one (e3 lim)),?_,by simp only [List.length_cons];omega⟩
      have es:sc x.key (b::L)=([],[],b::L):=kS hm hk
      refine {ch:=?_,pred:=by simp only [es];rfl,pw:=?_,curr:=by simp only [es];exact h4,cw:=?_,ul:=by simp only [es];simp,tries:=rfl,ab:=rfl,me:=rfl,same:=?_,p3:=?_,t:=rfl,n:=rfl,c:=?_,len:=l3,okw:=w3}
      ·simp only [es]
       refine jT (xs:=s.xs) ⟨c1,c2,c3,c4,c5,c6⟩ (fun a ha=>x3 a ?_)
       have ha:a∈x.pred::b.a::L.map Nd.a:=ha
       rcases List.mem_cons.1 ha with e | e
       ·omega
       ·rcases List.mem_cons.1 e with e | e
        ·omega
        ·have:=hLs a e;omega
      ·exact h3.trans (x3 _ (by omega)).symm
      ·simp only [es]
       show aB s2.xs x.curr=aB s3.xs b.a
       rw [h4];rfl
      ·intro a _ ha _;exact x3 a ha
      ·rw [x3 _ (by omega)];exact⟨rfl,rfl,rfl⟩
      ·show s.c+1+1+1=s.c+((3:Nat):Int);omega
     ·
      have hk2:b.k<x.key:=by omega
      have e3: ∀lim,B9 t n ({x with at':=3,cl:=bD,limit:=lim},s2)=(false,({x with at':=6,cl:=bD,limit:=lim,cw:=aB s2.xs x.curr},s3)):=fun lim=>
       n7 (WC (x:= {x with at':=3,cl:=bD,limit:=lim}) rfl hm' (by show kyW (aB s2.xs x.curr)<x.key;rw [hcw,c3];exact hk2))
      let q0:=2*n+5+2*x.me+0
      have hq0:q0=2*n+5+2*x.me:=by show 2*n+5+2*x.me+0=_;omega
      let s4:=s3.stored q0 (WU x.curr)
      have e4: ∀lim,B9 t n ({x with at':=6,cl:=bD,limit:=lim,cw:=aB s2.xs x.curr},s3)=(false,({x with at':=0,cl:=bD,limit:=lim,cw:=aB s2.xs x.curr,pred:=x.curr,moved:=x.moved+1},s4)):=fun lim=>
       n7 (WE (x:= {x with at':=6,cl:=bD,limit:=lim,cw:=aB s2.xs x.curr}) rfl hn.2 ⟨mv.1,mv2⟩)
      have x4: ∀a,a≠q1→a≠q0→aB s4.xs a=aB s.xs a:=fun a h1 h0=>(cO h0).trans (x3 a h1)
      have l4:s4.xs.length=s.xs.length:=(cC _ _ _).trans l3
      have fc:FC t n b.a L {x with at':=0,cl:=bD,cw:=aB s2.xs x.curr,pred:=x.curr,moved:=x.moved+1} s4:=by
       refine⟨ht,hn,by rw [l4];exact len,me,by omega,?_,?_,?_,nd',?_⟩
       ·rw [x4 _ (by omega) (by omega),c4];exact hm
       ·rw [x4 _ (by omega) (by omega)];exact c5
       ·refine jT c6 (fun a ha=>x4 a ?_ ?_)
        all_goals
         rcases List.mem_cons.1 ha with e | e
         ·omega
         ·have:=hLs a e;omega
       ·have:=mv.2
        simp only [List.length_cons]at this
        exact⟨by show 0≤x.moved+1;omega,by show x.moved+1+L.length≤n;omega⟩
      obtain⟨j,z,s',e,f,hl⟩:=aGI ih b.a {x with at':=0,cl:=bD,cw:=aB s2.xs x.curr,pred:=x.curr,moved:=x.moved+1} s4 rfl h4 fc
      have es:sc x.key (b::L)=(b::(sc x.key L).1,(sc x.key L).2.1,(sc x.key L).2.2):=jF hm hk2
      have hA: ∀a,a∈(sc x.key L).1.map Nd.a→a∈L.map Nd.a:=fun a=>kC (vH _ _)
      have hpz:aB s'.xs x.pred=aB s.xs x.pred:=by
       rw [f.same x.pred (by show x.pred≠2*n+5+2*x.me;omega) (by show x.pred≠2*n+5+2*x.me+1;omega) ?_,x4 _ (by omega) (by omega)]
       intro hh
       rcases List.mem_cons.1 hh with e | e
       ·exact hb e.symm
       ·exact hpL (hA _ e)
      refine⟨j+4,z,s',fun lim=>?_,?_,by simp only [List.length_cons];omega⟩
      ·have:=start lim (End.cons (e3 lim) (End.cons (e4 lim) (e lim)))
       exact this
      ·refine {ch:=?_,pred:=?_,pw:=f.pw,curr:=by simp only [es];exact f.curr,cw:=by simp only [es];exact f.cw,ul:=by simp only [es];exact f.ul,tries:=f.tries,ab:=f.ab,me:=f.me,same:=?_,p3:=by rw [hpz];exact⟨rfl,rfl,rfl⟩,t:=f.t,n:=f.n,c:=?_,len:=f.len.trans l4,okw:=fun h=>f.okw (eH (w3 h) hw) }
       ·simp only [es]
        refine⟨by rw [hpz];exact c1,c2,?_,?_,?_,f.ch⟩
        ·rw [f.p3.1,x4 _ (by omega) (by omega)];exact c3
        ·rw [f.p3.2.1,x4 _ (by omega) (by omega)];exact c4
        ·rw [f.p3.2.2,x4 _ (by omega) (by omega)];exact c5
       ·simp only [es,List.map_cons]
        rw [f.pred,List.getLastD_cons]
       ·intro a h0 h1 ha
        simp only [es,List.map_cons]at ha
        rw [f.same a h0 h1 (fun hh=>ha (List.mem_cons_of_mem _ hh)),x4 a h1 (by omega)]
       ·rw [f.c];show s.c+1+1+1+1+(j:Int)=s.c+((j+4:Nat):Int);omega
   | true=>
     have hm':mkW (aB s2.xs x.curr)=true:=by rw [hcw,c4];exact hm
     have e3: ∀lim,B9 t n ({x with at':=3,cl:=bD,limit:=lim},s2)=(false,({x with at':=5,cl:=bD,limit:=lim,cw:=aB s2.xs x.curr},s3)):=fun lim=>
      n7 (WD (x:= {x with at':=3,cl:=bD,limit:=lim}) rfl hm' (by show clW' (aB s2.xs x.curr)=0;rw [hcw];exact c5) (by show clW' x.pw=0;rw [h3];exact cp))
     have hpw3:aB s3.xs x.pred=x.pw:=(x3 _ (by omega)).trans h3.symm
     have hin:0≤x.pred∧x.pred<s3.xs.length:=by rw [l3];omega
     let w:=lnkW x.pw (aB s2.xs x.curr)
     let s4:=s3.cased x.pred x.pw w
     have hcas:=jK hin hpw3
     have s4x:s4.xs=aS s3.xs x.pred w:=nO hcas
     have hnx:nxW (aB s2.xs x.curr)=hdN L:=by rw [hcw];exact PP c6
     have e4: ∀lim,B9 t n ({x with at':=5,cl:=bD,limit:=lim,cw:=aB s2.xs x.curr},s3)=(L.isEmpty,({x with pw:=w,curr:=hdN L,cw:=0,ul:=x.ul++ [x.curr],at':=1,moved:=x.moved+1,cl:=bD,limit:=lim},s4)):=by
      intro lim
      have:=n7 (MP (t:=t) (x:= {x with at':=5,cl:=bD,limit:=lim,cw:=aB s2.xs x.curr}) (s:=s3) rfl hn.2 ⟨mv.1,mv2⟩ hin hpw3 (by show mkW x.pw=false;rw [h3];exact mp))
      rw [this]
      simp only [hnx,ZE c6]
      rfl
     have x4p:aB s4.xs x.pred=w:=by rw [s4x,dQ hin]
     have x4: ∀a,a≠q1→a≠x.pred→aB s4.xs a=aB s.xs a:=fun a h1 h0=>by rw [s4x,cO h0];exact x3 a h1
     have l4:s4.xs.length=s.xs.length:=by rw [s4x,cC];exact l3
     have hwf:=HZ x.pw (aB s2.xs x.curr)
     have wk:kyW w=kyW (aB s.xs x.pred):=(vY hwf).trans (by rw [h3])
     have wn:nxW w=nxW (aB s2.xs x.curr):=uE hwf
     have wm:mkW w=mkW (aB s.xs x.pred):=(pQ hwf).trans (by rw [h3])
     have wc:clW' w=clW' (aB s.xs x.pred):=(qV hwf).trans (by rw [h3])
     have w4:okW s.xs→okW s4.xs:=fun h=>by rw [s4x];exact eH (w3 h) (mY hwf)
     have hch4:ch n s4.xs x.pred L:=by
      cases L with
      | nil=>show nxW (aB s4.xs x.pred)=0;rw [x4p,wn];exact hnx
      | cons b2 L2=>
        obtain⟨d1,d2,d3,d4,d5,d6⟩:=c6
        have hb2:b2.a≠x.pred:=by intro e;exact hpL (by rw [←e];simp)
        refine⟨by rw [x4p,wn];exact hnx,d2,?_,?_,?_,jT d6 (fun a ha=>x4 a ?_ ?_)⟩
        ·rw [x4 _ (by omega) hb2];exact d3
        ·rw [x4 _ (by omega) hb2];exact d4
        ·rw [x4 _ (by omega) hb2];exact d5
        ·have:=hLs a (by rw [List.map_cons];exact ha);omega
        ·intro e;rw [e]at ha;exact hpL (by rw [List.map_cons];exact ha)
     have es:sc x.key (b::L)=((sc x.key L).1,b::(sc x.key L).2.1,(sc x.key L).2.2):=kR hm
     let x4':FNS:= {x with pw:=w,curr:=hdN L,cw:=0,ul:=x.ul++ [x.curr],at':=1,moved:=x.moved+1,cl:=bD}
     have rest: ∃j z s',(∀lim,End (B9 t n) (j+1) ({x with at':=5,cl:=bD,limit:=lim,cw:=aB s2.xs x.curr},s3) ({z with limit:=lim},s'))∧KY n x.pred L x4' s4 z s' j∧j≤5*L.length:=by
      cases L with
      | nil=>exact⟨0,x4',s4,fun lim=>End.one (e4 lim),KY.nil rfl x4p.symm rfl rfl hch4,by simp⟩
      | cons b2 L2=>
        obtain⟨j,z,s',e,f,hl⟩:=ih x.pred x4' s4 rfl rfl x4p.symm rfl rfl (by simp) ⟨ht,hn,by rw [l4];exact len,me,hp,by rw [x4p,wm];exact mp,by rw [x4p,wc];exact cp,hch4,List.nodup_cons.2 ⟨hpL,(List.nodup_cons.1 nd').2⟩,⟨by show 0≤x.moved+1;omega,by have:=mv.2;simp only [List.length_cons]at this⊢;show x.moved+1+((L2.length+1:Nat):Int)≤n;omega⟩⟩
        exact⟨j,z,s',fun lim=>End.cons (e4 lim) (e lim),f,hl⟩
     obtain⟨j,z,s',e,f,hl⟩:=rest
     refine⟨j+4,z,s',fun lim=>?_,?_,by simp only [List.length_cons];omega⟩
     ·have:=start lim (End.cons (e3 lim) (e lim))
      exact this
     ·refine {ch:=by simp only [es];exact f.ch,pred:=by simp only [es];exact f.pred,pw:=f.pw,curr:=by simp only [es];exact f.curr,cw:=by simp only [es];exact f.cw,ul:=?_,tries:=f.tries,ab:=f.ab,me:=f.me,same:=?_,p3:=?_,t:=f.t,n:=f.n,c:=?_,len:=f.len.trans l4,okw:=fun h=>f.okw (w4 h) }
      ·simp only [es]
       rw [f.ul]
       show x.ul++ [x.curr]++_=_
       rw [h4,List.append_assoc];rfl
      ·intro a h0 h1 ha
       simp only [es]at ha
       rw [f.same a h0 h1 ha,x4 a h1 (fun e=>ha (by rw [e];exact List.mem_cons_self ..))]
      ·have:=f.p3
       rw [x4p]at this
       exact⟨this.1.trans wk,this.2.1.trans wm,this.2.2.trans wc⟩
      ·rw [f.c];show s.c+1+1+1+1+(j:Int)=s.c+((j+4:Nat):Int);omega
theorem QM{t n:Int}(L:List Nd):VS t n L:=aGI (aBb L)
inductive Pa where
 | now (b:Bool)
 | link
 | mark (v:Int)
 | pop (v:Int)
def fndB(ky:Int):List Nd→Bool
 | []=>false
 | b::_=>ieq b.k ky
def paOf(sh kd ky:Int)(B:List Nd):Pa:=
 if kd=4 then .link else if kd=1 then(bif fndB ky B then .now false else .link)else if kd=2 then(bif fndB ky B then .mark 0 else .now false)else if kd=3 then .now (fndB ky B)else
 match B with
 | []=>.now false
 | b::_=>if sh=4 then .pop b.k else .mark b.k
def Pa.ok:Pa→Bool
 | .now b=>b
 | _=>true
def Pa.val:Pa→Int
 | .mark v=>v
 | .pop v=>v
 | _=>0
def Pa.new(ky sp:Int)(B:List Nd):Pa→List Nd
 | .now _=>B
 | .link =>⟨sp,ky,false⟩::B
 | .mark _=>(match B with | []=>[] | b::B'=>⟨b.a,b.k,true⟩::B')
 | .pop _=>B.tail
def Pa.sp(sp:Int):Pa→Int
 | .link =>0
 | _=>sp
def Pa.pops(B:List Nd):Pa→List Int
 | .pop _=>[hdN B]
 | _=>[]
def Pa.plan(pred pw curr cw sp:Int):Pa→PLN
 | .now b=>⟨true,0,b,0,0,0,0,false,0⟩
 | .link =>⟨false,0,true,0,pred,pw,sp,mkW pw,0⟩
 | .mark v=>⟨false,0,true,v,curr,cw,nxW cw,true,0⟩
 | .pop v=>⟨false,0,true,v,pred,pw,nxW cw,mkW pw,curr⟩
theorem aBi{ky cw:Int}{B:List Nd}(h: ∀b B',B=b::B'→b.a≠0∧kyW cw=b.k):gG ky (hdN B) cw=fndB ky B:=by
 cases B with
 | nil=>rfl
 | cons b B'=>
   obtain⟨h1,h2⟩:=h b B' rfl
   show(bif ieq b.a 0 then _ else ieq (aA cw 0 10) ky)=ieq b.k ky
   have h2:aA cw 0 10=b.k:=h2
   rw [h2]
   have:ieq b.a 0=false:=by rw [bI,beq_eq_false_iff_ne];exact h1
   rw [this];rfl
theorem XT{sh kd ky pred pw cw sp:Int}{B:List Nd}(hr:a8 sh kd ky=true)(h: ∀b B',B=b::B'→b.a≠0∧kyW cw=b.k):aJ sh kd ky pred pw (hdN B) cw sp=(paOf sh kd ky B).plan pred pw (hdN B) cw sp:=by
 have hk:=eJ.1 hr
 have he:=aBi (ky:=ky) h
 have n4: ∀a b:Int,a≠b→ieq a b=false:=fun a b h=>by rw [bI,beq_eq_false_iff_ne];exact h
 have kk:kd=1∨kd=2∨kd=3∨kd=4∨kd=5:=by omega
 unfold aJ zK paOf
 simp only [Tr.val,w1m,w1j,w1k,w1n,w1q,w1s,w1t,w1u,w1v,w1p,w1r,w1l,w1o,w0v,w02,w00,w01,w03,hr,Bool.not_true,cond_false,he]
 rcases kk with e | e | e | e | e<;>subst e
 ·simp only [n4 1 4 (by decide),bE,n4 1 2 (by decide),n4 1 5 (by decide),n4 1 3 (by decide),cond_false,cond_true]
  cases fndB ky B<;>rfl
 ·simp only [n4 2 4 (by decide),bE,n4 2 1 (by decide),n4 2 5 (by decide),n4 2 3 (by decide),cond_false,cond_true]
  cases fndB ky B<;>rfl
 ·simp only [n4 3 4 (by decide),bE,n4 3 1 (by decide),n4 3 5 (by decide),n4 3 2 (by decide),cond_false,cond_true]
  rfl
 ·simp only [bE,cond_true]
  rfl
 ·simp only [n4 5 4 (by decide),bE,n4 5 1 (by decide),n4 5 3 (by decide),n4 5 2 (by decide),cond_false,cond_true]
  cases B with
  | nil=>rfl
  | cons b B'=>
    obtain⟨h1,h2⟩:=h b B' rfl
    have h2:aA cw 0 10=b.k:=h2
    have h3:ieq (hdN (b::B')) 0=false:=n4 _ _ h1
    simp only [h3,h2,oL,bE,Bool.true_and,cond_false]
    by_cases hs:sh=4
    ·subst hs;rfl
    ·rw [n4 sh 4 hs]
     show _=Pa.plan _ _ _ _ _ (if (5:Int)=4 then _ else _)
     simp only [if_neg hs]
     rfl
theorem BG{sh kd ky:Int}{B:List Nd}(h:paOf sh kd ky B=.link):bV kd=true:=by
 unfold paOf at h
 by_cases e4:kd=4
 ·subst e4;rfl
 ·rw [if_neg e4]at h
  by_cases e1:kd=1
  ·subst e1;rfl
  ·exfalso
   rw [if_neg e1]at h
   split at h
   ·cases hb:fndB ky B<;>rw [hb]at h<;>cases h
   ·split at h
    ·cases h
    ·split at h
     ·cases h
     ·split at h<;>cases h
theorem wU{sh kd ky:Int}{B:List Nd}(h:bV kd=true):paOf sh kd ky B=.link ∨ ∃b,paOf sh kd ky B=.now b:=by
 unfold bV at h
 unfold paOf
 by_cases e4:kd=4
 ·rw [if_pos e4];exact .inl rfl
 ·by_cases e1:kd=1
  ·rw [if_neg e4,if_pos e1]
   cases fndB ky B
   ·exact .inl rfl
   ·exact .inr ⟨_,rfl⟩
  ·exfalso
   simp only [bI,Bool.or_eq_true,beq_iff_eq]at h
   omega
theorem BH{sh kd ky v:Int}{B:List Nd}(h:paOf sh kd ky B=.mark v): ∃b B',B=b::B':=by
 cases B with
 | cons b B'=>exact⟨b,B',rfl⟩
 | nil=>
   exfalso
   unfold paOf at h
   simp only [show fndB ky []=false from rfl,cond_false]at h
   repeat' split at h
   all_goals cases h
theorem R1{sh kd ky v:Int}{B:List Nd}(h:paOf sh kd ky B=.pop v): ∃b B',B=b::B':=by
 cases B with
 | cons b B'=>exact⟨b,B',rfl⟩
 | nil=>
   exfalso
   unfold paOf at h
   simp only [show fndB ky []=false from rfl,cond_false]at h
   repeat' split at h
   all_goals cases h
theorem u3{n:Int}{xs ys:List Int} : ∀ {L:List Nd} {a a':Int},ch n xs a L→nxW (aB ys a')=nxW (aB xs a)→(∀c,c∈L.map Nd.a→aB ys c=aB xs c)→ch n ys a' L
 | [],a,a',h,e,_=>e.trans h
 | b::L,a,a',h,e,f=>by
   obtain⟨h1,h2,h3,h4,h5,h6⟩:=h
   have eb:=f b.a (by simp)
   exact⟨e.trans h1,h2,by rw [eb];exact h3,by rw [eb];exact h4,by rw [eb];exact h5,u3 h6 (by rw [eb]) (fun c hc=>f c (by rw [List.map_cons];exact List.mem_cons_of_mem _ hc))⟩
theorem CS{n:Int}{xs:List Int}{B:List Nd} : ∀ {A:List Nd} {p:Int},ch n xs p (A++B)→ch n xs ((A.map Nd.a).getLastD p) B
 | [],p,h=>h
 | b::A,p,h=>by
   rw [List.map_cons,List.getLastD_cons]
   exact CS h.2.2.2.2.2
theorem wM(p:Int): ∀A:List Int,A.getLastD p∈p::A
 | []=>List.mem_cons_self ..
 | b::A=>by
   rw [List.getLastD_cons]
   exact List.mem_cons_of_mem _ (wM b A)
theorem u4{n:Int}{xs ys:List Int}{B B':List Nd} : ∀ {A:List Nd} {p:Int},ch n xs p (A++B)→(p::A.map Nd.a).Nodup →
 (∀c,c∈p::A.map Nd.a→c≠(A.map Nd.a).getLastD p→aB ys c=aB xs c)→
 (kyW (aB ys ((A.map Nd.a).getLastD p))=kyW (aB xs ((A.map Nd.a).getLastD p))∧mkW (aB ys ((A.map Nd.a).getLastD p))=mkW (aB xs ((A.map Nd.a).getLastD p))∧clW' (aB ys ((A.map Nd.a).getLastD p))=clW' (aB xs ((A.map Nd.a).getLastD p)))→
 ch n ys ((A.map Nd.a).getLastD p) B'→ch n ys p (A++B')
 | [],p,h,_,_,_,hb=>hb
 | b::A,p,h,nd,e,l3,hb=>by
   rw [List.map_cons,List.getLastD_cons]at e l3 hb
   obtain⟨h1,h2,h3,h4,h5,h6⟩:=h
   have nd':(b.a::A.map Nd.a).Nodup :=by rw [List.map_cons]at nd;exact(List.nodup_cons.1 nd).2
   have hp:p≠(A.map Nd.a).getLastD b.a:=by
    intro e;rw [List.map_cons]at nd
    exact(List.nodup_cons.1 nd).1 (by have:=wM b.a (A.map Nd.a);rw [←e]at this;exact this)
   have hb3:kyW (aB ys b.a)=kyW (aB xs b.a)∧mkW (aB ys b.a)=mkW (aB xs b.a)∧clW' (aB ys b.a)=clW' (aB xs b.a):=by
    by_cases hl:b.a=(A.map Nd.a).getLastD b.a
    ·rw [←hl]at l3;exact l3
    ·rw [e b.a (List.mem_cons_of_mem _ (List.mem_cons_self ..)) hl];exact⟨rfl,rfl,rfl⟩
   refine⟨by rw [e p (List.mem_cons_self ..) hp];exact h1,h2,hb3.1.trans h3,hb3.2.1.trans h4,hb3.2.2.trans h5,u4 h6 nd' (fun c hc hl=>e c (List.mem_cons_of_mem _ hc) hl) l3 hb⟩
theorem IY{n:Int}{xs:List Int}{B:List Nd} : ∀ {A:List Nd} {p:Int},ch n xs p (A++B)→clW' (aB xs p)=0→mkW (aB xs p)=false→(∀b∈A,b.m=false)→clW' (aB xs ((A.map Nd.a).getLastD p))=0∧mkW (aB xs ((A.map Nd.a).getLastD p))=false
 | [],p,_,c,m,_=>⟨c,m⟩
 | b::A,p,h,_,_,hm=>by
   rw [List.map_cons,List.getLastD_cons]
   obtain⟨h1,h2,h3,h4,h5,h6⟩:=h
   exact IY h6 h5 (h4.trans (hm b (List.mem_cons_self ..))) (fun c hc=>hm c (List.mem_cons_of_mem _ hc))
theorem zQ(k:Int): ∀L:List Nd,∀b∈(sc k L).1,b.m=false
 | [],b,h=>by cases h
 | c::L,b,h=>by
   cases hm:c.m with
   | true=>rw [kR hm]at h;exact zQ k L b h
   | false=>
     by_cases hk:k≤c.k
     ·rw [kS hm hk]at h;cases h
     ·rw [jF hm (by omega)]at h
      rcases List.mem_cons.1 h with e | e
      ·rw [e];exact hm
      ·exact zQ k L b e
theorem KL(k:Int): ∀L:List Nd,∀b B,(sc k L).2.2=b::B→b.m=false∧k≤b.k
 | [],b,B,h=>by cases h
 | c::L,b,B,h=>by
   cases hm:c.m with
   | true=>rw [kR hm]at h;exact KL k L b B h
   | false=>
     by_cases hk:k≤c.k
     ·rw [kS hm hk]at h
      simp only [lI']at h
      obtain⟨rfl,_⟩:=h
      exact⟨hm,hk⟩
     ·rw [jF hm (by omega)]at h;exact KL k L b B h
def aEh(ky nx f:Int):Int:=bY ky nx false 0 (aR (vrW f))
theorem XZ{t n:Int}{x:PRS}{st:STS}{s:MS}(h:x.loaded=false):prF t n x st s=⟨false,{x with found:=aB s.xs st.sp,loaded:=true},st,s.loadd st.sp⟩:=by
 unfold prF ZP OG
 simp only [Tr.val,w1m,w1j,w1k,w1n,w1q,w1s,w1t,w1u,w1v,w1p,w1r,w1l,w1o,w0v,w02,w00,w01,w03,h,Bool.not_false,cond_true]
 rfl
theorem SI{t n:Int}{x:PRS}{st:STS}{s:MS}(h:x.loaded=true)(hk:0≤x.key∧x.key<1024)(hn:0≤x.nxt∧x.nxt<512):prF t n x st s=⟨true,x,st,s.stored st.sp (aEh x.key x.nxt x.found)⟩:=by
 unfold prF ZP OG
 have h1:aH x.1 10=true:=eO.2 hk
 have h2:aH x.2 9=true:=eO.2 hn
 have h3:aH 0 5=true:=by decide
 simp only [Tr.val,w1m,w1j,w1k,w1n,w1q,w1s,w1t,w1u,w1v,w1p,w1r,w1l,w1o,w0v,w02,w00,w01,w03,h,h1,h2,h3,s7,Bool.not_true,cond_true,cond_false]
 rfl
theorem aCe{k n f:Int}(hk:0≤k∧k<1024)(hn:0≤n∧n<512):okF k n 0 (aR (vrW f)):=⟨hk,hn,⟨by decide,by decide⟩,sE _⟩
def UJ(old nx:Int)(m:Bool):Int:=bY (kyW old) nx m 0 (aR (vrW old))
theorem G0(old:Int){nx:Int}(hn:0≤nx∧nx<512):okF (kyW old) nx 0 (aR (vrW old)):=by
 refine⟨?_,hn,⟨by decide,by decide⟩,sE _⟩
 have:=mN (x:=old) (a:=0) (w:=10);simpa using this
theorem w7{code:Int}{okk:Bool}{val addr old nx:Int}{m:Bool}{pops:Int}(hn:0≤nx∧nx<512):dD false code okk val addr old nx m pops=UJ old nx m:=by
 unfold dD tO
 have h2:aH nx 9=true:=eO.2 hn
 have h3:aH 0 5=true:=by decide
 simp only [Tr.val,w1m,w1j,w1k,w1n,w1q,w1s,w1t,w1u,w1v,w1p,w1r,w1l,w1o,w0v,w02,w00,w01,w03,h2,h3,JP,s7,cond_true,cond_false]
 rfl
theorem wX{code:Int}{okk:Bool}{val addr old nx:Int}{m:Bool}{pops:Int}(h:clW' old=0):lJ false code okk val addr old nx m pops=false:=by
 unfold lJ tL
 have h:aA old 20 5=0:=h
 simp only [Tr.val,w1m,w1j,w1k,w1n,w1q,w1s,w1t,w1u,w1v,w1p,w1r,w1l,w1o,w0v,w02,w00,w01,w03,h,bE,Bool.not_false,Bool.not_true,cond_true]
theorem sG(x:Int):0≤nxW x∧nxW x<512:=by
 have:=mN (x:=x) (a:=10) (w:=9);simpa using this
def ftG(t n:Int)(p:FTS×STS×MS):Bool×(FTS×STS×MS):=((ftF t n p.1 p.2.1 p.2.2).d,((ftF t n p.1 p.2.1 p.2.2).x,(ftF t n p.1 p.2.1 p.2.2).st,(ftF t n p.1 p.2.1 p.2.2).s))
theorem s8{t n:Int}{x:FTS}{st:STS}{s:MS}{d:Bool}{x':FTS}{st':STS}{s':MS}(h:ftF t n x st s=⟨d,x',st',s'⟩):ftG t n (x,st,s)=(d,(x',st',s')):=by
 unfold ftG;rw [h]
structure ZC (x:FTS) (st:STS):Prop where
 r:a8 x.sh x.kd x.ky=true
 l:bV x.kd=true→st.sp≠0
theorem WR{t n:Int}{x:FTS}{st:STS}{s:MS}{fn:FNS}{s':MS}(h0:x.at'=0)(hm:ZC x st)(hf:fnF t n x.fn s=⟨false,fn,s'⟩):ftF t n x st s=⟨false,{x with fn:=fn,at':=0,cl:=bD,pr:=cV},st,s'⟩:=by
 unfold ftF QV
 rw [h0]
 show(rT t n x st s).val =_
 unfold rT
 have hr:a8 x.6 x.7 x.8=true:=hm.r
 have hf:fnF t n x.12 s=⟨false,fn,s'⟩:=hf
 cases hl:bV x.7 with
 | false=>simp only [Tr.val,w1m,w1j,w1k,w1n,w1q,w1s,w1t,w1u,w1v,w1p,w1r,w1l,w1o,w0v,w02,w00,w01,w03,hr,hl,hf,Bool.not_true,cond_false]
 | true=>
   have h2:ieq st.2 0=false:=by rw [bI,beq_eq_false_iff_ne];exact hm.l hl
   simp only [Tr.val,w1m,w1j,w1k,w1n,w1q,w1s,w1t,w1u,w1v,w1p,w1r,w1l,w1o,w0v,w02,w00,w01,w03,hr,hl,h2,hf,Bool.not_true,cond_true,cond_false]
theorem MX{t n:Int}{x:FTS}{st:STS}{s:MS}{fn:FNS}{s':MS}{p:PLN}(h0:x.at'=0)(hm:ZC x st)(hf:fnF t n x.fn s=⟨true,fn,s'⟩)(ht:x.tries=0)(hft:fn.tries=0)(hmo:0≤x.most)
 (hp:aJ x.sh x.kd x.ky fn.pred fn.pw fn.curr fn.cw st.sp=p) (hc:lJ p.now p.code p.okk p.val p.addr p.old p.nxt p.mark p.pops=false):
 ftF t n x st s=bif p.now then⟨true,{x with code:=p.code,okk:=p.okk,val:=p.val,failed:=false,tries:=0,at':=0,p:=p,fn:=aP,cl:=bD,pr:=cV},⟨st.me,st.sp,st.R++fn.ul⟩,s'⟩
  else bif bV x.kd then⟨false,{x with failed:=false,tries:=0,at':=2,p:=p,fn:=aP,cl:=bD,pr:=⟨x.ky,fn.curr,0,false⟩ },⟨st.me,st.sp,st.R++fn.ul⟩,s'⟩
  else⟨false,{x with failed:=false,tries:=0,at':=3,p:=p,fn:=aP,cl:=bD,pr:=cV},⟨st.me,st.sp,st.R++fn.ul⟩,s'⟩:=by
 unfold ftF QV
 rw [h0]
 show(rT t n x st s).val =_
 unfold rT
 have hr:a8 x.6 x.7 x.8=true:=hm.r
 have hf:fnF t n x.12 s=⟨true,fn,s'⟩:=hf
 have ht:x.5=0:=ht
 have hft:fn.5=0:=hft
 have hw:W (0+0)=0:=by decide
 have hl:ilt x.9 0=false:=by rw [bJ];exact decide_eq_false (by have:0≤x.9:=hmo;omega)
 have hp:aJ x.6 x.7 x.8 fn.1 fn.2 fn.3 fn.4 st.2=p:=hp
 have hc:lJ p.1 p.2 p.3 p.4 p.5 p.6 p.7 p.8 p.9=false:=hc
 cases hlk:bV x.7 with
 | false=>
   simp only [Tr.val,w1m,w1j,w1k,w1n,w1q,w1s,w1t,w1u,w1v,w1p,w1r,w1l,w1o,w0v,w02,w00,w01,w03,hr,hlk,hf,ht,hft,hw,hl,hp,hc,Bool.not_true,cond_true,cond_false]
   try (cases p.now<;>rfl)
 | true=>
   have h2:ieq st.2 0=false:=by rw [bI,beq_eq_false_iff_ne];exact hm.l hlk
   simp only [Tr.val,w1m,w1j,w1k,w1n,w1q,w1s,w1t,w1u,w1v,w1p,w1r,w1l,w1o,w0v,w02,w00,w01,w03,hr,hlk,h2,hf,ht,hft,hw,hl,hp,hc,Bool.not_true,cond_true,cond_false]
   try (cases p.now<;>rfl)
theorem WS{t n:Int}{x:FTS}{st:STS}{s:MS}{y:PRS}{s':MS}(h0:x.at'=2)(hf:prF t n x.pr st s=⟨false,y,st,s'⟩):ftF t n x st s=⟨false,{x with at':=2,fn:=aP,cl:=bD,pr:=y},st,s'⟩:=by
 unfold ftF QV
 rw [h0]
 show(rU t n x st s).val =_
 unfold rU
 have hf:prF t n x.14 st s=⟨false,y,st,s'⟩:=hf
 simp only [Tr.val,w1m,w1j,w1k,w1n,w1q,w1s,w1t,w1u,w1v,w1p,w1r,w1l,w1o,w0v,w02,w00,w01,w03,hf,cond_false]
theorem QW{t n:Int}{x:FTS}{st:STS}{s:MS}{y:PRS}{s':MS}(h0:x.at'=2)(hf:prF t n x.pr st s=⟨true,y,st,s'⟩):ftF t n x st s=⟨false,{x with at':=3,fn:=aP,cl:=bD,pr:=cV},st,s'⟩:=by
 unfold ftF QV
 rw [h0]
 show(rU t n x st s).val =_
 unfold rU
 have hf:prF t n x.14 st s=⟨true,y,st,s'⟩:=hf
 simp only [Tr.val,w1m,w1j,w1k,w1n,w1q,w1s,w1t,w1u,w1v,w1p,w1r,w1l,w1o,w0v,w02,w00,w01,w03,hf,cond_true]
theorem s9{t n:Int}{x:FTS}{st:STS}{s:MS}{w:Int}(h0:x.at'=3)(hc:aT s.xs x.p.addr x.p.old=true)(hw:dD x.p.now x.p.code x.p.okk x.p.val x.p.addr x.p.old x.p.nxt x.p.mark x.p.pops=w):
 ftF t n x st s=⟨true,{x with code:=x.p.code,okk:=x.p.okk,val:=x.p.val,at':=3,fn:=aP,cl:=bD,pr:=cV},⟨st.me,bif bV x.kd then 0 else st.sp,bif ieq x.p.pops 0 then st.R else st.R++ [x.p.pops]⟩,s.cased x.p.addr x.p.old w⟩:=by
 unfold ftF QV
 rw [h0]
 show(wJ t n x st s).val =_
 unfold wJ
 have hc':aT s.3 (FTS.p x).5 (FTS.p x).6=true:=hc
 have hw:dD (FTS.p x).1 (FTS.p x).2 (FTS.p x).3 (FTS.p x).4 (FTS.p x).5 (FTS.p x).6 (FTS.p x).7 (FTS.p x).8 (FTS.p x).9=w:=hw
 have hi:bS s.3 (FTS.p x).5=true:=by
  unfold aT at hc'
  exact(Bool.and_eq_true_iff.1 hc').1
 simp only [Tr.val,w1m,w1j,w1k,w1n,w1q,w1s,w1t,w1u,w1v,w1p,w1r,w1l,w1o,w0v,w02,w00,w01,w03,hc',hw,hi,Bool.not_true,cond_true,cond_false]
 unfold MS.cased MS.did
 simp only [hc,show bS s.xs x.p.addr=true from hi,cond_true]
 cases hlk:bV x.7<;>cases hpp:ieq (FTS.p x).9 0<;>simp only [hlk,hpp,Bool.not_true,Bool.not_false,cond_true,cond_false]<;>rfl
theorem vA{t n:Int}{a:FNS×MS}{d:Bool}{b:FNS×MS}(h:B9 t n a=(d,b)):fnF t n a.1 a.2=⟨d,b.1,b.2⟩:=by
 unfold B9 at h
 rw [pI']at h
 obtain⟨rfl,rfl⟩:=h
 rfl
theorem N5{code:Int}{okk:Bool}{val addr old nx:Int}{m:Bool}{pops:Int} :lJ true code okk val addr old nx m pops=false:=rfl
structure LC (t n me p:Int) (L:List Nd) (xs:List Int):Prop where
 ht:1≤t∧t≤1000
 hn:1≤n∧n≤500
 len:(xs.length:Int)=2*n+5*t+6
 me:0≤me∧me<t
 hp:1≤p∧p≤n+4
 mp:mkW (aB xs p)=false
 cp:clW' (aB xs p)=0
 ch:ch n xs p L
 nd:(p::L.map Nd.a).Nodup
 ln:(L.length:Int)≤n
theorem LC.fc{t n me p:Int}{L:List Nd}{s:MS}(h:LC t n me p L s.xs)(hd key lim:Int):FC t n p L (lW t n me hd key lim) s:=
 ⟨h.ht,⟨h.hn.1,by have:=h.hn.2;omega⟩,h.len,h.me,h.hp,h.mp,h.cp,h.ch,h.nd,⟨Int.le_refl 0,by show(0:Int)+L.length≤n;have:=h.ln;omega⟩⟩
structure FtA (n me p:Int) (L:List Nd) (k ky sp:Int) (a:Pa) (s s':MS) (j:Nat):Prop where
 ch:ch n s'.xs p ((sc k L).1++a.new ky sp (sc k L).2.2)
 mp:mkW (aB s'.xs p)=false
 cp:clW' (aB s'.xs p)=0
 same: ∀b,b≠2*n+5+2*me→b≠2*n+5+2*me+1→b∉p::L.map Nd.a→b≠sp→aB s'.xs b=aB s.xs b
 t:s'.t=s.t
 n:s'.n=s.n
 c:s'.c=s.c+j
 len:s'.xs.length=s.xs.length
 okw:okW s.xs→okW s'.xs
 lim:j≤5*L.length+4
theorem A4{t n:Int}{j j':Nat}{a b:FTS×STS×MS}{z:FTS}{st' st2:STS}{s':MS}{ok:Bool}{v:Int}(hj:j=j'+1)(h:Go1 (ftG t n) j' a b)(e:ftG t n b=(true,(z,st',s')))(hs:st'=st2)
 (hz:z.code=0∧z.okk=ok∧z.val=v∧z.failed=false∧z.tries=0): ∃z:FTS,End (ftG t n) j a (z,st2,s')∧z.code=0∧z.okk=ok∧z.val=v∧z.failed=false∧z.tries=0:=by
 subst hs
 exact⟨z,⟨j',b,hj,h,e⟩,hz⟩
theorem HD{t n:Int}{sh kd ky:Int}{st:STS}{s:MS}{L:List Nd}(hr:a8 sh kd ky=true)(h:LC t n st.me (n+1+b9 sh ky) L s.xs)
 (hl:bV kd=true→1≤st.sp∧st.sp≤n∧st.sp∉L.map Nd.a):
 ∃j s',FtA n st.me (n+1+b9 sh ky) L (bW sh kd ky) ky st.sp (paOf sh kd ky (sc (bW sh kd ky) L).2.2) s s' j∧
  ∀most,0≤most→ ∃z:FTS,End (ftG t n) j ((ftNF t n sh kd ky most st).1,st,s) (z,⟨st.me,(paOf sh kd ky (sc (bW sh kd ky) L).2.2).sp st.sp,st.R++(sc (bW sh kd ky) L).2.1.map Nd.a++(paOf sh kd ky (sc (bW sh kd ky) L).2.2).pops (sc (bW sh kd ky) L).2.2⟩,s')∧
   z.code=0∧z.okk=(paOf sh kd ky (sc (bW sh kd ky) L).2.2).ok ∧z.val=(paOf sh kd ky (sc (bW sh kd ky) L).2.2).val ∧z.failed=false∧z.tries=0:=by
 have hrng:=eJ.1 hr
 generalize hp:n+1+b9 sh ky=p at h⊢
 generalize hk:bW sh kd ky=key at⊢
 obtain⟨j,z,s1,e,f,hj⟩:=QM (t:=t) (n:=n) L p (lW t n st.me (b9 sh ky) key 0) s rfl hp (h.fc _ _ _)
 have fch:ch n s1.xs p ((sc key L).1++(sc key L).2.2):=f.ch
 have fpr:z.pred=((sc key L).1.map Nd.a).getLastD p:=f.pred
 have fcu:z.curr=hdN (sc key L).2.2:=f.curr
 have fcw:z.cw=hdWd s1.xs (sc key L).2.2:=f.cw
 have ful:z.ul=(sc key L).2.1.map Nd.a:=by have:=f.ul;exact this.trans (List.nil_append _)
 have fsame: ∀a,a≠2*n+5+2*st.me→a≠2*n+5+2*st.me+1→a∉p::(sc key L).1.map Nd.a→aB s1.xs a=aB s.xs a:=f.same
 have fpw:=f.pw
 have hA:=zQ key L
 have hsub:=BQ key L
 have hAL: ∀a,a∈(sc key L).1.map Nd.a→a∈L.map Nd.a:=fun a=>kC (vH key L)
 have hBL: ∀a,a∈(sc key L).2.2.map Nd.a→a∈L.map Nd.a:=fun a=>kC ((List.sublist_append_right _ _).trans hsub)
 have hnd:(p::((sc key L).1++(sc key L).2.2).map Nd.a).Nodup :=by
  refine List.Sublist.nodup ?_ h.nd
  exact List.Sublist.cons₂ _ (hsub.map _)
 have hmp1:mkW (aB s1.xs p)=false:=f.p3.2.1.trans h.mp
 have hcp1:clW' (aB s1.xs p)=0:=f.p3.2.2.trans h.cp
 generalize hA0:(sc key L).1=A at*
 generalize (sc key L).2.1=U at*
 generalize hB:(sc key L).2.2=B at*
 have hsp:=CS fch
 have hlast:=IY fch hcp1 hmp1 hA
 rw [←fpr]at hsp hlast
 have hbb: ∀b B',B=b::B'→(b.a≠0∧kyW z.cw=b.k)∧1≤b.a∧b.a≤n∧z.cw=aB s1.xs b.a∧clW' z.cw=0∧ch n s1.xs b.a B'∧nxW (aB s1.xs z.pred)=b.a:=by
  rintro b B' rfl
  obtain⟨h1,h2,h3,h4,h5,h6⟩:=hsp
  have e1:z.cw=aB s1.xs b.a:=fcw
  rw [←e1]at h3 h5
  exact⟨⟨by omega,h3⟩,h2.1,h2.2,e1,h5,h6,h1⟩
 have hplan:=XT (pred:=z.pred) (pw:=z.pw) (sp:=st.sp) hr (fun b B' h=>(hbb b B' h).1)
 have hnA:(p::A.map Nd.a).Nodup :=by
  refine List.Sublist.nodup ?_ hnd
  refine List.Sublist.cons₂ _ ?_
  rw [List.map_append]
  exact List.sublist_append_left _ _
 have hnB: ∀a,a∈p::A.map Nd.a→a∉B.map Nd.a:=by
  intro a ha hb
  rw [List.map_append,←List.cons_append]at hnd
  exact(List.nodup_append.1 hnd).2.2 a ha a hb rfl
 have hpm:z.pred∈p::A.map Nd.a:=by rw [fpr];exact wM _ _
 have hpL:z.pred∈p::L.map Nd.a:=by
  rcases List.mem_cons.1 hpm with q | q
  ·rw [q];exact List.mem_cons_self ..
  ·exact List.mem_cons_of_mem _ (hAL _ q)
 have hprg:1≤z.pred∧z.pred≤n+4:=by
  rcases List.mem_cons.1 hpL with q | q
  ·rw [q];exact h.hp
  ·obtain⟨c,hc,q⟩:=List.mem_map.1 q
   have:=GY h.ch c hc
   omega
 have hlen1:(s1.xs.length:Int)=2*n+5*t+6:=by rw [f.len];exact h.len
 have hin:0≤z.pred∧z.pred<s1.xs.length:=by have:=h.ht;omega
 have htn:=h.hn
 have hme:=h.me
 have walk: ∀most,0≤most→ ∃(j':Nat) (b:FNS×MS),j=j'+1∧Go1 (ftG t n) j' ((ftNF t n sh kd ky most st).1,st,s) ({ (ftNF t n sh kd ky most st).1 with fn:=b.1,at':=0,cl:=bD,pr:=cV},st,b.2)∧fnF t n b.1 b.2=⟨true,{z with limit:=W (most - 0) },s1⟩:=by
  intro most hmo
  obtain⟨j',b,h1,h2,h3⟩:=e (W (most - 0))
  refine⟨j',b,h1,?_,vA h3⟩
  have:=aGE (G:=ftG t n) (fun q:FNS×MS=>(({ (ftNF t n sh kd ky most st).1 with fn:=q.1,at':=0,cl:=bD,pr:=cV} :FTS),st,q.2)) ?_ h2
  ·have e0:((ftNF t n sh kd ky most st).1:FTS)= { (ftNF t n sh kd ky most st).1 with fn:= {lW t n st.me (b9 sh ky) key 0 with limit:=W (most - 0) },at':=0,cl:=bD,pr:=cV} :=by
    subst hk;rfl
   rw [e0]
   exact this
  ·intro a c hac
   exact s8 (WR (x:= { (ftNF t n sh kd ky most st).1 with fn:=a.1,at':=0,cl:=bD,pr:=cV}) rfl ⟨hr,fun hlk=>by have:=hl hlk;omega⟩ (vA hac))
 obtain⟨P,hP⟩: ∃P:PLN,P=(paOf sh kd ky B).plan z.pred z.pw (hdN B) z.cw st.sp:=⟨_,rfl⟩
 rw [←hP]at hplan
 have sought: ∀most,0≤most→ ∀b:FNS×MS,fnF t n b.1 b.2=⟨true,{z with limit:=W (most - 0) },s1⟩→lJ P.now P.code P.okk P.val P.addr P.old P.nxt P.mark P.pops=false→
  ftG t n (({ (ftNF t n sh kd ky most st).1 with fn:=b.1,at':=0,cl:=bD,pr:=cV} :FTS),st,b.2)=
   bif P.now then(true,(({ (ftNF t n sh kd ky most st).1 with code:=P.code,okk:=P.okk,val:=P.val,failed:=false,tries:=0,at':=0,p:=P,fn:=aP,cl:=bD,pr:=cV} :FTS),(⟨st.me,st.sp,st.R++U.map Nd.a⟩:STS),s1))
   else bif bV kd then(false,(({ (ftNF t n sh kd ky most st).1 with failed:=false,tries:=0,at':=2,p:=P,fn:=aP,cl:=bD,pr:=⟨ky,hdN B,0,false⟩ } :FTS),(⟨st.me,st.sp,st.R++U.map Nd.a⟩:STS),s1))
   else(false,(({ (ftNF t n sh kd ky most st).1 with failed:=false,tries:=0,at':=3,p:=P,fn:=aP,cl:=bD,pr:=cV} :FTS),(⟨st.me,st.sp,st.R++U.map Nd.a⟩:STS),s1)):=by
  intro most hmo b hb hc
  have:=MX (x:= { (ftNF t n sh kd ky most st).1 with fn:=b.1,at':=0,cl:=bD,pr:=cV}) (st:=st) (p:=P) rfl ⟨hr,fun hlk=>by have:=hl hlk;omega⟩ hb rfl f.tries hmo (by show aJ sh kd ky z.pred z.pw z.curr z.cw st.sp=P;rw [fcu];exact hplan) hc
  unfold ftG
  rw [this]
  dsimp only
  rw [ful,fcu]
  have hkd:(ftNF t n sh kd ky most st).fst.kd =kd:=rfl
  rw [hkd]
  cases P.now
  ·cases bV kd<;>rfl
  ·rfl
 have hmemB: ∀b B',B=b::B'→b.a∈L.map Nd.a:=by
  rintro b B' rfl;exact hBL _ (by simp)
 generalize hact:paOf sh kd ky B=act at hP⊢
 cases act with
 | now bb=>
   subst hP
   refine⟨j,s1,?_,fun most hmo=>?_⟩
   ·refine {ch:=by rw [hA0,hB];exact fch,mp:=hmp1,cp:=hcp1,same:=fun b h0 h1 h2 _=>fsame b h0 h1 (fun hh=>h2 ?_),t:=f.t,n:=f.n,c:=f.c,len:=f.len,okw:=f.okw,lim:=by omega}
    rcases List.mem_cons.1 hh with q | q
    ·rw [q];exact List.mem_cons_self ..
    ·exact List.mem_cons_of_mem _ (hAL _ q)
   ·obtain⟨j',b,h1,h2,h3⟩:=walk most hmo
    have h4:=sought most hmo b h3 N5
    have h4:ftG t n _=(true,(_,_,s1)):=h4
    exact A4 h1 h2 h4 (by simp only [Pa.pops,List.append_nil];rfl) ⟨rfl,rfl,rfl,rfl,rfl⟩
 | link=>
   subst hP
   have hlk:=BG hact
   obtain⟨g1,g2,g3⟩:=hl hlk
   have hspn:z.pred≠st.sp:=by
    intro q
    rcases List.mem_cons.1 hpL with r | r
    ·have:=h.hp;have:=cW sh ky;omega
    ·rw [q]at r;exact g3 r
   have hcr:0≤hdN B∧hdN B<512:=by
    cases hBB:B with
    | nil=>exact⟨Int.le_refl 0,by show(0:Int)<512;decide⟩
    | cons b B'=>have:=hbb b B' hBB;show 0≤b.a∧b.a<512;omega
   have hky:0≤ky∧ky<1024:=by omega
   have hspi:0≤st.sp∧st.sp<s1.xs.length:=by have:=h.ht;omega
   let s2:=s1.loadd st.sp
   let nw:=aEh ky (hdN B) (aB s1.xs st.sp)
   let s3:=s2.stored st.sp nw
   let w:=UJ z.pw st.sp (mkW z.pw)
   let s4:=s3.cased z.pred z.pw w
   have x3: ∀a,a≠st.sp→aB s3.xs a=aB s1.xs a:=fun a ha=>cO ha
   have x3s:aB s3.xs st.sp=nw:=dQ hspi
   have l3:s3.xs.length=s1.xs.length:=cC _ _ _
   have hin3:0≤z.pred∧z.pred<s3.xs.length:=by rw [l3];exact hin
   have hcas:=jK hin3 ((x3 _ hspn).trans fpw.symm)
   have s4x:s4.xs=aS s3.xs z.pred w:=nO hcas
   have x4: ∀a,a≠z.pred→aB s4.xs a=aB s3.xs a:=fun a ha=>by rw [s4x,cO ha]
   have x4p:aB s4.xs z.pred=w:=by rw [s4x,dQ hin3]
   have l4:s4.xs.length=s1.xs.length:=by rw [s4x,cC];exact l3
   have hnok:=aCe (f:=aB s1.xs st.sp) hky hcr
   have hwok:=G0 z.pw (nx:=st.sp) ⟨by omega,by omega⟩
   have hspA:st.sp∉p::A.map Nd.a:=by
    intro q
    rcases List.mem_cons.1 q with r | r
    ·have:=h.hp;have:=cW sh ky;omega
    ·exact g3 (hAL _ r)
   have hspB:st.sp∉B.map Nd.a:=fun q=>g3 (hBL _ q)
   have hpB:z.pred∉B.map Nd.a:=hnB _ hpm
   refine⟨j+3,s4,?_,fun most hmo=>?_⟩
   ·refine {ch:=?_,mp:=?_,cp:=?_,same:=fun b h0 h1 h2 h3=>?_,t:=f.t,n:=f.n,c:=?_,len:=l4.trans f.len,okw:=fun q=>?_,lim:=by omega}
    ·rw [hA0,hB]
     refine u4 fch hnA ?_ ?_ ?_
     ·intro c hc hcl
      rw [←fpr]at hcl
      rw [x4 c hcl,x3 c (fun q=>hspA (by rw [←q];exact hc))]
     ·rw [←fpr,x4p,←fpw]
      exact⟨vY hwok,pQ hwok,(qV hwok).trans (by rw [fpw];exact hlast.1.symm)⟩
     ·rw [←fpr]
      refine⟨by rw [x4p];exact uE hwok,⟨g1,g2⟩,?_,?_,?_,?_⟩
      ·rw [x4 _ (Ne.symm hspn),x3s];exact vY hnok
      ·rw [x4 _ (Ne.symm hspn),x3s];exact pQ hnok
      ·rw [x4 _ (Ne.symm hspn),x3s];exact qV hnok
      ·refine u3 hsp ?_ (fun c hc=>?_)
       ·rw [x4 _ (Ne.symm hspn),x3s]
        exact(uE hnok).trans (PP hsp).symm
       ·rw [x4 c (fun q=>hpB (by rw [←q];exact hc)),x3 c (fun q=>hspB (by rw [←q];exact hc))]
    ·by_cases q:p=z.pred
     ·rw [q,x4p,←hlast.2,←fpw];exact pQ hwok
     ·rw [x4 p q,x3 p (fun r=>hspA (by rw [←r];exact List.mem_cons_self ..))];exact hmp1
    ·by_cases q:p=z.pred
     ·rw [q,x4p];exact qV hwok
     ·rw [x4 p q,x3 p (fun r=>hspA (by rw [←r];exact List.mem_cons_self ..))];exact hcp1
    ·rw [x4 b (fun q=>h2 (by rw [q];exact hpL)),x3 b h3]
     refine fsame b h0 h1 (fun hh=>h2 ?_)
     rcases List.mem_cons.1 hh with q | q
     ·rw [q];exact List.mem_cons_self ..
     ·exact List.mem_cons_of_mem _ (hAL _ q)
    ·show s1.c+1+1+1=s.c+((j+3:Nat):Int);rw [f.c];omega
    ·rw [s4x];exact eH (eH (f.okw q) (mY hnok)) (mY hwok)
   ·obtain⟨j',b,h1,h2,h3⟩:=walk most hmo
    have h4:=sought most hmo b h3 (wX (by show clW' z.pw=0;rw [fpw];exact hlast.1))
    rw [hlk]at h4
    have h4:ftG t n _=(false,(_,_,s1)):=h4
    have h5:=s8 (WS (t:=t) (n:=n) (x:= { (ftNF t n sh kd ky most st).1 with failed:=false,tries:=0,at':=2,p:=Pa.plan z.pred z.pw (hdN B) z.cw st.sp .link,fn:=aP,cl:=bD,pr:=⟨ky,hdN B,0,false⟩ }) (st:=⟨st.me,st.sp,st.R++U.map Nd.a⟩) (s:=s1) rfl (XZ rfl))
    have h6:=s8 (QW (t:=t) (n:=n) (x:= { (ftNF t n sh kd ky most st).1 with failed:=false,tries:=0,at':=2,p:=Pa.plan z.pred z.pw (hdN B) z.cw st.sp .link,fn:=aP,cl:=bD,pr:=⟨ky,hdN B,aB s1.xs st.sp,true⟩ }) (st:=⟨st.me,st.sp,st.R++U.map Nd.a⟩) (s:=s2) rfl (SI rfl hky hcr))
    have h7:=s8 (s9 (t:=t) (n:=n) (x:= { (ftNF t n sh kd ky most st).1 with failed:=false,tries:=0,at':=3,p:=Pa.plan z.pred z.pw (hdN B) z.cw st.sp .link,fn:=aP,cl:=bD,pr:=cV}) (st:=⟨st.me,st.sp,st.R++U.map Nd.a⟩) (s:=s3) rfl hcas (w7 (m:=mkW z.pw) (by show 0≤st.sp∧st.sp<512;omega)))
    have e1:bV ((ftNF t n sh kd ky most st).1).kd =true:=hlk
    exact A4 (by omega) (h2.trans (Go1.cons h4 (Go1.cons h5 (Go1.one h6)))) h7 (by simp only [e1,Pa.pops,List.append_nil,cond_true];rfl) ⟨rfl,rfl,rfl,rfl,rfl⟩
 | mark v=>
   subst hP
   have hlk:bV kd=false:=by
    cases hq:bV kd with
    | false=>rfl
    | true=>rcases wU (sh:=sh) (ky:=ky) (B:=B) hq with q | ⟨_,q⟩<;>rw [hact]at q<;>cases q
   obtain⟨b,B',hBB⟩:=BH hact
   obtain⟨⟨hb0,hbk⟩,hb1,hb2,hbw,hbc,hch2,hnx⟩:=hbb b B' hBB
   have hcu:hdN B=b.a:=by rw [hBB];rfl
   have hbm:mkW (aB s1.xs b.a)=false:=by
    have:=(KL key L b B' (by rw [hB];exact hBB)).1
    rw [hBB]at hsp
    exact hsp.2.2.2.1.trans this
   have hbi:0≤b.a∧b.a<s1.xs.length:=by have:=h.ht;omega
   let w:=UJ z.cw (nxW z.cw) true
   let s4:=s1.cased b.a z.cw w
   have hcas:aT s1.xs (hdN B) z.cw=true:=by rw [hcu];exact jK hbi hbw.symm
   have s4x:s4.xs=aS s1.xs b.a w:=nO (by rw [←hcu];exact hcas)
   have x4: ∀a,a≠b.a→aB s4.xs a=aB s1.xs a:=fun a ha=>by rw [s4x,cO ha]
   have x4p:aB s4.xs b.a=w:=by rw [s4x,dQ hbi]
   have l4:s4.xs.length=s1.xs.length:=by rw [s4x,cC]
   have hwok:=G0 z.cw (nx:=nxW z.cw) (sG _)
   have hbA:b.a∉p::A.map Nd.a:=fun q=>hnB _ q (by rw [hBB];simp)
   have hbB:b.a∉B'.map Nd.a:=by
    have:=hnd
    rw [hBB,List.map_append,←List.cons_append]at this
    exact(List.nodup_cons.1 (List.nodup_append.1 this).2.1).1
   refine⟨j+1,s4,?_,fun most hmo=>?_⟩
   ·refine {ch:=?_,mp:=?_,cp:=?_,same:=fun c h0 h1 h2 h3=>?_,t:=f.t,n:=f.n,c:=?_,len:=l4.trans f.len,okw:=fun q=>?_,lim:=by omega}
    ·rw [hA0,hB,hBB]
     refine u4 fch hnA ?_ ?_ ?_
     ·intro c hc _
      exact x4 c (fun q=>hbA (by rw [←q];exact hc))
     ·rw [←fpr,x4 z.pred (fun q=>hbA (by rw [←q];exact hpm))]
      exact⟨rfl,rfl,rfl⟩
     ·rw [←fpr]
      refine⟨?_,⟨hb1,hb2⟩,?_,?_,?_,?_⟩
      ·rw [x4 z.pred (fun q=>hbA (by rw [←q];exact hpm))];exact hnx
      ·rw [x4p];exact(vY hwok).trans hbk
      ·rw [x4p];exact pQ hwok
      ·rw [x4p];exact qV hwok
      ·refine u3 hch2 ?_ (fun c hc=>x4 c (fun q=>hbB (by rw [←q];exact hc)))
       rw [x4p,←hbw];exact uE hwok
    ·rw [x4 p (fun q=>hbA (by rw [←q];exact List.mem_cons_self ..))];exact hmp1
    ·rw [x4 p (fun q=>hbA (by rw [←q];exact List.mem_cons_self ..))];exact hcp1
    ·rw [x4 c (fun q=>h2 (List.mem_cons_of_mem _ (by rw [q];exact hmemB b B' hBB)))]
     refine fsame c h0 h1 (fun hh=>h2 ?_)
     rcases List.mem_cons.1 hh with q | q
     ·rw [q];exact List.mem_cons_self ..
     ·exact List.mem_cons_of_mem _ (hAL _ q)
    ·show s1.c+1=s.c+((j+1:Nat):Int);rw [f.c];omega
    ·rw [s4x];exact eH (f.okw q) (mY hwok)
   ·obtain⟨j',b2,h1,h2,h3⟩:=walk most hmo
    have h4:=sought most hmo b2 h3 (wX (by show clW' z.cw=0;exact hbc))
    rw [hlk]at h4
    have h4:ftG t n _=(false,(_,_,s1)):=h4
    have h7:=s8 (s9 (t:=t) (n:=n) (x:= { (ftNF t n sh kd ky most st).1 with failed:=false,tries:=0,at':=3,p:=Pa.plan z.pred z.pw (hdN B) z.cw st.sp (.mark v),fn:=aP,cl:=bD,pr:=cV}) (st:=⟨st.me,st.sp,st.R++U.map Nd.a⟩) (s:=s1) rfl hcas (w7 (m:=true) (sG _)))
    have e1:bV ((ftNF t n sh kd ky most st).1).kd =false:=hlk
    have e3:s1.cased (hdN B) z.cw w=s4:=by rw [hcu]
    have h7:ftG t n _=(true,(_,_,s1.cased (hdN B) z.cw w)):=h7
    rw [e3]at h7
    exact A4 (by omega) (h2.trans (Go1.one h4)) h7 (by simp only [e1,Pa.pops,List.append_nil,cond_false];rfl) ⟨rfl,rfl,rfl,rfl,rfl⟩
 | pop v=>
   subst hP
   have hlk:bV kd=false:=by
    cases hq:bV kd with
    | false=>rfl
    | true=>rcases wU (sh:=sh) (ky:=ky) (B:=B) hq with q | ⟨_,q⟩<;>rw [hact]at q<;>cases q
   obtain⟨b,B',hBB⟩:=R1 hact
   obtain⟨⟨hb0,hbk⟩,hb1,hb2,hbw,hbc,hch2,hnx⟩:=hbb b B' hBB
   have hcu:hdN B=b.a:=by rw [hBB];rfl
   let w:=UJ z.pw (nxW z.cw) (mkW z.pw)
   let s4:=s1.cased z.pred z.pw w
   have hcas:=jK hin fpw.symm
   have s4x:s4.xs=aS s1.xs z.pred w:=nO hcas
   have x4: ∀a,a≠z.pred→aB s4.xs a=aB s1.xs a:=fun a ha=>by rw [s4x,cO ha]
   have x4p:aB s4.xs z.pred=w:=by rw [s4x,dQ hin]
   have l4:s4.xs.length=s1.xs.length:=by rw [s4x,cC]
   have hwok:=G0 z.pw (nx:=nxW z.cw) (sG _)
   have hpB:z.pred∉B.map Nd.a:=hnB _ hpm
   refine⟨j+1,s4,?_,fun most hmo=>?_⟩
   ·refine {ch:=?_,mp:=?_,cp:=?_,same:=fun c h0 h1 h2 h3=>?_,t:=f.t,n:=f.n,c:=?_,len:=l4.trans f.len,okw:=fun q=>?_,lim:=by omega}
    ·rw [hA0,hB,hBB]
     refine u4 fch hnA ?_ ?_ ?_
     ·intro c hc hcl
      rw [←fpr]at hcl
      exact x4 c hcl
     ·rw [←fpr,x4p,←fpw]
      exact⟨vY hwok,pQ hwok,(qV hwok).trans (by rw [fpw];exact hlast.1.symm)⟩
     ·rw [←fpr]
      refine u3 hch2 ?_ (fun c hc=>x4 c (fun q=>hpB (by rw [hBB,←q];exact List.mem_cons_of_mem _ hc)))
      rw [x4p,←hbw];exact uE hwok
    ·by_cases q:p=z.pred
     ·rw [q,x4p,←hlast.2,←fpw];exact pQ hwok
     ·rw [x4 p q];exact hmp1
    ·by_cases q:p=z.pred
     ·rw [q,x4p];exact qV hwok
     ·rw [x4 p q];exact hcp1
    ·rw [x4 c (fun q=>h2 (by rw [q];exact hpL))]
     refine fsame c h0 h1 (fun hh=>h2 ?_)
     rcases List.mem_cons.1 hh with q | q
     ·rw [q];exact List.mem_cons_self ..
     ·exact List.mem_cons_of_mem _ (hAL _ q)
    ·show s1.c+1=s.c+((j+1:Nat):Int);rw [f.c];omega
    ·rw [s4x];exact eH (f.okw q) (mY hwok)
   ·obtain⟨j',b2,h1,h2,h3⟩:=walk most hmo
    have h4:=sought most hmo b2 h3 (wX (by show clW' z.pw=0;rw [fpw];exact hlast.1))
    rw [hlk]at h4
    have h4:ftG t n _=(false,(_,_,s1)):=h4
    have h7:=s8 (s9 (t:=t) (n:=n) (x:= { (ftNF t n sh kd ky most st).1 with failed:=false,tries:=0,at':=3,p:=Pa.plan z.pred z.pw (hdN B) z.cw st.sp (.pop v),fn:=aP,cl:=bD,pr:=cV}) (st:=⟨st.me,st.sp,st.R++U.map Nd.a⟩) (s:=s1) rfl hcas (w7 (m:=mkW z.pw) (sG _)))
    have e1:bV ((ftNF t n sh kd ky most st).1).kd =false:=hlk
    have e2:ieq (Pa.plan z.pred z.pw (hdN B) z.cw st.sp (.pop v)).pops 0=false:=by
     rw [bI,beq_eq_false_iff_ne];show hdN B≠0;rw [hcu];exact hb0
    refine A4 (by omega) (h2.trans (Go1.one h4)) h7 (by simp only [e1,e2,Pa.pops,cond_false];rfl) ⟨rfl,rfl,rfl,rfl,rfl⟩
theorem End.congr{σ:Type}{F:σ→Bool×σ}{j:Nat}{a a' z:σ}(h:F a=F a')(g:End F j a' z):End F j a z:=by
 obtain⟨i,b,rfl,h1,h2⟩:=g
 cases h1 with
 | nil=>exact⟨0,a,rfl,Go1.nil _,h.trans h2⟩
 | cons q t=>exact⟨_,b,rfl,Go1.cons (h.trans q) t,h2⟩
theorem Go1.congr{σ:Type}{F:σ→Bool×σ}{j:Nat}{a a' z:σ}(h:F a=F a')(g:Go1 F (j+1) a' z):Go1 F (j+1) a z:=by
 cases g with
 | cons q t=>exact Go1.cons (h.trans q) t
def xZ(t n:Int)(p:ENS×STS×MS):Bool×(ENS×STS×MS):=((enF t n p.1 p.2.1 p.2.2).d,((enF t n p.1 p.2.1 p.2.2).e,(enF t n p.1 p.2.1 p.2.2).st,(enF t n p.1 p.2.1 p.2.2).s))
theorem lA{t n:Int}{x:ENS}{st:STS}{s:MS}{d:Bool}{x':ENS}{st':STS}{s':MS}(h:enF t n x st s=⟨d,x',st',s'⟩):xZ t n (x,st,s)=(d,(x',st',s')):=by
 unfold xZ;rw [h]
def dB(n:Int)(xs:List Int)(b:Int):Bool:=oddB (aB xs (n+4+b))
theorem gJ{y:Int}(h:0≤y):oddB y=true↔y%2=1:=by
 unfold oddB
 rw [Int.tmod_eq_emod_of_nonneg h,bI]
 simp only [Bool.not_eq_true',beq_eq_false_iff_ne]
 omega
def itN(n a:Int):Nat→Int
 | 0=>a
 | i+1=>itN n (cP n a) i
theorem sF{n a:Int}(h:1≤a∧a≤n):cP n a=if a<n then a+1 else 1:=by
 unfold cP
 rw [Int.tmod_eq_emod_of_nonneg (by omega)]
 by_cases e:a<n
 ·rw [if_pos e,Int.emod_eq_of_lt (by omega) e]
 ·have:a=n:=by omega
  rw [if_neg e,this,Int.emod_self];rfl
theorem A8{n:Int} : ∀(i:Nat) (a:Int),1≤a∧a≤n→1≤itN n a i∧itN n a i≤n
 | 0,a,h=>h
 | i+1,a,h=>A8 i _ (by rw [sF h];split<;>omega)
theorem HQ{n:Int} : ∀(i:Nat) (a:Int),1≤a∧a≤n→(i:Int)<n→itN n a i=if a+i≤n then a+i else a+i - n
 | 0,a,h,_=>by
   show a=_
   rw [if_pos (by simp;omega)];simp
 | i+1,a,h,hi=>by
   show itN n (cP n a) i=_
   rw [HQ i _ (by rw [sF h];split<;>omega) (by omega),sF h]
   by_cases e:a<n
   ·simp only [if_pos e]
    split<;>split<;>omega
   ·simp only [if_neg e]
    split<;>split<;>omega
theorem XI{n a b:Int}(h:1≤a∧a≤n)(hb:1≤b∧b≤n): ∃i:Nat,(i:Int)<n∧itN n a i=b:=by
 by_cases e:a≤b
 ·refine⟨(b - a).toNat,by omega,?_⟩
  rw [HQ _ _ h (by omega)]
  split<;>omega
 ·refine⟨(b+n - a).toNat,by omega,?_⟩
  rw [HQ _ _ h (by omega)]
  split<;>omega
theorem JH{t n:Int}{e:ENS}{st:STS}{s:MS}{a left f:Int}(h:e.ph=1)(hx:e.x=⟨0,a,left,f,false⟩)(ho:dB n s.xs a=true)(hl:1<left):
 enF t n e st s=⟨false,{e with ph:=1,x:=⟨0,cP n a,left - 1,aB s.xs (n+4+a),false⟩ },st,s.loadd (n+4+a)⟩:=by
 have ho:oddB (aB s.xs (n+4+a))=true:=ho
 have hz:ile (left - 1) 0=false:=by rw [bX];exact decide_eq_false (by omega)
 unfold enF
 simp only [h,hx,jU,ho,AT,hz]
theorem aAX{t n:Int}{e:ENS}{st:STS}{s:MS}{a f:Int}(h:e.ph=1)(hx:e.x=⟨0,a,1,f,false⟩)(ho:dB n s.xs a=true):
 enF t n e st s=⟨e.dn||ieq (st.R.length:Int) 0,{e with ph:=2,sh:=e.dn||ieq (st.R.length:Int) 0,x:=⟨0,cP n a,0,aB s.xs (n+4+a),false⟩ },{st with sp:=0},s.loadd (n+4+a)⟩:=by
 have ho:oddB (aB s.xs (n+4+a))=true:=ho
 have hz:ile (1 - 1) 0=true:=by decide
 unfold enF
 simp only [h,hx,jU,ho,AT,hz]
 rfl
theorem VT{t n:Int}{e:ENS}{st:STS}{s:MS}{a left f:Int}(h:e.ph=1)(hx:e.x=⟨0,a,left,f,false⟩)(ho:dB n s.xs a=false):
 enF t n e st s=⟨false,{e with ph:=1,x:=⟨0,a,left,aB s.xs (n+4+a),true⟩ },st,s.loadd (n+4+a)⟩:=by
 have ho:oddB (aB s.xs (n+4+a))=false:=ho
 unfold enF
 simp only [h,hx,jU,ho]
theorem aAY{t n:Int}{e:ENS}{st:STS}{s:MS}{a left f:Int}(h:e.ph=1)(hx:e.x=⟨0,a,left,f,true⟩)(hc:aT s.xs (n+4+a) f=true):
 enF t n e st s=⟨true,{e with ph:=1,x:=⟨a,a,left,f,true⟩ },{st with sp:=a},s.cased (n+4+a) f (WU (f+1))⟩:=by
 unfold enF
 simp only [h,hx,jU,hc]
theorem wB{t n:Int}{e:ENS}{st:STS}{s:MS}(h:e.ph=0)(hz:st.sp=0):enF t n e st s=enF t n {e with ph:=1,x:=⟨0,at0 t n st.me,n,0,false⟩ } st s:=by
 unfold enF
 have:ieq st.sp 0=true:=by rw [hz];exact bE 0
 simp only [h,this,jU,AT]
structure MC (t n:Int) (s:MS):Prop where
 ht:1≤t∧t≤1000
 hn:1≤n∧n≤500
 len:(s.xs.length:Int)=2*n+5*t+6
 okw:okW s.xs
theorem zU{t n:Int} : ∀(i:Nat) (a left f:Int) (e:ENS) (st:STS) (s:MS),e.ph=1→e.x=⟨0,a,left,f,false⟩→1≤a∧a≤n→(i:Int)<left→MC t n s→
 (∀k,k<i→dB n s.xs (itN n a k)=true)→dB n s.xs (itN n a i)=false→
 ∃z s',End (xZ t n) (i+2) (e,st,s) (z,{st with sp:=itN n a i},s')∧z.sh=e.sh∧z.dn=e.dn∧s'.xs=aS s.xs (n+4+itN n a i) (aB s.xs (n+4+itN n a i)+1)∧s'.c=s.c+(i+2:Nat)∧s'.t=s.t∧s'.n=s.n
 | 0,a,left,f,e,st,s,h1,h2,ha,hl,mc,_,hf=>by
   have hin:0≤n+4+a∧n+4+a<s.xs.length:=by have:=mc.ht;have:=mc.len;omega
   have hcas:=jK (xs:=(s.loadd (n+4+a)).xs) (x:=aB s.xs (n+4+a)) hin rfl
   have hw:=iP mc.okw (n+4+a)
   have hev:aB s.xs (n+4+a)%2≠1:=by
    intro q
    have:dB n s.xs a=true:=(gJ hw.1).2 q
    rw [show itN n a 0=a from rfl,this]at hf;cases hf
   have e1:=lA (VT (t:=t) (st:=st) h1 h2 hf)
   have e2:=lA (aAY (t:=t) (n:=n) (e:= {e with ph:=1,x:=⟨0,a,left,aB s.xs (n+4+a),true⟩ }) (st:=st) (s:=s.loadd (n+4+a)) rfl rfl hcas)
   refine⟨_,_,End.cons e1 (End.one e2),rfl,rfl,?_,?_,rfl,rfl⟩
   ·have hwu:WU (aB s.xs (n+4+a)+1)=aB s.xs (n+4+a)+1:=i4 (by omega)
    rw [nO hcas,hwu];rfl
   ·show s.c+1+1=s.c+((0+2:Nat):Int);omega
 | i+1,a,left,f,e,st,s,h1,h2,ha,hl,mc,ho,hf=>by
   have e1:=lA (JH (t:=t) (st:=st) h1 h2 (ho 0 (by omega)) (by omega))
   have hn:=sF ha
   obtain⟨z,s',g1,g2,g3,g4,g5,g6,g7⟩:=zU i (cP n a) (left - 1) (aB s.xs (n+4+a)) {e with ph:=1,x:=⟨0,cP n a,left - 1,aB s.xs (n+4+a),false⟩ } st (s.loadd (n+4+a)) rfl rfl (by rw [hn];split<;>omega) (by omega) ⟨mc.ht,mc.hn,mc.len,mc.okw⟩ (fun k hk=>ho (k+1) (by omega)) hf
   exact⟨z,s',End.cons e1 g1,g2,g3,g4,by rw [g5];show s.c+1+_=_;omega,g6,g7⟩
theorem zV{t n:Int} : ∀(m:Nat) (a f:Int) (e:ENS) (st:STS) (s:MS),e.ph=1→e.x=⟨0,a,((m+1:Nat):Int),f,false⟩→1≤a∧a≤n→
 (∀k,k≤m→dB n s.xs (itN n a k)=true)→
 ∃b x s',Go1 (xZ t n) m (e,st,s) b∧xZ t n b=(e.dn||ieq (st.R.length:Int) 0,({e with ph:=2,sh:=e.dn||ieq (st.R.length:Int) 0,x:=x},{st with sp:=0},s'))∧s'.xs=s.xs∧s'.c=s.c+(m+1:Nat)∧s'.t=s.t∧s'.n=s.n
 | 0,a,f,e,st,s,h1,h2,ha,ho=>⟨_,_,_,Go1.nil _,lA (aAX (st:=st) h1 h2 (ho 0 (by omega))),rfl,rfl,rfl,rfl⟩
 | m+1,a,f,e,st,s,h1,h2,ha,ho=>by
   have hn:=sF ha
   have e1:=lA (JH (t:=t) (st:=st) h1 h2 (ho 0 (by omega)) (by omega))
   obtain⟨b,x,s',g1,g2,g3,g4,g5,g6⟩:=zV (t:=t) m (cP n a) (aB s.xs (n+4+a)) {e with ph:=1,x:=⟨0,cP n a,((m+1+1:Nat):Int) - 1,aB s.xs (n+4+a),false⟩ } st (s.loadd (n+4+a)) rfl (by have q:(((m+1+1:Nat):Int) - 1)=((m+1:Nat):Int):=(by omega);rw [q]) (by rw [hn];split<;>omega) (fun k hk=>ho (k+1) (by omega))
   exact⟨b,x,s',Go1.cons e1 g1,g2,g3,by rw [g4];show s.c+1+_=_;omega,g5,g6⟩
end Go.Sh
