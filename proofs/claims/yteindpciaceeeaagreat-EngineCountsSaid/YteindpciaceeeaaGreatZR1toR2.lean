import Derived.Test.YteindpciaceeeaaGreatZSh31
set_option linter.all false
set_option maxHeartbeats 8000000
namespace Go.Sh
open Go Go.Proofs
variable [Con]
def DO(th tm:Nat→Int):Nat→Nat→Int→List Int
 | 0,_,_=>[]
 | c+1,i,left=>List.replicate (min (tm i) left).toNat (th i)++DO th tm c (i+1) (left - ((min (tm i) left).toNat :Int))
abbrev VW(n:Nat)(th tm:Nat→Int):AVal:=.view n 2 (fun i=>[.int .i64 (th i),.int .i64 (tm i)])
structure alO (n:Nat) (th tm:Nat→Int) (xs:List Int) (x:Nat×Int×Nat):Prop where
 hi:x.1≤n
 hl:0≤x.2.1∧x.2.1≤60000
 hj:x.2.2≤xs.length
 hx:xs.drop x.2.2=DO th tm (n - x.1) x.1 x.2.1
structure alI (n:Nat) (th tm:Nat→Int) (xs:List Int) (i0:Int) (x:Nat×Int×Nat×Int):Prop where
 hi:x.1<n
 h0:(x.1:Int)=i0
 hl:0≤x.2.1∧x.2.1≤60000
 hm:x.2.2.2≤x.2.1
 hj:x.2.2.1≤xs.length
 hx:xs.drop x.2.2.1=List.replicate x.2.2.2.toNat (th x.1)++DO th tm (n - (x.1+1)) (x.1+1) (x.2.1 - (x.2.2.2.toNat:Int))
def RB(l n:Nat)(th tm:Nat→Int)(xs:List Int):Hint Nat:= {X:=Nat×Int×Nat,st:=fun x=>([.func (.yield l) [] [],.ptr 1 0,.O,.int .i64 x.2.1,.O,.O,.O,VW n th tm,.int .i64 (n:Int),.int .i64 (x.1:Int)]++List.replicate 19 .O,[some (.abs x.2.2 []),some (.cells [VW n th tm])]),ok:=alO n th tm xs,mu:=fun x=>n - x.1,keep:=[0,1,3,7,8,9] }
def RA(l n:Nat)(th tm:Nat→Int)(xs:List Int)(i0:Int):Hint Nat:= {X:=Nat×Int×Nat×Int,st:=fun x=>([.func (.yield l) [] [],.ptr 1 0,.O,.int .i64 x.2.1,.O,.ptr 2 0,.int .i64 x.2.2.2,VW n th tm,.int .i64 (n:Int),.int .i64 (x.1:Int)]++List.replicate 19 .O,[some (.abs x.2.2.1 []),some (.cells [VW n th tm]),some (.cells [.int .i64 (th x.1),.int .i64 (tm x.1)])]),ok:=alI n th tm xs i0,mu:=fun x=>x.2.2.2.toNat,keep:=[0,1,3,5,6,7,8,9] }
def aE9(l n:Nat)(th tm:Nat→Int)(xs:List Int):FuncId→Nat→Option (pR Nat):=fun _ k=>match k with
 | 2=>some (.states (RB l n th tm xs))
 | 5=>some (.statesAt 9 (RA l n th tm xs))
 | _=>none
def YX(l n:Nat)(th tm:Nat→Int)(xs:List Int){Fr:Nat→PHeap→Prop}(hY:jU Tryz.prog l xs Fr)(K:AVal→aC Nat→Prop):Prop:=okSt (RB l n th tm xs) (Hint.ok (RB l n th tm xs)) (.func (Fn.yield l) [] []::.ptr 1 0::.O::.int .i64 60000::.O::.O::.O::(.view n 2 fun i=>[.int .i64 (th i),.int .i64 (tm i)])::.int .i64 (↑n:Int)::.int .i64 0::(tO' 19 [])) [some (.abs 0 []),some (.cells [.view n 2 fun i=>[.int .i64 (th i),.int .i64 (tm i)]])]∧ ∀(x:(Nat×Int×Nat)),alO n th tm xs x→bif ilt (↑x.1:Int) (↑n:Int)then((0:Int)≤(↑x.1:Int)∧(↑x.1:Int)<(↑n:Int))∧okSt (RA l n th tm xs (↑(Prod.fst x):Int)) (Hint.ok (RA l n th tm xs (↑(Prod.fst x):Int))) (.func (Fn.yield l) [] []::.ptr 1 0::.O::.int .i64 (Prod.snd x).1::.O::.ptr 2 0::.int .i64 (bif ilt (Prod.snd x).1 (tm (Int.toNat (↑x.1:Int)))then(Prod.snd x).1 else tm (Int.toNat (↑x.1:Int)))::(.view n 2 fun i=>[.int .i64 (th i),.int .i64 (tm i)])::.int .i64 (↑n:Int)::.int .i64 (↑x.1:Int)::(tO' 19 [])) [some (.abs (Prod.snd x).2 []),some (.cells [.view n 2 fun i=>[.int .i64 (th i),.int .i64 (tm i)]]),some (.cells [.int .i64 (th (Int.toNat (↑x.1:Int))),.int .i64 (tm (Int.toNat (↑x.1:Int)))])]∧ ∀(x_1:(Nat×Int×Nat×Int)),alI n th tm xs (↑x.1:Int) x_1→bif ilt 0 (Prod.snd x_1.2).2 then(l=l∧XG xs (Prod.fst (Prod.snd (Prod.snd x_1))) (th x_1.1))∧okSt (RA l n th tm xs (↑(Prod.fst x):Int)) (fun x'=>Hint.ok (RA l n th tm xs (↑(Prod.fst x):Int)) x'∧Hint.mu (RA l n th tm xs (↑(Prod.fst x):Int)) x'<Hint.mu (RA l n th tm xs (↑(Prod.fst x):Int)) x_1) (.func (Fn.yield l) [] []::.ptr 1 0::.O::.int .i64 (W ((Prod.snd x_1).1 - 1))::.O::.ptr 2 0::.int .i64 (W ((Prod.snd x_1.2).2 - 1))::(.view n 2 fun i=>[.int .i64 (th i),.int .i64 (tm i)])::.int .i64 (↑n:Int)::.int .i64 (↑x_1.1:Int)::(tO' 19 [])) [some (.abs ((Prod.snd x_1.2).1+1) []),some (.cells [.view n 2 fun i=>[.int .i64 (th i),.int .i64 (tm i)]]),some (.cells [.int .i64 (th x_1.1),.int .i64 (tm x_1.1)])]else okSt (RB l n th tm xs) (fun x'=>Hint.ok (RB l n th tm xs) x'∧Hint.mu (RB l n th tm xs) x'<Hint.mu (RB l n th tm xs) x) (.func (Fn.yield l) [] []::.ptr 1 0::.O::.int .i64 (Prod.snd x_1).1::.O::.O::.O::(.view n 2 fun i=>[.int .i64 (th i),.int .i64 (tm i)])::.int .i64 (↑n:Int)::.int .i64 (W ((↑x_1.1:Int)+1))::(tO' 19 [])) [some (.abs (Prod.snd x_1.2).1 []),some (.cells [.view n 2 fun i=>[.int .i64 (th i),.int .i64 (tm i)]])]else K (.tup []) [some (.abs (Prod.snd x).2 []),some (.cells [.view n 2 fun i=>[.int .i64 (th i),.int .i64 (tm i)]])]
theorem LJ(l n:Nat)(th tm:Nat→Int)(xs:List Int){Fr:Nat→PHeap→Prop}(hY:jU Tryz.prog l xs Fr)(K:AVal→aC Nat→Prop)(h:YX l n th tm xs hY K):aB (frI Fr) Tryz.prog 114 [.func (.yield l) [] [],.ptr 1 0] [some (.abs 0 []),some (.cells [VW n th tm])] K:=by
 exact aD (E:=itE Tryz.prog hY) Tryz.checked.mixed (L:=aE9 l n th tm xs) (n:=4) (aJ (by kernel_rfl) h)
theorem aC1(l n:Nat)(th tm:Nat→Int)(xs:List Int){Fr:Nat→PHeap→Prop}(hY:jU Tryz.prog l xs Fr)(K:AVal→aC Nat→Prop)(hn:n≤4294967296)(hxs:xs=DO th tm n 0 60000)(hK:K (.tup []) [some (.abs xs.length []),some (.cells [VW n th tm])]):YX l n th tm xs hY K:=by
 refine⟨aP (H:=RB l n th tm xs) (0,60000,0) rfl ⟨Nat.zero_le _,⟨by decide,by decide⟩,Nat.zero_le _,by rw [hxs];rfl⟩,?_⟩
 rintro⟨i,leftO,jO⟩ ⟨hiO,⟨hlO0,hlO1⟩,hjO,hxO⟩;dsimp only at hiO hlO0 hlO1 hjO hxO⊢;refine aT (fun e=>?_) (fun e=>?_)
 ·rw [aV,dT']at e;have hin:i<n:=by omega
  have hmin:(bif ilt leftO (tm (Int.toNat (i:Int)))then leftO else tm (Int.toNat (i:Int)))=min (tm i) leftO:=by
   rw [Int.toNat_natCast,aV]
   by_cases h:leftO<tm i
   ·rw [decide_eq_true h];show leftO=_;omega
   ·rw [decide_eq_false h];show tm i=_;omega
  refine⟨⟨by omega,by omega⟩,?_,?_⟩
  ·rw [hmin,Int.toNat_natCast];refine aP (H:=RA l n th tm xs (i:Int)) (i,leftO,jO,min (tm i) leftO) rfl ⟨hin,rfl,⟨hlO0,hlO1⟩,by dsimp only;omega,hjO,?_⟩
   dsimp only;rw [hxO,show n - i=(n - (i+1))+1 by omega]
   rfl
  ·rintro⟨i2,left,j,m⟩ ⟨hi,h0,⟨hl0,hl1⟩,hm,hj,hx⟩;dsimp only at hi h0 hl0 hl1 hm hj hx⊢;have h0:i2=i:=by omega
   subst h0;refine aT (fun e=>?_) (fun e=>?_)
   ·rw [aV,dT']at e;have e1:W (left - 1)=left - 1:=dB ⟨by omega,by omega⟩
    have e2:W (m - 1)=m - 1:=dB ⟨by omega,by omega⟩
    have hmt:m.toNat=(m - 1).toNat +1:=by omega
    rw [hmt,List.replicate_succ,List.cons_append]at hx;have hlen:=congrArg List.length hx;rw [List.length_drop,List.length_cons]at hlen;refine⟨⟨rfl,⟨?_⟩⟩,?_⟩
    ·have:=congrArg (fun l=>l[0]?) hx
     simpa using this
    ·rw [e1,e2];refine aP (H:=RA l n th tm xs (i2:Int)) (i2,left - 1,j+1,m - 1) rfl ⟨⟨hi,rfl,⟨by dsimp only;omega,by dsimp only;omega⟩,by dsimp only;omega,by dsimp only;omega,?_⟩,?_⟩
     ·dsimp only;have:=congrArg List.tail hx;rw [List.tail_drop,List.tail_cons]at this;rw [this];congr 2;omega
     ·show(m - 1).toNat <m.toNat;omega
   ·rw [aV,dF']at e
    have e1:W ((i2:Int)+1)=((i2+1:Nat):Int):=by
     have:=dB (x:=(i2:Int)+1) ⟨by omega,by omega⟩
     exact this.trans (by omega)
    rw [e1];refine aP (H:=RB l n th tm xs) (i2+1,left,j) rfl ⟨⟨hi,⟨hl0,hl1⟩,hj,?_⟩,?_⟩
    ·dsimp only;have hz:m.toNat=0:=by omega
     rw [hx,hz];show []++_=_;rw [List.nil_append];congr 1;omega
    ·show n - (i2+1)<n - i2;omega
 ·rw [aV,dF']at e;have hin:i=n:=by omega
  subst hin;rw [Nat.sub_self]at hxO;have hlen:=congrArg List.length hxO;rw [List.length_drop]at hlen;have hlen:xs.length - jO=0:=hlen;have hjl:jO=xs.length:=by omega
  subst hjl;exact hK
end Go.Sh
