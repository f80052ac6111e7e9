import Derived.Test.YtedeloeobocpiaaGreatZGHtoFR2
set_option linter.all false
set_option maxHeartbeats 8000000
namespace Go.Sh
open Go Go.Proofs
variable [Con]
noncomputable def hpRunZ:aM Ob:=fun args h=>match args,h with
 | [.ptr 0 0,.int .i64 most,.slice 2 0 1 1],[e1,e2,some (.cells [.iface 114 (.ptr 3 0)]),some (.abs (.help t n x) [4]),some (.abs (.store t2 n2 st) [])]=>(match fD 1 [e1,e2]with
   | some (l,s)=>some (.pre ((l=s.xs.length∧t2=t∧n2=n)∧(0≤most∧most≤1000000)∧mO t n most.toNat x st s) (.ite (cA t n most.toNat x st s).2.1 (.ret (.tup [.int .i64 ((cA t n most.toNat x st s).1:Int),.bool true]) [a9 1 (cA t n most.toNat x st s).2.2.2.2,bA (cA t n most.toNat x st s).2.2.2.2,some (.cells [.iface 114 (.ptr 3 0)]),some (.cells [.ptr 4 0,.int .i64 (cA t n most.toNat x st s).2.2.1.u,.int .u64 (cA t n most.toNat x st s).2.2.1.no,.int .i64 (cA t n most.toNat x st s).2.2.1.rounds,.int .i64 (cA t n most.toNat x st s).2.2.1.limit,.int .i64 (cA t n most.toNat x st s).2.2.1.at',.int .u64 (cA t n most.toNat x st s).2.2.1.found,.int .i64 (cA t n most.toNat x st s).2.2.1.sh,.int .i64 (cA t n most.toNat x st s).2.2.1.kd,.int .i64 (cA t n most.toNat x st s).2.2.1.ky,.bool (cA t n most.toNat x st s).2.2.1.p.now,.int .i64 (cA t n most.toNat x st s).2.2.1.p.code,.bool (cA t n most.toNat x st s).2.2.1.p.okk,.int .i64 (cA t n most.toNat x st s).2.2.1.p.val,.int .i64 (cA t n most.toNat x st s).2.2.1.p.addr,.int .u64 (cA t n most.toNat x st s).2.2.1.p.old,.int .i64 (cA t n most.toNat x st s).2.2.1.p.nxt,.bool (cA t n most.toNat x st s).2.2.1.p.mark,.int .i64 (cA t n most.toNat x st s).2.2.1.p.pops,.O,.O,.O,.O,.O]),some (.abs (.store t n (cA t n most.toNat x st s).2.2.2.1) [])]) (.ret (.tup [.int .i64 ((cA t n most.toNat x st s).1:Int),.bool false]) [a9 1 (cA t n most.toNat x st s).2.2.2.2,bA (cA t n most.toNat x st s).2.2.2.2,some (.cells [.iface 114 (.ptr 3 0)]),some (.abs (.help t n (cA t n most.toNat x st s).2.2.1) [4]),some (.abs (.store t n (cA t n most.toNat x st s).2.2.2.1) [])])))
   | none=>none)
 | _,_=>none
theorem JD:sT' 20 hpRunZ:=by
 intro args h o ho K hK
 unfold hpRunZ at ho
 split at ho
 case h_2=>cases ho
 rename_i most e1 e2 t n x t2 n2 st
 split at ho<;>cases ho
 rename_i l s hm
 obtain⟨⟨⟨hl,rfl,rfl⟩,hb,ok⟩,hK⟩:=hK
 unfold mO at ok
 unfold cA at hK
 have hh:=cC hm hl
 cases hh
 refine x6 t2 n2 most.toNat most x st s _ (TN t2 n2 most.toNat most x st s _ (by omega) (by omega) ok ?_)
 generalize cX t2 n2 most.toNat x st s=r at hK⊢
 obtain⟨c,b,y,sy,my⟩:=r
 cases b with
 | true=>exact hK
 | false=>exact hK
def stNewZ:aM Ob:=fun args h=>match args,h with
 | [.agg [.int .i64 t,.int .i64 n],.int .i64 me],[]=>some (.pre True (.ret (.ptr 0 0) [some (.abs (.store t n ⟨me,0,[]⟩) [])]))
 | _,_=>none
theorem KJ:sT' 19 stNewZ:=by
 intro args h o ho K hK
 unfold stNewZ at ho
 split at ho<;>cases ho
 rename_i t n me
 obtain⟨_,hK⟩:=hK
 refine aC.pack (tb:=tbl) ?_
 refine C1 [.agg [.int .i64 t,.int .i64 n],.int .i64 me] [] _ rfl _ ⟨trivial,⟨[0,1],[some (.abs (.store t n ⟨me,0,[]⟩) [])],.store t n ⟨me,0,[]⟩,0,0,iU t n ⟨me,0,[]⟩,[],by kernel_rfl,by kernel_rfl,rfl,rfl,hK⟩⟩
noncomputable def runZ:aM Ob:=aM.or hpRunZ anRunS
theorem SK:sT' 20 runZ:=aBK JD A2
noncomputable def EFs:=((EFr.addS 19 stNewZ KJ).addS 20 runZ SK)
noncomputable def EFt:=EFs
def rI:AVal→Int
 | .int _ n=>n
 | _=>0
def rK(row:Nat→List AVal)(i:Nat):Int:=rI ((row i).getD 0 .O)
def rY(row:Nat→List AVal)(i:Nat):Int:=rI ((row i).getD 1 .O)
structure f5 (row:Nat→List AVal):Prop where
 h:row=fun i=>[.int .i64 (rK row i),.int .i64 (rY row i)]
def lB(k:Int)(m:Nat)(f g:Nat→Int):Bool:=(List.range m).all fun j=>bX k (f j) (g j)
theorem pU{k:Int}{m:Nat}{f g:Nat→Int} :lB k m f g=true↔ ∀j,j<m→bX k (f j) (g j)=true:=by
 unfold lB;simp
def inF(f g:Nat→Int)(k:Int):Nat→Bool
 | 0=>false
 | n+1=>bif ieq (g n) k&&ieq (f n) 1 then true else bif ieq (g n) k&&ieq (f n) 2 then false else inF f g k n
def inO(f g:Nat→Int)(k:Int)(n:Nat):Bool:=inF f g k n
def bE(f:Nat→Int):Nat→Int
 | 0=>0
 | n+1=>bif ieq (f n) 4 then bE f n+1 else bif ilt 0 (bE f n)then bE f n - 1 else bE f n
def cI(f g:Nat→Int):Nat→List Int
 | 0=>[]
 | n+1=>bif ieq (f n) 4 then cI f g n++ [g n]else cI f g n
def lO(f g:Nat→Int)(n:Nat):List Int:=(cI f g n).drop (((cI f g n).length :Int) - bE f n).toNat
def eK(f g:Nat→Int):Nat→Int→List Int
 | 0,_=>[]
 | i+1,need=>bif ilt 0 need then(bif ieq (f i) 4&&ieq (bE f i) (need - 1)then g i::eK f g i (need - 1)else eK f g i need)else []
def kA(f g:Nat→Int)(n:Nat):List Int:=eK f g n (bE f n)
def setF(f g:Nat→Int)(n:Nat):List Int:=((List.range 1000).map fun i:Nat=>(i:Int)).filter fun k=>inF f g k n
def bB(sh:Int)(f g:Nat→Int)(n:Nat):List Int:=bif ieq sh 3 then lO f g n else bif ieq sh 4 then kA f g n else setF f g n
def KF(sh:Int)(f g:Nat→Int)(n:Nat)(kd ky:Int):Bool×Int:=
 bif ieq kd 1 then(!inF f g ky n,0)else bif ieq kd 2||ieq kd 3 then(inF f g ky n,0)else bif ieq kd 4 then(true,0)else match bB sh f g n with
  | []=>(false,0)
  | x::_=>(true,x)
theorem dW{a b:Int}(h:a≠b):ieq a b=false:=by rw [b9,beq_eq_false_iff_ne];exact h
theorem jY(f:Nat→Int)(n:Nat):0≤bE f n:=by
 induction n with
 | zero=>exact Int.le_refl 0
 | succ n this=>
   show 0≤(bif ieq (f n) 4 then bE f n+1 else bif ilt 0 (bE f n)then bE f n - 1 else bE f n)
   cases ieq (f n) 4 with
   | true=>rw [cond_true];omega
   | false=>
     rw [cond_false]
     cases h:ilt 0 (bE f n)with
     | true=>rw [cond_true];rw [bS,dT']at h;omega
     | false=>rw [cond_false];exact this
theorem NW(f:Nat→Int)(n:Nat):bE f n≤n:=by
 induction n with
 | zero=>exact Int.le_refl 0
 | succ n this=>
   have h0:=jY f n
   show(bif ieq (f n) 4 then bE f n+1 else bif ilt 0 (bE f n)then bE f n - 1 else bE f n)≤((n+1:Nat):Int)
   cases ieq (f n) 4 with
   | true=>rw [cond_true];omega
   | false=>
     rw [cond_false]
     cases ilt 0 (bE f n)with
     | true=>rw [cond_true];omega
     | false=>rw [cond_false];omega
theorem yA(f g:Nat→Int)(n:Nat):bE f n≤(cI f g n).length :=by
 induction n with
 | zero=>exact Int.le_refl 0
 | succ n this=>
   show(bif ieq (f n) 4 then bE f n+1 else bif ilt 0 (bE f n)then bE f n - 1 else bE f n)≤((bif ieq (f n) 4 then cI f g n++ [g n]else cI f g n:List Int).length :Int)
   cases ieq (f n) 4 with
   | true=>rw [cond_true,cond_true,List.length_append];simp;omega
   | false=>
     rw [cond_false,cond_false]
     cases ilt 0 (bE f n)with
     | true=>rw [cond_true];omega
     | false=>rw [cond_false];omega
theorem OM(f g:Nat→Int)(n:Nat):(cI f g n).length ≤n:=by
 induction n with
 | zero=>exact Nat.le_refl 0
 | succ n this=>
   show(bif ieq (f n) 4 then cI f g n++ [g n]else cI f g n:List Int).length ≤n+1
   cases ieq (f n) 4 with
   | true=>rw [cond_true,List.length_append];simp;omega
   | false=>rw [cond_false];omega
def i3(sh:Int)(f g:Nat→Int)(n:Nat):List Int:=bif ieq sh 3 then cI f g n else bB sh f g n
def iZ(sh:Int)(f g:Nat→Int)(n:Nat):Nat:=bif ieq sh 3 then(((cI f g n).length :Int) - bE f n).toNat else 0
theorem NN(sh:Int)(f g:Nat→Int)(n:Nat):(i3 sh f g n).drop (iZ sh f g n)=bB sh f g n∧iZ sh f g n+(bB sh f g n).length =(i3 sh f g n).length :=by
 unfold i3 iZ bB
 cases ieq sh 3 with
 | true=>
   have:=yA f g n
   have:=jY f n
   refine⟨rfl,?_⟩
   unfold lO
   simp only [cond_true,List.length_drop]
   omega
 | false=>exact⟨rfl,by simp⟩
noncomputable def EV0:=EFt.addS 15 (aM.or fillS (p9 [(.slot 3,.ints (some .i64))] fillS)) (aBK zS (s8 zS))
structure ZG (k:Int) (m:Nat) (f g:Nat→Int) (x:Nat):Prop where
 h1:x≤m
 h2:inF f g k m=inF f g k x
def rU(k:Int)(m:Nat)(f g:Nat→Int):Hint Ob:= {X:=Nat,st:=fun x=>([.view m 2 (fun i=>[.int .i64 (f i),.int .i64 (g i)]),.int .i64 k,.O,.O,.O,.int .i64 ((x:Int) - 1)]++List.replicate 37 .O,[]),ok:=ZG k m f g,mu:=fun x=>x,keep:=[0,1,5] }
def NM(k:Int)(m:Nat)(f g:Nat→Int)(K:AVal→aD Ob→Prop):Prop:=okSt (rU k m f g) (Hint.ok (rU k m f g)) [.view m 2 fun i=>[.int .i64 (f i),.int .i64 (g i)],.int .i64 k,.O,.O,.O,.int .i64 (W ((↑m:Int) - 1)),.O,.O,.O,.O,.O,.O,.O,.O,.O,.O,.O,.O,.O,.O,.O,.O,.O,.O,.O,.O,.O,.O,.O,.O,.O,.O,.O,.O,.O,.O,.O,.O,.O,.O,.O,.O,.O] []∧ ∀(x:Nat),ZG k m f g x→bif ile 0 ((↑x:Int) - 1)then((0:Int)≤(↑x:Int) - 1∧(↑x:Int) - (1:Int)<(↑m:Int))∧bif ieq (g (Int.toNat ((↑x:Int) - 1))) k then((0:Int)≤(↑x:Int) - 1∧(↑x:Int) - (1:Int)<(↑m:Int))∧bif ieq (f (Int.toNat ((↑x:Int) - 1))) 1 then K (.bool true) []else((0:Int)≤(↑x:Int) - 1∧(↑x:Int) - (1:Int)<(↑m:Int))∧bif ieq (g (Int.toNat ((↑x:Int) - 1))) k then((0:Int)≤(↑x:Int) - 1∧(↑x:Int) - (1:Int)<(↑m:Int))∧bif ieq (f (Int.toNat ((↑x:Int) - 1))) 2 then K (.bool false) []else okSt (rU k m f g) (fun x'=>Hint.ok (rU k m f g) x'∧Hint.mu (rU k m f g) x'<Hint.mu (rU k m f g) x) [.view m 2 fun i=>[.int .i64 (f i),.int .i64 (g i)],.int .i64 k,.O,.O,.O,.int .i64 (W ((↑x:Int) - 1 - 1)),.O,.O,.O,.O,.O,.O,.O,.O,.O,.O,.O,.O,.O,.O,.O,.O,.O,.O,.O,.O,.O,.O,.O,.O,.O,.O,.O,.O,.O,.O,.O,.O,.O,.O,.O,.O,.O] []else okSt (rU k m f g) (fun x'=>Hint.ok (rU k m f g) x'∧Hint.mu (rU k m f g) x'<Hint.mu (rU k m f g) x) [.view m 2 fun i=>[.int .i64 (f i),.int .i64 (g i)],.int .i64 k,.O,.O,.O,.int .i64 (W ((↑x:Int) - 1 - 1)),.O,.O,.O,.O,.O,.O,.O,.O,.O,.O,.O,.O,.O,.O,.O,.O,.O,.O,.O,.O,.O,.O,.O,.O,.O,.O,.O,.O,.O,.O,.O,.O,.O,.O,.O,.O,.O] []else((0:Int)≤(↑x:Int) - 1∧(↑x:Int) - (1:Int)<(↑m:Int))∧bif ieq (g (Int.toNat ((↑x:Int) - 1))) k then((0:Int)≤(↑x:Int) - 1∧(↑x:Int) - (1:Int)<(↑m:Int))∧bif ieq (f (Int.toNat ((↑x:Int) - 1))) 2 then K (.bool false) []else okSt (rU k m f g) (fun x'=>Hint.ok (rU k m f g) x'∧Hint.mu (rU k m f g) x'<Hint.mu (rU k m f g) x) [.view m 2 fun i=>[.int .i64 (f i),.int .i64 (g i)],.int .i64 k,.O,.O,.O,.int .i64 (W ((↑x:Int) - 1 - 1)),.O,.O,.O,.O,.O,.O,.O,.O,.O,.O,.O,.O,.O,.O,.O,.O,.O,.O,.O,.O,.O,.O,.O,.O,.O,.O,.O,.O,.O,.O,.O,.O,.O,.O,.O,.O,.O] []else okSt (rU k m f g) (fun x'=>Hint.ok (rU k m f g) x'∧Hint.mu (rU k m f g) x'<Hint.mu (rU k m f g) x) [.view m 2 fun i=>[.int .i64 (f i),.int .i64 (g i)],.int .i64 k,.O,.O,.O,.int .i64 (W ((↑x:Int) - 1 - 1)),.O,.O,.O,.O,.O,.O,.O,.O,.O,.O,.O,.O,.O,.O,.O,.O,.O,.O,.O,.O,.O,.O,.O,.O,.O,.O,.O,.O,.O,.O,.O,.O,.O,.O,.O,.O,.O] []else K (.bool false) []
theorem JO(k:Int)(m:Nat)(f g:Nat→Int)(K:AVal→aD Ob→Prop)(h:NM k m f g K):cT' 86 [.view m 2 (fun i=>[.int .i64 (f i),.int .i64 (g i)]),.int .i64 k] [] K:=by
 refine aBs (aE (E:=EV0) Tryz.checked.mixed (L:=(fun _ _=>some (.states (rU k m f g)))) (n:=10) (aR (by kernel_rfl) h))
structure ZJ (m:Nat) (f:Nat→Int) (x:Nat):Prop where
 h1:x≤m
def wU(m:Nat)(f g:Nat→Int):Hint Ob:= {X:=Nat,st:=fun x=>([.view m 2 (fun i=>[.int .i64 (f i),.int .i64 (g i)]),.O,.O,.int .i64 (bE f x),.int .i64 (x:Int)]++List.replicate 19 .O,[]),ok:=ZJ m f,mu:=fun x=>m - x,keep:=[0,3,4] }
def NV(m:Nat)(f g:Nat→Int)(K:AVal→aD Ob→Prop):Prop:=okSt (wU m f g) (Hint.ok (wU m f g)) [.view m 2 fun i=>[.int .i64 (f i),.int .i64 (g i)],.O,.O,.int .i64 0,.int .i64 0,.O,.O,.O,.O,.O,.O,.O,.O,.O,.O,.O,.O,.O,.O,.O,.O,.O,.O,.O] []∧ ∀(x:Nat),ZJ m f x→bif ilt (↑x:Int) (↑m:Int)then((0:Int)≤(↑x:Int)∧(↑x:Int)<(↑m:Int))∧bif ieq (f (Int.toNat (↑x:Int))) 4 then okSt (wU m f g) (fun x'=>Hint.ok (wU m f g) x'∧Hint.mu (wU m f g) x'<Hint.mu (wU m f g) x) [.view m 2 fun i=>[.int .i64 (f i),.int .i64 (g i)],.O,.O,.int .i64 (W (bE f x+1)),.int .i64 (W ((↑x:Int)+1)),.O,.O,.O,.O,.O,.O,.O,.O,.O,.O,.O,.O,.O,.O,.O,.O,.O,.O,.O] []else bif ilt 0 (bE f x)then okSt (wU m f g) (fun x'=>Hint.ok (wU m f g) x'∧Hint.mu (wU m f g) x'<Hint.mu (wU m f g) x) [.view m 2 fun i=>[.int .i64 (f i),.int .i64 (g i)],.O,.O,.int .i64 (W (bE f x - 1)),.int .i64 (W ((↑x:Int)+1)),.O,.O,.O,.O,.O,.O,.O,.O,.O,.O,.O,.O,.O,.O,.O,.O,.O,.O,.O] []else okSt (wU m f g) (fun x'=>Hint.ok (wU m f g) x'∧Hint.mu (wU m f g) x'<Hint.mu (wU m f g) x) [.view m 2 fun i=>[.int .i64 (f i),.int .i64 (g i)],.O,.O,.int .i64 (bE f x),.int .i64 (W ((↑x:Int)+1)),.O,.O,.O,.O,.O,.O,.O,.O,.O,.O,.O,.O,.O,.O,.O,.O,.O,.O,.O] []else K (.int .i64 (bE f x)) []
theorem JS(m:Nat)(f g:Nat→Int)(K:AVal→aD Ob→Prop)(h:NV m f g K):cT' 147 [.view m 2 (fun i=>[.int .i64 (f i),.int .i64 (g i)])] [] K:=by
 refine aBs (aE (E:=EV0) Tryz.checked.mixed (L:=(fun _ _=>some (.states (wU m f g)))) (n:=10) (aR (by kernel_rfl) h))
theorem WP(k:Int)(m:Nat)(f g:Nat→Int)(K:AVal→aD Ob→Prop)(hm:m≤4611686018427387904)(hK:K (.bool (inF f g k m)) []):NM k m f g K:=by
 have w1:W ((m:Int) - 1)=(m:Int) - 1:=cU ⟨by omega,by omega⟩
 refine⟨aW (H:=rU k m f g) m (by simp only [w1,rU]<;>rfl) ⟨Nat.le_refl _,rfl⟩,?_⟩
 rintro x ⟨h1,h2⟩
 refine aP (fun e=>?_) (fun e=>?_)
 ·rw [cE,dT']at e
  obtain⟨y,rfl⟩: ∃y,x=y+1:=⟨x - 1,by omega⟩
  have ey:Int.toNat (((y+1:Nat):Int) - 1)=y:=by omega
  have w2:W (((y+1:Nat):Int) - 1 - 1)=(y:Int) - 1:=(cU ⟨by omega,by omega⟩).trans (by omega)
  have hin:inF f g k (y+1)=bif ieq (g y) k&&ieq (f y) 1 then true else bif ieq (g y) k&&ieq (f y) 2 then false else inF f g k y:=rfl
  have next:inF f g k (y+1)=inF f g k y→okSt (rU k m f g) (fun x'=>Hint.ok (rU k m f g) x'∧Hint.mu (rU k m f g) x'<Hint.mu (rU k m f g) (y+1)) ((rU k m f g).st y).1 ((rU k m f g).st y).2:=
   fun h=>aW (H:=rU k m f g) y rfl ⟨⟨by omega,h2.trans h⟩,Nat.lt_succ_self y⟩
  rw [ey,w2]
  refine⟨⟨by omega,by omega⟩,aP (fun a=>?_) (fun a=>?_)⟩
  ·refine⟨⟨by omega,by omega⟩,aP (fun b=>?_) (fun b=>?_)⟩
   ·rw [h2,hin,a,b]at hK;exact hK
   ·refine⟨⟨by omega,by omega⟩,aP (fun a2=>⟨⟨by omega,by omega⟩,aP (fun c=>?_) (fun c=>?_)⟩) (fun a2=>?_)⟩
    ·rw [h2,hin,a,b,c]at hK;exact hK
    ·exact next (by rw [hin,a,b,c];rfl)
    ·rw [a]at a2;cases a2
  ·refine⟨⟨by omega,by omega⟩,aP (fun a2=>?_) (fun a2=>?_)⟩
   ·rw [a]at a2;cases a2
   ·exact next (by rw [hin,a];rfl)
 ·rw [cE,dF']at e
  have hx:x=0:=by omega
  subst hx
  rw [h2]at hK
  exact hK
theorem WY(m:Nat)(f g:Nat→Int)(K:AVal→aD Ob→Prop)(hm:m≤4611686018427387904)(hK:K (.int .i64 (bE f m)) []):NV m f g K:=by
 refine⟨aW (H:=wU m f g) (0:Nat) rfl ⟨Nat.zero_le _⟩,?_⟩
 rintro x ⟨h1⟩
 refine qT (fun e=>?_) (fun e=>?_)
 ·have e4:W ((x:Int)+1)=((x+1:Nat):Int):=(cU (by omega)).trans rfl
  have h0:=jY f x
  have hn:=NW f x
  have w1:W (bE f x+1)=bE f x+1:=cU (by omega)
  have w2:W (bE f x - 1)=bE f x - 1:=cU (by omega)
  have hs:bE f (x+1)=bif ieq (f x) 4 then bE f x+1 else bif ilt 0 (bE f x)then bE f x - 1 else bE f x:=rfl
  have next: ∀v,bE f (x+1)=v→okSt (wU m f g) (fun x'=>Hint.ok (wU m f g) x'∧Hint.mu (wU m f g) x'<Hint.mu (wU m f g) x) ([.view m 2 (fun i=>[.int .i64 (f i),.int .i64 (g i)]),.O,.O,.int .i64 v,.int .i64 ((x+1:Nat):Int)]++List.replicate 19 .O) []:=
   fun v h=>aW (H:=wU m f g) (x+1:Nat) (by rw [←h];rfl) ⟨⟨by omega⟩,by show m - (x+1)<m - x;omega⟩
  rw [e4,w1,w2]
  refine⟨⟨by omega,by omega⟩,aP (fun a=>?_) (fun a=>aP (fun b=>?_) (fun b=>?_))⟩
  ·have a:ieq (f x) 4=true:=a
   exact next _ (by rw [hs,a];rfl)
  ·have a:ieq (f x) 4=false:=a
   exact next _ (by rw [hs,a,b];rfl)
  ·have a:ieq (f x) 4=false:=a
   exact next _ (by rw [hs,a,b];rfl)
 ·have hx:x=m:=by omega
  subst hx
  exact hK
def innS:aM Ob:=fun args h=>match args,h with
 | [.view m 2 row,.int .i64 k],[]=>some (.pre (m≤4611686018427387904∧f5 row) (.ret (.bool (inO (rK row) (rY row) k m)) []))
 | _,_=>none
theorem WO:sT' 86 innS:=by
 intro args h o ho K hK
 unfold innS at ho
 split at ho<;>cases ho
 rename_i m row k
 obtain⟨⟨hm,⟨hr⟩⟩,hK⟩:=hK
 have hK:K (.bool (inF (rK row) (rY row) k m)) []:=hK
 rw [hr]
 exact JO k m (rK row) (rY row) K (WP k m (rK row) (rY row) K hm hK)
def manS:aM Ob:=fun args h=>match args,h with
 | [.view m 2 row],[]=>some (.pre (m≤4611686018427387904∧f5 row) (.ret (.int .i64 (bE (rK row) m)) []))
 | _,_=>none
theorem WX:sT' 147 manS:=by
 intro args h o ho K hK
 unfold manS at ho
 split at ho<;>cases ho
 rename_i m row
 obtain⟨⟨hm,⟨hr⟩⟩,hK⟩:=hK
 have hK:K (.int .i64 (bE (rK row) m)) []:=hK
 rw [hr]
 exact JS m (rK row) (rY row) K (WY m (rK row) (rY row) K hm hK)
noncomputable def EV1:=(EV0.addS 86 innS WO).addS 147 manS WX
structure ZI (m:Nat) (x:Nat):Prop where
 h1:x≤m
def C6(m:Nat)(f g:Nat→Int):Hint Ob:= {X:=Nat,st:=fun x=>([.view m 2 (fun i=>[.int .i64 (f i),.int .i64 (g i)]),.O,.O,.slice 0 0 (cI f g x).length 1,.int .i64 (x:Int)]++List.replicate 27 .O,[some (.ints (some .i64) (cI f g x))]),ok:=ZI m,mu:=fun x=>m - x,keep:=[0,3,4],casts:=[(.slot 3,.ints (some .i64))] }
def NS(m:Nat)(f g:Nat→Int)(K:AVal→aD Ob→Prop):Prop:=okSt (C6 m f g) (Hint.ok (C6 m f g)) [.view m 2 fun i=>[.int .i64 (f i),.int .i64 (g i)],.O,.O,.slice 0 0 0 1,.int .i64 0,.O,.O,.O,.O,.O,.O,.O,.O,.O,.O,.O,.O,.O,.O,.O,.O,.O,.O,.O,.O,.O,.O,.O,.O,.O,.O,.O] [some (.ints (some .i64) [])]∧ ∀(x:Nat),ZI m x→bif ilt (↑x:Int) (↑m:Int)then((0:Int)≤(↑x:Int)∧(↑x:Int)<(↑m:Int))∧bif ieq (f (Int.toNat (↑x:Int))) 4 then((0:Int)≤(↑x:Int)∧(↑x:Int)<(↑m:Int))∧(0=0∧lE' (cI f g x)∧1=1∧List.length (cI f g x)+(1:Nat)≤(4294967296:Nat))∧okSt (C6 m f g) (fun x'=>Hint.ok (C6 m f g) x'∧Hint.mu (C6 m f g) x'<Hint.mu (C6 m f g) x) [.view m 2 fun i=>[.int .i64 (f i),.int .i64 (g i)],.O,.O,.slice 0 0 (List.length (cI f g x)+1) 1,.int .i64 (W ((↑x:Int)+1)),.O,.O,.O,.O,.O,.O,.O,.O,.O,.O,.O,.O,.O,.O,.O,.O,.O,.O,.O,.O,.O,.O,.O,.O,.O,.O,.O] [some (.ints (some .i64) (cI f g x++ [g (Int.toNat (↑x:Int))]))]else okSt (C6 m f g) (fun x'=>Hint.ok (C6 m f g) x'∧Hint.mu (C6 m f g) x'<Hint.mu (C6 m f g) x) [.view m 2 fun i=>[.int .i64 (f i),.int .i64 (g i)],.O,.O,.slice 0 0 (List.length (cI f g x)) 1,.int .i64 (W ((↑x:Int)+1)),.O,.O,.O,.O,.O,.O,.O,.O,.O,.O,.O,.O,.O,.O,.O,.O,.O,.O,.O,.O,.O,.O,.O,.O,.O,.O,.O] [some (.ints (some .i64) (cI f g x))]else(m≤(4611686018427387904:Nat)∧f5 fun i=>[.int .i64 (f i),.int .i64 (g i)])∧((0:Int)≤W ((↑(List.length (cI f g x)):Int) - bE (rK fun i=>[.int .i64 (f i),.int .i64 (g i)]) m)∧Int.toNat (W ((↑(List.length (cI f g x)):Int) - bE (rK fun i=>[.int .i64 (f i),.int .i64 (g i)]) m))≤List.length (cI f g x))∧K (.slice 0 (0+Int.toNat (W ((↑(List.length (cI f g x)):Int) - bE (rK fun i=>[.int .i64 (f i),.int .i64 (g i)]) m))*1) (List.length (cI f g x) - Int.toNat (W ((↑(List.length (cI f g x)):Int) - bE (rK fun i=>[.int .i64 (f i),.int .i64 (g i)]) m))) 1) [some (.ints (some .i64) (cI f g x))]
theorem JR(m:Nat)(f g:Nat→Int)(K:AVal→aD Ob→Prop)(h:NS m f g K):cT' 87 [.view m 2 (fun i=>[.int .i64 (f i),.int .i64 (g i)])] [] K:=by
 refine aBs (aE (E:=EV1) Tryz.checked.mixed (L:=(fun _ _=>some (.states (C6 m f g)))) (n:=10) (aR (by kernel_rfl) h))
structure ZK (m:Nat) (f g:Nat→Int) (x:Nat×Int×List Int):Prop where
 h1:x.1≤m
 h0:0≤x.2.1∧x.2.1≤m
 hl:x.2.2.length+x.1≤m
 eq:kA f g m=x.2.2++eK f g x.1 x.2.1
def tN(m:Nat)(f g:Nat→Int):Hint Ob:= {X:=Nat×Int×List Int,st:=fun x=>([.view m 2 (fun i=>[.int .i64 (f i),.int .i64 (g i)]),.O,.O,.slice 0 0 x.2.2.length 1,.int .i64 x.2.1,.int .i64 ((x.1:Int) - 1)]++List.replicate 39 .O,[some (.ints (some .i64) x.2.2)]),ok:=ZK m f g,mu:=fun x=>x.1,keep:=[0,3,4,5],casts:=[(.slot 3,.ints (some .i64))] }
def HN(m:Nat)(f g:Nat→Int)(K:AVal→aD Ob→Prop):Prop:=(m≤(4611686018427387904:Nat)∧f5 fun i=>[.int .i64 (f i),.int .i64 (g i)])∧okSt (tN m f g) (Hint.ok (tN m f g)) [.view m 2 fun i=>[.int .i64 (f i),.int .i64 (g i)],.O,.O,.slice 0 0 0 1,.int .i64 (bE (rK fun i=>[.int .i64 (f i),.int .i64 (g i)]) m),.int .i64 (W ((↑m:Int) - 1)),.O,.O,.O,.O,.O,.O,.O,.O,.O,.O,.O,.O,.O,.O,.O,.O,.O,.O,.O,.O,.O,.O,.O,.O,.O,.O,.O,.O,.O,.O,.O,.O,.O,.O,.O,.O,.O,.O,.O] [some (.ints (some .i64) [])]∧ ∀(x:(Nat×Int×List Int)),ZK m f g x→bif ile 0 ((↑x.1:Int) - 1)then bif ilt 0 (Prod.snd x).1 then((0:Int)≤(↑x.1:Int) - 1∧(↑x.1:Int) - (1:Int)<(↑m:Int))∧bif ieq (f (Int.toNat ((↑x.1:Int) - 1))) 4 then((0:Int)≤(↑x.1:Int) - 1∧Int.toNat ((↑x.1:Int) - 1)≤m)∧(Int.toNat ((↑x.1:Int) - 1)≤(4611686018427387904:Nat)∧f5 fun i=>[.int .i64 (f i),.int .i64 (g i)])∧bif ieq (bE (rK fun i=>[.int .i64 (f i),.int .i64 (g i)]) (Int.toNat ((↑x.1:Int) - 1))) (W ((Prod.snd x).1 - 1))then((0:Int)≤(↑x.1:Int) - 1∧(↑x.1:Int) - (1:Int)<(↑m:Int))∧(0=0∧lE' (Prod.snd x).2∧1=1∧List.length (Prod.snd x).2+(1:Nat)≤(4294967296:Nat))∧okSt (tN m f g) (fun x'=>Hint.ok (tN m f g) x'∧Hint.mu (tN m f g) x'<Hint.mu (tN m f g) x) [.view m 2 fun i=>[.int .i64 (f i),.int .i64 (g i)],.O,.O,.slice 0 0 (List.length (Prod.snd x).2+1) 1,.int .i64 (W ((Prod.snd x).1 - 1)),.int .i64 (W ((↑x.1:Int) - 1 - 1)),.O,.O,.O,.O,.O,.O,.O,.O,.O,.O,.O,.O,.O,.O,.O,.O,.O,.O,.O,.O,.O,.O,.O,.O,.O,.O,.O,.O,.O,.O,.O,.O,.O,.O,.O,.O,.O,.O,.O] [some (.ints (some .i64) ((Prod.snd x).2++ [g (Int.toNat ((↑x.1:Int) - 1))]))]else okSt (tN m f g) (fun x'=>Hint.ok (tN m f g) x'∧Hint.mu (tN m f g) x'<Hint.mu (tN m f g) x) [.view m 2 fun i=>[.int .i64 (f i),.int .i64 (g i)],.O,.O,.slice 0 0 (List.length (Prod.snd x).2) 1,.int .i64 (Prod.snd x).1,.int .i64 (W ((↑x.1:Int) - 1 - 1)),.O,.O,.O,.O,.O,.O,.O,.O,.O,.O,.O,.O,.O,.O,.O,.O,.O,.O,.O,.O,.O,.O,.O,.O,.O,.O,.O,.O,.O,.O,.O,.O,.O,.O,.O,.O,.O,.O,.O] [some (.ints (some .i64) (Prod.snd x).2)]else okSt (tN m f g) (fun x'=>Hint.ok (tN m f g) x'∧Hint.mu (tN m f g) x'<Hint.mu (tN m f g) x) [.view m 2 fun i=>[.int .i64 (f i),.int .i64 (g i)],.O,.O,.slice 0 0 (List.length (Prod.snd x).2) 1,.int .i64 (Prod.snd x).1,.int .i64 (W ((↑x.1:Int) - 1 - 1)),.O,.O,.O,.O,.O,.O,.O,.O,.O,.O,.O,.O,.O,.O,.O,.O,.O,.O,.O,.O,.O,.O,.O,.O,.O,.O,.O,.O,.O,.O,.O,.O,.O,.O,.O,.O,.O,.O,.O] [some (.ints (some .i64) (Prod.snd x).2)]else K (.slice 0 0 (List.length (Prod.snd x).2) 1) [some (.ints (some .i64) (Prod.snd x).2)]else K (.slice 0 0 (List.length (Prod.snd x).2) 1) [some (.ints (some .i64) (Prod.snd x).2)]
theorem J1(m:Nat)(f g:Nat→Int)(K:AVal→aD Ob→Prop)(h:HN m f g K):cT' 88 [.view m 2 (fun i=>[.int .i64 (f i),.int .i64 (g i)])] [] K:=by
 refine aBs (aE (E:=EV1) Tryz.checked.mixed (L:=(fun _ _=>some (.states (tN m f g)))) (n:=10) (aR (by kernel_rfl) h))
theorem oN(f g:Nat→Int):f5 (fun i=>[.int .i64 (f i),.int .i64 (g i)]):=⟨rfl⟩
theorem TY(f g:Nat→Int):rK (fun i=>[.int .i64 (f i),.int .i64 (g i)])=f:=rfl
theorem WV(m:Nat)(f g:Nat→Int)(K:AVal→aD Ob→Prop)(hm:m≤1000000)(hK:K (.slice 0 (((cI f g m).length :Int) - bE f m).toNat (lO f g m).length 1) [some (.ints (some .i64) (cI f g m))]):NS m f g K:=by
 refine⟨aW (H:=C6 m f g) (0:Nat) rfl ⟨Nat.zero_le _⟩,?_⟩
 rintro x ⟨h1⟩
 refine qT (fun e=>?_) (fun e=>?_)
 ·have e4:W ((x:Int)+1)=((x+1:Nat):Int):=(cU (by omega)).trans rfl
  have hp:=OM f g x
  have hs:cI f g (x+1)=bif ieq (f x) 4 then cI f g x++ [g x]else cI f g x:=rfl
  rw [e4]
  refine⟨⟨by omega,by omega⟩,aP (fun a=>?_) (fun a=>?_)⟩
  ·have a:ieq (f x) 4=true:=a
   rw [a]at hs
   refine⟨⟨by omega,by omega⟩,⟨rfl,rfl,rfl,by omega⟩,aW (H:=C6 m f g) (x+1:Nat) ?_ ⟨⟨by omega⟩,by show m - (x+1)<m - x;omega⟩⟩
   simp only [C6,hs,cond_true,List.length_append,List.length_singleton]
   rfl
  ·have a:ieq (f x) 4=false:=a
   rw [a]at hs
   refine aW (H:=C6 m f g) (x+1:Nat) ?_ ⟨⟨by omega⟩,by show m - (x+1)<m - x;omega⟩
   simp only [C6,hs,cond_false]
   rfl
 ·have hx:x=m:=by omega
  subst hx
  have hp:=OM f g x
  have h0:=jY f x
  have hn:=yA f g x
  have w1:W (((cI f g x).length :Int) - bE f x)=((cI f g x).length :Int) - bE f x:=cU (by omega)
  rw [TY,w1]
  refine⟨⟨by omega,oN f g⟩,⟨by omega,by omega⟩,?_⟩
  have e1:0+(((cI f g x).length :Int) - bE f x).toNat *1=(((cI f g x).length :Int) - bE f x).toNat :=by omega
  have e2:(cI f g x).length - (((cI f g x).length :Int) - bE f x).toNat =(lO f g x).length :=by unfold lO;rw [List.length_drop]
  rw [e1,e2]
  exact hK
theorem W7(m:Nat)(f g:Nat→Int)(K:AVal→aD Ob→Prop)(hm:m≤1000000)(hK:K (.slice 0 0 (kA f g m).length 1) [some (.ints (some .i64) (kA f g m))]):HN m f g K:=by
 have h0:=jY f m
 have hn:=NW f m
 have w1:W ((m:Int) - 1)=(m:Int) - 1:=cU (by omega)
 have rk0:rK (fun i=>[.int .i64 (f (0+i)),.int .i64 (g (0+i))])=f:=by funext i;show f (0+i)=f i;rw [Nat.zero_add]
 unfold HN
 rw [TY,w1]
 refine⟨⟨by omega,oN f g⟩,aW (H:=tN m f g) (m,bE f m,[]) rfl ⟨Nat.le_refl _,⟨h0,hn⟩,by simp,rfl⟩,?_⟩
 rintro⟨x,nd,out⟩ ⟨h1,hnd,hl,heq⟩
 dsimp only at h1 hnd hl heq⊢
 have e0:nd≤0→eK f g x nd=[]:=by
  intro h
  cases x with
  | zero=>rfl
  | succ x=>
    show(bif ilt 0 nd then _ else [])=_
    rw [bS,decide_eq_false (by omega)];rfl
 refine aP (fun e=>?_) (fun e=>?_)
 ·rw [cE,dT']at e
  obtain⟨y,rfl⟩: ∃y,x=y+1:=⟨x - 1,by omega⟩
  have ey:Int.toNat (((y+1:Nat):Int) - 1)=y:=by omega
  have w2:W (((y+1:Nat):Int) - 1 - 1)=(y:Int) - 1:=(cU ⟨by omega,by omega⟩).trans (by omega)
  refine qT (fun q=>?_) (fun q=>?_)
  ·have hp:eK f g (y+1) nd=bif ieq (f y) 4&&ieq (bE f y) (nd - 1)then g y::eK f g y (nd - 1)else eK f g y nd:=by
    show(bif ilt 0 nd then _ else _)=_
    rw [bS,decide_eq_true q];rfl
   have w3:W (nd - 1)=nd - 1:=cU (by omega)
   have next:eK f g (y+1) nd=eK f g y nd→okSt (tN m f g) (fun x'=>Hint.ok (tN m f g) x'∧Hint.mu (tN m f g) x'<Hint.mu (tN m f g) (y+1,nd,out)) ((tN m f g).st (y,nd,out)).1 ((tN m f g).st (y,nd,out)).2:=
    fun h=>aW (H:=tN m f g) (y,nd,out) rfl ⟨⟨by show y≤m;omega,hnd,by show out.length+y≤m;omega,by show _=out++eK f g y nd;rw [←h];exact heq⟩,Nat.lt_succ_self y⟩
   rw [ey,w2,w3]
   refine⟨⟨by omega,by omega⟩,aP (fun a=>?_) (fun a=>?_)⟩
   ·refine⟨⟨by omega,by omega⟩,⟨by omega,oN _ _⟩,aP (fun b=>?_) (fun b=>?_)⟩
    ·refine⟨⟨by omega,by omega⟩,⟨rfl,rfl,rfl,by omega⟩,aW (H:=tN m f g) (y,nd - 1,out++ [g y]) ?_ ⟨⟨by show y≤m;omega,by show 0≤nd - 1∧nd - 1≤m;omega,by show(out++ [g y]).length +y≤m;rw [List.length_append];simp;omega,?_⟩,Nat.lt_succ_self y⟩⟩
     ·simp only [tN,List.length_append,List.length_singleton]<;>rfl
     ·show kA f g m=out++ [g y]++eK f g y (nd - 1)
      have b:ieq (bE f y) (nd - 1)=true:=b
      rw [heq,hp,a,b];simp
    ·have b:ieq (bE f y) (nd - 1)=false:=b
     exact next (by rw [hp,a,b];rfl)
   ·exact next (by rw [hp,a];rfl)
  ·rw [e0 q,List.append_nil]at heq
   rw [heq]at hK
   exact hK
 ·rw [cE,dF']at e
  have hx:x=0:=by omega
  subst hx
  rw [show eK f g 0 nd=[]from rfl,List.append_nil]at heq
  rw [heq]at hK
  exact hK
def linS:aM Ob:=fun args h=>match args,h with
 | [.view m 2 row],[]=>some (.pre (m≤1000000∧f5 row) (.ret (.slice 0 (((cI (rK row) (rY row) m).length :Int) - bE (rK row) m).toNat (lO (rK row) (rY row) m).length 1) [some (.ints (some .i64) (cI (rK row) (rY row) m))]))
 | _,_=>none
def pilS:aM Ob:=fun args h=>match args,h with
 | [.view m 2 row],[]=>some (.pre (m≤1000000∧f5 row) (.ret (.slice 0 0 (kA (rK row) (rY row) m).length 1) [some (.ints (some .i64) (kA (rK row) (rY row) m))]))
 | _,_=>none
theorem WT:sT' 87 linS:=by
 intro args h o ho K hK
 unfold linS at ho
 split at ho<;>cases ho
 rename_i m row
 obtain⟨⟨hm,⟨hr⟩⟩,hK⟩:=hK
 rw [hr]
 exact JR m (rK row) (rY row) K (WV m (rK row) (rY row) K hm hK)
theorem W6:sT' 88 pilS:=by
 intro args h o ho K hK
 unfold pilS at ho
 split at ho<;>cases ho
 rename_i m row
 obtain⟨⟨hm,⟨hr⟩⟩,hK⟩:=hK
 rw [hr]
 exact J1 m (rK row) (rY row) K (W7 m (rK row) (rY row) K hm hK)
noncomputable def EV2:=(EV1.addS 87 linS WT).addS 88 pilS W6
def gQ(f g:Nat→Int)(m k:Nat):List Int:=((List.range k).map fun i:Nat=>(i:Int)).filter fun k=>inF f g k m
structure ZH (x:Nat):Prop where
 h1:x≤1000
def C5(sh:Int)(m:Nat)(f g:Nat→Int):Hint Ob:= {X:=Nat,st:=fun x=>([.int .i64 sh,.view m 2 (fun i=>[.int .i64 (f i),.int .i64 (g i)]),.O,.O,.O,.slice 0 0 (gQ f g m x).length 1,.int .i64 (x:Int)]++List.replicate 20 .O,[some (.ints (some .i64) (gQ f g m x))]),ok:=ZH,mu:=fun x=>1000 - x,keep:=[0,1,5,6],casts:=[(.slot 5,.ints (some .i64))] }
def HH(sh:Int)(m:Nat)(f g:Nat→Int)(K:AVal→aD Ob→Prop):Prop:=bif ieq sh 3 then(m≤(1000000:Nat)∧f5 fun i=>[.int .i64 (f i),.int .i64 (g i)])∧K (.slice 0 (Int.toNat ((↑(List.length (cI (rK fun i=>[.int .i64 (f i),.int .i64 (g i)]) (rY fun i=>[.int .i64 (f i),.int .i64 (g i)]) m)):Int) - bE (rK fun i=>[.int .i64 (f i),.int .i64 (g i)]) m)) (List.length (lO (rK fun i=>[.int .i64 (f i),.int .i64 (g i)]) (rY fun i=>[.int .i64 (f i),.int .i64 (g i)]) m)) 1) [some (.ints (some .i64) (cI (rK fun i=>[.int .i64 (f i),.int .i64 (g i)]) (rY fun i=>[.int .i64 (f i),.int .i64 (g i)]) m))]else bif ieq sh 4 then(m≤(1000000:Nat)∧f5 fun i=>[.int .i64 (f i),.int .i64 (g i)])∧K (.slice 0 0 (List.length (kA (rK fun i=>[.int .i64 (f i),.int .i64 (g i)]) (rY fun i=>[.int .i64 (f i),.int .i64 (g i)]) m)) 1) [some (.ints (some .i64) (kA (rK fun i=>[.int .i64 (f i),.int .i64 (g i)]) (rY fun i=>[.int .i64 (f i),.int .i64 (g i)]) m))]else okSt (C5 sh m f g) (Hint.ok (C5 sh m f g)) [.int .i64 sh,.view m 2 fun i=>[.int .i64 (f i),.int .i64 (g i)],.O,.O,.O,.slice 0 0 0 1,.int .i64 0,.O,.O,.O,.O,.O,.O,.O,.O,.O,.O,.O,.O,.O,.O,.O,.O,.O,.O,.O,.O] [some (.ints (some .i64) [])]∧ ∀(x:Nat),ZH x→bif ile (↑x:Int) 999 then(m≤(4611686018427387904:Nat)∧f5 fun i=>[.int .i64 (f i),.int .i64 (g i)])∧bif inO (rK fun i=>[.int .i64 (f i),.int .i64 (g i)]) (rY fun i=>[.int .i64 (f i),.int .i64 (g i)]) (↑x:Int) m then(0=0∧lE' (gQ f g m x)∧1=1∧List.length (gQ f g m x)+(1:Nat)≤(4294967296:Nat))∧okSt (C5 sh m f g) (fun x'=>Hint.ok (C5 sh m f g) x'∧Hint.mu (C5 sh m f g) x'<Hint.mu (C5 sh m f g) x) [.int .i64 sh,.view m 2 fun i=>[.int .i64 (f i),.int .i64 (g i)],.O,.O,.O,.slice 0 0 (List.length (gQ f g m x)+1) 1,.int .i64 (W ((↑x:Int)+1)),.O,.O,.O,.O,.O,.O,.O,.O,.O,.O,.O,.O,.O,.O,.O,.O,.O,.O,.O,.O] [some (.ints (some .i64) (gQ f g m x++ [(↑x:Int)]))]else okSt (C5 sh m f g) (fun x'=>Hint.ok (C5 sh m f g) x'∧Hint.mu (C5 sh m f g) x'<Hint.mu (C5 sh m f g) x) [.int .i64 sh,.view m 2 fun i=>[.int .i64 (f i),.int .i64 (g i)],.O,.O,.O,.slice 0 0 (List.length (gQ f g m x)) 1,.int .i64 (W ((↑x:Int)+1)),.O,.O,.O,.O,.O,.O,.O,.O,.O,.O,.O,.O,.O,.O,.O,.O,.O,.O,.O,.O] [some (.ints (some .i64) (gQ f g m x))]else K (.slice 0 0 (List.length (gQ f g m x)) 1) [some (.ints (some .i64) (gQ f g m x))]
theorem JP(sh:Int)(m:Nat)(f g:Nat→Int)(K:AVal→aD Ob→Prop)(h:HH sh m f g K):cT' 35 [.int .i64 sh,.view m 2 (fun i=>[.int .i64 (f i),.int .i64 (g i)])] [] K:=by
 refine aBs (aE (E:=EV2) Tryz.checked.mixed (L:=(fun _ _=>some (.states (C5 sh m f g)))) (n:=10) (aR (by kernel_rfl) h))
theorem WR(sh:Int)(m:Nat)(f g:Nat→Int)(K:AVal→aD Ob→Prop)(hm:m≤1000000)(hK:K (.slice 0 (iZ sh f g m) (bB sh f g m).length 1) [some (.ints (some .i64) (i3 sh f g m))]):HH sh m f g K:=by
 have rk0:rK (fun i=>[.int .i64 (f i),.int .i64 (g i)])=f:=rfl
 have ry0:rY (fun i=>[.int .i64 (f i),.int .i64 (g i)])=g:=rfl
 unfold HH
 unfold iZ i3 bB at hK
 refine aP (fun a=>?_) (fun a=>aP (fun b=>?_) (fun b=>?_))
 ·rw [a]at hK
  exact⟨⟨hm,oN f g⟩,hK⟩
 ·rw [a,b]at hK
  exact⟨⟨hm,oN f g⟩,hK⟩
 ·rw [a,b]at hK
  refine⟨aW (H:=C5 sh m f g) (0:Nat) rfl ⟨Nat.zero_le _⟩,?_⟩
  rintro x ⟨h1⟩
  refine vT (fun e=>?_) (fun e=>?_)
  ·have e4:W ((x:Int)+1)=((x+1:Nat):Int):=(cU (by omega)).trans rfl
   have hs:gQ f g m (x+1)=gQ f g m x++(if inF f g x m then [(x:Int)]else []):=by
    unfold gQ
    rw [List.range_succ,List.map_append,List.filter_append]
    congr 1
    cases q:inF f g x m<;>simp [q]
   have hlen:(gQ f g m x).length ≤x:=by
    unfold gQ
    refine Nat.le_trans (List.length_filter_le _ _) ?_
    simp
   rw [e4]
   refine⟨⟨by omega,oN f g⟩,aP (fun c=>?_) (fun c=>?_)⟩
   ·have c:inF f g x m=true:=c
    rw [c]at hs
    refine⟨⟨rfl,rfl,rfl,by omega⟩,aW (H:=C5 sh m f g) (x+1:Nat) ?_ ⟨⟨by omega⟩,by show 1000 - (x+1)<1000 - x;omega⟩⟩
    simp only [C5,hs,if_true,List.length_append,List.length_singleton]
    rfl
   ·have c:inF f g x m=false:=c
    rw [c]at hs
    simp only [Bool.false_eq_true,if_false,List.append_nil]at hs
    refine aW (H:=C5 sh m f g) (x+1:Nat) ?_ ⟨⟨by omega⟩,by show 1000 - (x+1)<1000 - x;omega⟩
    simp only [C5,hs]
    rfl
  ·have hx:x=1000:=by omega
   subst hx
   have hto:setF f g m=gQ f g m 1000:=by unfold setF gQ;rfl
   simp only [cond_false,hto]at hK
   exact hK
def itsS:aM Ob:=fun args h=>match args,h with
 | [.int .i64 sh,.view m 2 row],[]=>some (.pre (m≤1000000∧f5 row) (.ret (.slice 0 (iZ sh (rK row) (rY row) m) (bB sh (rK row) (rY row) m).length 1) [some (.ints (some .i64) (i3 sh (rK row) (rY row) m))]))
 | _,_=>none
theorem WQ:sT' 35 itsS:=by
 intro args h o ho K hK
 unfold itsS at ho
 split at ho<;>cases ho
 rename_i sh m row
 obtain⟨⟨hm,⟨hr⟩⟩,hK⟩:=hK
 rw [hr]
 exact JP sh m (rK row) (rY row) K (WR sh m (rK row) (rY row) K hm hK)
noncomputable def EV3:=EV2.addS 35 itsS WQ
noncomputable def EV4:=EV3
def R1(xs:List Int)(nd:Int):Nat→Int→List Int→List Int
 | 0,_,out=>out
 | k+1,n,out=>bif bQ nd n then bif !hasB out n then R1 xs nd k (aA (aB xs n) 10 9) (out++ [n])else out else out
def ndF(xs:List Int)(nd hd:Int):List Int:=R1 xs nd (nd.toNat+1) (aA (aB xs (nd+1+hd)) 10 9) []
noncomputable def EV5:=EV4
def kyL(xs ns:List Int):List Int:=(ns.filter fun a=>!ieq (aA (aB xs a) 19 1) 1).map fun a=>aA (aB xs a) 0 10
def tR(xs:List Int)(nd hd:Int):List Int:=kyL xs (ndF xs nd hd)
noncomputable def EV6:=EV5
def mM:List Int→List (Int×Int)→List (Int×Int)
 | [],m=>m
 | k::ks,m=>mM ks (dN m k (W ((mget m k).getD 0+1)))
def CS(m:List (Int×Int)):Nat→List Int
 | 0=>[]
 | k+1=>CS m k++List.replicate ((mget m (k:Int)).getD 0).toNat (k:Int)
def cntM(xs:List Int)(n:Int):List (Int×Int):=mM (tR xs n 3) (mM (tR xs n 2) (mM (tR xs n 1) (mM (tR xs n 0) [])))
def zY(xs:List Int)(n sh:Int):List Int:=bif ilt 2 sh then tR xs n 0 else CS (cntM xs n) 1024
noncomputable def EV7:pZ Ob Tryz.prog:=EV6
noncomputable def EV8:=EV7
noncomputable def EV9:=EV8
noncomputable def EW0:=EV9
noncomputable def EW1:=EW0
def PL(k:Int)(m:Nat)(f g:Nat→Int):Hint Ob:= {X:=Nat,st:=fun x=>([.int .i64 k,.O,.O,.O,.O,.O,.O,.view m 2 (fun i=>[.int .i64 (f i),.int .i64 (g i)]),.int .i64 (m:Int),.int .i64 (x:Int)]++List.replicate 8 .O,[]),ok:=fun x=>x≤m∧ ∀j,j<x→bX k (f j) (g j)=true,mu:=fun x=>m - x,keep:=[0,7,8,9] }
def uI(sh t m:Int)(ys:List Int)(off k:Nat):Hint Ob:= {X:=Nat×MS,st:=fun x=>([.int .i64 sh,.O,.O,.slice 0 off k 1,.O,.O,.O,.O,.O,.ptr 1 0,.ptr 2 0,.ptr 3 0,.O,.int .i64 (x.1:Int)]++List.replicate 79 .O,[some (.ints (some .i64) ys),some (.cells [.int .i64 0,.int .i64 0]),some (.cells [.int .i64 t,.int .i64 (IntKind.wrap .i64 ((k:Int)+m))]),a9 4 x.2,bA x.2]),ok:=oJ sh t (IntKind.wrap .i64 ((k:Int)+m)) (ys.drop off),mu:=fun x=>4 - x.1,keep:=[0,3,9,10,11,13] }
def HFio(sh t m:Int)(ys:List Int)(off k:Nat)(h:Int):Hint Ob:= {X:=Nat×Int×Int×Int×MS,st:=fun x=>([.int .i64 sh,.O,.O,.slice 0 off k 1,.O,.O,.O,.O,.O,.ptr 1 0,.ptr 2 0,.ptr 3 0,.O,.int .i64 h,.int .i64 x.2.1,.ptr 5 0]++List.replicate 28 .O ++ [.slice 0 off k 1,.int .i64 (k:Int),.int .i64 (x.1:Int)]++List.replicate 46 .O,[some (.ints (some .i64) ys),some (.cells [.int .i64 0,.int .i64 0]),some (.cells [.int .i64 t,.int .i64 (IntKind.wrap .i64 ((k:Int)+m))]),a9 4 x.2.2.2.2,bA x.2.2.2.2,some (.cells [.int .i64 x.2.2.1,.int .i64 0,.bool false,.int .i64 0,.int .i64 x.2.2.2.1])]),ok:=tY sh t (IntKind.wrap .i64 ((k:Int)+m)) (ys.drop off) h,mu:=fun x=>k - x.1,keep:=[0,3,9,10,11,13,14,15,44,45,46] }
def VK(sh t m:Int)(ys:List Int)(off k:Nat):FuncId→Nat→Option (p7 Ob):=fun _ q=>if q=6 then some (.states (uI sh t m ys off k))else if q=10 then some (.statesAt 13 (HFio sh t m ys off k))else some (.rounds 12)
def G1(sh t m:Int)(ys:List Int)(off k:Nat)(K:AVal→aD Ob→Prop):Prop:=True∧bif !gI t (W ((↑k:Int)+m))then K (.tup [.raw (Value.pointer none),.agg [.int .i64 t,.int .i64 (W ((↑k:Int)+m))]]) [some (.ints (some .i64) ys)]else(((0:Int)≤t∧t≤(100000:Int))∧(0:Int)≤W ((↑k:Int)+m)∧W ((↑k:Int)+m)≤(100000:Int))∧bif ilt (2*W ((↑k:Int)+m)+5*t+6) (↑0:Int)then K (.tup [.raw (Value.pointer none),.agg [.int .i64 t,.int .i64 (W ((↑k:Int)+m))]]) [some (.ints (some .i64) ys)]else((((0:Int)≤t∧t≤(100000:Int))∧(0:Int)≤W ((↑k:Int)+m)∧W ((↑k:Int)+m)≤(100000:Int))∧True)∧((0:Int)≤(2:Int)*W ((↑k:Int)+m)+5*t+6∧2*W ((↑k:Int)+m)+5*t+(6:Int)=(2:Int)*W ((↑k:Int)+m)+5*t+6∧2*W ((↑k:Int)+m)+5*t+(6:Int)≤(4294967296:Int))∧okSt (uI sh t m ys off k) (Hint.ok (uI sh t m ys off k)) [.int .i64 sh,.O,.O,.slice 0 off k 1,.O,.O,.O,.O,.O,.ptr 1 0,.ptr 2 0,.ptr 3 0,.O,.int .i64 0,.O,.O,.O,.O,.O,.O,.O,.O,.O,.O,.O,.O,.O,.O,.O,.O,.O,.O,.O,.O,.O,.O,.O,.O,.O,.O,.O,.O,.O,.O,.O,.O,.O,.O,.O,.O,.O,.O,.O,.O,.O,.O,.O,.O,.O,.O,.O,.O,.O,.O,.O,.O,.O,.O,.O,.O,.O,.O,.O,.O,.O,.O,.O,.O,.O,.O,.O,.O,.O,.O,.O,.O,.O,.O,.O,.O,.O,.O,.O] [some (.ints (some .i64) ys),some (.cells [.int .i64 0,.int .i64 0]),some (.cells [.int .i64 t,.int .i64 (W ((↑k:Int)+m))]),some (.cells [.int .i64 t,.int .i64 (W ((↑k:Int)+m)),.slice 4 0 (Int.toNat (2*W ((↑k:Int)+m)+5*t+6)) 1,.int .i64 0,.int .i64 0,.int .i64 0,.int .u64 0,.int .u64 0,.bool false]),some (.ints (some .u64) (List.replicate (Int.toNat (2*W ((↑k:Int)+m)+5*t+6)) 0))]∧ ∀(x:(Nat×MS)),oJ sh t (W ((↑k:Int)+m)) (List.drop off ys) x→bif ilt (↑x.1:Int) 4 then(((0:Int)≤W ((↑k:Int)+m)∧W ((↑k:Int)+m)≤(100000:Int))∧(-1000000:Int)≤(↑x.1:Int)∧(↑x.1:Int)≤(1000000:Int))∧okSt (HFio sh t m ys off k (↑(Prod.fst x):Int)) (Hint.ok (HFio sh t m ys off k (↑(Prod.fst x):Int))) [.int .i64 sh,.O,.O,.slice 0 off k 1,.O,.O,.O,.O,.O,.ptr 1 0,.ptr 2 0,.ptr 3 0,.O,.int .i64 (↑x.1:Int),.int .i64 (W ((↑k:Int)+m)+1+(↑x.1:Int)),.ptr 5 0,.O,.O,.O,.O,.O,.O,.O,.O,.O,.O,.O,.O,.O,.O,.O,.O,.O,.O,.O,.O,.O,.O,.O,.O,.O,.O,.O,.O,.slice 0 off k 1,.int .i64 (↑k:Int),.int .i64 0,.O,.O,.O,.O,.O,.O,.O,.O,.O,.O,.O,.O,.O,.O,.O,.O,.O,.O,.O,.O,.O,.O,.O,.O,.O,.O,.O,.O,.O,.O,.O,.O,.O,.O,.O,.O,.O,.O,.O,.O,.O,.O,.O,.O,.O,.O] [some (.ints (some .i64) ys),some (.cells [.int .i64 0,.int .i64 0]),some (.cells [.int .i64 t,.int .i64 (W ((↑k:Int)+m))]),some (.cells [.int .i64 (Prod.snd x).1,.int .i64 (Prod.snd x).2,.slice 4 0 (List.length (Prod.snd x).3) 1,.int .i64 (Prod.snd x).4,.int .i64 (Prod.snd x).5,.int .i64 (Prod.snd x).6,.int .u64 (Prod.snd x).7,.int .u64 (Prod.snd x).8,.bool (Prod.snd x).9]),some (.ints (some .u64) (Prod.snd x).3),some (.cells [.int .i64 0,.int .i64 0,.bool false,.int .i64 0,.int .i64 0])]∧ ∀(x_1:Hint.X (HFio sh t m ys off k (↑(Prod.fst x):Int))),tY sh t (W ((↑k:Int)+m)) (List.drop off ys) (↑x.1:Int) x_1→bif ilt (↑x_1.1:Int) (↑k:Int)then((0:Int)≤(↑x_1.1:Int)∧(↑x_1.1:Int)<(↑k:Int))∧off+Int.toNat (↑x_1.1:Int)*(1:Nat)<List.length ys∧bif ieq sh 2 then(4:Int)≠(0:Int)∧bif !ieq (Int.tmod (List.getD ys (off+Int.toNat (↑x_1.1:Int)*1) 0) 4) (↑x.1:Int)then okSt (HFio sh t m ys off k (↑(Prod.fst x):Int)) (fun x'=>Hint.ok (HFio sh t m ys off k (↑(Prod.fst x):Int)) x'∧Hint.mu (HFio sh t m ys off k (↑(Prod.fst x):Int)) x'<Hint.mu (HFio sh t m ys off k (↑(Prod.fst x):Int)) x_1) [.int .i64 sh,.O,.O,.slice 0 off k 1,.O,.O,.O,.O,.O,.ptr 1 0,.ptr 2 0,.ptr 3 0,.O,.int .i64 (↑x.1:Int),.int .i64 (Prod.snd x_1).1,.ptr 5 0,.O,.O,.O,.O,.O,.O,.O,.O,.O,.O,.O,.O,.O,.O,.O,.O,.O,.O,.O,.O,.O,.O,.O,.O,.O,.O,.O,.O,.slice 0 off k 1,.int .i64 (↑k:Int),.int .i64 (W ((↑x_1.1:Int)+1)),.O,.O,.O,.O,.O,.O,.O,.O,.O,.O,.O,.O,.O,.O,.O,.O,.O,.O,.O,.O,.O,.O,.O,.O,.O,.O,.O,.O,.O,.O,.O,.O,.O,.O,.O,.O,.O,.O,.O,.O,.O,.O,.O,.O,.O,.O] [some (.ints (some .i64) ys),some (.cells [.int .i64 0,.int .i64 0]),some (.cells [.int .i64 t,.int .i64 (W ((↑k:Int)+m))]),some (.cells [.int .i64 (Prod.snd (Prod.snd x_1.2).2).1,.int .i64 (Prod.snd (Prod.snd x_1.2).2).2,.slice 4 0 (List.length (Prod.snd (Prod.snd x_1.2).2).3) 1,.int .i64 (Prod.snd (Prod.snd x_1.2).2).4,.int .i64 (Prod.snd (Prod.snd x_1.2).2).5,.int .i64 (Prod.snd (Prod.snd x_1.2).2).6,.int .u64 (Prod.snd (Prod.snd x_1.2).2).7,.int .u64 (Prod.snd (Prod.snd x_1.2).2).8,.bool (Prod.snd (Prod.snd x_1.2).2).9]),some (.ints (some .u64) (Prod.snd (Prod.snd x_1.2).2).3),some (.cells [.int .i64 (Prod.snd x_1.2).1,.int .i64 0,.bool false,.int .i64 0,.int .i64 (Prod.snd (Prod.snd x_1).2).1])]else bif !ieq sh 2 then bif ilt 0 (↑x.1:Int)then okSt (HFio sh t m ys off k (↑(Prod.fst x):Int)) (fun x'=>Hint.ok (HFio sh t m ys off k (↑(Prod.fst x):Int)) x'∧Hint.mu (HFio sh t m ys off k (↑(Prod.fst x):Int)) x'<Hint.mu (HFio sh t m ys off k (↑(Prod.fst x):Int)) x_1) [.int .i64 sh,.O,.O,.slice 0 off k 1,.O,.O,.O,.O,.O,.ptr 1 0,.ptr 2 0,.ptr 3 0,.O,.int .i64 (↑x.1:Int),.int .i64 (Prod.snd x_1).1,.ptr 5 0,.O,.O,.O,.O,.O,.O,.O,.O,.O,.O,.O,.O,.O,.O,.O,.O,.O,.O,.O,.O,.O,.O,.O,.O,.O,.O,.O,.O,.slice 0 off k 1,.int .i64 (↑k:Int),.int .i64 (W ((↑x_1.1:Int)+1)),.O,.O,.O,.O,.O,.O,.O,.O,.O,.O,.O,.O,.O,.O,.O,.O,.O,.O,.O,.O,.O,.O,.O,.O,.O,.O,.O,.O,.O,.O,.O,.O,.O,.O,.O,.O,.O,.O,.O,.O,.O,.O,.O,.O,.O,.O] [some (.ints (some .i64) ys),some (.cells [.int .i64 0,.int .i64 0]),some (.cells [.int .i64 t,.int .i64 (W ((↑k:Int)+m))]),some (.cells [.int .i64 (Prod.snd (Prod.snd x_1.2).2).1,.int .i64 (Prod.snd (Prod.snd x_1.2).2).2,.slice 4 0 (List.length (Prod.snd (Prod.snd x_1.2).2).3) 1,.int .i64 (Prod.snd (Prod.snd x_1.2).2).4,.int .i64 (Prod.snd (Prod.snd x_1.2).2).5,.int .i64 (Prod.snd (Prod.snd x_1.2).2).6,.int .u64 (Prod.snd (Prod.snd x_1.2).2).7,.int .u64 (Prod.snd (Prod.snd x_1.2).2).8,.bool (Prod.snd (Prod.snd x_1.2).2).9]),some (.ints (some .u64) (Prod.snd (Prod.snd x_1.2).2).3),some (.cells [.int .i64 (Prod.snd x_1.2).1,.int .i64 0,.bool false,.int .i64 0,.int .i64 (Prod.snd (Prod.snd x_1).2).1])]else(((0:Int)≤(Prod.snd x_1.2).1∧(Prod.snd x_1.2).1<(1024:Int))∧((0:Int)≤W ((↑x_1.1:Int)+1)∧W ((↑x_1.1:Int)+1)<(512:Int))∧((0:Int)≤(0:Int)∧(0:Int)<(32:Int))∧(0:Int)≤(Prod.snd (Prod.snd x_1).2).1∧(Prod.snd (Prod.snd x_1).2).1<(262144:Int))∧(lE' (Prod.snd (Prod.snd x_1.2).2).3∧(0:Int)≤(Prod.snd (Prod.snd x_1.2).2).4∧(Prod.snd (Prod.snd x_1.2).2).4≤(4611686018427387904:Int))∧(((0:Int)≤t∧t≤(100000:Int))∧((0:Int)≤W ((↑k:Int)+m)∧W ((↑k:Int)+m)≤(100000:Int))∧(-1099511627776:Int)≤W ((↑x_1.1:Int)+1)∧W ((↑x_1.1:Int)+1)≤(1099511627776:Int))∧(lE' (aJ (Prod.snd (Prod.snd x_1.2).2).3 (Prod.snd x_1).1 (aT (Prod.snd x_1.2).1 (W ((↑x_1.1:Int)+1)) false 0 (Prod.snd (Prod.snd x_1).2).1))∧(0:Int)≤(Prod.snd (Prod.snd x_1.2).2).4+1∧(Prod.snd (Prod.snd x_1.2).2).4+(1:Int)≤(4611686018427387904:Int))∧okSt (HFio sh t m ys off k (↑(Prod.fst x):Int)) (fun x'=>Hint.ok (HFio sh t m ys off k (↑(Prod.fst x):Int)) x'∧Hint.mu (HFio sh t m ys off k (↑(Prod.fst x):Int)) x'<Hint.mu (HFio sh t m ys off k (↑(Prod.fst x):Int)) x_1) [.int .i64 sh,.O,.O,.slice 0 off k 1,.O,.O,.O,.O,.O,.ptr 1 0,.ptr 2 0,.ptr 3 0,.O,.int .i64 (↑x.1:Int),.int .i64 (W ((↑x_1.1:Int)+1)),.ptr 5 0,.O,.O,.O,.O,.O,.O,.O,.O,.O,.O,.O,.O,.O,.O,.O,.O,.O,.O,.O,.O,.O,.O,.O,.O,.O,.O,.O,.O,.slice 0 off k 1,.int .i64 (↑k:Int),.int .i64 (W ((↑x_1.1:Int)+1)),.O,.O,.O,.O,.O,.O,.O,.O,.O,.O,.O,.O,.O,.O,.O,.O,.O,.O,.O,.O,.O,.O,.O,.O,.O,.O,.O,.O,.O,.O,.O,.O,.O,.O,.O,.O,.O,.O,.O,.O,.O,.O,.O,.O,.O,.O] [some (.ints (some .i64) ys),some (.cells [.int .i64 0,.int .i64 0]),some (.cells [.int .i64 t,.int .i64 (W ((↑k:Int)+m))]),some (.cells [.int .i64 (Prod.snd (Prod.snd x_1.2).2).1,.int .i64 (Prod.snd (Prod.snd x_1.2).2).2,.slice 4 0 (List.length (aJ (aJ (Prod.snd (Prod.snd x_1.2).2).3 (Prod.snd x_1).1 (aT (Prod.snd x_1.2).1 (W ((↑x_1.1:Int)+1)) false 0 (Prod.snd (Prod.snd x_1).2).1)) (W ((↑k:Int)+m)+4+W ((↑x_1.1:Int)+1)) 1)) 1,.int .i64 ((Prod.snd (Prod.snd x_1.2).2).4+1+1),.int .i64 2,.int .i64 (W ((↑k:Int)+m)+4+W ((↑x_1.1:Int)+1)),.int .u64 (aB (aJ (Prod.snd (Prod.snd x_1.2).2).3 (Prod.snd x_1).1 (aT (Prod.snd x_1.2).1 (W ((↑x_1.1:Int)+1)) false 0 (Prod.snd (Prod.snd x_1).2).1)) (W ((↑k:Int)+m)+4+W ((↑x_1.1:Int)+1))),.int .u64 (bif bL (aJ (Prod.snd (Prod.snd x_1.2).2).3 (Prod.snd x_1).1 (aT (Prod.snd x_1.2).1 (W ((↑x_1.1:Int)+1)) false 0 (Prod.snd (Prod.snd x_1).2).1)) (W ((↑k:Int)+m)+4+W ((↑x_1.1:Int)+1))then 1 else 0),.bool (bL (aJ (Prod.snd (Prod.snd x_1.2).2).3 (Prod.snd x_1).1 (aT (Prod.snd x_1.2).1 (W ((↑x_1.1:Int)+1)) false 0 (Prod.snd (Prod.snd x_1).2).1)) (W ((↑k:Int)+m)+4+W ((↑x_1.1:Int)+1)))]),some (.ints (some .u64) (aJ (aJ (Prod.snd (Prod.snd x_1.2).2).3 (Prod.snd x_1).1 (aT (Prod.snd x_1.2).1 (W ((↑x_1.1:Int)+1)) false 0 (Prod.snd (Prod.snd x_1).2).1)) (W ((↑k:Int)+m)+4+W ((↑x_1.1:Int)+1)) 1)),some (.cells [.int .i64 (List.getD ys (off+Int.toNat (↑x_1.1:Int)*1) 0),.int .i64 0,.bool false,.int .i64 0,.int .i64 3])]else(((0:Int)≤(Prod.snd x_1.2).1∧(Prod.snd x_1.2).1<(1024:Int))∧((0:Int)≤W ((↑x_1.1:Int)+1)∧W ((↑x_1.1:Int)+1)<(512:Int))∧((0:Int)≤(0:Int)∧(0:Int)<(32:Int))∧(0:Int)≤(Prod.snd (Prod.snd x_1).2).1∧(Prod.snd (Prod.snd x_1).2).1<(262144:Int))∧(lE' (Prod.snd (Prod.snd x_1.2).2).3∧(0:Int)≤(Prod.snd (Prod.snd x_1.2).2).4∧(Prod.snd (Prod.snd x_1.2).2).4≤(4611686018427387904:Int))∧(((0:Int)≤t∧t≤(100000:Int))∧((0:Int)≤W ((↑k:Int)+m)∧W ((↑k:Int)+m)≤(100000:Int))∧(-1099511627776:Int)≤W ((↑x_1.1:Int)+1)∧W ((↑x_1.1:Int)+1)≤(1099511627776:Int))∧(lE' (aJ (Prod.snd (Prod.snd x_1.2).2).3 (Prod.snd x_1).1 (aT (Prod.snd x_1.2).1 (W ((↑x_1.1:Int)+1)) false 0 (Prod.snd (Prod.snd x_1).2).1))∧(0:Int)≤(Prod.snd (Prod.snd x_1.2).2).4+1∧(Prod.snd (Prod.snd x_1.2).2).4+(1:Int)≤(4611686018427387904:Int))∧okSt (HFio sh t m ys off k (↑(Prod.fst x):Int)) (fun x'=>Hint.ok (HFio sh t m ys off k (↑(Prod.fst x):Int)) x'∧Hint.mu (HFio sh t m ys off k (↑(Prod.fst x):Int)) x'<Hint.mu (HFio sh t m ys off k (↑(Prod.fst x):Int)) x_1) [.int .i64 sh,.O,.O,.slice 0 off k 1,.O,.O,.O,.O,.O,.ptr 1 0,.ptr 2 0,.ptr 3 0,.O,.int .i64 (↑x.1:Int),.int .i64 (W ((↑x_1.1:Int)+1)),.ptr 5 0,.O,.O,.O,.O,.O,.O,.O,.O,.O,.O,.O,.O,.O,.O,.O,.O,.O,.O,.O,.O,.O,.O,.O,.O,.O,.O,.O,.O,.slice 0 off k 1,.int .i64 (↑k:Int),.int .i64 (W ((↑x_1.1:Int)+1)),.O,.O,.O,.O,.O,.O,.O,.O,.O,.O,.O,.O,.O,.O,.O,.O,.O,.O,.O,.O,.O,.O,.O,.O,.O,.O,.O,.O,.O,.O,.O,.O,.O,.O,.O,.O,.O,.O,.O,.O,.O,.O,.O,.O,.O,.O] [some (.ints (some .i64) ys),some (.cells [.int .i64 0,.int .i64 0]),some (.cells [.int .i64 t,.int .i64 (W ((↑k:Int)+m))]),some (.cells [.int .i64 (Prod.snd (Prod.snd x_1.2).2).1,.int .i64 (Prod.snd (Prod.snd x_1.2).2).2,.slice 4 0 (List.length (aJ (aJ (Prod.snd (Prod.snd x_1.2).2).3 (Prod.snd x_1).1 (aT (Prod.snd x_1.2).1 (W ((↑x_1.1:Int)+1)) false 0 (Prod.snd (Prod.snd x_1).2).1)) (W ((↑k:Int)+m)+4+W ((↑x_1.1:Int)+1)) 1)) 1,.int .i64 ((Prod.snd (Prod.snd x_1.2).2).4+1+1),.int .i64 2,.int .i64 (W ((↑k:Int)+m)+4+W ((↑x_1.1:Int)+1)),.int .u64 (aB (aJ (Prod.snd (Prod.snd x_1.2).2).3 (Prod.snd x_1).1 (aT (Prod.snd x_1.2).1 (W ((↑x_1.1:Int)+1)) false 0 (Prod.snd (Prod.snd x_1).2).1)) (W ((↑k:Int)+m)+4+W ((↑x_1.1:Int)+1))),.int .u64 (bif bL (aJ (Prod.snd (Prod.snd x_1.2).2).3 (Prod.snd x_1).1 (aT (Prod.snd x_1.2).1 (W ((↑x_1.1:Int)+1)) false 0 (Prod.snd (Prod.snd x_1).2).1)) (W ((↑k:Int)+m)+4+W ((↑x_1.1:Int)+1))then 1 else 0),.bool (bL (aJ (Prod.snd (Prod.snd x_1.2).2).3 (Prod.snd x_1).1 (aT (Prod.snd x_1.2).1 (W ((↑x_1.1:Int)+1)) false 0 (Prod.snd (Prod.snd x_1).2).1)) (W ((↑k:Int)+m)+4+W ((↑x_1.1:Int)+1)))]),some (.ints (some .u64) (aJ (aJ (Prod.snd (Prod.snd x_1.2).2).3 (Prod.snd x_1).1 (aT (Prod.snd x_1.2).1 (W ((↑x_1.1:Int)+1)) false 0 (Prod.snd (Prod.snd x_1).2).1)) (W ((↑k:Int)+m)+4+W ((↑x_1.1:Int)+1)) 1)),some (.cells [.int .i64 (List.getD ys (off+Int.toNat (↑x_1.1:Int)*1) 0),.int .i64 0,.bool false,.int .i64 0,.int .i64 3])]else bif !ieq sh 2 then bif ilt 0 (↑x.1:Int)then okSt (HFio sh t m ys off k (↑(Prod.fst x):Int)) (fun x'=>Hint.ok (HFio sh t m ys off k (↑(Prod.fst x):Int)) x'∧Hint.mu (HFio sh t m ys off k (↑(Prod.fst x):Int)) x'<Hint.mu (HFio sh t m ys off k (↑(Prod.fst x):Int)) x_1) [.int .i64 sh,.O,.O,.slice 0 off k 1,.O,.O,.O,.O,.O,.ptr 1 0,.ptr 2 0,.ptr 3 0,.O,.int .i64 (↑x.1:Int),.int .i64 (Prod.snd x_1).1,.ptr 5 0,.O,.O,.O,.O,.O,.O,.O,.O,.O,.O,.O,.O,.O,.O,.O,.O,.O,.O,.O,.O,.O,.O,.O,.O,.O,.O,.O,.O,.slice 0 off k 1,.int .i64 (↑k:Int),.int .i64 (W ((↑x_1.1:Int)+1)),.O,.O,.O,.O,.O,.O,.O,.O,.O,.O,.O,.O,.O,.O,.O,.O,.O,.O,.O,.O,.O,.O,.O,.O,.O,.O,.O,.O,.O,.O,.O,.O,.O,.O,.O,.O,.O,.O,.O,.O,.O,.O,.O,.O,.O,.O] [some (.ints (some .i64) ys),some (.cells [.int .i64 0,.int .i64 0]),some (.cells [.int .i64 t,.int .i64 (W ((↑k:Int)+m))]),some (.cells [.int .i64 (Prod.snd (Prod.snd x_1.2).2).1,.int .i64 (Prod.snd (Prod.snd x_1.2).2).2,.slice 4 0 (List.length (Prod.snd (Prod.snd x_1.2).2).3) 1,.int .i64 (Prod.snd (Prod.snd x_1.2).2).4,.int .i64 (Prod.snd (Prod.snd x_1.2).2).5,.int .i64 (Prod.snd (Prod.snd x_1.2).2).6,.int .u64 (Prod.snd (Prod.snd x_1.2).2).7,.int .u64 (Prod.snd (Prod.snd x_1.2).2).8,.bool (Prod.snd (Prod.snd x_1.2).2).9]),some (.ints (some .u64) (Prod.snd (Prod.snd x_1.2).2).3),some (.cells [.int .i64 (Prod.snd x_1.2).1,.int .i64 0,.bool false,.int .i64 0,.int .i64 (Prod.snd (Prod.snd x_1).2).1])]else(((0:Int)≤(Prod.snd x_1.2).1∧(Prod.snd x_1.2).1<(1024:Int))∧((0:Int)≤W ((↑x_1.1:Int)+1)∧W ((↑x_1.1:Int)+1)<(512:Int))∧((0:Int)≤(0:Int)∧(0:Int)<(32:Int))∧(0:Int)≤(Prod.snd (Prod.snd x_1).2).1∧(Prod.snd (Prod.snd x_1).2).1<(262144:Int))∧(lE' (Prod.snd (Prod.snd x_1.2).2).3∧(0:Int)≤(Prod.snd (Prod.snd x_1.2).2).4∧(Prod.snd (Prod.snd x_1.2).2).4≤(4611686018427387904:Int))∧(((0:Int)≤t∧t≤(100000:Int))∧((0:Int)≤W ((↑k:Int)+m)∧W ((↑k:Int)+m)≤(100000:Int))∧(-1099511627776:Int)≤W ((↑x_1.1:Int)+1)∧W ((↑x_1.1:Int)+1)≤(1099511627776:Int))∧(lE' (aJ (Prod.snd (Prod.snd x_1.2).2).3 (Prod.snd x_1).1 (aT (Prod.snd x_1.2).1 (W ((↑x_1.1:Int)+1)) false 0 (Prod.snd (Prod.snd x_1).2).1))∧(0:Int)≤(Prod.snd (Prod.snd x_1.2).2).4+1∧(Prod.snd (Prod.snd x_1.2).2).4+(1:Int)≤(4611686018427387904:Int))∧okSt (HFio sh t m ys off k (↑(Prod.fst x):Int)) (fun x'=>Hint.ok (HFio sh t m ys off k (↑(Prod.fst x):Int)) x'∧Hint.mu (HFio sh t m ys off k (↑(Prod.fst x):Int)) x'<Hint.mu (HFio sh t m ys off k (↑(Prod.fst x):Int)) x_1) [.int .i64 sh,.O,.O,.slice 0 off k 1,.O,.O,.O,.O,.O,.ptr 1 0,.ptr 2 0,.ptr 3 0,.O,.int .i64 (↑x.1:Int),.int .i64 (W ((↑x_1.1:Int)+1)),.ptr 5 0,.O,.O,.O,.O,.O,.O,.O,.O,.O,.O,.O,.O,.O,.O,.O,.O,.O,.O,.O,.O,.O,.O,.O,.O,.O,.O,.O,.O,.slice 0 off k 1,.int .i64 (↑k:Int),.int .i64 (W ((↑x_1.1:Int)+1)),.O,.O,.O,.O,.O,.O,.O,.O,.O,.O,.O,.O,.O,.O,.O,.O,.O,.O,.O,.O,.O,.O,.O,.O,.O,.O,.O,.O,.O,.O,.O,.O,.O,.O,.O,.O,.O,.O,.O,.O,.O,.O,.O,.O,.O,.O] [some (.ints (some .i64) ys),some (.cells [.int .i64 0,.int .i64 0]),some (.cells [.int .i64 t,.int .i64 (W ((↑k:Int)+m))]),some (.cells [.int .i64 (Prod.snd (Prod.snd x_1.2).2).1,.int .i64 (Prod.snd (Prod.snd x_1.2).2).2,.slice 4 0 (List.length (aJ (aJ (Prod.snd (Prod.snd x_1.2).2).3 (Prod.snd x_1).1 (aT (Prod.snd x_1.2).1 (W ((↑x_1.1:Int)+1)) false 0 (Prod.snd (Prod.snd x_1).2).1)) (W ((↑k:Int)+m)+4+W ((↑x_1.1:Int)+1)) 1)) 1,.int .i64 ((Prod.snd (Prod.snd x_1.2).2).4+1+1),.int .i64 2,.int .i64 (W ((↑k:Int)+m)+4+W ((↑x_1.1:Int)+1)),.int .u64 (aB (aJ (Prod.snd (Prod.snd x_1.2).2).3 (Prod.snd x_1).1 (aT (Prod.snd x_1.2).1 (W ((↑x_1.1:Int)+1)) false 0 (Prod.snd (Prod.snd x_1).2).1)) (W ((↑k:Int)+m)+4+W ((↑x_1.1:Int)+1))),.int .u64 (bif bL (aJ (Prod.snd (Prod.snd x_1.2).2).3 (Prod.snd x_1).1 (aT (Prod.snd x_1.2).1 (W ((↑x_1.1:Int)+1)) false 0 (Prod.snd (Prod.snd x_1).2).1)) (W ((↑k:Int)+m)+4+W ((↑x_1.1:Int)+1))then 1 else 0),.bool (bL (aJ (Prod.snd (Prod.snd x_1.2).2).3 (Prod.snd x_1).1 (aT (Prod.snd x_1.2).1 (W ((↑x_1.1:Int)+1)) false 0 (Prod.snd (Prod.snd x_1).2).1)) (W ((↑k:Int)+m)+4+W ((↑x_1.1:Int)+1)))]),some (.ints (some .u64) (aJ (aJ (Prod.snd (Prod.snd x_1.2).2).3 (Prod.snd x_1).1 (aT (Prod.snd x_1.2).1 (W ((↑x_1.1:Int)+1)) false 0 (Prod.snd (Prod.snd x_1).2).1)) (W ((↑k:Int)+m)+4+W ((↑x_1.1:Int)+1)) 1)),some (.cells [.int .i64 (List.getD ys (off+Int.toNat (↑x_1.1:Int)*1) 0),.int .i64 0,.bool false,.int .i64 0,.int .i64 3])]else(((0:Int)≤(Prod.snd x_1.2).1∧(Prod.snd x_1.2).1<(1024:Int))∧((0:Int)≤W ((↑x_1.1:Int)+1)∧W ((↑x_1.1:Int)+1)<(512:Int))∧((0:Int)≤(0:Int)∧(0:Int)<(32:Int))∧(0:Int)≤(Prod.snd (Prod.snd x_1).2).1∧(Prod.snd (Prod.snd x_1).2).1<(262144:Int))∧(lE' (Prod.snd (Prod.snd x_1.2).2).3∧(0:Int)≤(Prod.snd (Prod.snd x_1.2).2).4∧(Prod.snd (Prod.snd x_1.2).2).4≤(4611686018427387904:Int))∧(((0:Int)≤t∧t≤(100000:Int))∧((0:Int)≤W ((↑k:Int)+m)∧W ((↑k:Int)+m)≤(100000:Int))∧(-1099511627776:Int)≤W ((↑x_1.1:Int)+1)∧W ((↑x_1.1:Int)+1)≤(1099511627776:Int))∧(lE' (aJ (Prod.snd (Prod.snd x_1.2).2).3 (Prod.snd x_1).1 (aT (Prod.snd x_1.2).1 (W ((↑x_1.1:Int)+1)) false 0 (Prod.snd (Prod.snd x_1).2).1))∧(0:Int)≤(Prod.snd (Prod.snd x_1.2).2).4+1∧(Prod.snd (Prod.snd x_1.2).2).4+(1:Int)≤(4611686018427387904:Int))∧okSt (HFio sh t m ys off k (↑(Prod.fst x):Int)) (fun x'=>Hint.ok (HFio sh t m ys off k (↑(Prod.fst x):Int)) x'∧Hint.mu (HFio sh t m ys off k (↑(Prod.fst x):Int)) x'<Hint.mu (HFio sh t m ys off k (↑(Prod.fst x):Int)) x_1) [.int .i64 sh,.O,.O,.slice 0 off k 1,.O,.O,.O,.O,.O,.ptr 1 0,.ptr 2 0,.ptr 3 0,.O,.int .i64 (↑x.1:Int),.int .i64 (W ((↑x_1.1:Int)+1)),.ptr 5 0,.O,.O,.O,.O,.O,.O,.O,.O,.O,.O,.O,.O,.O,.O,.O,.O,.O,.O,.O,.O,.O,.O,.O,.O,.O,.O,.O,.O,.slice 0 off k 1,.int .i64 (↑k:Int),.int .i64 (W ((↑x_1.1:Int)+1)),.O,.O,.O,.O,.O,.O,.O,.O,.O,.O,.O,.O,.O,.O,.O,.O,.O,.O,.O,.O,.O,.O,.O,.O,.O,.O,.O,.O,.O,.O,.O,.O,.O,.O,.O,.O,.O,.O,.O,.O,.O,.O,.O,.O,.O,.O] [some (.ints (some .i64) ys),some (.cells [.int .i64 0,.int .i64 0]),some (.cells [.int .i64 t,.int .i64 (W ((↑k:Int)+m))]),some (.cells [.int .i64 (Prod.snd (Prod.snd x_1.2).2).1,.int .i64 (Prod.snd (Prod.snd x_1.2).2).2,.slice 4 0 (List.length (aJ (aJ (Prod.snd (Prod.snd x_1.2).2).3 (Prod.snd x_1).1 (aT (Prod.snd x_1.2).1 (W ((↑x_1.1:Int)+1)) false 0 (Prod.snd (Prod.snd x_1).2).1)) (W ((↑k:Int)+m)+4+W ((↑x_1.1:Int)+1)) 1)) 1,.int .i64 ((Prod.snd (Prod.snd x_1.2).2).4+1+1),.int .i64 2,.int .i64 (W ((↑k:Int)+m)+4+W ((↑x_1.1:Int)+1)),.int .u64 (aB (aJ (Prod.snd (Prod.snd x_1.2).2).3 (Prod.snd x_1).1 (aT (Prod.snd x_1.2).1 (W ((↑x_1.1:Int)+1)) false 0 (Prod.snd (Prod.snd x_1).2).1)) (W ((↑k:Int)+m)+4+W ((↑x_1.1:Int)+1))),.int .u64 (bif bL (aJ (Prod.snd (Prod.snd x_1.2).2).3 (Prod.snd x_1).1 (aT (Prod.snd x_1.2).1 (W ((↑x_1.1:Int)+1)) false 0 (Prod.snd (Prod.snd x_1).2).1)) (W ((↑k:Int)+m)+4+W ((↑x_1.1:Int)+1))then 1 else 0),.bool (bL (aJ (Prod.snd (Prod.snd x_1.2).2).3 (Prod.snd x_1).1 (aT (Prod.snd x_1.2).1 (W ((↑x_1.1:Int)+1)) false 0 (Prod.snd (Prod.snd x_1).2).1)) (W ((↑k:Int)+m)+4+W ((↑x_1.1:Int)+1)))]),some (.ints (some .u64) (aJ (aJ (Prod.snd (Prod.snd x_1.2).2).3 (Prod.snd x_1).1 (aT (Prod.snd x_1.2).1 (W ((↑x_1.1:Int)+1)) false 0 (Prod.snd (Prod.snd x_1).2).1)) (W ((↑k:Int)+m)+4+W ((↑x_1.1:Int)+1)) 1)),some (.cells [.int .i64 (List.getD ys (off+Int.toNat (↑x_1.1:Int)*1) 0),.int .i64 0,.bool false,.int .i64 0,.int .i64 3])]else(((0:Int)≤(Prod.snd x_1.2).1∧(Prod.snd x_1.2).1<(1024:Int))∧((0:Int)≤(0:Int)∧(0:Int)<(512:Int))∧((0:Int)≤(0:Int)∧(0:Int)<(32:Int))∧(0:Int)≤(Prod.snd (Prod.snd x_1).2).1∧(Prod.snd (Prod.snd x_1).2).1<(262144:Int))∧(lE' (Prod.snd (Prod.snd x_1.2).2).3∧(0:Int)≤(Prod.snd (Prod.snd x_1.2).2).4∧(Prod.snd (Prod.snd x_1.2).2).4≤(4611686018427387904:Int))∧okSt (uI sh t m ys off k) (fun x'=>Hint.ok (uI sh t m ys off k) x'∧Hint.mu (uI sh t m ys off k) x'<Hint.mu (uI sh t m ys off k) x) [.int .i64 sh,.O,.O,.slice 0 off k 1,.O,.O,.O,.O,.O,.ptr 1 0,.ptr 2 0,.ptr 3 0,.O,.int .i64 (W ((↑x.1:Int)+1)),.O,.O,.O,.O,.O,.O,.O,.O,.O,.O,.O,.O,.O,.O,.O,.O,.O,.O,.O,.O,.O,.O,.O,.O,.O,.O,.O,.O,.O,.O,.O,.O,.O,.O,.O,.O,.O,.O,.O,.O,.O,.O,.O,.O,.O,.O,.O,.O,.O,.O,.O,.O,.O,.O,.O,.O,.O,.O,.O,.O,.O,.O,.O,.O,.O,.O,.O,.O,.O,.O,.O,.O,.O,.O,.O,.O,.O,.O,.O] [some (.ints (some .i64) ys),some (.cells [.int .i64 0,.int .i64 0]),some (.cells [.int .i64 t,.int .i64 (W ((↑k:Int)+m))]),some (.cells [.int .i64 (Prod.snd (Prod.snd x_1.2).2).1,.int .i64 (Prod.snd (Prod.snd x_1.2).2).2,.slice 4 0 (List.length (aJ (Prod.snd (Prod.snd x_1.2).2).3 (Prod.snd x_1).1 (aT (Prod.snd x_1.2).1 0 false 0 (Prod.snd (Prod.snd x_1).2).1))) 1,.int .i64 ((Prod.snd (Prod.snd x_1.2).2).4+1),.int .i64 2,.int .i64 (Prod.snd x_1).1,.int .u64 (aB (Prod.snd (Prod.snd x_1.2).2).3 (Prod.snd x_1).1),.int .u64 (bif bL (Prod.snd (Prod.snd x_1.2).2).3 (Prod.snd x_1).1 then aT (Prod.snd x_1.2).1 0 false 0 (Prod.snd (Prod.snd x_1).2).1 else 0),.bool (bL (Prod.snd (Prod.snd x_1.2).2).3 (Prod.snd x_1).1)]),some (.ints (some .u64) (aJ (Prod.snd (Prod.snd x_1.2).2).3 (Prod.snd x_1).1 (aT (Prod.snd x_1.2).1 0 false 0 (Prod.snd (Prod.snd x_1).2).1)))]else K (.tup [.ptr 1 0,.agg [.int .i64 t,.int .i64 (W ((↑k:Int)+m))]]) [some (.ints (some .i64) ys),some (.cells [.int .i64 (Prod.snd x).1,.int .i64 (Prod.snd x).2,.slice 2 0 (List.length (Prod.snd x).3) 1,.int .i64 (Prod.snd x).4,.int .i64 (Prod.snd x).5,.int .i64 (Prod.snd x).6,.int .u64 (Prod.snd x).7,.int .u64 (Prod.snd x).8,.bool (Prod.snd x).9]),some (.ints (some .u64) (Prod.snd x).3)]
theorem IZ(sh t m:Int)(ys:List Int)(off k:Nat)(K:AVal→aD Ob→Prop)(h:G1 sh t m ys off k K):cT' 15 [.int .i64 sh,.int .i64 t,.int .i64 m,.slice 0 off k 1] [some (.ints (some .i64) ys)] K:=by
 refine aBs (aE (E:=EW1) Tryz.checked.mixed (L:=(VK sh t m ys off k)) (n:=10) (aR (by kernel_rfl) h))
theorem GN{ys:List Int}{off k i:Nat}(ho:off+k=ys.length)(hi:i<k):ys.getD (off+(i:Int).toNat *1) 0=(ys.drop off)[i]'(by rw [List.length_drop];omega):=by
 have e:off+(i:Int).toNat *1=off+i:=by omega
 rw [e,List.getElem_drop,gD',gE' (by omega)];rfl
theorem VN(sh t m:Int)(ys:List Int)(off k:Nat)(K:AVal→aD Ob→Prop)(ho:off+k=ys.length)(hm:0≤m∧m≤100)(hl:k≤100)(hr:gI t ((k:Int)+m)=true)(hk: ∀q∈ys.drop off,0≤q∧q<1024)
 (hK:K (.tup [.ptr 1 0,.agg [.int .i64 t,.int .i64 ((k:Int)+m)]]) [some (.ints (some .i64) ys),a9 2 (fY sh ((k:Int)+m) (ys.drop off) 4 0 (memN t ((k:Int)+m))),bA (fY sh ((k:Int)+m) (ys.drop off) 4 0 (memN t ((k:Int)+m)))]):G1 sh t m ys off k K:=by
 have hd:(ys.drop off).length =k:=by rw [List.length_drop];omega
 unfold G1
 have hr2:=kP.1 hr
 have hn:W ((k:Int)+m)=k+m:=cU (by omega)
 have hr':gI t (W ((k:Int)+m))=true:=by rw [hn];exact hr
 have hz:(2*W ((k:Int)+m)+5*t+6).toNat =(2*((k:Int)+m)+5*t+6).toNat :=by rw [hn]
 rw [hr']
 refine⟨trivial,aP (fun e=>by cases e) (fun _=>⟨⟨by omega,by omega,by omega⟩,aP (fun e=>?_) (fun _=>⟨⟨⟨by omega,by omega,by omega⟩,trivial⟩,⟨by omega,rfl,by omega⟩,?_,?_⟩)⟩)⟩
 ·rw [bS,dT']at e;omega
 ·refine aW (H:=uI sh t m ys off k) ((0:Nat),memN t (W ((k:Int)+m))) ?_ ⟨Nat.zero_le _,⟨Int.le_refl 0,by show(0:Int)≤_;omega⟩,rfl⟩
  simp only [uI,a9,bA,memN,List.length_replicate]
  rfl
 ·rintro⟨h,s⟩ ⟨h4,hc,heq⟩
  simp only at h4 hc heq
  refine aP (fun e1=>?_) (fun e1=>?_)
  ·rw [bS,dT']at e1
   refine⟨⟨by omega,by omega,by omega⟩,aW (H:=HFio sh t m ys off k (h:Int)) ((0:Nat),(W ((k:Int)+m)+1+h,((0:Int),((0:Int),s)))) rfl ⟨by omega,Nat.zero_le _,⟨Int.le_refl 0,by show(0:Int)<1024;omega⟩,⟨Int.le_refl 0,by show(0:Int)<262144;omega⟩,⟨hc.1,by show s.c≤1000*(h:Int)+3*((0:Nat):Int);omega⟩,?_⟩,?_⟩
   ·rw [heq,vF _ _ _ _ (by omega)];rfl
   ·rintro⟨i,a,ky,vr,s1⟩ ⟨g4,gi,gk,gv,gc,geq⟩
    simp only at g4 gi gk gv gc geq
    have gc2:s1.c≤1000*(h:Int)+3*i:=gc.2
    have gc1:0≤s1.c:=gc.1
    have gh:(h:Int)<4:=g4.2
    have hskip: ∀(hi:i<k),dV sh h (ys.getD (off+(i:Int).toNat *1) 0)=true→okSt (HFio sh t m ys off k h) (fun x'=>Hint.ok (HFio sh t m ys off k h) x'∧Hint.mu (HFio sh t m ys off k h) x'<Hint.mu (HFio sh t m ys off k h) (i,a,ky,vr,s1)) ((HFio sh t m ys off k h).st ((i+1:Nat),a,ky,vr,s1)).1 ((HFio sh t m ys off k h).st ((i+1:Nat),a,ky,vr,s1)).2:=by
     intro hi hs
     refine aW (H:=HFio sh t m ys off k h) ((i+1:Nat),a,ky,vr,s1) rfl ⟨⟨g4,(by show i+1≤(ys.drop off).length;omega),gk,gv,⟨gc.1,by show s1.c≤1000*(h:Int)+3*((i+1:Nat):Int);omega⟩,?_⟩,by show k - (i+1)<k - i;omega⟩
     rw [GN ho hi]at hs
     rw [geq,List.drop_eq_getElem_cons (show i<(ys.drop off).length by omega),tC _ _ _ _ _ _ _ _ _ _ hs];rfl
    have hput: ∀(hi:i<k),dV sh h (ys.getD (off+(i:Int).toNat *1) 0)=false→okSt (HFio sh t m ys off k h) (fun x'=>Hint.ok (HFio sh t m ys off k h) x'∧Hint.mu (HFio sh t m ys off k h) x'<Hint.mu (HFio sh t m ys off k h) (i,a,ky,vr,s1)) ((HFio sh t m ys off k h).st ((i+1:Nat),((i+1:Nat):Int),(ys.getD (off+(i:Int).toNat *1) 0,(3:Int),((s1.stored a (aT ky ((i:Int)+1) false 0 vr)).stored (W ((k:Int)+m)+4+((i:Int)+1)) 1)))).1 ((HFio sh t m ys off k h).st ((i+1:Nat),((i+1:Nat):Int),(ys.getD (off+(i:Int).toNat *1) 0,(3:Int),((s1.stored a (aT ky ((i:Int)+1) false 0 vr)).stored (W ((k:Int)+m)+4+((i:Int)+1)) 1)))).2:=by
     intro hi hs
     rw [GN ho hi]at hs⊢
     refine aW (H:=HFio sh t m ys off k h) _ rfl ⟨⟨g4,(by show i+1≤(ys.drop off).length;omega),hk _ (List.getElem_mem _),⟨by show(0:Int)≤3;omega,by show(3:Int)<262144;omega⟩,⟨?_,?_⟩,?_⟩,by show k - (i+1)<k - i;omega⟩
     ·show 0≤s1.c+1+1;omega
     ·show s1.c+1+1≤1000*(h:Int)+3*((i+1:Nat):Int);omega
     ·rw [geq,List.drop_eq_getElem_cons (show i<(ys.drop off).length by omega),tD _ _ _ _ _ _ _ _ _ _ hs];rfl
    have e4:i<k→W ((i:Int)+1)=((i+1:Nat):Int):=fun hi=>(cU (by omega)).trans rfl
    have e4':W ((h:Int)+1)=((h+1:Nat):Int):=(cU (by have:(h:Int)<4:=g4.2;omega)).trans rfl
    refine aP (fun e2=>?_) (fun e2=>?_)
    ·rw [bS,dT']at e2
     have hi:i<k:=by omega
     have e4:=e4 hi
     have e0:off+(i:Int).toNat *1<ys.length:=by omega
     refine⟨⟨by omega,by omega⟩,e0,?_⟩
     have hput:=hput hi
     have hskip:=hskip hi
     unfold dV at hput hskip
     simp only [e4]at hput hskip⊢
     refine aP (fun e5=>?_) (fun e5=>?_)
     ·rw [e5]at hput hskip
      refine⟨by decide,aP (fun e6=>?_) (fun e6=>?_)⟩
      ·exact hskip e6
      ·rw [e5]
       refine aP (fun e7=>by cases e7) (fun _=>?_)
       refine⟨⟨gk,⟨by omega,by omega⟩,⟨by decide,by decide⟩,gv⟩,⟨trivial,gc.1,by omega⟩,⟨⟨by omega,by omega⟩,⟨by omega,by omega⟩,by omega,by omega⟩,⟨trivial,by omega,by omega⟩,?_⟩
       exact hput e6
     ·rw [e5]at hput hskip
      rw [e5]
      refine aP (fun _=>aP (fun e6=>?_) (fun e6=>?_)) (fun e7=>by cases e7)
      ·exact hskip e6
      ·refine⟨⟨gk,⟨by omega,by omega⟩,⟨by decide,by decide⟩,gv⟩,⟨trivial,gc.1,by omega⟩,⟨⟨by omega,by omega⟩,⟨by omega,by omega⟩,by omega,by omega⟩,⟨trivial,by omega,by omega⟩,?_⟩
       exact hput e6
    ·rw [bS,dF']at e2
     have hi:i=k:=by omega
     refine⟨⟨gk,⟨by decide,by decide⟩,⟨by decide,by decide⟩,gv⟩,⟨rfl,gc1,by show s1.c≤4611686018427387904;omega⟩,aW (H:=uI sh t m ys off k) ((h+1:Nat),s1.stored a (aT ky 0 false 0 vr)) ?_ ⟨⟨by show h+1≤4;omega,⟨by show 0≤s1.c+1;omega,by show s1.c+1≤1000*((h+1:Nat):Int);omega⟩,?_⟩,by show 4 - (h+1)<4 - h;omega⟩⟩
     ·simp only [uI,←e4']
      rfl
     ·rw [geq,show(ys.drop off).drop i=[]from List.drop_eq_nil_of_le (by omega)]
      have e9:(3 - (h:Int)).toNat =4 - (h+1):=by omega
      rw [e9];rfl
  ·rw [bS,dF']at e1
   have e5:h=4:=by omega
   subst e5
   have heq':fY sh (W ((k:Int)+m)) (ys.drop off) 4 0 (memN t (W ((k:Int)+m)))=s:=heq
   rw [hn]at heq'
   rw [heq']at hK
   rw [hn]
   exact hK
def fillSo:aM Ob:=fun args h=>match args,h with
 | [.int .i64 sh,.int .i64 t,.int .i64 m,.slice 0 off k 1],[some (.ints (some .i64) ys)]=>some (.pre (off+k=ys.length∧kU t m (ys.drop off)) (.ret (.tup [.ptr 1 0,.agg [.int .i64 t,.int .i64 (k+m)]]) [some (.ints (some .i64) ys),a9 2 (bF sh t (k+m) (ys.drop off)),bA (bF sh t (k+m) (ys.drop off))]))
 | _,_=>none
theorem MP:sT' 15 fillSo:=by
 intro args h o ho K hK
 unfold fillSo at ho
 split at ho<;>cases ho
 rename_i sh t m off k ys
 obtain⟨⟨hf,ok⟩,hK⟩:=hK
 have hd:(ys.drop off).length =k:=by rw [List.length_drop];omega
 exact IZ sh t m ys off k K (VN sh t m ys off k K hf ok.hm (by rw [←hd];exact ok.hl) (by rw [←hd];exact ok.hr) ok.hk hK)
noncomputable def EW2:=((EW1)).addS 15 (aM.or fillSo fillSb) (aBK MP BX)
def aw17S:aM Ob:=fun args h=>match args,h with
 | [],[]=>some (.pre True (.ret (.bool true) ([])))
 | _,_=>none
def y9(K:AVal→aD Ob→Prop):Prop:=kU 2 3 []∧uS 2 3 0 1 3 5∧(lE' (bF 1 2 3 []).3∧((0:Int)≤(9:Int)∧(9:Int)≤(1000000:Int))∧p8 2 3 9 (anNF 2 3 0 1 3 5) (bF 1 2 3 []))∧bif (Prod.snd (cT 2 3 9 (anNF 2 3 0 1 3 5) (bF 1 2 3 []))).1 then bif !ieq (Prod.fst (Prod.snd (cT 2 3 9 (anNF 2 3 0 1 3 5) (bF 1 2 3 []))).2).1 1 then K (.bool false) []else True∧(0=0∧mN 2 3 0 (Prod.fst (Prod.snd (cT 2 3 9 (anNF 2 3 0 1 3 5) (bF 1 2 3 []))).2).1 2 {me:=1,sp:=0,R:=[] })∧((lE' (Prod.snd (Prod.snd (cT 2 3 9 (anNF 2 3 0 1 3 5) (bF 1 2 3 []))).2).3∧lE' (Prod.snd (hpNF 2 3 0 (Prod.fst (Prod.snd (cT 2 3 9 (anNF 2 3 0 1 3 5) (bF 1 2 3 []))).2).1 2 {me:=1,sp:=0,R:=[] })).3∧(2:Int)=(2:Int)∧(3:Int)=(3:Int))∧((0:Int)≤(20:Int)∧(20:Int)≤(1000000:Int))∧mO 2 3 20 (hpNF 2 3 0 (Prod.fst (Prod.snd (cT 2 3 9 (anNF 2 3 0 1 3 5) (bF 1 2 3 []))).2).1 2 {me:=1,sp:=0,R:=[] }).1 (hpNF 2 3 0 (Prod.fst (Prod.snd (cT 2 3 9 (anNF 2 3 0 1 3 5) (bF 1 2 3 []))).2).1 2 {me:=1,sp:=0,R:=[] }).2 (Prod.snd (cT 2 3 9 (anNF 2 3 0 1 3 5) (bF 1 2 3 []))).2.2)∧bif (Prod.snd (cA 2 3 20 (hpNF 2 3 0 (Prod.fst (Prod.snd (cT 2 3 9 (anNF 2 3 0 1 3 5) (bF 1 2 3 []))).2).1 2 {me:=1,sp:=0,R:=[] }).1 (hpNF 2 3 0 (Prod.fst (Prod.snd (cT 2 3 9 (anNF 2 3 0 1 3 5) (bF 1 2 3 []))).2).1 2 {me:=1,sp:=0,R:=[] }).2 (Prod.snd (cT 2 3 9 (anNF 2 3 0 1 3 5) (bF 1 2 3 []))).2.2)).1 then bif ieq (↑(cA 2 3 20 (hpNF 2 3 0 (Prod.fst (Prod.snd (cT 2 3 9 (anNF 2 3 0 1 3 5) (bF 1 2 3 []))).2).1 2 {me:=1,sp:=0,R:=[] }).1 (hpNF 2 3 0 (Prod.fst (Prod.snd (cT 2 3 9 (anNF 2 3 0 1 3 5) (bF 1 2 3 []))).2).1 2 {me:=1,sp:=0,R:=[] }).2 (Prod.snd (cT 2 3 9 (anNF 2 3 0 1 3 5) (bF 1 2 3 []))).2.2).1:Int) 6 then bif ieq (Prod.fst (Prod.snd (cA 2 3 20 (hpNF 2 3 0 (Prod.fst (Prod.snd (cT 2 3 9 (anNF 2 3 0 1 3 5) (bF 1 2 3 []))).2).1 2 {me:=1,sp:=0,R:=[] }).1 (hpNF 2 3 0 (Prod.fst (Prod.snd (cT 2 3 9 (anNF 2 3 0 1 3 5) (bF 1 2 3 []))).2).1 2 {me:=1,sp:=0,R:=[] }).2 (Prod.snd (cT 2 3 9 (anNF 2 3 0 1 3 5) (bF 1 2 3 []))).2.2)).2).3 2 then(((0:Int)≤(2:Int)∧(2:Int)≤(100000:Int))∧((0:Int)≤(3:Int)∧(3:Int)≤(100000:Int))∧(-1099511627776:Int)≤(0:Int)∧(0:Int)≤(1099511627776:Int))∧(lE' (Prod.snd (Prod.snd (cA 2 3 20 (hpNF 2 3 0 (Prod.fst (Prod.snd (cT 2 3 9 (anNF 2 3 0 1 3 5) (bF 1 2 3 []))).2).1 2 {me:=1,sp:=0,R:=[] }).1 (hpNF 2 3 0 (Prod.fst (Prod.snd (cT 2 3 9 (anNF 2 3 0 1 3 5) (bF 1 2 3 []))).2).1 2 {me:=1,sp:=0,R:=[] }).2 (Prod.snd (cT 2 3 9 (anNF 2 3 0 1 3 5) (bF 1 2 3 []))).2.2).2).2).3∧True)∧True∧K (.bool (bif ieq (aA (aB (Prod.snd (Prod.snd (cA 2 3 20 (hpNF 2 3 0 (Prod.fst (Prod.snd (cT 2 3 9 (anNF 2 3 0 1 3 5) (bF 1 2 3 []))).2).1 2 {me:=1,sp:=0,R:=[] }).1 (hpNF 2 3 0 (Prod.fst (Prod.snd (cT 2 3 9 (anNF 2 3 0 1 3 5) (bF 1 2 3 []))).2).1 2 {me:=1,sp:=0,R:=[] }).2 (Prod.snd (cT 2 3 9 (anNF 2 3 0 1 3 5) (bF 1 2 3 []))).2.2).2).2).3 (2*3+5+2*2+3*0+2)) 0 12) 1 then bif ieq (aA (aB (Prod.snd (Prod.snd (cA 2 3 20 (hpNF 2 3 0 (Prod.fst (Prod.snd (cT 2 3 9 (anNF 2 3 0 1 3 5) (bF 1 2 3 []))).2).1 2 {me:=1,sp:=0,R:=[] }).1 (hpNF 2 3 0 (Prod.fst (Prod.snd (cT 2 3 9 (anNF 2 3 0 1 3 5) (bF 1 2 3 []))).2).1 2 {me:=1,sp:=0,R:=[] }).2 (Prod.snd (cT 2 3 9 (anNF 2 3 0 1 3 5) (bF 1 2 3 []))).2.2).2).2).3 (2*3+5+2*2+3*0+2)) 12 9) 0 then bif ieq (aA (aB (Prod.snd (Prod.snd (cA 2 3 20 (hpNF 2 3 0 (Prod.fst (Prod.snd (cT 2 3 9 (anNF 2 3 0 1 3 5) (bF 1 2 3 []))).2).1 2 {me:=1,sp:=0,R:=[] }).1 (hpNF 2 3 0 (Prod.fst (Prod.snd (cT 2 3 9 (anNF 2 3 0 1 3 5) (bF 1 2 3 []))).2).1 2 {me:=1,sp:=0,R:=[] }).2 (Prod.snd (cT 2 3 9 (anNF 2 3 0 1 3 5) (bF 1 2 3 []))).2.2).2).2).3 (2*3+5+2*2+3*0+2)) 21 18) 0 then bif ieq (aA (aB (Prod.snd (Prod.snd (cA 2 3 20 (hpNF 2 3 0 (Prod.fst (Prod.snd (cT 2 3 9 (anNF 2 3 0 1 3 5) (bF 1 2 3 []))).2).1 2 {me:=1,sp:=0,R:=[] }).1 (hpNF 2 3 0 (Prod.fst (Prod.snd (cT 2 3 9 (anNF 2 3 0 1 3 5) (bF 1 2 3 []))).2).1 2 {me:=1,sp:=0,R:=[] }).2 (Prod.snd (cT 2 3 9 (anNF 2 3 0 1 3 5) (bF 1 2 3 []))).2.2).2).2).3 (2*3+5+2*2+3*0+2)) 39 9) 0 then bif !ieq (aA (aB (Prod.snd (Prod.snd (cA 2 3 20 (hpNF 2 3 0 (Prod.fst (Prod.snd (cT 2 3 9 (anNF 2 3 0 1 3 5) (bF 1 2 3 []))).2).1 2 {me:=1,sp:=0,R:=[] }).1 (hpNF 2 3 0 (Prod.fst (Prod.snd (cT 2 3 9 (anNF 2 3 0 1 3 5) (bF 1 2 3 []))).2).1 2 {me:=1,sp:=0,R:=[] }).2 (Prod.snd (cT 2 3 9 (anNF 2 3 0 1 3 5) (bF 1 2 3 []))).2.2).2).2).3 (2*3+5+2*2+3*0+2)) 48 1) 1 then bif ieq (aA (aB (Prod.snd (Prod.snd (cA 2 3 20 (hpNF 2 3 0 (Prod.fst (Prod.snd (cT 2 3 9 (anNF 2 3 0 1 3 5) (bF 1 2 3 []))).2).1 2 {me:=1,sp:=0,R:=[] }).1 (hpNF 2 3 0 (Prod.fst (Prod.snd (cT 2 3 9 (anNF 2 3 0 1 3 5) (bF 1 2 3 []))).2).1 2 {me:=1,sp:=0,R:=[] }).2 (Prod.snd (cT 2 3 9 (anNF 2 3 0 1 3 5) (bF 1 2 3 []))).2.2).2).2).3 (2*3+5+2*2+3*0+2)) 49 3) 5 then bif ieq (aA (aB (Prod.snd (Prod.snd (cA 2 3 20 (hpNF 2 3 0 (Prod.fst (Prod.snd (cT 2 3 9 (anNF 2 3 0 1 3 5) (bF 1 2 3 []))).2).1 2 {me:=1,sp:=0,R:=[] }).1 (hpNF 2 3 0 (Prod.fst (Prod.snd (cT 2 3 9 (anNF 2 3 0 1 3 5) (bF 1 2 3 []))).2).1 2 {me:=1,sp:=0,R:=[] }).2 (Prod.snd (cT 2 3 9 (anNF 2 3 0 1 3 5) (bF 1 2 3 []))).2.2).2).2).3 (2*3+5+2*2+3*0+2)) 52 10) 0 then true else false else false else false else false else false else false else false)) []else K (.bool false) []else K (.bool false) []else bif ieq (↑(cA 2 3 20 (hpNF 2 3 0 (Prod.fst (Prod.snd (cT 2 3 9 (anNF 2 3 0 1 3 5) (bF 1 2 3 []))).2).1 2 {me:=1,sp:=0,R:=[] }).1 (hpNF 2 3 0 (Prod.fst (Prod.snd (cT 2 3 9 (anNF 2 3 0 1 3 5) (bF 1 2 3 []))).2).1 2 {me:=1,sp:=0,R:=[] }).2 (Prod.snd (cT 2 3 9 (anNF 2 3 0 1 3 5) (bF 1 2 3 []))).2.2).1:Int) 6 then K (.bool false) []else K (.bool false) []else K (.bool false) []
theorem DT(K:AVal→aD Ob→Prop)(h:y9 K):cT' 41 [] [] K:=by
 refine aBs (cM' (E:=EF3) (by kernel_rfl) h)
theorem PY(K:AVal→aD Ob→Prop)(hK:K (.bool true) []):y9 K:=by
 unfold y9
 refine⟨⟨by decide,by decide,by kernel_rfl,fun k hk=>by cases hk⟩,?_⟩
 with_unfolding_all repeat' (first | exact hK | trivial | decide | apply And.intro | intro _)
theorem PX:sT' 41 aw17S:=by
 intro args h o ho K hK
 unfold aw17S at ho
 split at ho
 case h_2=>cases ho
 simp only [sI']at ho;subst ho
 obtain⟨_,hK⟩:=hK
 exact DT K (PY K hK)
noncomputable def EM0:=EW2.addS 41 aw17S PX
def OQ(k:Int)(m:Nat)(f g:Nat→Int)(K:AVal→aD Ob→Prop):Prop:=okSt (PL k m f g) (Hint.ok (PL k m f g)) [.int .i64 k,.O,.O,.O,.O,.O,.O,.view m 2 fun i=>[.int .i64 (f i),.int .i64 (g i)],.int .i64 (↑m:Int),.int .i64 0,.O,.O,.O,.O,.O,.O,.O,.O] []∧ ∀(x:Nat),(x≤m∧ ∀(j:Nat),j<x→bX k (f j) (g j)=true)→bif ilt (↑x:Int) (↑m:Int)then((0:Int)≤(↑x:Int)∧(↑x:Int)<(↑m:Int))∧True∧bif !bX k (f (Int.toNat (↑x:Int))) (g (Int.toNat (↑x:Int)))then K (.bool false) []else okSt (PL k m f g) (fun x'=>Hint.ok (PL k m f g) x'∧Hint.mu (PL k m f g) x'<Hint.mu (PL k m f g) x) [.int .i64 k,.O,.O,.O,.O,.O,.O,.view m 2 fun i=>[.int .i64 (f i),.int .i64 (g i)],.int .i64 (↑m:Int),.int .i64 (W ((↑x:Int)+1)),.O,.O,.O,.O,.O,.O,.O,.O] []else K (.bool true) []
theorem KG(k:Int)(m:Nat)(f g:Nat→Int)(K:AVal→aD Ob→Prop)(h:OQ k m f g K):cT' 42 [.int .i64 k,.view m 2 (fun i=>[.int .i64 (f i),.int .i64 (g i)])] [] K:=by
 refine aBs (aE (E:=EM0) Tryz.checked.mixed (L:=(fun _ _=>some (.states (PL k m f g)))) (n:=10) (aR (by kernel_rfl) h))
theorem XM(k:Int)(m:Nat)(f g:Nat→Int)(K:AVal→aD Ob→Prop)(hm:m≤4611686018427387904)(hK:K (.bool (lB k m f g)) []):OQ k m f g K:=by
 refine⟨aW (H:=PL k m f g) (0:Nat) rfl ⟨Nat.zero_le _,fun j hj=>by omega⟩,?_⟩
 rintro x ⟨hx,hj⟩
 refine aP (fun e=>?_) (fun e=>?_)
 ·rw [bS,dT']at e
  refine⟨⟨by omega,by omega⟩,trivial,aP (fun e2=>?_) (fun e2=>?_)⟩
  ·have hf:lB k m f g=false:=by
    cases h:lB k m f g with
    | false=>rfl
    | true=>
      have:=pU.1 h x (by omega)
      rw [Int.toNat_natCast]at e2
      rw [this]at e2;cases e2
   rw [hf]at hK;exact hK
  ·have e4:W ((x:Int)+1)=((x+1:Nat):Int):=by rw [W,cU (by omega)];rfl
   refine aW (H:=PL k m f g) (x+1:Nat) (by simp only [e4]<;>rfl) ⟨⟨by show x+1≤m;omega,?_⟩,by show m - (x+1)<m - x;omega⟩
   intro j hj2
   by_cases hjx:j=x
   ·subst hjx
    rw [Int.toNat_natCast]at e2
    simpa using e2
   ·exact hj j (by omega)
 ·rw [bS,dF']at e
  have ht:lB k m f g=true:=pU.2 fun j hj3=>hj j (by omega)
  rw [ht]at hK;exact hK
def rihS:aM Ob:=fun args h=>match args,h with
 | [.int .i64 k,.view m 2 row],[]=>some (.pre (m≤4611686018427387904∧f5 row) (.ret (.bool (lB k m (rK row) (rY row))) []))
 | _,_=>none
theorem XL:sT' 42 rihS:=by
 intro args h o ho K hK
 unfold rihS at ho
 split at ho<;>cases ho
 rename_i k m row
 obtain⟨⟨hm,⟨hr⟩⟩,hK⟩:=hK
 have hK:K (.bool (lB k m (rK row) (rY row))) []:=hK
 rw [hr]
 exact KG k m (rK row) (rY row) K (XM k m (rK row) (rY row) K hm hK)
def hpNSA:aM Ob:=fun args h=>match args,h with
 | [.ptr 0 0,.int .i64 u,.int .u64 no,.int .i64 lim],[some (.abs (.store t n st) [])]=>some (.pre (mN t n u no lim st) (.ret (.ptr 1 0) [some (.abs (.store t n (hpNF t n u no lim st).2) []),some (.abs (.help t n (hpNF t n u no lim st).1) [0])]))
 | _,_=>none
theorem RD:sT' 46 hpNSA:=by
 intro args h o ho K hK
 unfold hpNSA at ho
 split at ho<;>cases ho
 rename_i u no lim t n st
 obtain⟨ok,hK⟩:=hK
 refine aC.pack (tb:=tbl) (aC.unpack (tb:=tbl) (Mc.store t n st) 0 0 (iU t n st) [] rfl rfl rfl rfl ?_)
 refine EL [.ptr 0 0,.int .i64 u,.int .u64 no,.int .i64 lim] [stC 1 t n st,mG st] _ rfl _ ⟨⟨rfl,ok⟩,⟨[0,2,1],[some (.abs (.store t n (hpNF t n u no lim st).2) []),some (.abs (.help t n (hpNF t n u no lim st).1) [0])],.store t n (hpNF t n u no lim st).2,0,0,iU t n (hpNF t n u no lim st).2,[],by kernel_rfl,by kernel_rfl,rfl,rfl,hK⟩⟩
noncomputable def EM1:=(EM0.addS 42 rihS XL).addS 46 (aM.or hpNSA hpNS) (aBK RD EL)
def kL(sh:Int):Int:=IntKind.wrap .i64 (1+Int.tmod (IntKind.wrap .i64 sh) 4)
def nL(m:Nat):Nat:=Int.toNat (IntKind.wrap .i64 ((m:Int) - 1))
def iL(sh:Int)(m:Nat)(f g:Nat→Int):List Int:=bB (kL sh) f g (nL m)
def dL(sh:Int)(m:Nat)(f g:Nat→Int):List Int:=List.drop (iZ (kL sh) f g (nL m)) (i3 (kL sh) f g (nL m))
def lL(sh:Int)(m:Nat)(f g:Nat→Int):Int:=((iL sh m f g).length :Int)
def aL(sh:Int)(m:Nat)(f g:Nat→Int):Nat×Bool×ANS×MS:=cT 3 (lL sh m f g+6) 9 (anNF 3 (lL sh m f g+6) 0 (kL sh) (f (nL m)) (g (nL m))) (bF (kL sh) 3 (lL sh m f g+6) (dL sh m f g))
def xL(sh:Int)(m:Nat)(f g:Nat→Int):HPS×STS:=hpNF 3 (lL sh m f g+6) 0 (aL sh m f g).2.2.1.no 0 ⟨1,0,[]⟩
def rL(sh:Int)(m:Nat)(f g:Nat→Int):Nat×Bool×HPS×STS×MS:=cA 3 (lL sh m f g+6) 3000 (xL sh m f g).1 (xL sh m f g).2 (aL sh m f g).2.2.2
structure ZF (ws:List Int) (J:Nat→MS→Prop) (x:Nat×MS):Prop where
 h:x.1≤ws.length
 j:J x.1 x.2
def lD(sh:Int)(m:Nat)(f g:Nat→Int)(ws:List Int)(J:Nat→MS→Prop):Hint Ob:= {X:=Nat×MS,st:=fun x=>(List.replicate 11 .O ++ [.ptr 0 0,.ptr 2 0,.int .u64 (aL sh m f g).2.2.1.no,.ptr 3 0,.O,.O,.int .i64 ((rL sh m f g).1:Int)]++List.replicate 80 .O ++ [.iview (some .u8) ws,.int .i64 (ws.length:Int),.int .i64 (x.1:Int)]++List.replicate 49 .O,[a9 1 (rL sh m f g).2.2.2.2,bA (rL sh m f g).2.2.2.2,some (.cells [.int .i64 3,.int .i64 (lL sh m f g+6)]),a9 4 x.2,bA x.2]),ok:=ZF ws J,mu:=fun x=>ws.length - x.1,keep:=[11,12,13,14,17,98,99,100] }
def Y2(sh:Int)(m:Nat)(f g:Nat→Int)(ws:List Int)(J:Nat→MS→Prop):FuncId→Nat→Option (p7 Ob):=fun _ k=>if k=16 then some (.states (lD sh m f g ws J))else none
def yL(sh:Int)(m:Nat)(f g:Nat→Int)(ws:List Int)(q:Int)(i:Nat):HPS×STS:=hpNF 3 (lL sh m f g+6) 0 (aL sh m f g).2.2.1.no (Int.tmod (IntKind.wrap .i64 (List.getD ws i 0)) 51) ⟨q,0,[]⟩
def qL(sh:Int)(m:Nat)(f g:Nat→Int)(ws:List Int)(q:Int)(x:Nat×MS):Nat×Bool×HPS×STS×MS:=cA 3 (lL sh m f g+6) 3000 (yL sh m f g ws q x.1).1 (yL sh m f g ws q x.1).2 x.2
def zL(sh:Int)(m:Nat)(f g:Nat→Int)(ws:List Int)(q:Int)(x:Nat×MS):MS:=(qL sh m f g ws q x).2.2.2.2
def eL(sh:Int)(m:Nat)(f g:Nat→Int):MS:=(rL sh m f g).2.2.2.2
def mL(sh:Int)(m:Nat)(f g:Nat→Int):MS:=(aL sh m f g).2.2.2
def G9(sh:Int)(m:Nat)(f g:Nat→Int)(ws:List Int)(J:Nat→MS→Prop)(K:AVal→aD Ob→Prop):Prop:=True∧(4:Int)≠(0:Int)∧bif ieq (↑m:Int) 0 then K (.bool true) []else bif ilt 13 (↑m:Int)then K (.bool true) []else(m≤(4611686018427387904:Nat)∧f5 fun i=>[.int .i64 (f i),.int .i64 (g i)])∧bif !lB (kL sh) m f g then K (.bool true) []else bif ilt 10 (↑(List.length ws):Int)then K (.bool true) []else((0:Int)≤W ((↑m:Int) - 1)∧nL m≤m)∧((0:Int)≤W ((↑m:Int) - 1)∧W ((↑m:Int) - 1)<(↑m:Int))∧(nL m≤(1000000:Nat)∧f5 fun i=>[.int .i64 (f i),.int .i64 (g i)])∧(iZ (kL sh) f g (nL m)+List.length (iL sh m f g)=List.length (i3 (kL sh) f g (nL m))∧kU 3 6 (dL sh m f g))∧uS 3 (lL sh m f g+6) 0 (kL sh) (f (nL m)) (g (nL m))∧(lE' (bF (kL sh) 3 (lL sh m f g+6) (dL sh m f g)).3∧((0:Int)≤(9:Int)∧(9:Int)≤(1000000:Int))∧p8 3 (lL sh m f g+6) 9 (anNF 3 (lL sh m f g+6) 0 (kL sh) (f (nL m)) (g (nL m))) (bF (kL sh) 3 (lL sh m f g+6) (dL sh m f g)))∧bif (Prod.snd (aL sh m f g)).1 then bif !ieq (Prod.fst (Prod.snd (aL sh m f g)).2).1 1 then(iZ (kL sh) f g (nL m)+List.length (iL sh m f g)=List.length (i3 (kL sh) f g (nL m))∧kU 3 6 (dL sh m f g))∧uS 3 (lL sh m f g+6) 0 (kL sh) (f (nL m)) (g (nL m))∧(lE' (bF (kL sh) 3 (lL sh m f g+6) (dL sh m f g)).3∧((0:Int)≤(9:Int)∧(9:Int)≤(1000000:Int))∧p8 3 (lL sh m f g+6) 9 (anNF 3 (lL sh m f g+6) 0 (kL sh) (f (nL m)) (g (nL m))) (bF (kL sh) 3 (lL sh m f g+6) (dL sh m f g)))∧bif (Prod.snd (aL sh m f g)).1 then bif !ieq (Prod.fst (Prod.snd (aL sh m f g)).2).1 1 then K (.bool false) []else K (.bool false) []else K (.bool false) []else(iZ (kL sh) f g (nL m)+List.length (iL sh m f g)=List.length (i3 (kL sh) f g (nL m))∧kU 3 6 (dL sh m f g))∧uS 3 (lL sh m f g+6) 0 (kL sh) (f (nL m)) (g (nL m))∧(lE' (bF (kL sh) 3 (lL sh m f g+6) (dL sh m f g)).3∧((0:Int)≤(9:Int)∧(9:Int)≤(1000000:Int))∧p8 3 (lL sh m f g+6) 9 (anNF 3 (lL sh m f g+6) 0 (kL sh) (f (nL m)) (g (nL m))) (bF (kL sh) 3 (lL sh m f g+6) (dL sh m f g)))∧bif (Prod.snd (aL sh m f g)).1 then bif !ieq (Prod.fst (Prod.snd (aL sh m f g)).2).1 1 then K (.bool false) []else True∧mN 3 (lL sh m f g+6) 0 (Prod.fst (Prod.snd (aL sh m f g)).2).1 0 {me:=1,sp:=0,R:=[] } ∧((lE' (mL sh m f g).3∧(3:Int)=(3:Int)∧lL sh m f g+(6:Int)=lL sh m f g+6)∧((0:Int)≤(3000:Int)∧(3000:Int)≤(1000000:Int))∧mO 3 (lL sh m f g+6) 3000 (xL sh m f g).1 (xL sh m f g).2 (Prod.snd (aL sh m f g)).2.2)∧bif (Prod.snd (cA 3 (lL sh m f g+6) 3000 (xL sh m f g).1 (xL sh m f g).2 (Prod.snd (aL sh m f g)).2.2)).1 then okSt (lD sh m f g ws J) (Hint.ok (lD sh m f g ws J)) [.O,.O,.O,.O,.O,.O,.O,.O,.O,.O,.O,.ptr 0 0,.ptr 2 0,.int .u64 (Prod.fst (Prod.snd (aL sh m f g)).2).1,.ptr 3 0,.O,.O,.int .i64 (↑(cA 3 (lL sh m f g+6) 3000 (xL sh m f g).1 (xL sh m f g).2 (Prod.snd (aL sh m f g)).2.2).1:Int),.O,.O,.O,.O,.O,.O,.O,.O,.O,.O,.O,.O,.O,.O,.O,.O,.O,.O,.O,.O,.O,.O,.O,.O,.O,.O,.O,.O,.O,.O,.O,.O,.O,.O,.O,.O,.O,.O,.O,.O,.O,.O,.O,.O,.O,.O,.O,.O,.O,.O,.O,.O,.O,.O,.O,.O,.O,.O,.O,.O,.O,.O,.O,.O,.O,.O,.O,.O,.O,.O,.O,.O,.O,.O,.O,.O,.O,.O,.O,.O,.iview (some .u8) ws,.int .i64 (↑(List.length ws):Int),.int .i64 0,.O,.O,.O,.O,.O,.O,.O,.O,.O,.O,.O,.O,.O,.O,.O,.O,.O,.O,.O,.O,.O,.O,.O,.O,.O,.O,.O,.O,.O,.O,.O,.O,.O,.O,.O,.O,.O,.O,.O,.O,.O,.O,.O,.O,.O,.O,.O,.O,.O] [some (.cells [.int .i64 (Prod.snd (Prod.snd (cA 3 (lL sh m f g+6) 3000 (xL sh m f g).1 (xL sh m f g).2 (Prod.snd (aL sh m f g)).2.2).2).2).1,.int .i64 (Prod.snd (Prod.snd (cA 3 (lL sh m f g+6) 3000 (xL sh m f g).1 (xL sh m f g).2 (Prod.snd (aL sh m f g)).2.2).2).2).2,.slice 1 0 (List.length (Prod.snd (Prod.snd (cA 3 (lL sh m f g+6) 3000 (xL sh m f g).1 (xL sh m f g).2 (Prod.snd (aL sh m f g)).2.2).2).2).3) 1,.int .i64 (Prod.snd (Prod.snd (cA 3 (lL sh m f g+6) 3000 (xL sh m f g).1 (xL sh m f g).2 (Prod.snd (aL sh m f g)).2.2).2).2).4,.int .i64 (Prod.snd (Prod.snd (cA 3 (lL sh m f g+6) 3000 (xL sh m f g).1 (xL sh m f g).2 (Prod.snd (aL sh m f g)).2.2).2).2).5,.int .i64 (Prod.snd (Prod.snd (cA 3 (lL sh m f g+6) 3000 (xL sh m f g).1 (xL sh m f g).2 (Prod.snd (aL sh m f g)).2.2).2).2).6,.int .u64 (Prod.snd (Prod.snd (cA 3 (lL sh m f g+6) 3000 (xL sh m f g).1 (xL sh m f g).2 (Prod.snd (aL sh m f g)).2.2).2).2).7,.int .u64 (Prod.snd (Prod.snd (cA 3 (lL sh m f g+6) 3000 (xL sh m f g).1 (xL sh m f g).2 (Prod.snd (aL sh m f g)).2.2).2).2).8,.bool (Prod.snd (Prod.snd (cA 3 (lL sh m f g+6) 3000 (xL sh m f g).1 (xL sh m f g).2 (Prod.snd (aL sh m f g)).2.2).2).2).9]),some (.ints (some .u64) (Prod.snd (Prod.snd (cA 3 (lL sh m f g+6) 3000 (xL sh m f g).1 (xL sh m f g).2 (Prod.snd (aL sh m f g)).2.2).2).2).3),some (.cells [.int .i64 3,.int .i64 (lL sh m f g+6)]),some (.cells [.int .i64 (mL sh m f g).1,.int .i64 (mL sh m f g).2,.slice 4 0 (List.length (mL sh m f g).3) 1,.int .i64 (mL sh m f g).4,.int .i64 (mL sh m f g).5,.int .i64 (mL sh m f g).6,.int .u64 (mL sh m f g).7,.int .u64 (mL sh m f g).8,.bool (mL sh m f g).9]),some (.ints (some .u64) (mL sh m f g).3)]∧ ∀(x:(Nat×MS)),ZF ws J x→bif ilt (↑x.1:Int) (↑(List.length ws):Int)then((0:Int)≤(↑x.1:Int)∧(↑x.1:Int)<(↑(List.length ws):Int))∧True∧bif ilt 0 (↑x.1:Int)then True∧(51:Int)≠(0:Int)∧mN 3 (lL sh m f g+6) 0 (Prod.fst (Prod.snd (aL sh m f g)).2).1 (Int.tmod (W (List.getD ws (Int.toNat (↑x.1:Int)) 0)) 51) {me:=2,sp:=0,R:=[] } ∧((lE' (Prod.snd x).3∧(3:Int)=(3:Int)∧lL sh m f g+(6:Int)=lL sh m f g+6)∧((0:Int)≤(3000:Int)∧(3000:Int)≤(1000000:Int))∧mO 3 (lL sh m f g+6) 3000 (yL sh m f g ws 2 x.1).1 (yL sh m f g ws 2 x.1).2 x.2)∧bif (Prod.snd (qL sh m f g ws 2 x)).1 then bif ieq (↑x.1:Int) 0 then bif !ieq (↑(qL sh m f g ws 2 x).1:Int) (↑(rL sh m f g).1:Int)then K (.bool false) []else bif ilt 0 (↑x.1:Int)then bif !ieq (↑(qL sh m f g ws 2 x).1:Int) 1 then K (.bool false) []else bif bif ieq (eL sh m f g).1 (zL sh m f g ws 2 x).1 then bif ieq (eL sh m f g).2 (zL sh m f g ws 2 x).2 then true else false else false then(((lE' (eL sh m f g).3∧lE' (zL sh m f g ws 2 x).3)∧List.length (eL sh m f g).3≤(4294967296:Nat))∧True)∧bif !kD (eL sh m f g).3 (zL sh m f g ws 2 x).3 then K (.bool false) []else okSt (lD sh m f g ws J) (fun x'=>Hint.ok (lD sh m f g ws J) x'∧Hint.mu (lD sh m f g ws J) x'<Hint.mu (lD sh m f g ws J) x) [.O,.O,.O,.O,.O,.O,.O,.O,.O,.O,.O,.ptr 0 0,.ptr 2 0,.int .u64 (Prod.fst (Prod.snd (aL sh m f g)).2).1,.ptr 3 0,.O,.O,.int .i64 (↑(rL sh m f g).1:Int),.O,.O,.O,.O,.O,.O,.O,.O,.O,.O,.O,.O,.O,.O,.O,.O,.O,.O,.O,.O,.O,.O,.O,.O,.O,.O,.O,.O,.O,.O,.O,.O,.O,.O,.O,.O,.O,.O,.O,.O,.O,.O,.O,.O,.O,.O,.O,.O,.O,.O,.O,.O,.O,.O,.O,.O,.O,.O,.O,.O,.O,.O,.O,.O,.O,.O,.O,.O,.O,.O,.O,.O,.O,.O,.O,.O,.O,.O,.O,.O,.iview (some .u8) ws,.int .i64 (↑(List.length ws):Int),.int .i64 (W ((↑x.1:Int)+1)),.O,.O,.O,.O,.O,.O,.O,.O,.O,.O,.O,.O,.O,.O,.O,.O,.O,.O,.O,.O,.O,.O,.O,.O,.O,.O,.O,.O,.O,.O,.O,.O,.O,.O,.O,.O,.O,.O,.O,.O,.O,.O,.O,.O,.O,.O,.O,.O,.O] [some (.cells [.int .i64 (eL sh m f g).1,.int .i64 (eL sh m f g).2,.slice 1 0 (List.length (eL sh m f g).3) 1,.int .i64 (eL sh m f g).4,.int .i64 (eL sh m f g).5,.int .i64 (eL sh m f g).6,.int .u64 (eL sh m f g).7,.int .u64 (eL sh m f g).8,.bool (eL sh m f g).9]),some (.ints (some .u64) (eL sh m f g).3),some (.cells [.int .i64 3,.int .i64 (lL sh m f g+6)]),some (.cells [.int .i64 (zL sh m f g ws 2 x).1,.int .i64 (zL sh m f g ws 2 x).2,.slice 4 0 (List.length (zL sh m f g ws 2 x).3) 1,.int .i64 (zL sh m f g ws 2 x).4,.int .i64 (zL sh m f g ws 2 x).5,.int .i64 (zL sh m f g ws 2 x).6,.int .u64 (zL sh m f g ws 2 x).7,.int .u64 (zL sh m f g ws 2 x).8,.bool (zL sh m f g ws 2 x).9]),some (.ints (some .u64) (zL sh m f g ws 2 x).3)]else K (.bool false) []else bif bif ieq (eL sh m f g).1 (zL sh m f g ws 2 x).1 then bif ieq (eL sh m f g).2 (zL sh m f g ws 2 x).2 then true else false else false then(((lE' (eL sh m f g).3∧lE' (zL sh m f g ws 2 x).3)∧List.length (eL sh m f g).3≤(4294967296:Nat))∧True)∧bif !kD (eL sh m f g).3 (zL sh m f g ws 2 x).3 then K (.bool false) []else okSt (lD sh m f g ws J) (fun x'=>Hint.ok (lD sh m f g ws J) x'∧Hint.mu (lD sh m f g ws J) x'<Hint.mu (lD sh m f g ws J) x) [.O,.O,.O,.O,.O,.O,.O,.O,.O,.O,.O,.ptr 0 0,.ptr 2 0,.int .u64 (Prod.fst (Prod.snd (aL sh m f g)).2).1,.ptr 3 0,.O,.O,.int .i64 (↑(rL sh m f g).1:Int),.O,.O,.O,.O,.O,.O,.O,.O,.O,.O,.O,.O,.O,.O,.O,.O,.O,.O,.O,.O,.O,.O,.O,.O,.O,.O,.O,.O,.O,.O,.O,.O,.O,.O,.O,.O,.O,.O,.O,.O,.O,.O,.O,.O,.O,.O,.O,.O,.O,.O,.O,.O,.O,.O,.O,.O,.O,.O,.O,.O,.O,.O,.O,.O,.O,.O,.O,.O,.O,.O,.O,.O,.O,.O,.O,.O,.O,.O,.O,.O,.iview (some .u8) ws,.int .i64 (↑(List.length ws):Int),.int .i64 (W ((↑x.1:Int)+1)),.O,.O,.O,.O,.O,.O,.O,.O,.O,.O,.O,.O,.O,.O,.O,.O,.O,.O,.O,.O,.O,.O,.O,.O,.O,.O,.O,.O,.O,.O,.O,.O,.O,.O,.O,.O,.O,.O,.O,.O,.O,.O,.O,.O,.O,.O,.O,.O,.O] [some (.cells [.int .i64 (eL sh m f g).1,.int .i64 (eL sh m f g).2,.slice 1 0 (List.length (eL sh m f g).3) 1,.int .i64 (eL sh m f g).4,.int .i64 (eL sh m f g).5,.int .i64 (eL sh m f g).6,.int .u64 (eL sh m f g).7,.int .u64 (eL sh m f g).8,.bool (eL sh m f g).9]),some (.ints (some .u64) (eL sh m f g).3),some (.cells [.int .i64 3,.int .i64 (lL sh m f g+6)]),some (.cells [.int .i64 (zL sh m f g ws 2 x).1,.int .i64 (zL sh m f g ws 2 x).2,.slice 4 0 (List.length (zL sh m f g ws 2 x).3) 1,.int .i64 (zL sh m f g ws 2 x).4,.int .i64 (zL sh m f g ws 2 x).5,.int .i64 (zL sh m f g ws 2 x).6,.int .u64 (zL sh m f g ws 2 x).7,.int .u64 (zL sh m f g ws 2 x).8,.bool (zL sh m f g ws 2 x).9]),some (.ints (some .u64) (zL sh m f g ws 2 x).3)]else K (.bool false) []else bif ilt 0 (↑x.1:Int)then bif !ieq (↑(qL sh m f g ws 2 x).1:Int) 1 then K (.bool false) []else bif bif ieq (eL sh m f g).1 (zL sh m f g ws 2 x).1 then bif ieq (eL sh m f g).2 (zL sh m f g ws 2 x).2 then true else false else false then(((lE' (eL sh m f g).3∧lE' (zL sh m f g ws 2 x).3)∧List.length (eL sh m f g).3≤(4294967296:Nat))∧True)∧bif !kD (eL sh m f g).3 (zL sh m f g ws 2 x).3 then K (.bool false) []else okSt (lD sh m f g ws J) (fun x'=>Hint.ok (lD sh m f g ws J) x'∧Hint.mu (lD sh m f g ws J) x'<Hint.mu (lD sh m f g ws J) x) [.O,.O,.O,.O,.O,.O,.O,.O,.O,.O,.O,.ptr 0 0,.ptr 2 0,.int .u64 (Prod.fst (Prod.snd (aL sh m f g)).2).1,.ptr 3 0,.O,.O,.int .i64 (↑(rL sh m f g).1:Int),.O,.O,.O,.O,.O,.O,.O,.O,.O,.O,.O,.O,.O,.O,.O,.O,.O,.O,.O,.O,.O,.O,.O,.O,.O,.O,.O,.O,.O,.O,.O,.O,.O,.O,.O,.O,.O,.O,.O,.O,.O,.O,.O,.O,.O,.O,.O,.O,.O,.O,.O,.O,.O,.O,.O,.O,.O,.O,.O,.O,.O,.O,.O,.O,.O,.O,.O,.O,.O,.O,.O,.O,.O,.O,.O,.O,.O,.O,.O,.O,.iview (some .u8) ws,.int .i64 (↑(List.length ws):Int),.int .i64 (W ((↑x.1:Int)+1)),.O,.O,.O,.O,.O,.O,.O,.O,.O,.O,.O,.O,.O,.O,.O,.O,.O,.O,.O,.O,.O,.O,.O,.O,.O,.O,.O,.O,.O,.O,.O,.O,.O,.O,.O,.O,.O,.O,.O,.O,.O,.O,.O,.O,.O,.O,.O,.O,.O] [some (.cells [.int .i64 (eL sh m f g).1,.int .i64 (eL sh m f g).2,.slice 1 0 (List.length (eL sh m f g).3) 1,.int .i64 (eL sh m f g).4,.int .i64 (eL sh m f g).5,.int .i64 (eL sh m f g).6,.int .u64 (eL sh m f g).7,.int .u64 (eL sh m f g).8,.bool (eL sh m f g).9]),some (.ints (some .u64) (eL sh m f g).3),some (.cells [.int .i64 3,.int .i64 (lL sh m f g+6)]),some (.cells [.int .i64 (zL sh m f g ws 2 x).1,.int .i64 (zL sh m f g ws 2 x).2,.slice 4 0 (List.length (zL sh m f g ws 2 x).3) 1,.int .i64 (zL sh m f g ws 2 x).4,.int .i64 (zL sh m f g ws 2 x).5,.int .i64 (zL sh m f g ws 2 x).6,.int .u64 (zL sh m f g ws 2 x).7,.int .u64 (zL sh m f g ws 2 x).8,.bool (zL sh m f g ws 2 x).9]),some (.ints (some .u64) (zL sh m f g ws 2 x).3)]else K (.bool false) []else bif bif ieq (eL sh m f g).1 (zL sh m f g ws 2 x).1 then bif ieq (eL sh m f g).2 (zL sh m f g ws 2 x).2 then true else false else false then(((lE' (eL sh m f g).3∧lE' (zL sh m f g ws 2 x).3)∧List.length (eL sh m f g).3≤(4294967296:Nat))∧True)∧bif !kD (eL sh m f g).3 (zL sh m f g ws 2 x).3 then K (.bool false) []else okSt (lD sh m f g ws J) (fun x'=>Hint.ok (lD sh m f g ws J) x'∧Hint.mu (lD sh m f g ws J) x'<Hint.mu (lD sh m f g ws J) x) [.O,.O,.O,.O,.O,.O,.O,.O,.O,.O,.O,.ptr 0 0,.ptr 2 0,.int .u64 (Prod.fst (Prod.snd (aL sh m f g)).2).1,.ptr 3 0,.O,.O,.int .i64 (↑(rL sh m f g).1:Int),.O,.O,.O,.O,.O,.O,.O,.O,.O,.O,.O,.O,.O,.O,.O,.O,.O,.O,.O,.O,.O,.O,.O,.O,.O,.O,.O,.O,.O,.O,.O,.O,.O,.O,.O,.O,.O,.O,.O,.O,.O,.O,.O,.O,.O,.O,.O,.O,.O,.O,.O,.O,.O,.O,.O,.O,.O,.O,.O,.O,.O,.O,.O,.O,.O,.O,.O,.O,.O,.O,.O,.O,.O,.O,.O,.O,.O,.O,.O,.O,.iview (some .u8) ws,.int .i64 (↑(List.length ws):Int),.int .i64 (W ((↑x.1:Int)+1)),.O,.O,.O,.O,.O,.O,.O,.O,.O,.O,.O,.O,.O,.O,.O,.O,.O,.O,.O,.O,.O,.O,.O,.O,.O,.O,.O,.O,.O,.O,.O,.O,.O,.O,.O,.O,.O,.O,.O,.O,.O,.O,.O,.O,.O,.O,.O,.O,.O] [some (.cells [.int .i64 (eL sh m f g).1,.int .i64 (eL sh m f g).2,.slice 1 0 (List.length (eL sh m f g).3) 1,.int .i64 (eL sh m f g).4,.int .i64 (eL sh m f g).5,.int .i64 (eL sh m f g).6,.int .u64 (eL sh m f g).7,.int .u64 (eL sh m f g).8,.bool (eL sh m f g).9]),some (.ints (some .u64) (eL sh m f g).3),some (.cells [.int .i64 3,.int .i64 (lL sh m f g+6)]),some (.cells [.int .i64 (zL sh m f g ws 2 x).1,.int .i64 (zL sh m f g ws 2 x).2,.slice 4 0 (List.length (zL sh m f g ws 2 x).3) 1,.int .i64 (zL sh m f g ws 2 x).4,.int .i64 (zL sh m f g ws 2 x).5,.int .i64 (zL sh m f g ws 2 x).6,.int .u64 (zL sh m f g ws 2 x).7,.int .u64 (zL sh m f g ws 2 x).8,.bool (zL sh m f g ws 2 x).9]),some (.ints (some .u64) (zL sh m f g ws 2 x).3)]else K (.bool false) []else K (.bool false) []else(51:Int)≠(0:Int)∧mN 3 (lL sh m f g+6) 0 (Prod.fst (Prod.snd (aL sh m f g)).2).1 (Int.tmod (W (List.getD ws (Int.toNat (↑x.1:Int)) 0)) 51) {me:=1,sp:=0,R:=[] } ∧((lE' (Prod.snd x).3∧(3:Int)=(3:Int)∧lL sh m f g+(6:Int)=lL sh m f g+6)∧((0:Int)≤(3000:Int)∧(3000:Int)≤(1000000:Int))∧mO 3 (lL sh m f g+6) 3000 (yL sh m f g ws 1 x.1).1 (yL sh m f g ws 1 x.1).2 x.2)∧bif (Prod.snd (qL sh m f g ws 1 x)).1 then bif ieq (↑x.1:Int) 0 then bif !ieq (↑(qL sh m f g ws 1 x).1:Int) (↑(rL sh m f g).1:Int)then K (.bool false) []else bif ilt 0 (↑x.1:Int)then bif !ieq (↑(qL sh m f g ws 1 x).1:Int) 1 then K (.bool false) []else bif bif ieq (eL sh m f g).1 (zL sh m f g ws 1 x).1 then bif ieq (eL sh m f g).2 (zL sh m f g ws 1 x).2 then true else false else false then(((lE' (eL sh m f g).3∧lE' (zL sh m f g ws 1 x).3)∧List.length (eL sh m f g).3≤(4294967296:Nat))∧True)∧bif !kD (eL sh m f g).3 (zL sh m f g ws 1 x).3 then K (.bool false) []else okSt (lD sh m f g ws J) (fun x'=>Hint.ok (lD sh m f g ws J) x'∧Hint.mu (lD sh m f g ws J) x'<Hint.mu (lD sh m f g ws J) x) [.O,.O,.O,.O,.O,.O,.O,.O,.O,.O,.O,.ptr 0 0,.ptr 2 0,.int .u64 (Prod.fst (Prod.snd (aL sh m f g)).2).1,.ptr 3 0,.O,.O,.int .i64 (↑(rL sh m f g).1:Int),.O,.O,.O,.O,.O,.O,.O,.O,.O,.O,.O,.O,.O,.O,.O,.O,.O,.O,.O,.O,.O,.O,.O,.O,.O,.O,.O,.O,.O,.O,.O,.O,.O,.O,.O,.O,.O,.O,.O,.O,.O,.O,.O,.O,.O,.O,.O,.O,.O,.O,.O,.O,.O,.O,.O,.O,.O,.O,.O,.O,.O,.O,.O,.O,.O,.O,.O,.O,.O,.O,.O,.O,.O,.O,.O,.O,.O,.O,.O,.O,.iview (some .u8) ws,.int .i64 (↑(List.length ws):Int),.int .i64 (W ((↑x.1:Int)+1)),.O,.O,.O,.O,.O,.O,.O,.O,.O,.O,.O,.O,.O,.O,.O,.O,.O,.O,.O,.O,.O,.O,.O,.O,.O,.O,.O,.O,.O,.O,.O,.O,.O,.O,.O,.O,.O,.O,.O,.O,.O,.O,.O,.O,.O,.O,.O,.O,.O] [some (.cells [.int .i64 (eL sh m f g).1,.int .i64 (eL sh m f g).2,.slice 1 0 (List.length (eL sh m f g).3) 1,.int .i64 (eL sh m f g).4,.int .i64 (eL sh m f g).5,.int .i64 (eL sh m f g).6,.int .u64 (eL sh m f g).7,.int .u64 (eL sh m f g).8,.bool (eL sh m f g).9]),some (.ints (some .u64) (eL sh m f g).3),some (.cells [.int .i64 3,.int .i64 (lL sh m f g+6)]),some (.cells [.int .i64 (zL sh m f g ws 1 x).1,.int .i64 (zL sh m f g ws 1 x).2,.slice 4 0 (List.length (zL sh m f g ws 1 x).3) 1,.int .i64 (zL sh m f g ws 1 x).4,.int .i64 (zL sh m f g ws 1 x).5,.int .i64 (zL sh m f g ws 1 x).6,.int .u64 (zL sh m f g ws 1 x).7,.int .u64 (zL sh m f g ws 1 x).8,.bool (zL sh m f g ws 1 x).9]),some (.ints (some .u64) (zL sh m f g ws 1 x).3)]else K (.bool false) []else bif bif ieq (eL sh m f g).1 (zL sh m f g ws 1 x).1 then bif ieq (eL sh m f g).2 (zL sh m f g ws 1 x).2 then true else false else false then(((lE' (eL sh m f g).3∧lE' (zL sh m f g ws 1 x).3)∧List.length (eL sh m f g).3≤(4294967296:Nat))∧True)∧bif !kD (eL sh m f g).3 (zL sh m f g ws 1 x).3 then K (.bool false) []else okSt (lD sh m f g ws J) (fun x'=>Hint.ok (lD sh m f g ws J) x'∧Hint.mu (lD sh m f g ws J) x'<Hint.mu (lD sh m f g ws J) x) [.O,.O,.O,.O,.O,.O,.O,.O,.O,.O,.O,.ptr 0 0,.ptr 2 0,.int .u64 (Prod.fst (Prod.snd (aL sh m f g)).2).1,.ptr 3 0,.O,.O,.int .i64 (↑(rL sh m f g).1:Int),.O,.O,.O,.O,.O,.O,.O,.O,.O,.O,.O,.O,.O,.O,.O,.O,.O,.O,.O,.O,.O,.O,.O,.O,.O,.O,.O,.O,.O,.O,.O,.O,.O,.O,.O,.O,.O,.O,.O,.O,.O,.O,.O,.O,.O,.O,.O,.O,.O,.O,.O,.O,.O,.O,.O,.O,.O,.O,.O,.O,.O,.O,.O,.O,.O,.O,.O,.O,.O,.O,.O,.O,.O,.O,.O,.O,.O,.O,.O,.O,.iview (some .u8) ws,.int .i64 (↑(List.length ws):Int),.int .i64 (W ((↑x.1:Int)+1)),.O,.O,.O,.O,.O,.O,.O,.O,.O,.O,.O,.O,.O,.O,.O,.O,.O,.O,.O,.O,.O,.O,.O,.O,.O,.O,.O,.O,.O,.O,.O,.O,.O,.O,.O,.O,.O,.O,.O,.O,.O,.O,.O,.O,.O,.O,.O,.O,.O] [some (.cells [.int .i64 (eL sh m f g).1,.int .i64 (eL sh m f g).2,.slice 1 0 (List.length (eL sh m f g).3) 1,.int .i64 (eL sh m f g).4,.int .i64 (eL sh m f g).5,.int .i64 (eL sh m f g).6,.int .u64 (eL sh m f g).7,.int .u64 (eL sh m f g).8,.bool (eL sh m f g).9]),some (.ints (some .u64) (eL sh m f g).3),some (.cells [.int .i64 3,.int .i64 (lL sh m f g+6)]),some (.cells [.int .i64 (zL sh m f g ws 1 x).1,.int .i64 (zL sh m f g ws 1 x).2,.slice 4 0 (List.length (zL sh m f g ws 1 x).3) 1,.int .i64 (zL sh m f g ws 1 x).4,.int .i64 (zL sh m f g ws 1 x).5,.int .i64 (zL sh m f g ws 1 x).6,.int .u64 (zL sh m f g ws 1 x).7,.int .u64 (zL sh m f g ws 1 x).8,.bool (zL sh m f g ws 1 x).9]),some (.ints (some .u64) (zL sh m f g ws 1 x).3)]else K (.bool false) []else bif ilt 0 (↑x.1:Int)then bif !ieq (↑(qL sh m f g ws 1 x).1:Int) 1 then K (.bool false) []else bif bif ieq (eL sh m f g).1 (zL sh m f g ws 1 x).1 then bif ieq (eL sh m f g).2 (zL sh m f g ws 1 x).2 then true else false else false then(((lE' (eL sh m f g).3∧lE' (zL sh m f g ws 1 x).3)∧List.length (eL sh m f g).3≤(4294967296:Nat))∧True)∧bif !kD (eL sh m f g).3 (zL sh m f g ws 1 x).3 then K (.bool false) []else okSt (lD sh m f g ws J) (fun x'=>Hint.ok (lD sh m f g ws J) x'∧Hint.mu (lD sh m f g ws J) x'<Hint.mu (lD sh m f g ws J) x) [.O,.O,.O,.O,.O,.O,.O,.O,.O,.O,.O,.ptr 0 0,.ptr 2 0,.int .u64 (Prod.fst (Prod.snd (aL sh m f g)).2).1,.ptr 3 0,.O,.O,.int .i64 (↑(rL sh m f g).1:Int),.O,.O,.O,.O,.O,.O,.O,.O,.O,.O,.O,.O,.O,.O,.O,.O,.O,.O,.O,.O,.O,.O,.O,.O,.O,.O,.O,.O,.O,.O,.O,.O,.O,.O,.O,.O,.O,.O,.O,.O,.O,.O,.O,.O,.O,.O,.O,.O,.O,.O,.O,.O,.O,.O,.O,.O,.O,.O,.O,.O,.O,.O,.O,.O,.O,.O,.O,.O,.O,.O,.O,.O,.O,.O,.O,.O,.O,.O,.O,.O,.iview (some .u8) ws,.int .i64 (↑(List.length ws):Int),.int .i64 (W ((↑x.1:Int)+1)),.O,.O,.O,.O,.O,.O,.O,.O,.O,.O,.O,.O,.O,.O,.O,.O,.O,.O,.O,.O,.O,.O,.O,.O,.O,.O,.O,.O,.O,.O,.O,.O,.O,.O,.O,.O,.O,.O,.O,.O,.O,.O,.O,.O,.O,.O,.O,.O,.O] [some (.cells [.int .i64 (eL sh m f g).1,.int .i64 (eL sh m f g).2,.slice 1 0 (List.length (eL sh m f g).3) 1,.int .i64 (eL sh m f g).4,.int .i64 (eL sh m f g).5,.int .i64 (eL sh m f g).6,.int .u64 (eL sh m f g).7,.int .u64 (eL sh m f g).8,.bool (eL sh m f g).9]),some (.ints (some .u64) (eL sh m f g).3),some (.cells [.int .i64 3,.int .i64 (lL sh m f g+6)]),some (.cells [.int .i64 (zL sh m f g ws 1 x).1,.int .i64 (zL sh m f g ws 1 x).2,.slice 4 0 (List.length (zL sh m f g ws 1 x).3) 1,.int .i64 (zL sh m f g ws 1 x).4,.int .i64 (zL sh m f g ws 1 x).5,.int .i64 (zL sh m f g ws 1 x).6,.int .u64 (zL sh m f g ws 1 x).7,.int .u64 (zL sh m f g ws 1 x).8,.bool (zL sh m f g ws 1 x).9]),some (.ints (some .u64) (zL sh m f g ws 1 x).3)]else K (.bool false) []else bif bif ieq (eL sh m f g).1 (zL sh m f g ws 1 x).1 then bif ieq (eL sh m f g).2 (zL sh m f g ws 1 x).2 then true else false else false then(((lE' (eL sh m f g).3∧lE' (zL sh m f g ws 1 x).3)∧List.length (eL sh m f g).3≤(4294967296:Nat))∧True)∧bif !kD (eL sh m f g).3 (zL sh m f g ws 1 x).3 then K (.bool false) []else okSt (lD sh m f g ws J) (fun x'=>Hint.ok (lD sh m f g ws J) x'∧Hint.mu (lD sh m f g ws J) x'<Hint.mu (lD sh m f g ws J) x) [.O,.O,.O,.O,.O,.O,.O,.O,.O,.O,.O,.ptr 0 0,.ptr 2 0,.int .u64 (Prod.fst (Prod.snd (aL sh m f g)).2).1,.ptr 3 0,.O,.O,.int .i64 (↑(rL sh m f g).1:Int),.O,.O,.O,.O,.O,.O,.O,.O,.O,.O,.O,.O,.O,.O,.O,.O,.O,.O,.O,.O,.O,.O,.O,.O,.O,.O,.O,.O,.O,.O,.O,.O,.O,.O,.O,.O,.O,.O,.O,.O,.O,.O,.O,.O,.O,.O,.O,.O,.O,.O,.O,.O,.O,.O,.O,.O,.O,.O,.O,.O,.O,.O,.O,.O,.O,.O,.O,.O,.O,.O,.O,.O,.O,.O,.O,.O,.O,.O,.O,.O,.iview (some .u8) ws,.int .i64 (↑(List.length ws):Int),.int .i64 (W ((↑x.1:Int)+1)),.O,.O,.O,.O,.O,.O,.O,.O,.O,.O,.O,.O,.O,.O,.O,.O,.O,.O,.O,.O,.O,.O,.O,.O,.O,.O,.O,.O,.O,.O,.O,.O,.O,.O,.O,.O,.O,.O,.O,.O,.O,.O,.O,.O,.O,.O,.O,.O,.O] [some (.cells [.int .i64 (eL sh m f g).1,.int .i64 (eL sh m f g).2,.slice 1 0 (List.length (eL sh m f g).3) 1,.int .i64 (eL sh m f g).4,.int .i64 (eL sh m f g).5,.int .i64 (eL sh m f g).6,.int .u64 (eL sh m f g).7,.int .u64 (eL sh m f g).8,.bool (eL sh m f g).9]),some (.ints (some .u64) (eL sh m f g).3),some (.cells [.int .i64 3,.int .i64 (lL sh m f g+6)]),some (.cells [.int .i64 (zL sh m f g ws 1 x).1,.int .i64 (zL sh m f g ws 1 x).2,.slice 4 0 (List.length (zL sh m f g ws 1 x).3) 1,.int .i64 (zL sh m f g ws 1 x).4,.int .i64 (zL sh m f g ws 1 x).5,.int .i64 (zL sh m f g ws 1 x).6,.int .u64 (zL sh m f g ws 1 x).7,.int .u64 (zL sh m f g ws 1 x).8,.bool (zL sh m f g ws 1 x).9]),some (.ints (some .u64) (zL sh m f g ws 1 x).3)]else K (.bool false) []else K (.bool false) []else K (.bool true) []else K (.bool false) []else K (.bool false) []else(iZ (kL sh) f g (nL m)+List.length (iL sh m f g)=List.length (i3 (kL sh) f g (nL m))∧kU 3 6 (dL sh m f g))∧uS 3 (lL sh m f g+6) 0 (kL sh) (f (nL m)) (g (nL m))∧(lE' (bF (kL sh) 3 (lL sh m f g+6) (dL sh m f g)).3∧((0:Int)≤(9:Int)∧(9:Int)≤(1000000:Int))∧p8 3 (lL sh m f g+6) 9 (anNF 3 (lL sh m f g+6) 0 (kL sh) (f (nL m)) (g (nL m))) (bF (kL sh) 3 (lL sh m f g+6) (dL sh m f g)))∧bif (Prod.snd (aL sh m f g)).1 then bif !ieq (Prod.fst (Prod.snd (aL sh m f g)).2).1 1 then K (.bool false) []else K (.bool false) []else K (.bool false) []
theorem I9(sh:Int)(m:Nat)(f g:Nat→Int)(ws:List Int)(J:Nat→MS→Prop)(K:AVal→aD Ob→Prop)(h:G9 sh m f g ws J K):cT' 8 [.int .u8 sh,.view m 2 (fun i=>[.int .i64 (f i),.int .i64 (g i)]),.iview (some .u8) ws] [] K:=by
 refine aBs (aE (E:=EM1) Tryz.checked.mixed (L:=(Y2 sh m f g ws J)) (n:=10) (aR (by kernel_rfl) h))
theorem nE'{P Q:Prop}(h:¬P:=by dsimp only;decide):P→Q:=fun e=>absurd e h
theorem aBL{X:Type}{K:X→Prop} : ∀ {t:Tr X},t.run K→t.ok
 | .ret x,k=>trivial
 | .ite b l r,k=>by cases b with
   | true=>exact aBL (t:=l) k
   | false=>exact aBL (t:=r) k
 | .pre p t,k=>⟨k.1,aBL (t:=t) k.2⟩
theorem aBJ{X:Type}{K:X→Prop} : ∀ {t:Tr X},t.run K→K t.val
 | .ret x,k=>k
 | .ite b l r,k=>by cases b with
   | true=>exact aBJ (t:=l) k
   | false=>exact aBJ (t:=r) k
 | .pre p t,k=>aBJ (t:=t) k.2
theorem Tr.run_ite{X:Type}{K:X→Prop}{b:Bool}{l r:Tr X}(h1:b=true→l.run K)(h2:b=false→r.run K):(Tr.ite b l r).run K:=aP h1 h2
theorem aBv{X:Type}{K:X→Prop}{b:Bool}{l r:Tr X}(h1:b=true→l.run K)(h2:b=false→r.run K):(bif b then l else r).run K:=by
 cases b with
 | true=>exact h1 rfl
 | false=>exact h2 rfl
theorem aBw{X:Type}{K:X→Prop}{p:Prop}{t:Tr X}(h1:p)(h2:t.run K):(Tr.pre p t).run K:=⟨h1,h2⟩
theorem aBx{X:Type}{K:X→Prop}{x:X}(h:K x):(Tr.ret x).run K:=h
structure rH (x:Int):Prop where
 h0:0≤x
 h1:x≤18446744073709551615
theorem OR:rH 0:=⟨by decide,by decide⟩
theorem FZ(x:Int):rH (WU x):=⟨(DF x).1,(DF x).2⟩
theorem OT{xs:List Int}(h:okW xs)(a:Int):rH (aB xs a):=⟨(nP h a).1,(nP h a).2⟩
theorem HS{b:Bool}{x y:Int}(h1:b=true→rH x)(h2:rH y):rH (bif b then x else y):=by
 cases b with
 | true=>exact h1 rfl
 | false=>exact h2
theorem kW{n w:Int}(h:aH n w=true):0≤n∧n<2^w.toNat:=by
 unfold aH at h
 simp only [Bool.and_eq_true,cE,bS,dT']at h
 exact h
theorem LF(b:Bool):0≤bitI b∧bitI b≤1:=by cases b<;>decide
theorem OS{a b c d e f:Int}{m:Bool} :rH (bif dOk a b c d e f then aY a b c d m e f else 0):=by
 refine HS (fun h=>?_) OR
 unfold dOk at h
 simp only [Bool.and_eq_true]at h
 obtain⟨h1,h2,h3,h4,h5,h6⟩:=h
 have h1:=kW h1
 have h2:=kW h2
 have h3:=kW h3
 have h4:=kW h4
 have h5:=kW h5
 have h6:=kW h6
 have hb:=LF m
 simp only [Int.reduceToNat,Int.reducePow]at h1 h2 h3 h4 h5 h6
 unfold aY
 exact⟨by omega,by omega⟩
theorem SH{a b c v:Int}{m:Bool} :rH (bif bif aH a 10 then bif aH b 9 then bif aH c 5 then aH v 18 else false else false else false then aT a b m c v else 0):=by
 refine HS (fun h=>?_) OR
 cases h1:aH a 10 with
 | false=>rw [h1]at h;cases h
 | true=>
   cases h2:aH b 9 with
   | false=>rw [h1,h2]at h;cases h
   | true=>
     cases h3:aH c 5 with
     | false=>rw [h1,h2,h3]at h;cases h
     | true=>
       rw [h1,h2,h3]at h
       have h:=kW (show aH v 18=true from h)
       have h1:=kW h1
       have h2:=kW h2
       have h3:=kW h3
       have hb:=LF m
       simp only [Int.reduceToNat,Int.reducePow]at h h1 h2 h3
       unfold aT
       exact⟨by omega,by omega⟩
structure Act1 (s s':MS):Prop where
 c:s'.c=s.c+1
 len:s'.xs.length=s.xs.length
 w:okW s.xs→okW s'.xs
 t:s'.t=s.t
 n:s'.n=s.n
theorem AZ(s:MS)(k a o w:Int)(ok:Bool):Act1 s ⟨s.t,s.n,s.xs,s.c+1,k,a,o,w,ok⟩:=⟨rfl,rfl,id,rfl,rfl⟩
theorem y5(s:MS)(b v k a o w:Int)(ok:Bool)(h:rH v):Act1 s ⟨s.t,s.n,aJ s.xs b v,s.c+1,k,a,o,w,ok⟩:=⟨rfl,bO _ _ _,fun hw=>dQ hw ⟨h.h0,h.h1⟩,rfl,rfl⟩
theorem F9(s:MS)(q:Bool)(b v k a o w:Int)(ok:Bool)(h:rH v):Act1 s ⟨s.t,s.n,bif q then aJ s.xs b v else s.xs,s.c+1,k,a,o,w,ok⟩:=by
 cases q with
 | true=>exact y5 s b v k a o w ok h
 | false=>exact AZ s k a o w ok
theorem QA(x a:Int)(w:Int):0≤aA x a w∧aA x a w<2^w.toNat:=fS
structure tU (t n:Int) (s:MS):Prop where
 ht:1≤t∧t≤1000
 hn:1≤n∧n≤1000
 hc:0≤s.c∧s.c≤900000
 hw:okW s.xs
theorem rJ{P:Prop}(h:P:=by(with_reducible first | exact OR | exact FZ _ | exact OS | exact SH | assumption)):P:=h
theorem BI{P:Prop}(h:P:=by(simp only [aA,Int.reduceToNat,Int.reducePow];omega)):P:=h
theorem bC{P:Prop}(h:P:=by(first
 | with_reducible exact trivial
 | with_reducible rfl
 | with_reducible assumption
 | with_reducible exact AZ _ _ _ _ _ _
 | ((with_reducible refine y5 _ _ _ _ _ _ _ _ ?_);exact rJ)
 | ((with_reducible refine F9 _ _ _ _ _ _ _ _ _ ?_);exact rJ)
 | omega
 | exact BI
 | decide)):P:=h
theorem wQ{P:Prop}(h:P:=by first | exact rJ | (exact OT (by assumption) _)):P:=h
theorem dK{P:Prop}(h:P:=by(dsimp only;first | omega | (constructor<;>omega) | exact BI)):P:=h
structure UQ (t:Int) (x:CLS):Prop where
 h:x.at'=0∨x.at'=1∨x.at'=2∨x.at'=3
structure YK (t:Int) (s:MS) (o:ClO):Prop where
 a:Act1 s o.s
 w:o.d=false→UQ t o.x
theorem TI{t n:Int}{x:CLS}{s:MS}(hb:tU t n s)(hx:UQ t x):(X5 t n x s).run (YK t s):=by
 obtain⟨⟨t0,t1⟩,⟨n0,n1⟩,⟨c0,c1⟩,hw⟩:=hb
 obtain⟨h⟩:=hx
 unfold X5
 refine aBv (fun h0=>?_) (fun h0=>aBv (fun h1=>?_) (fun h1=>aBv (fun h2=>?_) (fun h2=>aBv (fun h3=>?_) (fun h3=>?_))))
 ·unfold BE
  (repeat' (with_reducible first | exact trivial | rfl | assumption | refine aBw ?_ ?_ | refine Tr.run_ite (fun _=>?_) (fun _=>?_) | refine aBx ?_ | refine And.intro ?_ ?_))
  all_goals first | exact bC | (refine⟨by exact bC,fun hd=>?_⟩;first | (exact Bool.noConfusion hd) | exact⟨by dsimp only;decide⟩)
 ·unfold BF
  (repeat' (with_reducible first | exact trivial | rfl | assumption | refine aBw ?_ ?_ | refine Tr.run_ite (fun _=>?_) (fun _=>?_) | refine aBx ?_ | refine And.intro ?_ ?_))
  all_goals first | exact bC | (refine⟨by exact bC,fun hd=>?_⟩;first | (exact Bool.noConfusion hd) | exact⟨by dsimp only;decide⟩)
 ·unfold BG
  (repeat' (with_reducible first | exact trivial | rfl | assumption | refine aBw ?_ ?_ | refine Tr.run_ite (fun _=>?_) (fun _=>?_) | refine aBx ?_ | refine And.intro ?_ ?_))
  all_goals first | exact bC | (refine⟨by exact bC,fun hd=>?_⟩;first | (exact Bool.noConfusion hd) | exact⟨by dsimp only;decide⟩)
 ·unfold BH
  (repeat' (with_reducible first | exact trivial | rfl | assumption | refine aBw ?_ ?_ | refine Tr.run_ite (fun _=>?_) (fun _=>?_) | refine aBx ?_ | refine And.intro ?_ ?_))
  all_goals first | exact bC | (refine⟨by exact bC,fun hd=>?_⟩;first | (exact Bool.noConfusion hd) | exact⟨by dsimp only;decide⟩)
 ·simp only [b9,beq_eq_false_iff_ne]at h0 h1 h2 h3
  rcases h with e | e | e | e<;>contradiction
theorem LK{t n:Int}{x:CLS}{s:MS}(hb:tU t n s)(hx:UQ t x):P4 t n x s:=aBL (TI hb hx)
theorem DX{t n:Int}{x:CLS}{s:MS}(hb:tU t n s)(hx:UQ t x):YK t s (gA t n x s):=aBJ (TI hb hx)
structure ZY (t:Int) (x:ANS):Prop where
 h:x.at'=0∨x.at'=1∨x.at'=2∨x.at'=3∨x.at'=4
 m:0≤x.me∧x.me≤1000
 b:rH x.bits
 q:rH x.no
structure aAb (t:Int) (s:MS) (o:AnO):Prop where
 a:Act1 s o.s
 w:o.d=false→ZY t o.x
theorem YI{t n:Int}{x:ANS}{s:MS}(hb:tU t n s)(hx:ZY t x):(K9 t n x s).run (aAb t s):=by
 obtain⟨⟨t0,t1⟩,⟨n0,n1⟩,⟨c0,c1⟩,hw⟩:=hb
 obtain⟨h,⟨m0,m1⟩,b,q⟩:=hx
 unfold K9
 refine aBv (fun h0=>?_) (fun h0=>aBv (fun h1=>?_) (fun h1=>aBv (fun h2=>?_) (fun h2=>aBv (fun h3=>?_) (fun h3=>aBv (fun h4=>?_) (fun h4=>?_)))))
 ·unfold A3
  (repeat' (with_reducible first | exact trivial | rfl | assumption | refine aBw ?_ ?_ | refine Tr.run_ite (fun _=>?_) (fun _=>?_) | refine aBx ?_ | refine And.intro ?_ ?_))
  all_goals first | exact bC | (refine⟨by exact bC,fun hd=>?_⟩;first | (exact Bool.noConfusion hd) | exact⟨by dsimp only;decide,⟨m0,m1⟩,by assumption,by exact wQ⟩)
 ·unfold A4
  (repeat' (with_reducible first | exact trivial | rfl | assumption | refine aBw ?_ ?_ | refine Tr.run_ite (fun _=>?_) (fun _=>?_) | refine aBx ?_ | refine And.intro ?_ ?_))
  all_goals first | exact bC | (refine⟨by exact bC,fun hd=>?_⟩;first | (exact Bool.noConfusion hd) | exact⟨by dsimp only;decide,⟨m0,m1⟩,by assumption,by exact wQ⟩)
 ·unfold A5
  (repeat' (with_reducible first | exact trivial | rfl | assumption | refine aBw ?_ ?_ | refine Tr.run_ite (fun _=>?_) (fun _=>?_) | refine aBx ?_ | refine And.intro ?_ ?_))
  all_goals first | exact bC | (refine⟨by exact bC,fun hd=>?_⟩;first | (exact Bool.noConfusion hd) | exact⟨by dsimp only;decide,⟨m0,m1⟩,by assumption,by exact wQ⟩)
 ·unfold A6
  (repeat' (with_reducible first | exact trivial | rfl | assumption | refine aBw ?_ ?_ | refine Tr.run_ite (fun _=>?_) (fun _=>?_) | refine aBx ?_ | refine And.intro ?_ ?_))
  all_goals first | exact bC | (refine⟨by exact bC,fun hd=>?_⟩;first | (exact Bool.noConfusion hd) | exact⟨by dsimp only;decide,⟨m0,m1⟩,by assumption,by exact wQ⟩)
 ·unfold uU
  (repeat' (with_reducible first | exact trivial | rfl | assumption | refine aBw ?_ ?_ | refine Tr.run_ite (fun _=>?_) (fun _=>?_) | refine aBx ?_ | refine And.intro ?_ ?_))
  all_goals first | exact bC | (refine⟨by exact bC,fun hd=>?_⟩;first | (exact Bool.noConfusion hd) | exact⟨by dsimp only;decide,⟨m0,m1⟩,by assumption,by exact wQ⟩)
 ·simp only [b9,beq_eq_false_iff_ne]at h0 h1 h2 h3 h4
  rcases h with e | e | e | e | e<;>contradiction
theorem uV{t n:Int}{x:ANS}{s:MS}(hb:tU t n s)(hx:ZY t x):K8 t n x s:=aBL (YI hb hx)
structure X6 (t:Int) (x:EXS):Prop where
 h:x.at'=0∨x.at'=1∨x.at'=2∨x.at'=3∨x.at'=4∨x.at'=5∨x.at'=6∨x.at'=7∨x.at'=8∨x.at'=9
 m:0≤x.u∧x.u≤1000
 po:0≤x.popped∧x.popped≤1000
structure YT (t:Int) (s:MS) (o:ExO):Prop where
 a:Act1 s o.s
 w:o.d=false→X6 t o.x
 p:0≤o.x.popped∧o.x.popped≤1000
theorem TJ{t n:Int}{x:EXS}{s:MS}(hb:tU t n s)(hx:X6 t x):(IL t n x s).run (YT t s):=by
 obtain⟨⟨t0,t1⟩,⟨n0,n1⟩,⟨c0,c1⟩,hw⟩:=hb
 obtain⟨h,⟨m0,m1⟩,⟨p0,p1⟩⟩:=hx
 unfold IL
 refine aBv (fun h0=>?_) (fun h0=>aBv (fun h1=>?_) (fun h1=>aBv (fun h2=>?_) (fun h2=>aBv (fun h3=>?_) (fun h3=>aBv (fun h4=>?_) (fun h4=>aBv (fun h5=>?_) (fun h5=>aBv (fun h6=>?_) (fun h6=>aBv (fun h7=>?_) (fun h7=>aBv (fun h8=>?_) (fun h8=>aBv (fun h9=>?_) (fun h9=>?_))))))))))
 ·unfold u7
  (repeat' (with_reducible first | exact trivial | rfl | assumption | refine aBw ?_ ?_ | refine Tr.run_ite (fun _=>?_) (fun _=>?_) | refine aBx ?_ | refine And.intro ?_ ?_))
  all_goals first | exact bC | (refine⟨by exact bC,fun hd=>by first | (exact Bool.noConfusion hd) | exact⟨by dsimp only;decide,⟨m0,m1⟩,by exact dK⟩,?_⟩;exact dK)
 ·unfold u9
  (repeat' (with_reducible first | exact trivial | rfl | assumption | refine aBw ?_ ?_ | refine Tr.run_ite (fun _=>?_) (fun _=>?_) | refine aBx ?_ | refine And.intro ?_ ?_))
  all_goals first | exact bC | (refine⟨by exact bC,fun hd=>by first | (exact Bool.noConfusion hd) | exact⟨by dsimp only;decide,⟨m0,m1⟩,by exact dK⟩,?_⟩;exact dK)
 ·unfold vA
  (repeat' (with_reducible first | exact trivial | rfl | assumption | refine aBw ?_ ?_ | refine Tr.run_ite (fun _=>?_) (fun _=>?_) | refine aBx ?_ | refine And.intro ?_ ?_))
  all_goals first | exact bC | (refine⟨by exact bC,fun hd=>by first | (exact Bool.noConfusion hd) | exact⟨by dsimp only;decide,⟨m0,m1⟩,by exact dK⟩,?_⟩;exact dK)
 ·unfold vB
  (repeat' (with_reducible first | exact trivial | rfl | assumption | refine aBw ?_ ?_ | refine Tr.run_ite (fun _=>?_) (fun _=>?_) | refine aBx ?_ | refine And.intro ?_ ?_))
  all_goals first | exact bC | (refine⟨by exact bC,fun hd=>by first | (exact Bool.noConfusion hd) | exact⟨by dsimp only;decide,⟨m0,m1⟩,by exact dK⟩,?_⟩;exact dK)
 ·unfold BS
  (repeat' (with_reducible first | exact trivial | rfl | assumption | refine aBw ?_ ?_ | refine Tr.run_ite (fun _=>?_) (fun _=>?_) | refine aBx ?_ | refine And.intro ?_ ?_))
  all_goals first | exact bC | (refine⟨by exact bC,fun hd=>by first | (exact Bool.noConfusion hd) | exact⟨by dsimp only;decide,⟨m0,m1⟩,by exact dK⟩,?_⟩;exact dK)
 ·unfold vC
  (repeat' (with_reducible first | exact trivial | rfl | assumption | refine aBw ?_ ?_ | refine Tr.run_ite (fun _=>?_) (fun _=>?_) | refine aBx ?_ | refine And.intro ?_ ?_))
  all_goals first | exact bC | (refine⟨by exact bC,fun hd=>by first | (exact Bool.noConfusion hd) | exact⟨by dsimp only;decide,⟨m0,m1⟩,by exact dK⟩,?_⟩;exact dK)
 ·unfold vD
  (repeat' (with_reducible first | exact trivial | rfl | assumption | refine aBw ?_ ?_ | refine Tr.run_ite (fun _=>?_) (fun _=>?_) | refine aBx ?_ | refine And.intro ?_ ?_))
  all_goals first | exact bC | (refine⟨by exact bC,fun hd=>by first | (exact Bool.noConfusion hd) | exact⟨by dsimp only;decide,⟨m0,m1⟩,by exact dK⟩,?_⟩;exact dK)
 ·unfold vE
  (repeat' (with_reducible first | exact trivial | rfl | assumption | refine aBw ?_ ?_ | refine Tr.run_ite (fun _=>?_) (fun _=>?_) | refine aBx ?_ | refine And.intro ?_ ?_))
  all_goals first | exact bC | (refine⟨by exact bC,fun hd=>by first | (exact Bool.noConfusion hd) | exact⟨by dsimp only;decide,⟨m0,m1⟩,by exact dK⟩,?_⟩;exact dK)
 ·unfold BT
  (repeat' (with_reducible first | exact trivial | rfl | assumption | refine aBw ?_ ?_ | refine Tr.run_ite (fun _=>?_) (fun _=>?_) | refine aBx ?_ | refine And.intro ?_ ?_))
  all_goals first | exact bC | (refine⟨by exact bC,fun hd=>by first | (exact Bool.noConfusion hd) | exact⟨by dsimp only;decide,⟨m0,m1⟩,by exact dK⟩,?_⟩;exact dK)
 ·unfold BU
  (repeat' (with_reducible first | exact trivial | rfl | assumption | refine aBw ?_ ?_ | refine Tr.run_ite (fun _=>?_) (fun _=>?_) | refine aBx ?_ | refine And.intro ?_ ?_))
  all_goals first | exact bC | (refine⟨by exact bC,fun hd=>by first | (exact Bool.noConfusion hd) | exact⟨by dsimp only;decide,⟨m0,m1⟩,by exact dK⟩,?_⟩;exact dK)
 ·simp only [b9,beq_eq_false_iff_ne]at h0 h1 h2 h3 h4 h5 h6 h7 h8 h9
  rcases h with e | e | e | e | e | e | e | e | e | e<;>contradiction
theorem VD{t n:Int}{x:EXS}{s:MS}(hb:tU t n s)(hx:X6 t x):VA t n x s:=aBL (TJ hb hx)
theorem VF{t n:Int}{x:EXS}{s:MS}(hb:tU t n s)(hx:X6 t x):YT t s (exF t n x s):=aBJ (TJ hb hx)
structure X8 (t:Int) (x:PRS):Prop where
 h:True
structure ZM (t:Int) (s:MS) (st:STS) (o:PrO):Prop where
 a:Act1 s o.s
 w:o.d=false→X8 t o.x
 st:o.st=st
theorem TX{t n:Int}{x:PRS}{st:STS}{s:MS}(hb:tU t n s)(hx:X8 t x):(TV t n x st s).run (ZM t s st):=by
 obtain⟨⟨t0,t1⟩,⟨n0,n1⟩,⟨c0,c1⟩,hw⟩:=hb
 obtain⟨h⟩:=hx
 unfold TV
 unfold KA
 (repeat' (with_reducible first | exact trivial | rfl | assumption | refine aBw ?_ ?_ | refine Tr.run_ite (fun _=>?_) (fun _=>?_) | refine aBx ?_ | refine And.intro ?_ ?_))
 all_goals first | exact bC | (refine⟨by exact bC,fun hd=>?_,rfl⟩;first | (exact Bool.noConfusion hd) | exact⟨trivial⟩)
theorem XF{t n:Int}{x:PRS}{st:STS}{s:MS}(hb:tU t n s)(hx:X8 t x):SC t n x st s:=aBL (TX hb hx)
theorem XG{t n:Int}{x:PRS}{st:STS}{s:MS}(hb:tU t n s)(hx:X8 t x):ZM t s st (prF t n x st s):=aBJ (TX hb hx)
theorem x8{a b:Int}(h:ieq a b=true):a=b:=by simpa [b9]using h
theorem NK{a b:Int}(h:ieq a b=false):a≠b:=by simpa [b9]using h
def fP(l:List Int):Prop:= ∀r∈l,0≤r∧r≤1000
theorem yR:fP []:=fun r h=>nomatch h
theorem wK{l:List Int}{a:Int}(h:fP l)(ha:0≤a∧a≤1000):fP (l++ [a]):=by
 intro r hr
 rcases List.mem_append.1 hr with h1 | h1
 ·exact h r h1
 ·rw [List.mem_singleton.1 h1];exact ha
theorem KI{l m:List Int}(h:fP l)(hm:fP m):fP (l++m):=by
 intro r hr
 rcases List.mem_append.1 hr with h1 | h1
 ·exact h r h1
 ·exact hm r h1
theorem kG(t n a:Int):u2 t n a:=⟨⟨rfl,rfl⟩,trivial⟩
theorem LJ(t n a:Int):UQ t (DV t n a):=⟨.inl rfl⟩
theorem aAj(x a:Int):0≤aA x a 9∧aA x a 9≤1000:=by
 have:=QA x a 9
 simp only [Int.reduceToNat,Int.reducePow]at this
 omega
structure PK (b:Int) (x:FNS):Prop where
 m:0≤x.me∧x.me≤1000
 cu:0≤x.curr∧x.curr≤1000
 ul:fP x.ul
 ln:(x.ul.length:Int)≤b
structure VW (t:Int) (x:FNS):Prop where
 h:x.at'=0∨x.at'=1∨x.at'=2∨x.at'=3∨x.at'=4∨x.at'=5∨x.at'=6
 cl:x.at'=4→UQ t x.cl
structure YZ (t b:Int) (s:MS) (o:FnO):Prop where
 a:Act1 s o.s
 q:PK (b+1) o.x
 w:o.d=false→VW t o.x
theorem pK{P:Prop}(h:P:=by(refine⟨?_,⟨?_,?_,?_,?_⟩,fun hd=>?_⟩<;>first
 | exact bC
 | (exact(DX (by assumption) (by assumption)).a)
 | (constructor<;>assumption)
 | exact aAj _ _
 | (exact wK (by assumption) ⟨by assumption,by assumption⟩)
 | exact yR
 | (dsimp only;simp only [List.length_append,List.length_singleton,List.length_nil];omega)
 | exact Bool.noConfusion hd
 | exact⟨by dsimp only;decide,fun e=>absurd e (by dsimp only;decide)⟩
 | exact⟨by dsimp only;decide,fun e=>(DX (by assumption) (by assumption)).w (by assumption)⟩
 | exact⟨by dsimp only;decide,fun e=>by dsimp only;with_reducible exact LJ _ _ _⟩)):P:=h
theorem TK{t n b:Int}{x:FNS}{s:MS}(hb:tU t n s)(hx:VW t x)(hq:PK b x)(hbb:b≤900000):(G3 t n x s).run (YZ t b s):=by
 have hb':=hb
 obtain⟨⟨t0,t1⟩,⟨n0,n1⟩,⟨c0,c1⟩,hw⟩:=hb
 obtain⟨h,hcl⟩:=hx
 obtain⟨⟨m0,m1⟩,⟨q0,q1⟩,hul,hln⟩:=hq
 have b0:0≤b:=by omega
 unfold G3
 refine aBv (fun h0=>?_) (fun h0=>aBv (fun h1=>?_) (fun h1=>aBv (fun h2=>?_) (fun h2=>aBv (fun h3=>?_) (fun h3=>aBv (fun h4=>?_) (fun h4=>aBv (fun h5=>?_) (fun h5=>aBv (fun h6=>?_) (fun h6=>?_)))))))
 ·unfold vH
  (repeat' (with_reducible first | exact trivial | rfl | assumption | refine aBw ?_ ?_ | refine Tr.run_ite (fun _=>?_) (fun _=>?_) | refine aBx ?_ | refine And.intro ?_ ?_))
  all_goals first | exact bC | exact kG _ _ _ | (simp only [List.length_append,List.length_singleton];done) | exact pK
 ·unfold xX
  (repeat' (with_reducible first | exact trivial | rfl | assumption | refine aBw ?_ ?_ | refine Tr.run_ite (fun _=>?_) (fun _=>?_) | refine aBx ?_ | refine And.intro ?_ ?_))
  all_goals first | exact bC | exact kG _ _ _ | (simp only [List.length_append,List.length_singleton];done) | exact pK
 ·unfold vI
  (repeat' (with_reducible first | exact trivial | rfl | assumption | refine aBw ?_ ?_ | refine Tr.run_ite (fun _=>?_) (fun _=>?_) | refine aBx ?_ | refine And.intro ?_ ?_))
  all_goals first | exact bC | exact kG _ _ _ | (simp only [List.length_append,List.length_singleton];done) | exact pK
 ·unfold nB
  (repeat' (with_reducible first | exact trivial | rfl | assumption | refine aBw ?_ ?_ | refine Tr.run_ite (fun _=>?_) (fun _=>?_) | refine aBx ?_ | refine And.intro ?_ ?_))
  all_goals first | exact bC | exact kG _ _ _ | (simp only [List.length_append,List.length_singleton];done) | exact pK
 ·unfold B2
  have hcl4:=hcl (x8 h4)
  have hclo:=LK hb' hcl4
  (repeat' (with_reducible first | exact trivial | rfl | assumption | refine aBw ?_ ?_ | refine Tr.run_ite (fun _=>?_) (fun _=>?_) | refine aBx ?_ | refine And.intro ?_ ?_))
  all_goals first | exact bC | exact kG _ _ _ | (simp only [List.length_append,List.length_singleton];done) | exact pK
 ·unfold vJ
  (repeat' (with_reducible first | exact trivial | rfl | assumption | refine aBw ?_ ?_ | refine Tr.run_ite (fun _=>?_) (fun _=>?_) | refine aBx ?_ | refine And.intro ?_ ?_))
  all_goals first | exact bC | exact kG _ _ _ | (simp only [List.length_append,List.length_singleton];done) | exact pK
 ·unfold vK
  (repeat' (with_reducible first | exact trivial | rfl | assumption | refine aBw ?_ ?_ | refine Tr.run_ite (fun _=>?_) (fun _=>?_) | refine aBx ?_ | refine And.intro ?_ ?_))
  all_goals first | exact bC | exact kG _ _ _ | (simp only [List.length_append,List.length_singleton];done) | exact pK
 ·simp only [b9,beq_eq_false_iff_ne]at h0 h1 h2 h3 h4 h5 h6
  rcases h with e | e | e | e | e | e | e<;>contradiction
theorem VX{t n b:Int}{x:FNS}{s:MS}(hb:tU t n s)(hx:VW t x)(hq:PK b x)(hbb:b≤900000):VT t n x s:=aBL (TK hb hx hq hbb)
theorem VY{t n b:Int}{x:FNS}{s:MS}(hb:tU t n s)(hx:VW t x)(hq:PK b x)(hbb:b≤900000):YZ t b s (fnF t n x s):=aBJ (TK hb hx hq hbb)
theorem gE(sh ky:Int):0≤cJ sh ky∧cJ sh ky≤3:=by
 unfold cJ
 cases ieq sh 2 with
 | true=>exact⟨Int.emod_nonneg _ (by decide),by have:=Int.emod_lt_of_pos ky (b:=4) (by decide);show ky%4≤3;omega⟩
 | false=>exact⟨Int.le_refl 0,(by decide:(0:Int)≤3)⟩
theorem EI{t n me hd key lim:Int}(hn:1≤n∧n≤1000)(hm:0≤me∧me≤1000)(hh:0≤hd∧hd≤3):(MR t n me hd key lim).run (fun x=>VW t x∧PK 0 x):=by
 obtain⟨n0,n1⟩:=hn
 obtain⟨m0,m1⟩:=hm
 obtain⟨e0,e1⟩:=hh
 unfold MR
 (repeat' (with_reducible first | exact trivial | rfl | assumption | refine aBw ?_ ?_ | refine Tr.run_ite (fun _=>?_) (fun _=>?_) | refine aBx ?_ | refine And.intro ?_ ?_))
 all_goals first | exact bC | exact⟨by dsimp only;decide,fun e=>absurd e (by dsimp only;decide)⟩ | exact⟨⟨m0,m1⟩,⟨(by decide:(0:Int)≤0),(by decide:(0:Int)≤1000)⟩,yR,(by decide:((0:Nat):Int)≤0)⟩
theorem HO(sh kd ky pred pw cw sp:Int){curr:Int}(hc:0≤curr∧curr≤1000):(yJ sh kd ky pred pw curr cw sp).run (fun p=>0≤p.pops∧p.pops≤1000):=by
 obtain⟨c0,c1⟩:=hc
 unfold yJ
 (repeat' (with_reducible first | exact trivial | rfl | assumption | refine aBw ?_ ?_ | refine Tr.run_ite (fun _=>?_) (fun _=>?_) | refine aBx ?_ | refine And.intro ?_ ?_))
 all_goals first | exact bC | (dsimp only;first | assumption | decide)
theorem OF(sh kd ky pred pw cw sp:Int){curr:Int}(hc:0≤curr∧curr≤1000):FS sh kd ky pred pw curr cw sp:=aBL (HO sh kd ky pred pw cw sp hc)
theorem J8(sh kd ky pred pw cw sp:Int){curr:Int}(hc:0≤curr∧curr≤1000):0≤(bN sh kd ky pred pw curr cw sp).pops ∧(bN sh kd ky pred pw curr cw sp).pops ≤1000:=aBJ (HO sh kd ky pred pw cw sp hc)
theorem CP(a b c d e f g h i j):(sQ a b c d e f g h i j).run (fun r=>rH r.1):=by
 unfold sQ
 (repeat' (with_reducible first | exact trivial | rfl | assumption | refine aBw ?_ ?_ | refine Tr.run_ite (fun _=>?_) (fun _=>?_) | refine aBx ?_ | refine And.intro ?_ ?_))
 all_goals first | exact bC | exact rJ
theorem J7(a b c d e f g h i j):AB a b c d e f g h i j:=aBL (CP a b c d e f g h i j)
theorem J6(a b c d e f g h i j):rH (fB a b c d e f g h i j).1:=aBJ (CP a b c d e f g h i j)
theorem CO(a b c d e f g h i):(sP a b c d e f g h i).run (fun _=>True):=by
 unfold sP
 (repeat' (with_reducible first | exact trivial | rfl | assumption | refine aBw ?_ ?_ | refine Tr.run_ite (fun _=>?_) (fun _=>?_) | refine aBx ?_ | refine And.intro ?_ ?_))
 all_goals exact bC
theorem J4(p:PLN):uE p.1 p.2 p.3 p.4 p.5 p.6 p.7 p.8 p.9:=aBL (CO _ _ _ _ _ _ _ _ _)
theorem FQ(a b c d e f g h i):uE a b c d e f g h i:=aBL (CO _ _ _ _ _ _ _ _ _)
theorem B1{b c:Int}{x:FNS}(h:PK b x)(hbc:b≤c):PK c x:=⟨h.m,h.cu,h.ul,Int.le_trans h.ln hbc⟩
theorem Q2{t n me hd key lim:Int}(hn:1≤n∧n≤1000)(hm:0≤me∧me≤1000)(hh:0≤hd∧hd≤3):B0 t n me hd key lim:=aBL (EI hn hm hh)
theorem YY{t n me hd key lim:Int}(hn:1≤n∧n≤1000)(hm:0≤me∧me≤1000)(hh:0≤hd∧hd≤3):VW t (qI t n me hd key lim):=by
 have h:=aBJ (EI (t:=t) (key:=key) (lim:=lim) hn hm hh)
 exact h.1
theorem YX{t n me hd key lim:Int}(hn:1≤n∧n≤1000)(hm:0≤me∧me≤1000)(hh:0≤hd∧hd≤3):PK 0 (qI t n me hd key lim):=by
 have h:=aBJ (EI (t:=t) (key:=key) (lim:=lim) hn hm hh)
 exact h.2
theorem OI(t n key nx:Int)(st:STS):(SA t n key nx st).run (fun r=>r.2=st):=⟨⟨rfl,rfl,rfl⟩,rfl⟩
theorem SB(t n key nx:Int)(st:STS):OH t n key nx st:=aBL (OI t n key nx st)
theorem XA(t n key nx:Int)(st:STS):(CQ t n key nx st).2=st:=aBJ (OI t n key nx st)
structure stW (b:Int) (st:STS):Prop where
 m:0≤st.me∧st.me≤1000
 r:fP st.R
 ln:(st.R.length:Int)≤b
theorem rQ{b c:Int}{st:STS}(h:stW b st)(hbc:b≤c):stW c st:=⟨h.m,h.r,Int.le_trans h.ln hbc⟩
theorem SQ{b:Int}{st:STS}{k:Int}{x:FNS}(h:stW b st)(hq:PK (b - st.R.length+1) x):stW (b+1) {me:=st.me,sp:=k,R:=st.R++x.ul} :=
 ⟨h.m,KI h.r hq.ul,by have:=hq.ln;simp only [List.length_append];omega⟩
theorem O0{b:Int}{st:STS}{k a:Int}(h:stW b st)(ha:0≤a∧a≤1000):stW (b+1) {me:=st.me,sp:=k,R:=st.R++ [a] } :=
 ⟨h.m,wK h.r ha,by have:=h.ln;simp only [List.length_append,List.length_singleton];omega⟩
theorem XT{b:Int}{st:STS}(h:stW b st)(k:Int):stW (b+1) {me:=st.me,sp:=k,R:=st.R} :=⟨h.m,h.r,by have:=h.ln;show(st.R.length:Int)≤_;omega⟩
theorem jM(s:MS)(a:Int):Act1 s (s.loadd a):=⟨rfl,rfl,id,rfl,rfl⟩
theorem xC(s:MS)(a o x:Int):Act1 s (s.cased a o (WU x)):=F9 s _ _ _ _ _ _ _ _ (FZ x)
theorem xB(s:MS)(a x:Int):Act1 s (s.added a x):=y5 s _ _ _ _ _ _ _ (FZ _)
theorem wJ{m:List (Int×Int)}{l:List Int}(h:fP l):fP (cM m l):=fun r hr=>h r (List.mem_filter.1 hr).1
theorem CZ{m:List (Int×Int)}{l:List Int}(h:fP l):fP (aV m l):=fun r hr=>h r (List.mem_filter.1 hr).1
theorem NO(m:List (Int×Int))(l:List Int):(cM m l).length ≤l.length:=List.length_filter_le _ _
theorem OZ{l:List Int}(h:fP l){j:Nat}(hj:j<l.length): -1000000≤List.getD l (j+Int.toNat 0*1) 0∧List.getD l (j+Int.toNat 0*1) 0≤1000000:=by
 have e:j+Int.toNat 0*1=j:=by simp
 rw [e,gD',gE' hj]
 have:=h _ (List.getElem_mem hj)
 show _≤l[j]∧l[j]≤_
 omega
theorem CI{n a:Int}(hn:1≤n)(ha:1≤a):1≤cK n a∧cK n a≤n:=by
 unfold cK
 rw [Int.tmod_eq_emod_of_nonneg (by omega)]
 have:=Int.emod_nonneg a (show n≠0 by omega)
 have:=Int.emod_lt_of_pos a (show 0<n by omega)
 omega
theorem GI{t n me:Int}(hn:1≤n):1≤at0 t n me∧at0 t n me≤n:=by
 unfold at0
 cases h:bQ n (aN t n me)with
 | true=>exact vY.1 h
 | false=>exact⟨(by decide:(1:Int)≤1),hn⟩
def Z0(t n b:Int)(e:ENS):Prop:=match e.ph with
 | 0=>True
 | 1=>okAl n e.x
 | 2=>True
 | 3=>(fP e.y.N∧(e.y.N.length:Int)≤b)∧0≤e.y.i∧e.y.i<2*t
 | 4=>2*t≤e.y.i∧1≤e.y.l∧e.y.gs.length=e.y.j+e.y.l∧fP e.y.gs∧fP e.y.ks∧(e.y.ks.length:Int)≤b
 | _=>False
structure UY (t n b:Int) (s:MS) (o:EO):Prop where
 a:Act1 s o.s
 st:stW (b+1) o.st
 w:o.d=false→Z0 t n (b+1) o.e
theorem U4{t n b:Int}{e:ENS}{st:STS}{s:MS}(hb:tU t n s)(hx:Z0 t n b e)(hst:stW b st)(hbb:b≤900000):KQ t n e st s:=by
 obtain⟨ht,hn,hc,hw⟩:=hb
 have hl:=hst.ln
 refine⟨ht,hn,⟨hc.1,by omega⟩,hst.m,by omega,?_⟩
 match e,hx with
 | ⟨0,sh,dn,x,y⟩,hx=>trivial
 | ⟨1,sh,dn,x,y⟩,hx=>exact hx
 | ⟨2,sh,dn,x,y⟩,hx=>trivial
 | ⟨3,sh,dn,x,y⟩,hx=>
   obtain⟨⟨h1,h2⟩,h3⟩:=hx
   exact⟨by dsimp only at h2⊢;omega,h3⟩
 | ⟨4,sh,dn,x,y⟩,hx=>
   obtain⟨a1,a2,a3,a4,a5⟩:=hx
   exact⟨a1,a2,a3,OZ a4 (by omega)⟩
theorem GP{t n b:Int}{e:ENS}{st:STS}{x:AL}{s s0:MS}(ha:Act1 s0 s)(hst:stW b st)(hg:x.got=0)(hx:1≤x.at'∧x.at'≤n)(hl0:0≤x.left+1)(hl:x.left≤1000):UY t n b s0 (zI e st x s):=by
 have hl1:=hst.ln
 unfold zI
 split
 ·exact⟨ha,⟨hst.m,hst.r,by dsimp only;omega⟩,fun _=>trivial⟩
 ·rename_i h
  rw [cE,dF']at h
  exact⟨ha,rQ hst (by omega),fun _=>⟨hg,hx,by show(0:Int)≤x.left;omega,hl⟩⟩
theorem xQ{t n b:Int}{e:ENS}{st:STS}{x:AL}{s:MS}(hn:1≤n)(hst:stW b st)(hx:okAl n x):UY t n b s (jR n e st x s):=by
 obtain⟨hg,ha,hl⟩:=hx
 have hl1:=hst.ln
 unfold jR
 split
 ·split
  ·exact⟨xC _ _ _ _,⟨hst.m,hst.r,by dsimp only;omega⟩,fun h=>Bool.noConfusion h⟩
  ·exact GP (xC _ _ _ _) hst rfl (CI hn ha.1) (by dsimp only;omega) (by dsimp only;omega)
 ·split
  ·exact GP (jM _ _) hst rfl (CI hn ha.1) (by dsimp only;omega) (by dsimp only;omega)
  ·exact⟨jM _ _,rQ hst (by omega),fun _=>⟨rfl,ha,hl⟩⟩
theorem U5{t n b:Int}{e:ENS}{st:STS}{s:MS}(hb:tU t n s)(hx:Z0 t n b e)(hst:stW b st):UY t n b s (enF t n e st s):=by
 obtain⟨ht,hn,hc,hw⟩:=hb
 have hl1:=hst.ln
 have hst1:stW (b+1) st:=rQ hst (by omega)
 match e,hx with
 | ⟨0,sh,dn,x,y⟩,hx=>
   unfold enF
   dsimp only
   cases hc:ieq st.sp 0 with
   | true=>exact xQ hn.1 hst ⟨rfl,GI hn.1,by dsimp only;omega⟩
   | false=>exact⟨jM _ _,hst1,fun h=>Bool.noConfusion h⟩
 | ⟨1,sh,dn,x,y⟩,hx=>exact xQ hn.1 hst hx
 | ⟨2,sh,dn,x,y⟩,hx=>
   exact⟨jM _ _,hst1,fun _=>⟨⟨hst.r,by show(st.R.length:Int)≤_;omega⟩,(by decide:(0:Int)≤1),by show(1:Int)<_;omega⟩⟩
 | ⟨3,sh,dn,x,y⟩,hx=>
   obtain⟨⟨hN,hNl⟩,hi0,hi1⟩:=hx
   dsimp only at hN hNl hi0 hi1
   have hk:=NO (aU y.m n y.i s) y.N
   unfold enF
   dsimp only
   generalize hsm:aU y.m n y.i s=sm at hk⊢
   cases h1:ieq (y.i+1) (2*t)with
   | false=>
     have h1:=NK h1
     exact⟨jM _ _,hst1,fun _=>⟨⟨hN,by show((y.N).length :Int)≤_;omega⟩,by show 0≤y.i+1;omega,by show y.i+1<2*t;omega⟩⟩
   | true=>
     have h1:=x8 h1
     cases h2:ieq ((aV sm y.N).length :Int) 0 with
     | true=>exact⟨jM _ _,⟨hst.m,wJ hN,by show((cM sm y.N).length :Int)≤_;omega⟩,fun h=>Bool.noConfusion h⟩
     | false=>
       have h2:=NK h2
       exact⟨jM _ _,hst1,fun _=>⟨by show 2*t≤y.i+1;omega,by show 1≤(aV sm y.N).length;omega,by show(aV sm y.N).length =0+(aV sm y.N).length;omega,CZ hN,wJ hN,by show((cM sm y.N).length :Int)≤_;omega⟩⟩
 | ⟨4,sh,dn,x,y⟩,hx=>
   obtain⟨a1,a2,a3,a4,a5,a6⟩:=hx
   dsimp only at a1 a2 a3 a4 a5 a6
   unfold enF
   dsimp only
   cases h1:ieq ((y.l - 1:Nat):Int) 0 with
   | true=>exact⟨xB _ _ _,⟨hst.m,a5,by show((y.ks).length :Int)≤_;omega⟩,fun _=>trivial⟩
   | false=>
     have h1:=NK h1
     exact⟨xB _ _ _,hst1,fun _=>⟨a1,by show 1≤y.l - 1;omega,by show(y.gs).length =y.j+1+(y.l - 1);omega,a4,a5,by show((y.ks).length :Int)≤_;omega⟩⟩
theorem QT(t n u sh kd ky att:Int):MD t n u sh kd ky att:=⟨⟨rfl,rfl⟩,trivial⟩
theorem YS(t n:Int){u:Int}(sh kd ky att:Int)(hu:0≤u∧u≤1000):X6 t (exNF t n u sh kd ky att):=⟨.inl rfl,hu,⟨(by decide:(0:Int)≤0),(by decide:(0:Int)≤1000)⟩⟩
structure X7 (t n b:Int) (st:STS) (x:HPS):Prop where
 h:x.at'=0∨x.at'=1∨x.at'=2∨x.at'=3∨x.at'=4∨x.at'=5∨x.at'=6∨x.at'=7∨x.at'=8∨x.at'=9
 u:0≤x.u∧x.u≤1000
 ex:x.at'=3→X6 t x.ex
 en:x.at'=4→Z0 t n b x.en
 fn:x.at'=5→VW t x.fn∧PK (b - st.R.length) x.fn
 cl:x.at'=7→UQ t x.cl
 ps:0≤x.p.pops∧x.p.pops≤1000
structure Y3 (t n b:Int) (s:MS) (o:HpO):Prop where
 a:Act1 s o.s
 st:stW (b+1) o.st
 w:o.d=false→X7 t n (b+1) o.st o.x
theorem N0:(0:Int)≤0∧(0:Int)≤1000:=⟨by decide,by decide⟩
theorem TO{t n b:Int}{x:HPS}{st:STS}{s:MS}(hb:tU t n s)(hx:X7 t n b st x)(hst:stW b st)(hbb:b≤900000):(zV t n x st s).run (Y3 t n b s):=by
 have hb':=hb
 obtain⟨ht,hn,⟨c0,c1⟩,hw⟩:=hb
 obtain⟨n0,n1⟩:=hn
 obtain⟨t0,t1⟩:=ht
 obtain⟨h,hu,hex,hen,hfn,hcl,hps⟩:=hx
 have hR0:=hst.ln
 have hst1:stW (b+1) st:=rQ hst (by omega)
 have hnn:1≤n∧n≤1000:=⟨n0,n1⟩
 have hme:=hst.m
 obtain⟨u0,u1⟩:=hu
 have b0:0≤b:=by omega
 obtain⟨k0,k1⟩:=nP hw (2*n+5+2*t+3*x.1+1)
 unfold zV
 refine aBv (fun h0=>?c0) (fun h0=>aBv (fun h1=>?c1) (fun h1=>aBv (fun h2=>?c2) (fun h2=>aBv (fun h3=>?c3) (fun h3=>aBv (fun h4=>?c4) (fun h4=>aBv (fun h5=>?c5) (fun h5=>aBv (fun h6=>?c6) (fun h6=>aBv (fun h7=>?c7) (fun h7=>aBv (fun h8=>?c8) (fun h8=>aBv (fun h9=>?c9) (fun h9=>?c10))))))))))
 case' c0=>unfold B7
 case' c1=>unfold vM
 case' c2=>unfold vN
 case' c3=>have he:=hex (x8 h3);have hE:=VF hb' he;have hEo:=VD hb' he;have hA:=hE.a;have hS:stW (b+1) {me:=st.me,sp:=st.sp,R:=st.R++ [(ExO.x (exF t n x.11 s)).1] } :=O0 hst hE.p;unfold qM
 case' c4=>have he:=hen (x8 h4);have hE:=U5 hb' he hst;have hEo:=U4 hb' he hst hbb;have hA:=hE.a;have hS:=hE.st;have hme:=hS.m;have hSl:=hS.ln;unfold qN
 case' c5=>obtain⟨hfw,hfq⟩:=hfn (x8 h5);have hF:=VY hb' hfw hfq (by omega);have hFo:=VX hb' hfw hfq (by omega);have hA:=hF.a;have hQ:=hF.q;have hQl:=hQ.ln;have hS:stW (b+1) {me:=st.me,sp:=st.sp,R:=st.R++(fnF t n x.fn s).x.ul } :=SQ hst hQ;have hcu:=hQ.cu;unfold qO
 case' c6=>unfold vO
 case' c7=>have hc:=hcl (x8 h7);have hC:=DX hb' hc;have hCo:=LK hb' hc;have hA:=hC.a;unfold B8
 case' c8=>have hP:=XG (st:=st) hb' (show X8 t x.pr from⟨trivial⟩);have hPo:=XF (st:=st) hb' (show X8 t x.pr from⟨trivial⟩);have hA:=hP.a;have hPs:stW (b+1) (prF t n x.pr st s).st :=(by rw [hP.st];exact hst1);unfold qP
 case' c9=>have hD:=J6 (HPS.p x).1 (HPS.p x).2 (HPS.p x).3 (HPS.p x).4 (HPS.p x).5 (HPS.p x).6 (HPS.p x).7 (HPS.p x).8 (HPS.p x).9 (aA x.6 0 12);have hDo:=J7 (HPS.p x).1 (HPS.p x).2 (HPS.p x).3 (HPS.p x).4 (HPS.p x).5 (HPS.p x).6 (HPS.p x).7 (HPS.p x).8 (HPS.p x).9 (aA x.6 0 12);have hS3:stW (b+1) {me:=st.me,sp:=0,R:=st.R} :=XT hst 0;unfold vP
 case c10=>
  simp only [b9,beq_eq_false_iff_ne]at h0 h1 h2 h3 h4 h5 h6 h7 h8 h9
  rcases h with e | e | e | e | e | e | e | e | e | e<;>contradiction
 all_goals (repeat' (with_reducible first | exact trivial | rfl | assumption | refine aBw ?_ ?_ | refine Tr.run_ite (fun _=>?_) (fun _=>?_) | refine aBx ?_ | refine And.intro ?_ ?_))
 all_goals first
  | exact bC
  | (simp only [List.length_append,List.length_singleton];done)
  | exact QT _ _ _ _ _ _ _
  | exact Q2 hnn hme (gE _ _)
  | exact OF _ _ _ _ _ _ _ hcu
  | exact J4 _
  | exact FQ _ _ _ _ _ _ _ _ _
  | exact kG _ _ _
  | exact SB _ _ _ _ _
  | (simp only [List.length_append];done)
  | (refine⟨by first | assumption | exact bC,?_,fun hd=>?_⟩
     ·first
       | assumption
       | (dsimp only;rw [XA];assumption)
     ·first
       | exact Bool.noConfusion hd
       | (refine⟨by dsimp only;decide,⟨u0,u1⟩,?_,?_,?_,?_,?_⟩<;>first | (exact nE') | exact hps | exact N0 | (intro _;dsimp only;with_reducible exact YS _ _ _ _ _ _ ⟨u0,u1⟩) | (intro _;exact trivial) | (intro _;exact⟨YY (t:=t) (n:=n) hnn hme (gE _ _),B1 (YX (t:=t) (n:=n) hnn hme (gE _ _)) (by dsimp only;omega)⟩) | (intro _;exact hE.w (by assumption)) | (intro _;exact⟨hF.w (by assumption),B1 hQ (by dsimp only;omega)⟩) | (intro _;dsimp only;with_reducible exact LJ _ _ _) | exact J8 _ _ _ _ _ _ _ hcu | (intro _;exact hC.w (by assumption))))
theorem NJ{t n b:Int}{x:HPS}{st:STS}{s:MS}(hb:tU t n s)(hx:X7 t n b st x)(hst:stW b st)(hbb:b≤900000):JB t n x st s:=aBL (TO hb hx hst hbb)
theorem WM{t n b:Int}{x:HPS}{st:STS}{s:MS}(hb:tU t n s)(hx:X7 t n b st x)(hst:stW b st)(hbb:b≤900000):Y3 t n b s (hpF t n x st s):=aBJ (TO hb hx hst hbb)
theorem WB{t n b u no lim:Int}{st:STS}(hu:0≤u∧u≤1000):(JA t n u no lim st).run (fun r=>X7 t n b st r.1∧r.2=st):=by
 unfold JA
 (repeat' (with_reducible first | exact trivial | rfl | assumption | refine aBw ?_ ?_ | refine Tr.run_ite (fun _=>?_) (fun _=>?_) | refine aBx ?_ | refine And.intro ?_ ?_))
 all_goals first
  | exact bC
  | exact⟨by dsimp only;decide,hu,fun e=>absurd e (by dsimp only;decide),fun e=>absurd e (by dsimp only;decide),fun e=>absurd e (by dsimp only;decide),fun e=>absurd e (by dsimp only;decide),N0⟩
theorem GC(t n u sh kd ky:Int):uS t n u sh kd ky:=⟨trivial,⟨rfl,rfl⟩,trivial⟩
theorem RG(t n u no lim:Int)(st:STS):mN t n u no lim st:=by
 unfold mN JA
 exact⟨⟨⟨rfl,rfl,rfl⟩,by decide⟩,trivial⟩
inductive Go1 {σ:Type} (F:σ→Bool×σ):Nat→σ→σ→Prop where
 | nil (a:σ):Go1 F 0 a a
 | cons {k:Nat} {a b c:σ} (h:F a=(false,b)) (t:Go1 F k b c):Go1 F (k+1) a c
theorem Go1.trans{σ:Type}{F:σ→Bool×σ}{i j:Nat}{a b c:σ}(h:Go1 F i a b)(g:Go1 F j b c):Go1 F (j+i) a c:=by
 induction h with
 | nil a=>exact g
 | cons h t ih=>exact Go1.cons h (ih g)
theorem Go1.one{σ:Type}{F:σ→Bool×σ}{a b:σ}(h:F a=(false,b)):Go1 F 1 a b:=Go1.cons h (Go1.nil _)
theorem aCl{σ τ:Type}{F:σ→Bool×σ}{G:τ→Bool×τ}(e:σ→τ)(he: ∀a b,F a=(false,b)→G (e a)=(false,e b)){k:Nat}{a b:σ}(h:Go1 F k a b):Go1 G k (e a) (e b):=by
 induction h with
 | nil a=>exact Go1.nil _
 | cons h t ih=>exact Go1.cons (he _ _ h) ih
def End{σ:Type}(F:σ→Bool×σ)(k:Nat)(a z:σ):Prop:= ∃j b,k=j+1∧Go1 F j a b∧F b=(true,z)
theorem aB1{σ:Type}{F:σ→Bool×σ}{k j:Nat}{a b z:σ}(h:Go1 F k a b)(g:End F j b z):End F (j+k) a z:=by
 obtain⟨i,c,rfl,h1,h2⟩:=g
 exact⟨i+k,c,by omega,h.trans h1,h2⟩
theorem End.one{σ:Type}{F:σ→Bool×σ}{a z:σ}(h:F a=(true,z)):End F 1 a z:=⟨0,a,rfl,Go1.nil _,h⟩
theorem End.cons{σ:Type}{F:σ→Bool×σ}{j:Nat}{a b z:σ}(h:F a=(false,b))(g:End F j b z):End F (j+1) a z:=aB1 (Go1.one h) g
abbrev nxW(x:Int):Int:=aA x 10 9
abbrev kyW(x:Int):Int:=aA x 0 10
abbrev mkW(x:Int):Bool:=ieq (aA x 19 1) 1
abbrev clW'(x:Int):Int:=aA x 20 5
abbrev vrW(x:Int):Int:=aA x 25 18
structure okF (k n c v:Int):Prop where
 k:0≤k∧k<1024
 n:0≤n∧n<512
 c:0≤c∧c<32
 v:0≤v∧v<262144
theorem s9{k n c v:Int}{m:Bool}(h:okF k n c v):aA (aT k n m c v) 0 10=k:=by
 obtain⟨h1,h2,h3,h4⟩:=h
 unfold aA aT bitI
 cases m<;>simp only [Int.reduceToNat,Int.reducePow,cond_true,cond_false]<;>omega
theorem qA{k n c v:Int}{m:Bool}(h:okF k n c v):aA (aT k n m c v) 10 9=n:=by
 obtain⟨h1,h2,h3,h4⟩:=h
 unfold aA aT bitI
 cases m<;>simp only [Int.reduceToNat,Int.reducePow,cond_true,cond_false]<;>omega
theorem mZ{k n c v:Int}{m:Bool}(h:okF k n c v):ieq (aA (aT k n m c v) 19 1) 1=m:=by
 obtain⟨h1,h2,h3,h4⟩:=h
 unfold aA aT bitI
 cases m<;>simp only [Int.reduceToNat,Int.reducePow,cond_true,cond_false,b9,beq_iff_eq,beq_eq_false_iff_ne]<;>omega
theorem mY{k n c v:Int}{m:Bool}(h:okF k n c v):aA (aT k n m c v) 20 5=c:=by
 obtain⟨h1,h2,h3,h4⟩:=h
 unfold aA aT bitI
 cases m<;>simp only [Int.reduceToNat,Int.reducePow,cond_true,cond_false]<;>omega
theorem LQ{k n c v:Int}{m:Bool}(h:okF k n c v):aA (aT k n m c v) 25 18=v:=by
 obtain⟨h1,h2,h3,h4⟩:=h
 unfold aA aT bitI
 cases m<;>simp only [Int.reduceToNat,Int.reducePow,cond_true,cond_false]<;>omega
theorem t8(x a w:Int):aH (aA x a w) w=true:=cL.2 fS
theorem qY(v:Int):0≤aO v∧aO v<262144:=by unfold aO;omega
theorem sE(v:Int):aH (aO v) 18=true:=cL.2 (qY v)
theorem P8(x y z v:Int)(hv:0≤v∧v<262144):okF (aA x 0 10) (aA y 10 9) (aA z 20 5) v:=by
 refine⟨?_,?_,?_,hv⟩
 ·have:=fS (x:=x) (a:=0) (w:=10);simpa using this
 ·have:=fS (x:=y) (a:=10) (w:=9);simpa using this
 ·have:=fS (x:=z) (a:=20) (w:=5);simpa using this
theorem iC{k n c v:Int}{m:Bool}(h:okF k n c v):0≤aT k n m c v∧aT k n m c v≤18446744073709551615:=by
 obtain⟨h1,h2,h3,h4⟩:=h
 unfold aT bitI
 cases m<;>simp only [cond_true,cond_false]<;>omega
theorem wD{xs:List Int}{a b v:Int}(h:0≤a∧a<xs.length):aB (aJ xs a v) b=if b=a then v else aB xs b:=by
 rw [uF h]
 unfold aB
 rw [List.length_set]
 by_cases e:b=a
 ·subst e
  rw [if_pos rfl,if_pos h,gD',List.getElem?_set_self (by omega)]
  rfl
 ·rw [if_neg e]
  by_cases hb:0≤b∧b<xs.length
  ·rw [if_pos hb,if_pos hb,gD',List.getElem?_set_ne (by omega),←gD']
  ·rw [if_neg hb,if_neg hb]
theorem dC{xs:List Int}{a v:Int}(h:0≤a∧a<xs.length):aB (aJ xs a v) a=v:=by rw [wD h,if_pos rfl]
theorem bG{xs:List Int}{a b v:Int}(h:b≠a):aB (aJ xs a v) b=aB xs b:=by
 by_cases ha:0≤a∧a<xs.length
 ·rw [wD ha,if_neg h]
 ·rw [nS ha]
theorem EP{xs:List Int}{a:Int}(h:0≤a∧a<xs.length):bL xs a=true:=lM.2 h
theorem eU{xs:List Int}{a x:Int}(h:0≤a∧a<xs.length)(hx:aB xs a=x):aS xs a x=true:=by
 unfold aS;rw [EP h,hx,bH];rfl
def AU(t n:Int)(p:FNS×MS):Bool×(FNS×MS):=((fnF t n p.1 p.2).d,((fnF t n p.1 p.2).x,(fnF t n p.1 p.2).s))
theorem MX{t n:Int}{x:FNS}{s:MS}(h:x.at'=0)(hm:mkW (aB s.xs x.pred)=false):fnF t n x s=⟨ieq (nxW (aB s.xs x.pred)) 0,{x with pw:=aB s.xs x.pred,curr:=nxW (aB s.xs x.pred),cw:=0,at':=1,cl:=bU},s.loadd x.pred⟩:=by
 unfold fnF G3
 rw [h]
 show(vH t n x s).val =_
 unfold vH
 simp only [Tr.val,hm,cond_false]
 rfl
theorem MU{t n:Int}{x:FNS}{s:MS}(h:x.at'=1):fnF t n x s=⟨false,{x with at':=2,cl:=bU},s.stored (2*n+5+2*x.me+1) (WU x.curr)⟩:=by
 unfold fnF G3
 rw [h]
 show(xX t n x s).val =_
 rfl
theorem MT{t n:Int}{x:FNS}{s:MS}(h:x.at'=2)(he:aB s.xs x.pred=x.pw):fnF t n x s=⟨false,{x with at':=3,cl:=bU},s.loadd x.pred⟩:=by
 unfold fnF G3
 rw [h]
 show(vI t n x s).val =_
 unfold vI
 simp only [Tr.val,he,bH,Bool.not_true,cond_false]
 simp only [←he]
 rfl
theorem MV{t n:Int}{x:FNS}{s:MS}(h:x.at'=3)(hm:mkW (aB s.xs x.curr)=false)(hk:x.key≤kyW (aB s.xs x.curr)):fnF t n x s=⟨true,{x with cw:=aB s.xs x.curr,cl:=bU},s.loadd x.curr⟩:=by
 unfold fnF G3
 rw [h]
 show(nB t n x s).val =_
 unfold nB
 have hk':ile x.10 (aA (aB s.xs x.3) 0 10)=true:=by rw [cE];exact decide_eq_true hk
 simp only [Tr.val,hm,hk',Bool.not_false,cond_true]
 simp only [←h]
 rfl
theorem Q5{t n:Int}{x:FNS}{s:MS}(h:x.at'=3)(hm:mkW (aB s.xs x.curr)=false)(hk:kyW (aB s.xs x.curr)<x.key):fnF t n x s=⟨false,{x with cw:=aB s.xs x.curr,at':=6,cl:=bU},s.loadd x.curr⟩:=by
 unfold fnF G3
 rw [h]
 show(nB t n x s).val =_
 unfold nB
 have hk':ile x.10 (aA (aB s.xs x.3) 0 10)=false:=by rw [cE];exact decide_eq_false (by have:aA (aB s.xs x.curr) 0 10<x.key:=hk;show¬x.key≤_;omega)
 simp only [Tr.val,hm,hk',Bool.not_false,cond_true,cond_false]
 rfl
theorem Q6{t n:Int}{x:FNS}{s:MS}(h:x.at'=3)(hm:mkW (aB s.xs x.curr)=true)(hc:clW' (aB s.xs x.curr)=0)(hp:clW' x.pw=0):fnF t n x s=⟨false,{x with cw:=aB s.xs x.curr,at':=5,cl:=bU},s.loadd x.curr⟩:=by
 unfold fnF G3
 rw [h]
 show(nB t n x s).val =_
 unfold nB
 have hc':ieq (aA (aB s.xs x.3) 20 5) 0=true:=by rw [show aA (aB s.xs x.3) 20 5=0 from hc];exact bH 0
 have hp':ieq (aA x.2 20 5) 0=true:=by rw [show aA x.2 20 5=0 from hp];exact bH 0
 simp only [Tr.val,hm,hc',hp',Bool.not_true,cond_false]
 cases h2:ile x.10 (aA (aB s.xs x.3) 0 10)<;>rfl
theorem Q7{t n:Int}{x:FNS}{s:MS}(h:x.at'=6)(hn:n≤1000)(hm:0≤x.moved∧x.moved+1≤n):fnF t n x s=⟨false,{x with pred:=x.curr,at':=0,moved:=x.moved+1,cl:=bU},s.stored (2*n+5+2*x.me+0) (WU x.curr)⟩:=by
 unfold fnF G3
 rw [h]
 show(vK t n x s).val =_
 unfold vK
 have hw:W (x.13+1)=x.13+1:=cU ⟨by have:0≤x.13:=hm.1;omega,by have:x.13+1≤n:=hm.2;omega⟩
 have hk':ile (x.13+1) n=true:=by rw [cE];exact decide_eq_true hm.2
 simp only [Tr.val,hw,hk',cond_true]
 rfl
def lnkW(pw cw:Int):Int:=aT (kyW pw) (nxW cw) (mkW pw) (clW' pw) (aO (vrW pw))
theorem RZ(pw cw:Int):(bif bif aH (aA pw 0 10) 10 then bif aH (aA cw 10 9) 9 then bif aH (aA pw 20 5) 5 then aH (aO (aA pw 25 18)) 18 else false else false else false then aT (aA pw 0 10) (aA cw 10 9) (ieq (aA pw 19 1) 1) (aA pw 20 5) (aO (aA pw 25 18))else 0)=lnkW pw cw:=by
 simp only [t8,sE,cond_true]
 rfl
theorem FF(pw cw:Int):okF (kyW pw) (nxW cw) (clW' pw) (aO (vrW pw)):=P8 _ _ _ _ (qY _)
theorem I8{t n:Int}{x:FNS}{s:MS}(h:x.at'=5)(hn:n≤1000)(hm:0≤x.moved∧x.moved+1≤n)(hb:0≤x.pred∧x.pred<s.xs.length)(he:aB s.xs x.pred=x.pw)(hk:mkW x.pw=false):fnF t n x s=⟨ieq (nxW x.cw) 0,{x with pw:=lnkW x.pw x.cw,curr:=nxW x.cw,cw:=0,ul:=x.ul++ [x.curr],at':=1,moved:=x.moved+1,cl:=bU},s.cased x.pred x.pw (lnkW x.pw x.cw)⟩:=by
 unfold fnF G3
 rw [h]
 show(vJ t n x s).val =_
 unfold vJ
 have hc:=eU hb he
 have hw:W (x.13+1)=x.13+1:=cU ⟨by have:0≤x.13:=hm.1;omega,by have:x.13+1≤n:=hm.2;omega⟩
 have hk':ile (x.13+1) n=true:=by rw [cE];exact decide_eq_true hm.2
 have hm2:ieq (aA (lnkW x.2 x.4) 19 1) 1=false:=(mZ (FF x.pw x.cw)).trans hk
 have hn2:aA (lnkW x.2 x.4) 10 9=aA x.4 10 9:=qA (FF x.pw x.cw)
 have hi:bL s.3 x.1=true:=EP hb
 have hc2:aS s.3 x.1 x.2=true:=hc
 simp only [Tr.val,RZ,hc2,Bool.not_true,hw,hk',hm2,hn2,hi,cond_true,cond_false]
 unfold MS.cased MS.did
 simp only [hc,EP hb,cond_true]
end Go.Sh
