import Derived.Test.YtedeloeobocpiaaGreatZGHtoFA2
set_option linter.all false
set_option maxHeartbeats 8000000
namespace Go.Sh
open Go Go.Proofs
variable [Con]
def rI:AVal→Int
 | .int _ n=>n
 | _=>0
def rK(row:Nat→List AVal)(i:Nat):Int:=rI ((row i).getD 0 .O)
def rY(row:Nat→List AVal)(i:Nat):Int:=rI ((row i).getD 1 .O)
structure d7 (row:Nat→List AVal):Prop where
 h:row=fun i=>[.int .i64 (rK row i),.int .i64 (rY row i)]
def lI(k:Int)(m:Nat)(f g:Nat→Int):Bool:=(List.range m).all fun j=>b9 k (f j) (g j)
theorem pY{k:Int}{m:Nat}{f g:Nat→Int} :lI k m f g=true↔ ∀j,j<m→b9 k (f j) (g j)=true:=by
 unfold lI;simp
def inF(f g:Nat→Int)(k:Int):Nat→Bool
 | 0=>false
 | n+1=>bif ieq (g n) k&&ieq (f n) 1 then true else bif ieq (g n) k&&ieq (f n) 2 then false else inF f g k n
def inO(f g:Nat→Int)(k:Int)(n:Nat):Bool:=inF f g k n
def bF(f:Nat→Int):Nat→Int
 | 0=>0
 | n+1=>bif ieq (f n) 4 then bF f n+1 else bif ilt 0 (bF f n)then bF f n - 1 else bF f n
def cK(f g:Nat→Int):Nat→List Int
 | 0=>[]
 | n+1=>bif ieq (f n) 4 then cK f g n++ [g n]else cK f g n
def lT(f g:Nat→Int)(n:Nat):List Int:=(cK f g n).drop (((cK f g n).length :Int) - bF f n).toNat
def eS(f g:Nat→Int):Nat→Int→List Int
 | 0,_=>[]
 | i+1,need=>bif ilt 0 need then(bif ieq (f i) 4&&ieq (bF f i) (need - 1)then g i::eS f g i (need - 1)else eS f g i need)else []
def kG(f g:Nat→Int)(n:Nat):List Int:=eS f g n (bF f n)
def setF(f g:Nat→Int)(n:Nat):List Int:=((List.range 1000).map fun i:Nat=>(i:Int)).filter fun k=>inF f g k n
def aT(sh:Int)(f g:Nat→Int)(n:Nat):List Int:=bif ieq sh 3 then lT f g n else bif ieq sh 4 then kG f g n else setF f g n
def xG(sh:Int)(f g:Nat→Int)(n:Nat)(kd ky:Int):Bool×Int:=
 bif ieq kd 1 then(!inF f g ky n,0)else bif ieq kd 2||ieq kd 3 then(inF f g ky n,0)else bif ieq kd 4 then(true,0)else match aT sh f g n with
  | []=>(false,0)
  | x::_=>(true,x)
theorem dX{a b:Int}(h:a≠b):ieq a b=false:=by rw [bX,beq_eq_false_iff_ne];exact h
theorem kD(f:Nat→Int)(n:Nat):0≤bF f n:=by
 induction n with
 | zero=>exact Int.le_refl 0
 | succ n this=>
   show 0≤(bif ieq (f n) 4 then bF f n+1 else bif ilt 0 (bF f n)then bF f n - 1 else bF f n)
   cases ieq (f n) 4 with
   | true=>rw [cond_true];omega
   | false=>
     rw [cond_false]
     cases h:ilt 0 (bF f n)with
     | true=>rw [cond_true];rw [bP,dT']at h;omega
     | false=>rw [cond_false];exact this
theorem OF(f:Nat→Int)(n:Nat):bF f n≤n:=by
 induction n with
 | zero=>exact Int.le_refl 0
 | succ n this=>
   have h0:=kD f n
   show(bif ieq (f n) 4 then bF f n+1 else bif ilt 0 (bF f n)then bF f n - 1 else bF f n)≤((n+1:Nat):Int)
   cases ieq (f n) 4 with
   | true=>rw [cond_true];omega
   | false=>
     rw [cond_false]
     cases ilt 0 (bF f n)with
     | true=>rw [cond_true];omega
     | false=>rw [cond_false];omega
theorem yJ(f g:Nat→Int)(n:Nat):bF f n≤(cK f g n).length :=by
 induction n with
 | zero=>exact Int.le_refl 0
 | succ n this=>
   show(bif ieq (f n) 4 then bF f n+1 else bif ilt 0 (bF f n)then bF f n - 1 else bF f n)≤((bif ieq (f n) 4 then cK f g n++ [g n]else cK f g n:List Int).length :Int)
   cases ieq (f n) 4 with
   | true=>rw [cond_true,cond_true,List.length_append];simp;omega
   | false=>
     rw [cond_false,cond_false]
     cases ilt 0 (bF f n)with
     | true=>rw [cond_true];omega
     | false=>rw [cond_false];omega
theorem O4(f g:Nat→Int)(n:Nat):(cK f g n).length ≤n:=by
 induction n with
 | zero=>exact Nat.le_refl 0
 | succ n this=>
   show(bif ieq (f n) 4 then cK f g n++ [g n]else cK f g n:List Int).length ≤n+1
   cases ieq (f n) 4 with
   | true=>rw [cond_true,List.length_append];simp;omega
   | false=>rw [cond_false];omega
def fE(sh:Int)(f g:Nat→Int)(n:Nat):List Int:=bif ieq sh 3 then cK f g n else aT sh f g n
def eG(sh:Int)(f g:Nat→Int)(n:Nat):Nat:=bif ieq sh 3 then(((cK f g n).length :Int) - bF f n).toNat else 0
theorem vZ(sh:Int)(f g:Nat→Int)(n:Nat):(fE sh f g n).drop (eG sh f g n)=aT sh f g n∧eG sh f g n+(aT sh f g n).length =(fE sh f g n).length :=by
 unfold fE eG aT
 cases ieq sh 3 with
 | true=>
   have:=yJ f g n
   have:=kD f n
   refine⟨rfl,?_⟩
   unfold lT
   simp only [cond_true,List.length_drop]
   omega
 | false=>exact⟨rfl,by simp⟩
def resB(sh:Int)(f g:Nat→Int)(n:Nat)(kd ky:Int):Bool:=(xG sh f g n kd ky).1
def resV(sh:Int)(f g:Nat→Int)(n:Nat)(kd ky:Int):Int:=(xG sh f g n kd ky).2
noncomputable def EV0:=EFt.addS 15 (aM.or fillS (qD [(.slot 3,.ints (some .i64))] fillS)) (aCN zZ (tE zZ))
structure aAH (k:Int) (m:Nat) (f g:Nat→Int) (x:Nat):Prop where
 h1:x≤m
 h2:inF f g k m=inF f g k x
def rX(k:Int)(m:Nat)(f g:Nat→Int):Hint Ob:= {X:=Nat,st:=fun x=>([.view m 2 (fun i=>[.int .i64 (f i),.int .i64 (g i)]),.int .i64 k,.O,.O,.O,.int .i64 ((x:Int) - 1)]++List.replicate 37 .O,[]),ok:=aAH k m f g,mu:=fun x=>x,keep:=[0,1,5] }
def NZ(k:Int)(m:Nat)(f g:Nat→Int)(K:AVal→aD Ob→Prop):Prop:=okSt (rX k m f g) (Hint.ok (rX k m f g)) [.view m 2 fun i=>[.int .i64 (f i),.int .i64 (g i)],.int .i64 k,.O,.O,.O,.int .i64 (W ((↑m:Int) - 1)),.O,.O,.O,.O,.O,.O,.O,.O,.O,.O,.O,.O,.O,.O,.O,.O,.O,.O,.O,.O,.O,.O,.O,.O,.O,.O,.O,.O,.O,.O,.O,.O,.O,.O,.O,.O,.O] []∧ ∀(x:Nat),aAH k m f g x→bif ile 0 ((↑x:Int) - 1)then((0:Int)≤(↑x:Int) - 1∧(↑x:Int) - (1:Int)<(↑m:Int))∧bif ieq (g (Int.toNat ((↑x:Int) - 1))) k then((0:Int)≤(↑x:Int) - 1∧(↑x:Int) - (1:Int)<(↑m:Int))∧bif ieq (f (Int.toNat ((↑x:Int) - 1))) 1 then K (.bool true) []else((0:Int)≤(↑x:Int) - 1∧(↑x:Int) - (1:Int)<(↑m:Int))∧bif ieq (g (Int.toNat ((↑x:Int) - 1))) k then((0:Int)≤(↑x:Int) - 1∧(↑x:Int) - (1:Int)<(↑m:Int))∧bif ieq (f (Int.toNat ((↑x:Int) - 1))) 2 then K (.bool false) []else okSt (rX k m f g) (fun x'=>Hint.ok (rX k m f g) x'∧Hint.mu (rX k m f g) x'<Hint.mu (rX k m f g) x) [.view m 2 fun i=>[.int .i64 (f i),.int .i64 (g i)],.int .i64 k,.O,.O,.O,.int .i64 (W ((↑x:Int) - 1 - 1)),.O,.O,.O,.O,.O,.O,.O,.O,.O,.O,.O,.O,.O,.O,.O,.O,.O,.O,.O,.O,.O,.O,.O,.O,.O,.O,.O,.O,.O,.O,.O,.O,.O,.O,.O,.O,.O] []else okSt (rX k m f g) (fun x'=>Hint.ok (rX k m f g) x'∧Hint.mu (rX k m f g) x'<Hint.mu (rX k m f g) x) [.view m 2 fun i=>[.int .i64 (f i),.int .i64 (g i)],.int .i64 k,.O,.O,.O,.int .i64 (W ((↑x:Int) - 1 - 1)),.O,.O,.O,.O,.O,.O,.O,.O,.O,.O,.O,.O,.O,.O,.O,.O,.O,.O,.O,.O,.O,.O,.O,.O,.O,.O,.O,.O,.O,.O,.O,.O,.O,.O,.O,.O,.O] []else((0:Int)≤(↑x:Int) - 1∧(↑x:Int) - (1:Int)<(↑m:Int))∧bif ieq (g (Int.toNat ((↑x:Int) - 1))) k then((0:Int)≤(↑x:Int) - 1∧(↑x:Int) - (1:Int)<(↑m:Int))∧bif ieq (f (Int.toNat ((↑x:Int) - 1))) 2 then K (.bool false) []else okSt (rX k m f g) (fun x'=>Hint.ok (rX k m f g) x'∧Hint.mu (rX k m f g) x'<Hint.mu (rX k m f g) x) [.view m 2 fun i=>[.int .i64 (f i),.int .i64 (g i)],.int .i64 k,.O,.O,.O,.int .i64 (W ((↑x:Int) - 1 - 1)),.O,.O,.O,.O,.O,.O,.O,.O,.O,.O,.O,.O,.O,.O,.O,.O,.O,.O,.O,.O,.O,.O,.O,.O,.O,.O,.O,.O,.O,.O,.O,.O,.O,.O,.O,.O,.O] []else okSt (rX k m f g) (fun x'=>Hint.ok (rX k m f g) x'∧Hint.mu (rX k m f g) x'<Hint.mu (rX k m f g) x) [.view m 2 fun i=>[.int .i64 (f i),.int .i64 (g i)],.int .i64 k,.O,.O,.O,.int .i64 (W ((↑x:Int) - 1 - 1)),.O,.O,.O,.O,.O,.O,.O,.O,.O,.O,.O,.O,.O,.O,.O,.O,.O,.O,.O,.O,.O,.O,.O,.O,.O,.O,.O,.O,.O,.O,.O,.O,.O,.O,.O,.O,.O] []else K (.bool false) []
theorem J1(k:Int)(m:Nat)(f g:Nat→Int)(K:AVal→aD Ob→Prop)(h:NZ k m f g K):cT' 86 [.view m 2 (fun i=>[.int .i64 (f i),.int .i64 (g i)]),.int .i64 k] [] K:=by
 refine aCu (aE (E:=EV0) Tryz.checked.mixed (L:=(fun _ _=>some (.states (rX k m f g)))) (n:=10) (aR (by kernel_rfl) h))
structure aAK (m:Nat) (f:Nat→Int) (x:Nat):Prop where
 h1:x≤m
def w8(m:Nat)(f g:Nat→Int):Hint Ob:= {X:=Nat,st:=fun x=>([.view m 2 (fun i=>[.int .i64 (f i),.int .i64 (g i)]),.O,.O,.int .i64 (bF f x),.int .i64 (x:Int)]++List.replicate 19 .O,[]),ok:=aAK m f,mu:=fun x=>m - x,keep:=[0,3,4] }
def OC(m:Nat)(f g:Nat→Int)(K:AVal→aD Ob→Prop):Prop:=okSt (w8 m f g) (Hint.ok (w8 m f g)) [.view m 2 fun i=>[.int .i64 (f i),.int .i64 (g i)],.O,.O,.int .i64 0,.int .i64 0,.O,.O,.O,.O,.O,.O,.O,.O,.O,.O,.O,.O,.O,.O,.O,.O,.O,.O,.O] []∧ ∀(x:Nat),aAK m f x→bif ilt (↑x:Int) (↑m:Int)then((0:Int)≤(↑x:Int)∧(↑x:Int)<(↑m:Int))∧bif ieq (f (Int.toNat (↑x:Int))) 4 then okSt (w8 m f g) (fun x'=>Hint.ok (w8 m f g) x'∧Hint.mu (w8 m f g) x'<Hint.mu (w8 m f g) x) [.view m 2 fun i=>[.int .i64 (f i),.int .i64 (g i)],.O,.O,.int .i64 (W (bF f x+1)),.int .i64 (W ((↑x:Int)+1)),.O,.O,.O,.O,.O,.O,.O,.O,.O,.O,.O,.O,.O,.O,.O,.O,.O,.O,.O] []else bif ilt 0 (bF f x)then okSt (w8 m f g) (fun x'=>Hint.ok (w8 m f g) x'∧Hint.mu (w8 m f g) x'<Hint.mu (w8 m f g) x) [.view m 2 fun i=>[.int .i64 (f i),.int .i64 (g i)],.O,.O,.int .i64 (W (bF f x - 1)),.int .i64 (W ((↑x:Int)+1)),.O,.O,.O,.O,.O,.O,.O,.O,.O,.O,.O,.O,.O,.O,.O,.O,.O,.O,.O] []else okSt (w8 m f g) (fun x'=>Hint.ok (w8 m f g) x'∧Hint.mu (w8 m f g) x'<Hint.mu (w8 m f g) x) [.view m 2 fun i=>[.int .i64 (f i),.int .i64 (g i)],.O,.O,.int .i64 (bF f x),.int .i64 (W ((↑x:Int)+1)),.O,.O,.O,.O,.O,.O,.O,.O,.O,.O,.O,.O,.O,.O,.O,.O,.O,.O,.O] []else K (.int .i64 (bF f x)) []
theorem J7(m:Nat)(f g:Nat→Int)(K:AVal→aD Ob→Prop)(h:OC m f g K):cT' 147 [.view m 2 (fun i=>[.int .i64 (f i),.int .i64 (g i)])] [] K:=by
 refine aCu (aE (E:=EV0) Tryz.checked.mixed (L:=(fun _ _=>some (.states (w8 m f g)))) (n:=10) (aR (by kernel_rfl) h))
theorem XX(k:Int)(m:Nat)(f g:Nat→Int)(K:AVal→aD Ob→Prop)(hm:m≤4611686018427387904)(hK:K (.bool (inF f g k m)) []):NZ k m f g K:=by
 have w1:W ((m:Int) - 1)=(m:Int) - 1:=cG ⟨by omega,by omega⟩
 refine⟨aQ (H:=rX k m f g) m (by simp only [w1,rX]<;>rfl) ⟨Nat.le_refl _,rfl⟩,?_⟩
 rintro x ⟨h1,h2⟩
 refine aN (fun e=>?_) (fun e=>?_)
 ·rw [cE,dT']at e
  obtain⟨y,rfl⟩: ∃y,x=y+1:=⟨x - 1,by omega⟩
  have ey:Int.toNat (((y+1:Nat):Int) - 1)=y:=by omega
  have w2:W (((y+1:Nat):Int) - 1 - 1)=(y:Int) - 1:=(cG ⟨by omega,by omega⟩).trans (by omega)
  have hin:inF f g k (y+1)=bif ieq (g y) k&&ieq (f y) 1 then true else bif ieq (g y) k&&ieq (f y) 2 then false else inF f g k y:=rfl
  have next:inF f g k (y+1)=inF f g k y→okSt (rX k m f g) (fun x'=>Hint.ok (rX k m f g) x'∧Hint.mu (rX k m f g) x'<Hint.mu (rX k m f g) (y+1)) ((rX k m f g).st y).1 ((rX k m f g).st y).2:=
   fun h=>aQ (H:=rX k m f g) y rfl ⟨⟨by omega,h2.trans h⟩,Nat.lt_succ_self y⟩
  rw [ey,w2]
  refine⟨⟨by omega,by omega⟩,aN (fun a=>?_) (fun a=>?_)⟩
  ·refine⟨⟨by omega,by omega⟩,aN (fun b=>?_) (fun b=>?_)⟩
   ·rw [h2,hin,a,b]at hK;exact hK
   ·refine⟨⟨by omega,by omega⟩,aN (fun a2=>⟨⟨by omega,by omega⟩,aN (fun c=>?_) (fun c=>?_)⟩) (fun a2=>?_)⟩
    ·rw [h2,hin,a,b,c]at hK;exact hK
    ·exact next (by rw [hin,a,b,c];rfl)
    ·rw [a]at a2;cases a2
  ·refine⟨⟨by omega,by omega⟩,aN (fun a2=>?_) (fun a2=>?_)⟩
   ·rw [a]at a2;cases a2
   ·exact next (by rw [hin,a];rfl)
 ·rw [cE,dF']at e
  have hx:x=0:=by omega
  subst hx
  rw [h2]at hK
  exact hK
theorem X9(m:Nat)(f g:Nat→Int)(K:AVal→aD Ob→Prop)(hm:m≤4611686018427387904)(hK:K (.int .i64 (bF f m)) []):OC m f g K:=by
 refine⟨aQ (H:=w8 m f g) (0:Nat) rfl ⟨Nat.zero_le _⟩,?_⟩
 rintro x ⟨h1⟩
 refine o0 (fun e=>?_) (fun e=>?_)
 ·have e4:W ((x:Int)+1)=((x+1:Nat):Int):=(cG (by omega)).trans rfl
  have h0:=kD f x
  have hn:=OF f x
  have w1:W (bF f x+1)=bF f x+1:=cG (by omega)
  have w2:W (bF f x - 1)=bF f x - 1:=cG (by omega)
  have hs:bF f (x+1)=bif ieq (f x) 4 then bF f x+1 else bif ilt 0 (bF f x)then bF f x - 1 else bF f x:=rfl
  have next: ∀v,bF f (x+1)=v→okSt (w8 m f g) (fun x'=>Hint.ok (w8 m f g) x'∧Hint.mu (w8 m f g) x'<Hint.mu (w8 m f g) x) ([.view m 2 (fun i=>[.int .i64 (f i),.int .i64 (g i)]),.O,.O,.int .i64 v,.int .i64 ((x+1:Nat):Int)]++List.replicate 19 .O) []:=
   fun v h=>aQ (H:=w8 m f g) (x+1:Nat) (by rw [←h];rfl) ⟨⟨by omega⟩,by show m - (x+1)<m - x;omega⟩
  rw [e4,w1,w2]
  refine⟨⟨by omega,by omega⟩,aN (fun a=>?_) (fun a=>aN (fun b=>?_) (fun b=>?_))⟩
  ·have a:ieq (f x) 4=true:=a
   exact next _ (by rw [hs,a];rfl)
  ·have a:ieq (f x) 4=false:=a
   exact next _ (by rw [hs,a,b];rfl)
  ·have a:ieq (f x) 4=false:=a
   exact next _ (by rw [hs,a,b];rfl)
 ·have hx:x=m:=by omega
  subst hx
  exact hK
def innS:aM Ob:=fun args h=>match args,h with
 | [.view m 2 row,.int .i64 k],[]=>some (.pre (m≤4611686018427387904∧d7 row) (.ret (.bool (inO (rK row) (rY row) k m)) []))
 | _,_=>none
theorem XW:sT' 86 innS:=by
 intro args h o ho K hK
 unfold innS at ho
 split at ho<;>cases ho
 rename_i m row k
 obtain⟨⟨hm,⟨hr⟩⟩,hK⟩:=hK
 have hK:K (.bool (inF (rK row) (rY row) k m)) []:=hK
 rw [hr]
 exact J1 k m (rK row) (rY row) K (XX k m (rK row) (rY row) K hm hK)
def manS:aM Ob:=fun args h=>match args,h with
 | [.view m 2 row],[]=>some (.pre (m≤4611686018427387904∧d7 row) (.ret (.int .i64 (bF (rK row) m)) []))
 | _,_=>none
theorem X8:sT' 147 manS:=by
 intro args h o ho K hK
 unfold manS at ho
 split at ho<;>cases ho
 rename_i m row
 obtain⟨⟨hm,⟨hr⟩⟩,hK⟩:=hK
 have hK:K (.int .i64 (bF (rK row) m)) []:=hK
 rw [hr]
 exact J7 m (rK row) (rY row) K (X9 m (rK row) (rY row) K hm hK)
noncomputable def EV1:=(EV0.addS 86 innS XW).addS 147 manS X8
structure aAJ (m:Nat) (x:Nat):Prop where
 h1:x≤m
def DC(m:Nat)(f g:Nat→Int):Hint Ob:= {X:=Nat,st:=fun x=>([.view m 2 (fun i=>[.int .i64 (f i),.int .i64 (g i)]),.O,.O,.slice 0 0 (cK f g x).length 1,.int .i64 (x:Int)]++List.replicate 27 .O,[some (.ints (some .i64) (cK f g x))]),ok:=aAJ m,mu:=fun x=>m - x,keep:=[0,3,4],casts:=[(.slot 3,.ints (some .i64))] }
def N9(m:Nat)(f g:Nat→Int)(K:AVal→aD Ob→Prop):Prop:=okSt (DC m f g) (Hint.ok (DC m f g)) [.view m 2 fun i=>[.int .i64 (f i),.int .i64 (g i)],.O,.O,.slice 0 0 0 1,.int .i64 0,.O,.O,.O,.O,.O,.O,.O,.O,.O,.O,.O,.O,.O,.O,.O,.O,.O,.O,.O,.O,.O,.O,.O,.O,.O,.O,.O] [some (.ints (some .i64) [])]∧ ∀(x:Nat),aAJ m x→bif ilt (↑x:Int) (↑m:Int)then((0:Int)≤(↑x:Int)∧(↑x:Int)<(↑m:Int))∧bif ieq (f (Int.toNat (↑x:Int))) 4 then((0:Int)≤(↑x:Int)∧(↑x:Int)<(↑m:Int))∧(0=0∧lE' (cK f g x)∧1=1∧List.length (cK f g x)+(1:Nat)≤(4294967296:Nat))∧okSt (DC m f g) (fun x'=>Hint.ok (DC m f g) x'∧Hint.mu (DC m f g) x'<Hint.mu (DC m f g) x) [.view m 2 fun i=>[.int .i64 (f i),.int .i64 (g i)],.O,.O,.slice 0 0 (List.length (cK f g x)+1) 1,.int .i64 (W ((↑x:Int)+1)),.O,.O,.O,.O,.O,.O,.O,.O,.O,.O,.O,.O,.O,.O,.O,.O,.O,.O,.O,.O,.O,.O,.O,.O,.O,.O,.O] [some (.ints (some .i64) (cK f g x++ [g (Int.toNat (↑x:Int))]))]else okSt (DC m f g) (fun x'=>Hint.ok (DC m f g) x'∧Hint.mu (DC m f g) x'<Hint.mu (DC m f g) x) [.view m 2 fun i=>[.int .i64 (f i),.int .i64 (g i)],.O,.O,.slice 0 0 (List.length (cK f g x)) 1,.int .i64 (W ((↑x:Int)+1)),.O,.O,.O,.O,.O,.O,.O,.O,.O,.O,.O,.O,.O,.O,.O,.O,.O,.O,.O,.O,.O,.O,.O,.O,.O,.O,.O] [some (.ints (some .i64) (cK f g x))]else(m≤(4611686018427387904:Nat)∧d7 fun i=>[.int .i64 (f i),.int .i64 (g i)])∧((0:Int)≤W ((↑(List.length (cK f g x)):Int) - bF (rK fun i=>[.int .i64 (f i),.int .i64 (g i)]) m)∧Int.toNat (W ((↑(List.length (cK f g x)):Int) - bF (rK fun i=>[.int .i64 (f i),.int .i64 (g i)]) m))≤List.length (cK f g x))∧K (.slice 0 (0+Int.toNat (W ((↑(List.length (cK f g x)):Int) - bF (rK fun i=>[.int .i64 (f i),.int .i64 (g i)]) m))*1) (List.length (cK f g x) - Int.toNat (W ((↑(List.length (cK f g x)):Int) - bF (rK fun i=>[.int .i64 (f i),.int .i64 (g i)]) m))) 1) [some (.ints (some .i64) (cK f g x))]
theorem J6(m:Nat)(f g:Nat→Int)(K:AVal→aD Ob→Prop)(h:N9 m f g K):cT' 87 [.view m 2 (fun i=>[.int .i64 (f i),.int .i64 (g i)])] [] K:=by
 refine aCu (aE (E:=EV1) Tryz.checked.mixed (L:=(fun _ _=>some (.states (DC m f g)))) (n:=10) (aR (by kernel_rfl) h))
structure aAL (m:Nat) (f g:Nat→Int) (x:Nat×Int×List Int):Prop where
 h1:x.1≤m
 h0:0≤x.2.1∧x.2.1≤m
 hl:x.2.2.length+x.1≤m
 eq:kG f g m=x.2.2++eS f g x.1 x.2.1
def tY(m:Nat)(f g:Nat→Int):Hint Ob:= {X:=Nat×Int×List Int,st:=fun x=>([.view m 2 (fun i=>[.int .i64 (f i),.int .i64 (g i)]),.O,.O,.slice 0 0 x.2.2.length 1,.int .i64 x.2.1,.int .i64 ((x.1:Int) - 1)]++List.replicate 39 .O,[some (.ints (some .i64) x.2.2)]),ok:=aAL m f g,mu:=fun x=>x.1,keep:=[0,3,4,5],casts:=[(.slot 3,.ints (some .i64))] }
def HZ(m:Nat)(f g:Nat→Int)(K:AVal→aD Ob→Prop):Prop:=(m≤(4611686018427387904:Nat)∧d7 fun i=>[.int .i64 (f i),.int .i64 (g i)])∧okSt (tY m f g) (Hint.ok (tY m f g)) [.view m 2 fun i=>[.int .i64 (f i),.int .i64 (g i)],.O,.O,.slice 0 0 0 1,.int .i64 (bF (rK fun i=>[.int .i64 (f i),.int .i64 (g i)]) m),.int .i64 (W ((↑m:Int) - 1)),.O,.O,.O,.O,.O,.O,.O,.O,.O,.O,.O,.O,.O,.O,.O,.O,.O,.O,.O,.O,.O,.O,.O,.O,.O,.O,.O,.O,.O,.O,.O,.O,.O,.O,.O,.O,.O,.O,.O] [some (.ints (some .i64) [])]∧ ∀(x:(Nat×Int×List Int)),aAL m f g x→bif ile 0 ((↑x.1:Int) - 1)then bif ilt 0 (Prod.snd x).1 then((0:Int)≤(↑x.1:Int) - 1∧(↑x.1:Int) - (1:Int)<(↑m:Int))∧bif ieq (f (Int.toNat ((↑x.1:Int) - 1))) 4 then((0:Int)≤(↑x.1:Int) - 1∧Int.toNat ((↑x.1:Int) - 1)≤m)∧(Int.toNat ((↑x.1:Int) - 1)≤(4611686018427387904:Nat)∧d7 fun i=>[.int .i64 (f i),.int .i64 (g i)])∧bif ieq (bF (rK fun i=>[.int .i64 (f i),.int .i64 (g i)]) (Int.toNat ((↑x.1:Int) - 1))) (W ((Prod.snd x).1 - 1))then((0:Int)≤(↑x.1:Int) - 1∧(↑x.1:Int) - (1:Int)<(↑m:Int))∧(0=0∧lE' (Prod.snd x).2∧1=1∧List.length (Prod.snd x).2+(1:Nat)≤(4294967296:Nat))∧okSt (tY m f g) (fun x'=>Hint.ok (tY m f g) x'∧Hint.mu (tY m f g) x'<Hint.mu (tY m f g) x) [.view m 2 fun i=>[.int .i64 (f i),.int .i64 (g i)],.O,.O,.slice 0 0 (List.length (Prod.snd x).2+1) 1,.int .i64 (W ((Prod.snd x).1 - 1)),.int .i64 (W ((↑x.1:Int) - 1 - 1)),.O,.O,.O,.O,.O,.O,.O,.O,.O,.O,.O,.O,.O,.O,.O,.O,.O,.O,.O,.O,.O,.O,.O,.O,.O,.O,.O,.O,.O,.O,.O,.O,.O,.O,.O,.O,.O,.O,.O] [some (.ints (some .i64) ((Prod.snd x).2++ [g (Int.toNat ((↑x.1:Int) - 1))]))]else okSt (tY m f g) (fun x'=>Hint.ok (tY m f g) x'∧Hint.mu (tY m f g) x'<Hint.mu (tY m f g) x) [.view m 2 fun i=>[.int .i64 (f i),.int .i64 (g i)],.O,.O,.slice 0 0 (List.length (Prod.snd x).2) 1,.int .i64 (Prod.snd x).1,.int .i64 (W ((↑x.1:Int) - 1 - 1)),.O,.O,.O,.O,.O,.O,.O,.O,.O,.O,.O,.O,.O,.O,.O,.O,.O,.O,.O,.O,.O,.O,.O,.O,.O,.O,.O,.O,.O,.O,.O,.O,.O,.O,.O,.O,.O,.O,.O] [some (.ints (some .i64) (Prod.snd x).2)]else okSt (tY m f g) (fun x'=>Hint.ok (tY m f g) x'∧Hint.mu (tY m f g) x'<Hint.mu (tY m f g) x) [.view m 2 fun i=>[.int .i64 (f i),.int .i64 (g i)],.O,.O,.slice 0 0 (List.length (Prod.snd x).2) 1,.int .i64 (Prod.snd x).1,.int .i64 (W ((↑x.1:Int) - 1 - 1)),.O,.O,.O,.O,.O,.O,.O,.O,.O,.O,.O,.O,.O,.O,.O,.O,.O,.O,.O,.O,.O,.O,.O,.O,.O,.O,.O,.O,.O,.O,.O,.O,.O,.O,.O,.O,.O,.O,.O] [some (.ints (some .i64) (Prod.snd x).2)]else K (.slice 0 0 (List.length (Prod.snd x).2) 1) [some (.ints (some .i64) (Prod.snd x).2)]else K (.slice 0 0 (List.length (Prod.snd x).2) 1) [some (.ints (some .i64) (Prod.snd x).2)]
theorem KH(m:Nat)(f g:Nat→Int)(K:AVal→aD Ob→Prop)(h:HZ m f g K):cT' 88 [.view m 2 (fun i=>[.int .i64 (f i),.int .i64 (g i)])] [] K:=by
 refine aCu (aE (E:=EV1) Tryz.checked.mixed (L:=(fun _ _=>some (.states (tY m f g)))) (n:=10) (aR (by kernel_rfl) h))
theorem iJ(f g:Nat→Int):d7 (fun i=>[.int .i64 (f i),.int .i64 (g i)]):=⟨rfl⟩
theorem UZ(f g:Nat→Int):rK (fun i=>[.int .i64 (f i),.int .i64 (g i)])=f:=rfl
theorem X6(m:Nat)(f g:Nat→Int)(K:AVal→aD Ob→Prop)(hm:m≤1000000)(hK:K (.slice 0 (((cK f g m).length :Int) - bF f m).toNat (lT f g m).length 1) [some (.ints (some .i64) (cK f g m))]):N9 m f g K:=by
 refine⟨aQ (H:=DC m f g) (0:Nat) rfl ⟨Nat.zero_le _⟩,?_⟩
 rintro x ⟨h1⟩
 refine o0 (fun e=>?_) (fun e=>?_)
 ·have e4:W ((x:Int)+1)=((x+1:Nat):Int):=(cG (by omega)).trans rfl
  have hp:=O4 f g x
  have hs:cK f g (x+1)=bif ieq (f x) 4 then cK f g x++ [g x]else cK f g x:=rfl
  rw [e4]
  refine⟨⟨by omega,by omega⟩,aN (fun a=>?_) (fun a=>?_)⟩
  ·have a:ieq (f x) 4=true:=a
   rw [a]at hs
   refine⟨⟨by omega,by omega⟩,⟨rfl,rfl,rfl,by omega⟩,aQ (H:=DC m f g) (x+1:Nat) ?_ ⟨⟨by omega⟩,by show m - (x+1)<m - x;omega⟩⟩
   simp only [DC,hs,cond_true,List.length_append,List.length_singleton]
   rfl
  ·have a:ieq (f x) 4=false:=a
   rw [a]at hs
   refine aQ (H:=DC m f g) (x+1:Nat) ?_ ⟨⟨by omega⟩,by show m - (x+1)<m - x;omega⟩
   simp only [DC,hs,cond_false]
   rfl
 ·have hx:x=m:=by omega
  subst hx
  have hp:=O4 f g x
  have h0:=kD f x
  have hn:=yJ f g x
  have w1:W (((cK f g x).length :Int) - bF f x)=((cK f g x).length :Int) - bF f x:=cG (by omega)
  rw [UZ,w1]
  refine⟨⟨by omega,iJ f g⟩,⟨by omega,by omega⟩,?_⟩
  have e1:0+(((cK f g x).length :Int) - bF f x).toNat *1=(((cK f g x).length :Int) - bF f x).toNat :=by omega
  have e2:(cK f g x).length - (((cK f g x).length :Int) - bF f x).toNat =(lT f g x).length :=by unfold lT;rw [List.length_drop]
  rw [e1,e2]
  exact hK
theorem YH(m:Nat)(f g:Nat→Int)(K:AVal→aD Ob→Prop)(hm:m≤1000000)(hK:K (.slice 0 0 (kG f g m).length 1) [some (.ints (some .i64) (kG f g m))]):HZ m f g K:=by
 have h0:=kD f m
 have hn:=OF f m
 have w1:W ((m:Int) - 1)=(m:Int) - 1:=cG (by omega)
 have rk0:rK (fun i=>[.int .i64 (f (0+i)),.int .i64 (g (0+i))])=f:=by funext i;show f (0+i)=f i;rw [Nat.zero_add]
 unfold HZ
 rw [UZ,w1]
 refine⟨⟨by omega,iJ f g⟩,aQ (H:=tY m f g) (m,bF f m,[]) rfl ⟨Nat.le_refl _,⟨h0,hn⟩,by simp,rfl⟩,?_⟩
 rintro⟨x,nd,out⟩ ⟨h1,hnd,hl,heq⟩
 dsimp only at h1 hnd hl heq⊢
 have e0:nd≤0→eS f g x nd=[]:=by
  intro h
  cases x with
  | zero=>rfl
  | succ x=>
    show(bif ilt 0 nd then _ else [])=_
    rw [bP,decide_eq_false (by omega)];rfl
 refine aN (fun e=>?_) (fun e=>?_)
 ·rw [cE,dT']at e
  obtain⟨y,rfl⟩: ∃y,x=y+1:=⟨x - 1,by omega⟩
  have ey:Int.toNat (((y+1:Nat):Int) - 1)=y:=by omega
  have w2:W (((y+1:Nat):Int) - 1 - 1)=(y:Int) - 1:=(cG ⟨by omega,by omega⟩).trans (by omega)
  refine o0 (fun q=>?_) (fun q=>?_)
  ·have hp:eS f g (y+1) nd=bif ieq (f y) 4&&ieq (bF f y) (nd - 1)then g y::eS f g y (nd - 1)else eS f g y nd:=by
    show(bif ilt 0 nd then _ else _)=_
    rw [bP,decide_eq_true q];rfl
   have w3:W (nd - 1)=nd - 1:=cG (by omega)
   have next:eS f g (y+1) nd=eS f g y nd→okSt (tY m f g) (fun x'=>Hint.ok (tY m f g) x'∧Hint.mu (tY m f g) x'<Hint.mu (tY m f g) (y+1,nd,out)) ((tY m f g).st (y,nd,out)).1 ((tY m f g).st (y,nd,out)).2:=
    fun h=>aQ (H:=tY m f g) (y,nd,out) rfl ⟨⟨by show y≤m;omega,hnd,by show out.length+y≤m;omega,by show _=out++eS f g y nd;rw [←h];exact heq⟩,Nat.lt_succ_self y⟩
   rw [ey,w2,w3]
   refine⟨⟨by omega,by omega⟩,aN (fun a=>?_) (fun a=>?_)⟩
   ·refine⟨⟨by omega,by omega⟩,⟨by omega,iJ _ _⟩,aN (fun b=>?_) (fun b=>?_)⟩
    ·refine⟨⟨by omega,by omega⟩,⟨rfl,rfl,rfl,by omega⟩,aQ (H:=tY m f g) (y,nd - 1,out++ [g y]) ?_ ⟨⟨by show y≤m;omega,by show 0≤nd - 1∧nd - 1≤m;omega,by show(out++ [g y]).length +y≤m;rw [List.length_append];simp;omega,?_⟩,Nat.lt_succ_self y⟩⟩
     ·simp only [tY,List.length_append,List.length_singleton]<;>rfl
     ·show kG f g m=out++ [g y]++eS f g y (nd - 1)
      have b:ieq (bF f y) (nd - 1)=true:=b
      rw [heq,hp,a,b];simp
    ·have b:ieq (bF f y) (nd - 1)=false:=b
     exact next (by rw [hp,a,b];rfl)
   ·exact next (by rw [hp,a];rfl)
  ·rw [e0 q,List.append_nil]at heq
   rw [heq]at hK
   exact hK
 ·rw [cE,dF']at e
  have hx:x=0:=by omega
  subst hx
  rw [show eS f g 0 nd=[]from rfl,List.append_nil]at heq
  rw [heq]at hK
  exact hK
def linS:aM Ob:=fun args h=>match args,h with
 | [.view m 2 row],[]=>some (.pre (m≤1000000∧d7 row) (.ret (.slice 0 (((cK (rK row) (rY row) m).length :Int) - bF (rK row) m).toNat (lT (rK row) (rY row) m).length 1) [some (.ints (some .i64) (cK (rK row) (rY row) m))]))
 | _,_=>none
def pilS:aM Ob:=fun args h=>match args,h with
 | [.view m 2 row],[]=>some (.pre (m≤1000000∧d7 row) (.ret (.slice 0 0 (kG (rK row) (rY row) m).length 1) [some (.ints (some .i64) (kG (rK row) (rY row) m))]))
 | _,_=>none
theorem X5:sT' 87 linS:=by
 intro args h o ho K hK
 unfold linS at ho
 split at ho<;>cases ho
 rename_i m row
 obtain⟨⟨hm,⟨hr⟩⟩,hK⟩:=hK
 rw [hr]
 exact J6 m (rK row) (rY row) K (X6 m (rK row) (rY row) K hm hK)
theorem YG:sT' 88 pilS:=by
 intro args h o ho K hK
 unfold pilS at ho
 split at ho<;>cases ho
 rename_i m row
 obtain⟨⟨hm,⟨hr⟩⟩,hK⟩:=hK
 rw [hr]
 exact KH m (rK row) (rY row) K (YH m (rK row) (rY row) K hm hK)
noncomputable def EV2:=(EV1.addS 87 linS X5).addS 88 pilS YG
def gU(f g:Nat→Int)(m k:Nat):List Int:=((List.range k).map fun i:Nat=>(i:Int)).filter fun k=>inF f g k m
structure aAI (x:Nat):Prop where
 h1:x≤1000
def DB(sh:Int)(m:Nat)(f g:Nat→Int):Hint Ob:= {X:=Nat,st:=fun x=>([.int .i64 sh,.view m 2 (fun i=>[.int .i64 (f i),.int .i64 (g i)]),.O,.O,.O,.slice 0 0 (gU f g m x).length 1,.int .i64 (x:Int)]++List.replicate 20 .O,[some (.ints (some .i64) (gU f g m x))]),ok:=aAI,mu:=fun x=>1000 - x,keep:=[0,1,5,6],casts:=[(.slot 5,.ints (some .i64))] }
def HU(sh:Int)(m:Nat)(f g:Nat→Int)(K:AVal→aD Ob→Prop):Prop:=bif ieq sh 3 then(m≤(1000000:Nat)∧d7 fun i=>[.int .i64 (f i),.int .i64 (g i)])∧K (.slice 0 (Int.toNat ((↑(List.length (cK (rK fun i=>[.int .i64 (f i),.int .i64 (g i)]) (rY fun i=>[.int .i64 (f i),.int .i64 (g i)]) m)):Int) - bF (rK fun i=>[.int .i64 (f i),.int .i64 (g i)]) m)) (List.length (lT (rK fun i=>[.int .i64 (f i),.int .i64 (g i)]) (rY fun i=>[.int .i64 (f i),.int .i64 (g i)]) m)) 1) [some (.ints (some .i64) (cK (rK fun i=>[.int .i64 (f i),.int .i64 (g i)]) (rY fun i=>[.int .i64 (f i),.int .i64 (g i)]) m))]else bif ieq sh 4 then(m≤(1000000:Nat)∧d7 fun i=>[.int .i64 (f i),.int .i64 (g i)])∧K (.slice 0 0 (List.length (kG (rK fun i=>[.int .i64 (f i),.int .i64 (g i)]) (rY fun i=>[.int .i64 (f i),.int .i64 (g i)]) m)) 1) [some (.ints (some .i64) (kG (rK fun i=>[.int .i64 (f i),.int .i64 (g i)]) (rY fun i=>[.int .i64 (f i),.int .i64 (g i)]) m))]else okSt (DB sh m f g) (Hint.ok (DB sh m f g)) [.int .i64 sh,.view m 2 fun i=>[.int .i64 (f i),.int .i64 (g i)],.O,.O,.O,.slice 0 0 0 1,.int .i64 0,.O,.O,.O,.O,.O,.O,.O,.O,.O,.O,.O,.O,.O,.O,.O,.O,.O,.O,.O,.O] [some (.ints (some .i64) [])]∧ ∀(x:Nat),aAI x→bif ile (↑x:Int) 999 then(m≤(4611686018427387904:Nat)∧d7 fun i=>[.int .i64 (f i),.int .i64 (g i)])∧bif inO (rK fun i=>[.int .i64 (f i),.int .i64 (g i)]) (rY fun i=>[.int .i64 (f i),.int .i64 (g i)]) (↑x:Int) m then(0=0∧lE' (gU f g m x)∧1=1∧List.length (gU f g m x)+(1:Nat)≤(4294967296:Nat))∧okSt (DB sh m f g) (fun x'=>Hint.ok (DB sh m f g) x'∧Hint.mu (DB sh m f g) x'<Hint.mu (DB sh m f g) x) [.int .i64 sh,.view m 2 fun i=>[.int .i64 (f i),.int .i64 (g i)],.O,.O,.O,.slice 0 0 (List.length (gU f g m x)+1) 1,.int .i64 (W ((↑x:Int)+1)),.O,.O,.O,.O,.O,.O,.O,.O,.O,.O,.O,.O,.O,.O,.O,.O,.O,.O,.O,.O] [some (.ints (some .i64) (gU f g m x++ [(↑x:Int)]))]else okSt (DB sh m f g) (fun x'=>Hint.ok (DB sh m f g) x'∧Hint.mu (DB sh m f g) x'<Hint.mu (DB sh m f g) x) [.int .i64 sh,.view m 2 fun i=>[.int .i64 (f i),.int .i64 (g i)],.O,.O,.O,.slice 0 0 (List.length (gU f g m x)) 1,.int .i64 (W ((↑x:Int)+1)),.O,.O,.O,.O,.O,.O,.O,.O,.O,.O,.O,.O,.O,.O,.O,.O,.O,.O,.O,.O] [some (.ints (some .i64) (gU f g m x))]else K (.slice 0 0 (List.length (gU f g m x)) 1) [some (.ints (some .i64) (gU f g m x))]
theorem J4(sh:Int)(m:Nat)(f g:Nat→Int)(K:AVal→aD Ob→Prop)(h:HU sh m f g K):cT' 35 [.int .i64 sh,.view m 2 (fun i=>[.int .i64 (f i),.int .i64 (g i)])] [] K:=by
 refine aCu (aE (E:=EV2) Tryz.checked.mixed (L:=(fun _ _=>some (.states (DB sh m f g)))) (n:=10) (aR (by kernel_rfl) h))
theorem X3(sh:Int)(m:Nat)(f g:Nat→Int)(K:AVal→aD Ob→Prop)(hm:m≤1000000)(hK:K (.slice 0 (eG sh f g m) (aT sh f g m).length 1) [some (.ints (some .i64) (fE sh f g m))]):HU sh m f g K:=by
 have rk0:rK (fun i=>[.int .i64 (f i),.int .i64 (g i)])=f:=rfl
 have ry0:rY (fun i=>[.int .i64 (f i),.int .i64 (g i)])=g:=rfl
 unfold HU
 unfold eG fE aT at hK
 refine aN (fun a=>?_) (fun a=>aN (fun b=>?_) (fun b=>?_))
 ·rw [a]at hK
  exact⟨⟨hm,iJ f g⟩,hK⟩
 ·rw [a,b]at hK
  exact⟨⟨hm,iJ f g⟩,hK⟩
 ·rw [a,b]at hK
  refine⟨aQ (H:=DB sh m f g) (0:Nat) rfl ⟨Nat.zero_le _⟩,?_⟩
  rintro x ⟨h1⟩
  refine tU (fun e=>?_) (fun e=>?_)
  ·have e4:W ((x:Int)+1)=((x+1:Nat):Int):=(cG (by omega)).trans rfl
   have hs:gU f g m (x+1)=gU f g m x++(if inF f g x m then [(x:Int)]else []):=by
    unfold gU
    rw [List.range_succ,List.map_append,List.filter_append]
    congr 1
    cases q:inF f g x m<;>simp [q]
   have hlen:(gU f g m x).length ≤x:=by
    unfold gU
    refine Nat.le_trans (List.length_filter_le _ _) ?_
    simp
   rw [e4]
   refine⟨⟨by omega,iJ f g⟩,aN (fun c=>?_) (fun c=>?_)⟩
   ·have c:inF f g x m=true:=c
    rw [c]at hs
    refine⟨⟨rfl,rfl,rfl,by omega⟩,aQ (H:=DB sh m f g) (x+1:Nat) ?_ ⟨⟨by omega⟩,by show 1000 - (x+1)<1000 - x;omega⟩⟩
    simp only [DB,hs,if_true,List.length_append,List.length_singleton]
    rfl
   ·have c:inF f g x m=false:=c
    rw [c]at hs
    simp only [Bool.false_eq_true,if_false,List.append_nil]at hs
    refine aQ (H:=DB sh m f g) (x+1:Nat) ?_ ⟨⟨by omega⟩,by show 1000 - (x+1)<1000 - x;omega⟩
    simp only [DB,hs]
    rfl
  ·have hx:x=1000:=by omega
   subst hx
   have hto:setF f g m=gU f g m 1000:=by unfold setF gU;rfl
   simp only [cond_false,hto]at hK
   exact hK
def itsS:aM Ob:=fun args h=>match args,h with
 | [.int .i64 sh,.view m 2 row],[]=>some (.pre (m≤1000000∧d7 row) (.ret (.slice 0 (eG sh (rK row) (rY row) m) (aT sh (rK row) (rY row) m).length 1) [some (.ints (some .i64) (fE sh (rK row) (rY row) m))]))
 | _,_=>none
theorem X2:sT' 35 itsS:=by
 intro args h o ho K hK
 unfold itsS at ho
 split at ho<;>cases ho
 rename_i sh m row
 obtain⟨⟨hm,⟨hr⟩⟩,hK⟩:=hK
 rw [hr]
 exact J4 sh m (rK row) (rY row) K (X3 sh m (rK row) (rY row) K hm hK)
noncomputable def EV3:=EV2.addS 35 itsS X2
def H4(sh:Int)(m:Nat)(f g:Nat→Int)(kd ky:Int)(K:AVal→aD Ob→Prop):Prop:=bif ieq kd 1 then(m≤(4611686018427387904:Nat)∧d7 fun i=>[.int .i64 (f i),.int .i64 (g i)])∧K (.agg [.int .i64 0,.bool !inO (rK fun i=>[.int .i64 (f i),.int .i64 (g i)]) (rY fun i=>[.int .i64 (f i),.int .i64 (g i)]) ky m,.int .i64 0]) []else bif ieq kd 2 then(m≤(4611686018427387904:Nat)∧d7 fun i=>[.int .i64 (f i),.int .i64 (g i)])∧K (.agg [.int .i64 0,.bool (inO (rK fun i=>[.int .i64 (f i),.int .i64 (g i)]) (rY fun i=>[.int .i64 (f i),.int .i64 (g i)]) ky m),.int .i64 0]) []else bif ieq kd 3 then(m≤(4611686018427387904:Nat)∧d7 fun i=>[.int .i64 (f i),.int .i64 (g i)])∧K (.agg [.int .i64 0,.bool (inO (rK fun i=>[.int .i64 (f i),.int .i64 (g i)]) (rY fun i=>[.int .i64 (f i),.int .i64 (g i)]) ky m),.int .i64 0]) []else bif ieq kd 4 then K (.agg [.int .i64 0,.bool true,.int .i64 0]) []else(m≤(1000000:Nat)∧d7 fun i=>[.int .i64 (f i),.int .i64 (g i)])∧bif ieq (↑(List.length (aT sh (rK fun i=>[.int .i64 (f i),.int .i64 (g i)]) (rY fun i=>[.int .i64 (f i),.int .i64 (g i)]) m)):Int) 0 then K (.agg [.int .i64 0,.bool false,.int .i64 0]) []else((0:Int)≤(0:Int)∧(0:Int)<(↑(List.length (aT sh (rK fun i=>[.int .i64 (f i),.int .i64 (g i)]) (rY fun i=>[.int .i64 (f i),.int .i64 (g i)]) m)):Int))∧eG sh (rK fun i=>[.int .i64 (f i),.int .i64 (g i)]) (rY fun i=>[.int .i64 (f i),.int .i64 (g i)]) m+Int.toNat 0*(1:Nat)<List.length (fE sh (rK fun i=>[.int .i64 (f i),.int .i64 (g i)]) (rY fun i=>[.int .i64 (f i),.int .i64 (g i)]) m)∧K (.agg [.int .i64 0,.bool true,.int .i64 (List.getD (fE sh (rK fun i=>[.int .i64 (f i),.int .i64 (g i)]) (rY fun i=>[.int .i64 (f i),.int .i64 (g i)]) m) (eG sh (rK fun i=>[.int .i64 (f i),.int .i64 (g i)]) (rY fun i=>[.int .i64 (f i),.int .i64 (g i)]) m+Int.toNat 0*1) 0)]) []
theorem KV(sh:Int)(m:Nat)(f g:Nat→Int)(kd ky:Int)(K:AVal→aD Ob→Prop)(h:H4 sh m f g kd ky K):cT' 32 [.int .i64 sh,.view m 2 (fun i=>[.int .i64 (f i),.int .i64 (g i)]),.agg [.int .i64 kd,.int .i64 ky]] [] K:=by
 refine aCu (cM' (E:=EV3) (by kernel_rfl) h)
theorem YV(sh:Int)(m:Nat)(f g:Nat→Int)(kd ky:Int)(K:AVal→aD Ob→Prop)(hm:m≤1000000)(hK:K (.agg [.int .i64 0,.bool (resB sh f g m kd ky),.int .i64 (resV sh f g m kd ky)]) []):H4 sh m f g kd ky K:=by
 have hp:m≤4611686018427387904:=by omega
 unfold H4
 unfold resB resV xG at hK
 refine aN (fun a=>⟨⟨hp,iJ f g⟩,?_⟩) (fun a=>aN (fun b=>⟨⟨hp,iJ f g⟩,?_⟩) (fun b=>aN (fun c=>⟨⟨hp,iJ f g⟩,?_⟩) (fun c=>aN (fun d=>?_) (fun d=>⟨⟨hm,iJ f g⟩,aN (fun e=>?_) (fun e=>?_)⟩))))
 ·rw [a]at hK;exact hK
 ·rw [a,b]at hK;exact hK
 ·rw [a,b,c]at hK;exact hK
 ·rw [a,b,c,d]at hK;exact hK
 ·rw [a,b,c,d]at hK
  have e:ieq ((aT sh f g m).length :Int) 0=true:=e
  have h0:aT sh f g m=[]:=by
   rw [bX,beq_iff_eq]at e
   exact List.length_eq_zero_iff.1 (by omega)
  simp only [h0]at hK
  exact hK
 ·rw [a,b,c,d]at hK
  have e:ieq ((aT sh f g m).length :Int) 0=false:=e
  obtain⟨q1,q2⟩:=vZ sh f g m
  have rk0:rK (fun i=>[.int .i64 (f i),.int .i64 (g i)])=f:=rfl
  have ry0:rY (fun i=>[.int .i64 (f i),.int .i64 (g i)])=g:=rfl
  rw [rk0,ry0]
  cases hi:aT sh f g m with
  | nil=>rw [hi]at e;cases e
  | cons x v=>
    rw [hi]at q1 q2
    simp only [hi]at hK
    simp only [List.length_cons]at q2⊢
    have e2:eG sh f g m+Int.toNat 0*1=eG sh f g m:=by simp
    have e3:List.getD (fE sh f g m) (eG sh f g m) 0=x:=by
     have:(fE sh f g m)[eG sh f g m]? =some x:=by
      have h2:=congrArg (fun l:List Int=>l[0]?) q1
      simpa [List.getElem?_drop]using h2
     rw [gD',this];rfl
    rw [e2,e3]
    exact⟨⟨by omega,by omega⟩,by omega,hK⟩
def resS:aM Ob:=fun args h=>match args,h with
 | [.int .i64 sh,.view m 2 row,.agg [.int .i64 kd,.int .i64 ky]],[]=>some (.pre (m≤1000000∧d7 row) (.ret (.agg [.int .i64 0,.bool (resB sh (rK row) (rY row) m kd ky),.int .i64 (resV sh (rK row) (rY row) m kd ky)]) []))
 | _,_=>none
theorem YU:sT' 32 resS:=by
 intro args h o ho K hK
 unfold resS at ho
 split at ho<;>cases ho
 rename_i sh m row kd ky
 obtain⟨⟨hm,⟨hr⟩⟩,hK⟩:=hK
 rw [hr]
 exact KV sh m (rK row) (rY row) kd ky K (YV sh m (rK row) (rY row) kd ky K hm hK)
noncomputable def EV4:=EV3.addS 32 resS YU
def sO(xs:List Int)(nd:Int):Nat→Int→List Int→List Int
 | 0,_,out=>out
 | k+1,n,out=>bif bK nd n then bif !hasB out n then sO xs nd k (aA (aB xs n) 10 9) (out++ [n])else out else out
def ndF(xs:List Int)(nd hd:Int):List Int:=sO xs nd (nd.toNat+1) (aA (aB xs (nd+1+hd)) 10 9) []
def i7(nd:Int)(out:List Int):Nat:=((List.range nd.toNat).filter (fun(j:Nat)=>!hasB out ((j:Int)+1))).length
theorem FS{p q:Nat→Bool}(hpq: ∀j,p j=true→q j=true)(l:List Nat):(l.filter p).length ≤(l.filter q).length :=by
 induction l with
 | nil=>exact Nat.le_refl _
 | cons b l ih=>
   simp only [List.filter_cons]
   cases hp:p b with
   | true=>rw [hpq b hp];simp;exact ih
   | false=>cases hq:q b<;>simp<;>omega
theorem FT{p q:Nat→Bool}(l:List Nat)(hpq: ∀j,p j=true→q j=true)(h: ∃j,j∈l∧q j=true∧p j=false):(l.filter p).length <(l.filter q).length :=by
 induction l with
 | nil=>obtain⟨j,hj,_⟩:=h;cases hj
 | cons a l ih=>
   have hle:=FS hpq l
   simp only [List.filter_cons]
   obtain⟨j,hj,hq,hp⟩:=h
   rcases List.mem_cons.1 hj with rfl | hj
   ·rw [hp,hq];simp;omega
   ·have:=ih ⟨j,hj,hq,hp⟩
    cases hp2:p a with
    | true=>rw [hpq a hp2];simp;exact this
    | false=>cases hq2:q a<;>simp<;>omega
theorem KA{nd n:Int}{out:List Int}(h1:bK nd n=true)(h2:hasB out n=false):i7 nd (out++ [n])<i7 nd out:=by
 have h1:=pW.1 h1
 have h2:n∉out:=by intro hm;rw [gY.2 hm]at h2;cases h2
 unfold i7
 refine FT _ (fun j hj=>?_) ⟨(n - 1).toNat,?_,?_,?_⟩
 ·cases e:hasB out ((j:Int)+1)with
  | false=>rfl
  | true=>
    have:hasB (out++ [n]) ((j:Int)+1)=true:=gY.2 (List.mem_append_left _ (gY.1 e))
    rw [this]at hj;cases hj
 ·rw [List.mem_range];omega
 ·have e:(((n - 1).toNat :Nat):Int)+1=n:=by omega
  rw [e]
  cases e2:hasB out n with
  | false=>rfl
  | true=>exact absurd (gY.1 e2) h2
 ·have e:(((n - 1).toNat :Nat):Int)+1=n:=by omega
  rw [e,gY.2 (List.mem_append_right _ (List.mem_singleton.2 rfl))];rfl
theorem CN(nd:Int):i7 nd []≤nd.toNat:=by
 unfold i7
 exact Nat.le_trans (List.length_filter_le _ _) (by simp)
structure aAz (xs:List Int) (nd:Int) (R:List Int) (x:Int×List Int):Prop where
 hb:(x.2.length:Int)≤nd.toNat
 ex: ∃k,i7 nd x.2<k∧sO xs nd k x.1 x.2=R
 hc:x.2.length+i7 nd x.2≤nd.toNat
def P7(s:MS)(lt ln:Int)(R:List Int):Hint Ob:= {X:=Int×List Int,st:=fun x=>([.ptr 0 0,.O,.O,.O,.ptr 2 0,.O,.O,.slice 3 0 x.2.length 1,.int .i64 x.1]++List.replicate 26 .O,[aZ 1 s,a9 s,some (.cells [.int .i64 lt,.int .i64 ln]),some (.ints (some .i64) x.2)]),ok:=aAz s.xs ln R,mu:=fun x=>i7 ln x.2,keep:=[0,4,7,8],casts:=[(.slot 7,.ints (some .i64))] }
def YC(s:MS)(lt ln hd:Int)(R:List Int)(K:AVal→aD Ob→Prop):Prop:=(((0:Int)≤ln∧ln≤(100000:Int))∧(-1000000:Int)≤hd∧hd≤(1000000:Int))∧(lE' s.3∧True)∧True∧okSt (P7 s lt ln R) (Hint.ok (P7 s lt ln R)) [.ptr 0 0,.O,.O,.O,.ptr 2 0,.O,.O,.slice 3 0 0 1,.int .i64 (aA (aB s.3 (ln+1+hd)) 10 9),.O,.O,.O,.O,.O,.O,.O,.O,.O,.O,.O,.O,.O,.O,.O,.O,.O,.O,.O,.O,.O,.O,.O,.O,.O,.O] [some (.cells [.int .i64 s.1,.int .i64 s.2,.slice 1 0 (List.length s.3) 1,.int .i64 s.4,.int .i64 s.5,.int .i64 s.6,.int .u64 s.7,.int .u64 s.8,.bool s.9]),some (.ints (some .u64) s.3),some (.cells [.int .i64 lt,.int .i64 ln]),some (.ints (some .i64) [])]∧ ∀(x:(Int×List Int)),aAz s.3 ln R x→True∧bif bK ln x.1 then(lE' x.2∧List.length x.2≤(4294967296:Nat))∧bif !hasB x.2 x.1 then(0=0∧lE' x.2∧1=1∧List.length x.2+(1:Nat)≤(4294967296:Nat))∧(lE' s.3∧True)∧True∧okSt (P7 s lt ln R) (fun x'=>Hint.ok (P7 s lt ln R) x'∧Hint.mu (P7 s lt ln R) x'<Hint.mu (P7 s lt ln R) x) [.ptr 0 0,.O,.O,.O,.ptr 2 0,.O,.O,.slice 3 0 (List.length x.2+1) 1,.int .i64 (aA (aB s.3 x.1) 10 9),.O,.O,.O,.O,.O,.O,.O,.O,.O,.O,.O,.O,.O,.O,.O,.O,.O,.O,.O,.O,.O,.O,.O,.O,.O,.O] [some (.cells [.int .i64 s.1,.int .i64 s.2,.slice 1 0 (List.length s.3) 1,.int .i64 s.4,.int .i64 s.5,.int .i64 s.6,.int .u64 s.7,.int .u64 s.8,.bool s.9]),some (.ints (some .u64) s.3),some (.cells [.int .i64 lt,.int .i64 ln]),some (.ints (some .i64) (x.2++ [x.1]))]else K (.slice 2 0 (List.length x.2) 1) [some (.cells [.int .i64 s.1,.int .i64 s.2,.slice 1 0 (List.length s.3) 1,.int .i64 s.4,.int .i64 s.5,.int .i64 s.6,.int .u64 s.7,.int .u64 s.8,.bool s.9]),some (.ints (some .u64) s.3),some (.ints (some .i64) x.2)]else K (.slice 2 0 (List.length x.2) 1) [some (.cells [.int .i64 s.1,.int .i64 s.2,.slice 1 0 (List.length s.3) 1,.int .i64 s.4,.int .i64 s.5,.int .i64 s.6,.int .u64 s.7,.int .u64 s.8,.bool s.9]),some (.ints (some .u64) s.3),some (.ints (some .i64) x.2)]
theorem OI(s:MS)(lt ln hd:Int)(R:List Int)(K:AVal→aD Ob→Prop)(h:YC s lt ln hd R K):cT' 58 [.ptr 0 0,.agg [.int .i64 lt,.int .i64 ln],.int .i64 hd] [aZ 1 s,a9 s] K:=by
 exact aCu (aE (E:=EV4) Tryz.checked.mixed (L:=fun _ _=>some (.states (P7 s lt ln R))) (n:=10) (aR (by kernel_rfl) h))
theorem aAB(s:MS)(lt ln hd:Int)(K:AVal→aD Ob→Prop)(h1:0≤ln∧ln≤100000)(h2: -1000000≤hd∧hd≤1000000)(hK:K (.slice 2 0 (ndF s.xs ln hd).length 1) [aZ 1 s,a9 s,some (.ints (some .i64) (ndF s.xs ln hd))]):YC s lt ln hd (ndF s.xs ln hd) K:=by
 refine⟨⟨h1,h2⟩,⟨rfl,trivial⟩,trivial,aQ (H:=P7 s lt ln (ndF s.xs ln hd)) (aA (aB s.xs (ln+1+hd)) 10 9,[]) rfl ⟨by show((0:Nat):Int)≤_;omega,⟨ln.toNat+1,by have:=CN ln;show i7 ln []<ln.toNat+1;omega,rfl⟩,by have:=CN ln;show 0+i7 ln []≤ln.toNat;omega⟩,?_⟩
 rintro⟨n,out⟩ ⟨hb,⟨k,hk,hR⟩,hc⟩
 dsimp only at hb hk hR hc⊢
 have stop: ∀(h:bif bK ln n then !hasB out n else false),True:=fun _=>trivial
 refine⟨trivial,aN (fun e1=>⟨⟨rfl,by omega⟩,aN (fun e2=>?_) (fun e2=>?_)⟩) (fun e1=>?_)⟩
 ·have e2':hasB out n=false:=by simpa using e2
  have hlt:=KA (nd:=ln) e1 e2'
  cases k with
  | zero=>omega
  | succ k=>
    unfold sO at hR
    rw [e1,e2]at hR
    simp only [cond_true]at hR
    refine⟨⟨rfl,rfl,rfl,by omega⟩,⟨rfl,trivial⟩,trivial,aQ (H:=P7 s lt ln (ndF s.xs ln hd)) (aA (aB s.xs n) 10 9,out++ [n]) (by simp only [P7,List.length_append,List.length_singleton]<;>rfl) ⟨⟨?_,⟨k,by show i7 ln (out++ [n])<k;omega,hR⟩,?_⟩,hlt⟩⟩
    ·show((out++ [n]).length :Int)≤_
     rw [List.length_append,List.length_singleton];omega
    ·show(out++ [n]).length +i7 ln (out++ [n])≤_
     rw [List.length_append,List.length_singleton];omega
 ·have hR2:out=ndF s.xs ln hd:=by
   cases k with
   | zero=>omega
   | succ k=>
     unfold sO at hR
     rw [e1,e2]at hR
     exact hR
  rw [←hR2]at hK
  exact hK
 ·have hR2:out=ndF s.xs ln hd:=by
   cases k with
   | zero=>omega
   | succ k=>
     unfold sO at hR
     rw [e1]at hR
     exact hR
  rw [←hR2]at hK
  exact hK
theorem OH(xs:List Int)(nd:Int)(k:Nat): ∀(n:Int) (out:List Int),(sO xs nd k n out).length ≤out.length+k:=by
 induction k with
 | zero=>intro n out;unfold sO;omega
 | succ k ih=>
   intro n out
   unfold sO
   cases bK nd n<;>cases hasB out n<;>simp only [cond_true,cond_false,Bool.not_true,Bool.not_false]<;>try omega
   have:=ih (aA (aB xs n) 10 9) (out++ [n])
   rw [List.length_append,List.length_singleton]at this
   omega
theorem S4(xs:List Int)(nd hd:Int):(ndF xs nd hd).length ≤nd.toNat+1:=by
 have:=OH xs nd (nd.toNat+1) (aA (aB xs (nd+1+hd)) 10 9) []
 unfold ndF
 simpa using this
def ndS:aM Ob:=fun args h=>match args,h with
 | [.ptr 0 0,.agg [.int .i64 lt,.int .i64 ln],.int .i64 hd],[e1,e2]=>(match eI 1 [e1,e2]with
   | some (l,s)=>some (.pre (l=s.xs.length∧(0≤ln∧ln≤100000)∧(-1000000≤hd∧hd≤1000000)) (.ret (.slice 2 0 (ndF s.xs ln hd).length 1) [aZ 1 s,a9 s,some (.ints (some .i64) (ndF s.xs ln hd))]))
   | none=>none)
 | _,_=>none
theorem aAA:sT' 58 ndS:=by
 intro args h o ho K hK
 unfold ndS at ho
 split at ho
 case h_2=>cases ho
 rename_i lt ln hd e1 e2
 split at ho<;>cases ho
 rename_i l s hm
 obtain⟨⟨hl,h1,h2⟩,hK⟩:=hK
 have hh:=b8 hm hl
 cases hh
 exact OI s lt ln hd _ K (aAB s lt ln hd K h1 h2 hK)
noncomputable def EV5:=EV4.addS 58 ndS aAA
def kyL(xs ns:List Int):List Int:=(ns.filter fun a=>!ieq (aA (aB xs a) 19 1) 1).map fun a=>aA (aB xs a) 0 10
structure aAu (xs ns:List Int) (x:Nat×List Int):Prop where
 hi:x.1≤ns.length
 eq:x.2=kyL xs (ns.take x.1)
def HKY(s:MS)(ns:List Int):Hint Ob:= {X:=Nat×List Int,st:=fun x=>([.ptr 0 0,.O,.O,.O,.O,.O,.O,.slice 2 0 x.2.length 1,.O,.O,.O,.O,.O,.O,.slice 3 0 ns.length 1,.int .i64 (ns.length:Int),.int .i64 (x.1:Int)]++List.replicate 17 .O,[aZ 1 s,a9 s,some (.ints (some .i64) x.2),some (.ints (some .i64) ns)]),ok:=aAu s.xs ns,mu:=fun x=>ns.length - x.1,keep:=[0,7,14,15,16],casts:=[(.slot 7,.ints (some .i64))] }
def X4(s:MS)(lt ln hd:Int)(K:AVal→aD Ob→Prop):Prop:=(lE' s.3∧((0:Int)≤ln∧ln≤(100000:Int))∧(-1000000:Int)≤hd∧hd≤(1000000:Int))∧okSt (HKY s (ndF (MS.xs s) ln hd)) (Hint.ok (HKY s (ndF (MS.xs s) ln hd))) [.ptr 0 0,.O,.O,.O,.O,.O,.O,.slice 2 0 0 1,.O,.O,.O,.O,.O,.O,.slice 3 0 (List.length (ndF s.3 ln hd)) 1,.int .i64 (↑(List.length (ndF s.3 ln hd)):Int),.int .i64 0,.O,.O,.O,.O,.O,.O,.O,.O,.O,.O,.O,.O,.O,.O,.O,.O,.O] [some (.cells [.int .i64 s.1,.int .i64 s.2,.slice 1 0 (List.length s.3) 1,.int .i64 s.4,.int .i64 s.5,.int .i64 s.6,.int .u64 s.7,.int .u64 s.8,.bool s.9]),some (.ints (some .u64) s.3),some (.ints (some .i64) []),some (.ints (some .i64) (ndF s.3 ln hd))]∧ ∀(x:Hint.X (HKY s (ndF (MS.xs s) ln hd))),aAu s.3 (ndF s.3 ln hd) x→bif ilt (↑x.1:Int) (↑(List.length (ndF s.3 ln hd)):Int)then((0:Int)≤(↑x.1:Int)∧(↑x.1:Int)<(↑(List.length (ndF s.3 ln hd)):Int))∧0+Int.toNat (↑x.1:Int)*(1:Nat)<List.length (ndF s.3 ln hd)∧(lE' s.3∧True)∧True∧bif !ieq (aA (aB s.3 (List.getD (ndF s.3 ln hd) (0+Int.toNat (↑x.1:Int)*1) 0)) 19 1) 1 then(0=0∧lE' x.2∧1=1∧List.length x.2+(1:Nat)≤(4294967296:Nat))∧okSt (HKY s (ndF (MS.xs s) ln hd)) (fun x'=>Hint.ok (HKY s (ndF (MS.xs s) ln hd)) x'∧Hint.mu (HKY s (ndF (MS.xs s) ln hd)) x'<Hint.mu (HKY s (ndF (MS.xs s) ln hd)) x) [.ptr 0 0,.O,.O,.O,.O,.O,.O,.slice 2 0 (List.length x.2+1) 1,.O,.O,.O,.O,.O,.O,.slice 3 0 (List.length (ndF s.3 ln hd)) 1,.int .i64 (↑(List.length (ndF s.3 ln hd)):Int),.int .i64 (W ((↑x.1:Int)+1)),.O,.O,.O,.O,.O,.O,.O,.O,.O,.O,.O,.O,.O,.O,.O,.O,.O] [some (.cells [.int .i64 s.1,.int .i64 s.2,.slice 1 0 (List.length s.3) 1,.int .i64 s.4,.int .i64 s.5,.int .i64 s.6,.int .u64 s.7,.int .u64 s.8,.bool s.9]),some (.ints (some .u64) s.3),some (.ints (some .i64) (x.2++ [aA (aB s.3 (List.getD (ndF s.3 ln hd) (0+Int.toNat (↑x.1:Int)*1) 0)) 0 10])),some (.ints (some .i64) (ndF s.3 ln hd))]else okSt (HKY s (ndF (MS.xs s) ln hd)) (fun x'=>Hint.ok (HKY s (ndF (MS.xs s) ln hd)) x'∧Hint.mu (HKY s (ndF (MS.xs s) ln hd)) x'<Hint.mu (HKY s (ndF (MS.xs s) ln hd)) x) [.ptr 0 0,.O,.O,.O,.O,.O,.O,.slice 2 0 (List.length x.2) 1,.O,.O,.O,.O,.O,.O,.slice 3 0 (List.length (ndF s.3 ln hd)) 1,.int .i64 (↑(List.length (ndF s.3 ln hd)):Int),.int .i64 (W ((↑x.1:Int)+1)),.O,.O,.O,.O,.O,.O,.O,.O,.O,.O,.O,.O,.O,.O,.O,.O,.O] [some (.cells [.int .i64 s.1,.int .i64 s.2,.slice 1 0 (List.length s.3) 1,.int .i64 s.4,.int .i64 s.5,.int .i64 s.6,.int .u64 s.7,.int .u64 s.8,.bool s.9]),some (.ints (some .u64) s.3),some (.ints (some .i64) x.2),some (.ints (some .i64) (ndF s.3 ln hd))]else K (.slice 2 0 (List.length x.2) 1) [some (.cells [.int .i64 s.1,.int .i64 s.2,.slice 1 0 (List.length s.3) 1,.int .i64 s.4,.int .i64 s.5,.int .i64 s.6,.int .u64 s.7,.int .u64 s.8,.bool s.9]),some (.ints (some .u64) s.3),some (.ints (some .i64) x.2)]
theorem N7(s:MS)(lt ln hd:Int)(K:AVal→aD Ob→Prop)(h:X4 s lt ln hd K):cT' 59 [.ptr 0 0,.agg [.int .i64 lt,.int .i64 ln],.int .i64 hd] [aZ 1 s,a9 s] K:=by
 exact aCu (aE (E:=EV5) Tryz.checked.mixed (L:=fun _ _=>some (.states (HKY s (ndF s.xs ln hd)))) (n:=10) (aR (by kernel_rfl) h))
theorem PT{ns:List Int}{i:Nat}(hi:i<ns.length):ns.take (i+1)=ns.take i++ [ns.getD i 0]:=by
 rw [List.take_succ,gD',gE' hi];rfl
theorem US{xs ns:List Int}{i:Nat}(hi:i<ns.length)(h:(!ieq (aA (aB xs (ns.getD i 0)) 19 1) 1)=true):kyL xs (ns.take (i+1))=kyL xs (ns.take i)++ [aA (aB xs (ns.getD i 0)) 0 10]:=by
 unfold kyL
 rw [PT hi,List.filter_append,List.map_append]
 simp only [List.filter_cons,List.filter_nil,h,if_true,List.map_cons,List.map_nil]
theorem aAv{xs ns:List Int}{i:Nat}(hi:i<ns.length)(h:(!ieq (aA (aB xs (ns.getD i 0)) 19 1) 1)=false):kyL xs (ns.take (i+1))=kyL xs (ns.take i):=by
 unfold kyL
 rw [PT hi,List.filter_append,List.map_append]
 simp only [List.filter_cons,List.filter_nil,h,Bool.false_eq_true,if_false,List.map_nil,List.append_nil]
theorem SU(xs ns:List Int):(kyL xs ns).length ≤ns.length:=by
 unfold kyL
 rw [List.length_map];exact List.length_filter_le _ _
def keyF(xs:List Int)(nd hd:Int):List Int:=kyL xs (ndF xs nd hd)
theorem aAx(s:MS)(lt ln hd:Int)(K:AVal→aD Ob→Prop)(h1:0≤ln∧ln≤100000)(h2: -1000000≤hd∧hd≤1000000)(hK:K (.slice 2 0 (keyF s.xs ln hd).length 1) [aZ 1 s,a9 s,some (.ints (some .i64) (keyF s.xs ln hd))]):X4 s lt ln hd K:=by
 have hlen:=S4 s.xs ln hd
 unfold keyF at hK
 refine⟨⟨rfl,h1,h2⟩,aQ (H:=HKY s (ndF s.xs ln hd)) ((0:Nat),[]) rfl ⟨Nat.zero_le _,rfl⟩,?_⟩
 have hlen':(ndF s.3 ln hd).length ≤ln.toNat+1:=hlen
 generalize ndF s.xs ln hd=ns at hK hlen⊢
 rintro⟨i,out⟩ ⟨hi,heq⟩
 dsimp only at hi heq
 subst heq
 have hkl:(kyL s.xs (ns.take i)).length ≤i:=Nat.le_trans (SU _ _) (List.length_take_le _ _)
 refine aN (fun e=>?_) (fun e=>?_)
 ·rw [bP,dT']at e
  have e:(i:Int)<(ns.length:Int):=e
  have hil:i<ns.length:=by omega
  have e4:W ((i:Int)+1)=((i+1:Nat):Int):=by rw [W,cG (by omega)];rfl
  have e0:0+Int.toNat (i:Int)*1=i:=by omega
  have hk1:(kyL s.xs (ns.take i)).length +1≤4294967296:=by omega
  refine⟨⟨by show(0:Int)≤(i:Int);omega,e⟩,by show 0+Int.toNat (i:Int)*1<ns.length;omega,⟨rfl,trivial⟩,trivial,aN (fun e2=>⟨⟨rfl,rfl,rfl,hk1⟩,?_⟩) (fun e2=>?_)⟩
  ·have e2:(!ieq (aA (aB s.xs (ns.getD (0+Int.toNat (i:Int)*1) 0)) 19 1) 1)=true:=e2
   rw [e0]at e2
   refine aQ (H:=HKY s ns) (i+1,kyL s.xs (ns.take (i+1))) ?_ ⟨⟨hil,rfl⟩,by show ns.length - (i+1)<ns.length - i;omega⟩
   show((HKY s ns).st (i+1,kyL s.xs (ns.take (i+1))))=_
   have hl:(kyL s.xs (ns.take (i+1))).length =(kyL s.xs (ns.take i)).length +1:=by rw [US hil e2];simp
   simp only [HKY,hl]
   rw [US hil e2]
   simp only [e4,e0]
   rfl
  ·have e2:(!ieq (aA (aB s.xs (ns.getD (0+Int.toNat (i:Int)*1) 0)) 19 1) 1)=false:=e2
   rw [e0]at e2
   refine aQ (H:=HKY s ns) (i+1,kyL s.xs (ns.take (i+1))) ?_ ⟨⟨hil,rfl⟩,by show ns.length - (i+1)<ns.length - i;omega⟩
   rw [aAv hil e2]
   simp only [HKY,e4]
   rfl
 ·rw [bP,dF']at e
  have e: ¬(i:Int)<(ns.length:Int):=e
  have hil:i=ns.length:=by omega
  subst hil
  rw [List.take_length]
  exact hK
def kyS:aM Ob:=fun args h=>match args,h with
 | [.ptr 0 0,.agg [.int .i64 lt,.int .i64 ln],.int .i64 hd],[e1,e2]=>(match eI 1 [e1,e2]with
   | some (l,s)=>some (.pre (l=s.xs.length∧(0≤ln∧ln≤100000)∧(-1000000≤hd∧hd≤1000000)) (.ret (.slice 2 0 (keyF s.xs ln hd).length 1) [aZ 1 s,a9 s,some (.ints (some .i64) (keyF s.xs ln hd))]))
   | none=>none)
 | _,_=>none
theorem aAw:sT' 59 kyS:=by
 intro args h o ho K hK
 unfold kyS at ho
 split at ho
 case h_2=>cases ho
 rename_i lt ln hd e1 e2
 split at ho<;>cases ho
 rename_i l s hm
 obtain⟨⟨hl,h1,h2⟩,hK⟩:=hK
 have hh:=b8 hm hl
 cases hh
 exact N7 s lt ln hd K (aAx s lt ln hd K h1 h2 hK)
noncomputable def EV6:=EV5.addS 59 kyS aAw
def gH:List Int→List (Int×Int)→List (Int×Int)
 | [],m=>m
 | k::ks,m=>gH ks (dO m k (W ((mget m k).getD 0+1)))
def eZ(m:List (Int×Int)):Nat→List Int
 | 0=>[]
 | k+1=>eZ m k++List.replicate ((mget m (k:Int)).getD 0).toNat (k:Int)
def cntM(xs:List Int)(n:Int):List (Int×Int):=gH (keyF xs n 3) (gH (keyF xs n 2) (gH (keyF xs n 1) (gH (keyF xs n 0) [])))
def cN(xs:List Int)(n sh:Int):List Int:=bif ilt 2 sh then keyF xs n 0 else eZ (cntM xs n) 1024
noncomputable def EV7:qA Ob Tryz.prog:=EV6
def cO(xs:List Int)(n:Int):Nat→List (Int×Int)
 | 0=>[]
 | h+1=>gH (keyF xs n h) (cO xs n h)
structure aAD (xs:List Int) (n:Int) (x:Nat×List (Int×Int)):Prop where
 h0:x.1≤4
 eq:x.2=cO xs n x.1
structure aAE (xs:List Int) (n h:Int) (x:Nat×List (Int×Int)):Prop where
 h0:0≤h∧h<4
 hi:x.1≤(keyF xs n h).length
 eq:x.2=gH ((keyF xs n h).take x.1) (cO xs n h.toNat)
structure aAF (x:Nat):Prop where
 k0:x≤1024
structure aAG (k:Int) (m:List (Int×Int)) (x:Nat×Nat):Prop where
 k0:0≤k∧k<1024
 eq:x.1+x.2=((mget m k).getD 0).toNat
def QA(t n:Int)(s:MS):Hint Ob:= {X:=Nat×List (Int×Int),st:=fun x=>([.ptr 0 0,.O,.O,.O,.ptr 2 0,.O,.O,.map 3,.int .i64 (x.1:Int)]++List.replicate 45 .O,[aZ 1 s,a9 s,some (.cells [.int .i64 t,.int .i64 n]),some (.imap .i64 (some .i64) x.2)]),ok:=aAD s.xs n,mu:=fun x=>4 - x.1,keep:=[0,4,7,8] }
def HI2(t n:Int)(s:MS)(h:Int):Hint Ob:= {X:=Nat×List (Int×Int),st:=fun x=>([.ptr 0 0,.O,.O,.O,.ptr 2 0,.O,.O,.map 3,.int .i64 h]++List.replicate 18 .O ++ [.slice 4 0 (keyF s.xs n h).length 1,.int .i64 ((keyF s.xs n h).length :Int),.int .i64 (x.1:Int)]++List.replicate 24 .O,[aZ 1 s,a9 s,some (.cells [.int .i64 t,.int .i64 n]),some (.imap .i64 (some .i64) x.2),some (.ints (some .i64) (keyF s.xs n h))]),ok:=aAE s.xs n h,mu:=fun x=>(keyF s.xs n h).length - x.1,keep:=[0,4,7,8,27,28,29] }
def P6(s:MS)(m:List (Int×Int)):Hint Ob:= {X:=Nat,st:=fun x=>([.ptr 0 0,.O,.O,.O,.O,.O,.O,.map 2,.O,.O,.O,.slice 3 0 (eZ m x).length 1,.int .i64 (x:Int)]++List.replicate 41 .O,[aZ 1 s,a9 s,some (.imap .i64 (some .i64) m),some (.ints (some .i64) (eZ m x))]),ok:=aAF,mu:=fun x=>1024 - x,keep:=[0,7,11,12],casts:=[(.slot 11,.ints (some .i64))] }
def HI4(s:MS)(m:List (Int×Int))(k:Int):Hint Ob:= {X:=Nat×Nat,st:=fun x=>([.ptr 0 0,.O,.O,.O,.O,.O,.O,.map 2,.O,.O,.O,.slice 3 0 (eZ m k.toNat++List.replicate x.1 k).length 1,.int .i64 k,.int .i64 (x.2:Int)]++List.replicate 40 .O,[aZ 1 s,a9 s,some (.imap .i64 (some .i64) m),some (.ints (some .i64) (eZ m k.toNat++List.replicate x.1 k))]),ok:=aAG k m,mu:=fun x=>x.2,keep:=[0,7,11,12,13],casts:=[(.slot 11,.ints (some .i64))] }
def aBz(t n:Int)(s:MS):FuncId→Nat→Option (qB Ob):=fun _ k=>if k=5 then some (.states (QA t n s))else if k=8 then some (.statesAt 8 (HI2 t n s))else if k=14 then some (.states (P6 s (cO s.xs n 4)))else if k=17 then some (.statesAt 12 (HI4 s (cO s.xs n 4)))else none
def HT(t n sh:Int)(s:MS)(K:AVal→aD Ob→Prop):Prop:=bif ilt 2 sh then(lE' s.3∧((0:Int)≤n∧n≤(100000:Int))∧(-1000000:Int)≤(0:Int)∧(0:Int)≤(1000000:Int))∧K (.slice 2 0 (List.length (keyF s.3 n 0)) 1) [some (.cells [.int .i64 s.1,.int .i64 s.2,.slice 1 0 (List.length s.3) 1,.int .i64 s.4,.int .i64 s.5,.int .i64 s.6,.int .u64 s.7,.int .u64 s.8,.bool s.9]),some (.ints (some .u64) s.3),some (.ints (some .i64) (keyF s.3 n 0))]else okSt (QA t n s) (Hint.ok (QA t n s)) [.ptr 0 0,.O,.O,.O,.ptr 2 0,.O,.O,.map 3,.int .i64 0,.O,.O,.O,.O,.O,.O,.O,.O,.O,.O,.O,.O,.O,.O,.O,.O,.O,.O,.O,.O,.O,.O,.O,.O,.O,.O,.O,.O,.O,.O,.O,.O,.O,.O,.O,.O,.O,.O,.O,.O,.O,.O,.O,.O,.O] [some (.cells [.int .i64 s.1,.int .i64 s.2,.slice 1 0 (List.length s.3) 1,.int .i64 s.4,.int .i64 s.5,.int .i64 s.6,.int .u64 s.7,.int .u64 s.8,.bool s.9]),some (.ints (some .u64) s.3),some (.cells [.int .i64 t,.int .i64 n]),some (.imap .i64 (some .i64) [])]∧ ∀(x:(Nat×List (Int×Int))),aAD s.3 n x→bif ilt (↑x.1:Int) 4 then(lE' s.3∧((0:Int)≤n∧n≤(100000:Int))∧(-1000000:Int)≤(↑x.1:Int)∧(↑x.1:Int)≤(1000000:Int))∧okSt (HI2 t n s (↑(Prod.fst x):Int)) (Hint.ok (HI2 t n s (↑(Prod.fst x):Int))) [.ptr 0 0,.O,.O,.O,.ptr 2 0,.O,.O,.map 3,.int .i64 (↑x.1:Int),.O,.O,.O,.O,.O,.O,.O,.O,.O,.O,.O,.O,.O,.O,.O,.O,.O,.O,.slice 4 0 (List.length (keyF s.3 n (↑x.1:Int))) 1,.int .i64 (↑(List.length (keyF s.3 n (↑x.1:Int))):Int),.int .i64 0,.O,.O,.O,.O,.O,.O,.O,.O,.O,.O,.O,.O,.O,.O,.O,.O,.O,.O,.O,.O,.O,.O,.O,.O] [some (.cells [.int .i64 s.1,.int .i64 s.2,.slice 1 0 (List.length s.3) 1,.int .i64 s.4,.int .i64 s.5,.int .i64 s.6,.int .u64 s.7,.int .u64 s.8,.bool s.9]),some (.ints (some .u64) s.3),some (.cells [.int .i64 t,.int .i64 n]),some (.imap .i64 (some .i64) x.2),some (.ints (some .i64) (keyF s.3 n (↑x.1:Int)))]∧ ∀(x_1:Hint.X (HI2 t n s (↑(Prod.fst x):Int))),aAE s.3 n (↑x.1:Int) x_1→bif ilt (↑x_1.1:Int) (↑(List.length (keyF s.3 n (↑x.1:Int))):Int)then((0:Int)≤(↑x_1.1:Int)∧(↑x_1.1:Int)<(↑(List.length (keyF s.3 n (↑x.1:Int))):Int))∧0+Int.toNat (↑x_1.1:Int)*(1:Nat)<List.length (keyF s.3 n (↑x.1:Int))∧okSt (HI2 t n s (↑(Prod.fst x):Int)) (fun x'=>Hint.ok (HI2 t n s (↑(Prod.fst x):Int)) x'∧Hint.mu (HI2 t n s (↑(Prod.fst x):Int)) x'<Hint.mu (HI2 t n s (↑(Prod.fst x):Int)) x_1) [.ptr 0 0,.O,.O,.O,.ptr 2 0,.O,.O,.map 3,.int .i64 (↑x.1:Int),.O,.O,.O,.O,.O,.O,.O,.O,.O,.O,.O,.O,.O,.O,.O,.O,.O,.O,.slice 4 0 (List.length (keyF s.3 n (↑x.1:Int))) 1,.int .i64 (↑(List.length (keyF s.3 n (↑x.1:Int))):Int),.int .i64 (W ((↑x_1.1:Int)+1)),.O,.O,.O,.O,.O,.O,.O,.O,.O,.O,.O,.O,.O,.O,.O,.O,.O,.O,.O,.O,.O,.O,.O,.O] [some (.cells [.int .i64 s.1,.int .i64 s.2,.slice 1 0 (List.length s.3) 1,.int .i64 s.4,.int .i64 s.5,.int .i64 s.6,.int .u64 s.7,.int .u64 s.8,.bool s.9]),some (.ints (some .u64) s.3),some (.cells [.int .i64 t,.int .i64 n]),some (.imap .i64 (some .i64) (dO x_1.2 (List.getD (keyF s.3 n (↑x.1:Int)) (0+Int.toNat (↑x_1.1:Int)*1) 0) (W (Option.getD (mget (Prod.snd x_1) (List.getD (keyF s.3 n (↑x.1:Int)) (0+Int.toNat (↑x_1.1:Int)*1) 0)) 0+1)))),some (.ints (some .i64) (keyF s.3 n (↑x.1:Int)))]else okSt (QA t n s) (fun x'=>Hint.ok (QA t n s) x'∧Hint.mu (QA t n s) x'<Hint.mu (QA t n s) x) [.ptr 0 0,.O,.O,.O,.ptr 2 0,.O,.O,.map 3,.int .i64 (W ((↑x.1:Int)+1)),.O,.O,.O,.O,.O,.O,.O,.O,.O,.O,.O,.O,.O,.O,.O,.O,.O,.O,.O,.O,.O,.O,.O,.O,.O,.O,.O,.O,.O,.O,.O,.O,.O,.O,.O,.O,.O,.O,.O,.O,.O,.O,.O,.O,.O] [some (.cells [.int .i64 s.1,.int .i64 s.2,.slice 1 0 (List.length s.3) 1,.int .i64 s.4,.int .i64 s.5,.int .i64 s.6,.int .u64 s.7,.int .u64 s.8,.bool s.9]),some (.ints (some .u64) s.3),some (.cells [.int .i64 t,.int .i64 n]),some (.imap .i64 (some .i64) x_1.2)]else okSt (P6 s (cO (MS.xs s) n 4)) (Hint.ok (P6 s (cO (MS.xs s) n 4))) [.ptr 0 0,.O,.O,.O,.O,.O,.O,.map 2,.O,.O,.O,.slice 3 0 0 1,.int .i64 0,.O,.O,.O,.O,.O,.O,.O,.O,.O,.O,.O,.O,.O,.O,.O,.O,.O,.O,.O,.O,.O,.O,.O,.O,.O,.O,.O,.O,.O,.O,.O,.O,.O,.O,.O,.O,.O,.O,.O,.O,.O] [some (.cells [.int .i64 s.1,.int .i64 s.2,.slice 1 0 (List.length s.3) 1,.int .i64 s.4,.int .i64 s.5,.int .i64 s.6,.int .u64 s.7,.int .u64 s.8,.bool s.9]),some (.ints (some .u64) s.3),some (.imap .i64 (some .i64) x.2),some (.ints (some .i64) [])]∧ ∀(x:Nat),aAF x→bif ile (↑x:Int) 1023 then okSt (HI4 s (cO (MS.xs s) n 4) (↑x:Int)) (Hint.ok (HI4 s (cO (MS.xs s) n 4) (↑x:Int))) [.ptr 0 0,.O,.O,.O,.O,.O,.O,.map 2,.O,.O,.O,.slice 3 0 (List.length (eZ (cO s.3 n 4) x)) 1,.int .i64 (↑x:Int),.int .i64 (Option.getD (mget (cO (MS.xs s) n 4) (↑x:Int)) 0),.O,.O,.O,.O,.O,.O,.O,.O,.O,.O,.O,.O,.O,.O,.O,.O,.O,.O,.O,.O,.O,.O,.O,.O,.O,.O,.O,.O,.O,.O,.O,.O,.O,.O,.O,.O,.O,.O,.O,.O] [some (.cells [.int .i64 s.1,.int .i64 s.2,.slice 1 0 (List.length s.3) 1,.int .i64 s.4,.int .i64 s.5,.int .i64 s.6,.int .u64 s.7,.int .u64 s.8,.bool s.9]),some (.ints (some .u64) s.3),some (.imap .i64 (some .i64) (cO s.3 n 4)),some (.ints (some .i64) (eZ (cO s.3 n 4) x))]∧ ∀(x_1:Hint.X (HI4 s (cO (MS.xs s) n 4) (↑x:Int))),aAG (↑x:Int) (cO s.3 n 4) x_1→bif ilt 0 (↑x_1.2:Int)then(0=0∧lE' (eZ (cO s.3 n 4) (Int.toNat (↑x:Int))++List.replicate x_1.1 (↑x:Int))∧1=1∧List.length (eZ (cO s.3 n 4) (Int.toNat (↑x:Int))++List.replicate x_1.1 (↑x:Int))+(1:Nat)≤(4294967296:Nat))∧okSt (HI4 s (cO (MS.xs s) n 4) (↑x:Int)) (fun x'=>Hint.ok (HI4 s (cO (MS.xs s) n 4) (↑x:Int)) x'∧Hint.mu (HI4 s (cO (MS.xs s) n 4) (↑x:Int)) x'<Hint.mu (HI4 s (cO (MS.xs s) n 4) (↑x:Int)) x_1) [.ptr 0 0,.O,.O,.O,.O,.O,.O,.map 2,.O,.O,.O,.slice 3 0 (List.length (eZ (cO s.3 n 4) (Int.toNat (↑x:Int))++List.replicate x_1.1 (↑x:Int))+1) 1,.int .i64 (↑x:Int),.int .i64 (W ((↑x_1.2:Int) - 1)),.O,.O,.O,.O,.O,.O,.O,.O,.O,.O,.O,.O,.O,.O,.O,.O,.O,.O,.O,.O,.O,.O,.O,.O,.O,.O,.O,.O,.O,.O,.O,.O,.O,.O,.O,.O,.O,.O,.O,.O] [some (.cells [.int .i64 s.1,.int .i64 s.2,.slice 1 0 (List.length s.3) 1,.int .i64 s.4,.int .i64 s.5,.int .i64 s.6,.int .u64 s.7,.int .u64 s.8,.bool s.9]),some (.ints (some .u64) s.3),some (.imap .i64 (some .i64) (cO s.3 n 4)),some (.ints (some .i64) (eZ (cO s.3 n 4) (Int.toNat (↑x:Int))++List.replicate x_1.1 (↑x:Int)++ [(↑x:Int)]))]else okSt (P6 s (cO (MS.xs s) n 4)) (fun x'=>Hint.ok (P6 s (cO (MS.xs s) n 4)) x'∧Hint.mu (P6 s (cO (MS.xs s) n 4)) x'<Hint.mu (P6 s (cO (MS.xs s) n 4)) x) [.ptr 0 0,.O,.O,.O,.O,.O,.O,.map 2,.O,.O,.O,.slice 3 0 (List.length (eZ (cO s.3 n 4) (Int.toNat (↑x:Int))++List.replicate x_1.1 (↑x:Int))) 1,.int .i64 (W ((↑x:Int)+1)),.O,.O,.O,.O,.O,.O,.O,.O,.O,.O,.O,.O,.O,.O,.O,.O,.O,.O,.O,.O,.O,.O,.O,.O,.O,.O,.O,.O,.O,.O,.O,.O,.O,.O,.O,.O,.O,.O,.O,.O,.O] [some (.cells [.int .i64 s.1,.int .i64 s.2,.slice 1 0 (List.length s.3) 1,.int .i64 s.4,.int .i64 s.5,.int .i64 s.6,.int .u64 s.7,.int .u64 s.8,.bool s.9]),some (.ints (some .u64) s.3),some (.imap .i64 (some .i64) (cO s.3 n 4)),some (.ints (some .i64) (eZ (cO s.3 n 4) (Int.toNat (↑x:Int))++List.replicate x_1.1 (↑x:Int)))]else K (.slice 2 0 (List.length (eZ (cO s.3 n 4) x)) 1) [some (.cells [.int .i64 s.1,.int .i64 s.2,.slice 1 0 (List.length s.3) 1,.int .i64 s.4,.int .i64 s.5,.int .i64 s.6,.int .u64 s.7,.int .u64 s.8,.bool s.9]),some (.ints (some .u64) s.3),some (.ints (some .i64) (eZ (cO s.3 n 4) x))]
theorem J3(t n sh:Int)(s:MS)(K:AVal→aD Ob→Prop)(h:HT t n sh s K):cT' 34 [.ptr 0 0,.agg [.int .i64 t,.int .i64 n],.int .i64 sh] [aZ 1 s,a9 s] K:=by
 refine aCu (aE (E:=EV7) Tryz.checked.mixed (L:=(aBz t n s)) (n:=10) (aR (by kernel_rfl) h))
theorem CO(xs:List Int)(n:Int): ∀(k:Nat) (a:Int) (out:List Int),(sO xs n k a out).length ≤out.length+k
 | 0,a,out=>Nat.le_refl _
 | k+1,a,out=>by
   show(bif bK n a then bif !hasB out a then sO xs n k (aA (aB xs a) 10 9) (out++ [a])else out else out:List Int).length ≤_
   cases bK n a with
   | false=>rw [cond_false];omega
   | true=>
     cases hasB out a with
     | true=>simp only [cond_true,Bool.not_true,cond_false];omega
     | false=>
       simp only [cond_true,Bool.not_false]
       have:=CO xs n k (aA (aB xs a) 10 9) (out++ [a])
       rw [List.length_append]at this
       simp at this;omega
theorem CH(xs:List Int)(n h:Int)(hn:0≤n∧n≤100000):(keyF xs n h).length ≤100001:=by
 have:=CO xs n (n.toNat+1) (aA (aB xs (n+1+h)) 10 9) []
 unfold keyF kyL ndF
 rw [List.length_map]
 refine Nat.le_trans (List.length_filter_le _ _) ?_
 simp only [List.length_nil]at this
 omega
def AO(B:Int)(m:List (Int×Int)):Prop:= ∀k,0≤(mget m k).getD 0∧(mget m k).getD 0≤B
theorem tF: ∀(ks:List Int) (m:List (Int×Int)) (B:Int),AO B m→B+ks.length≤1000000→AO (B+ks.length) (gH ks m)
 | [],m,B,h,_=>by
   intro k
   have:=h k
   show 0≤(mget m k).getD 0∧(mget m k).getD 0≤B+((0:Nat):Int)
   omega
 | a::ks,m,B,h,hb=>by
   simp only [List.length_cons]at hb
   have ha:=h a
   have hw:W ((mget m a).getD 0+1)=(mget m a).getD 0+1:=cG (by omega)
   have:=tF ks (dO m a (W ((mget m a).getD 0+1))) (B+1) (by
    intro k
    rw [oP,hw]
    by_cases e:k=a
    ·rw [if_pos e];exact⟨by show 0≤(mget m a).getD 0+1;omega,by show(mget m a).getD 0+1≤_;omega⟩
    ·rw [if_neg e];have:=h k;omega) (by omega)
   have e:B+((a::ks).length :Int)=B+1+ks.length:=by simp only [List.length_cons];omega
   rw [e];exact this
theorem tG(xs:List Int)(n:Int)(hn:0≤n∧n≤100000): ∀h:Nat,h≤4→AO (100001*h) (cO xs n h)
 | 0,_=>fun k=>⟨Int.le_refl 0,Int.le_refl 0⟩
 | h+1,hh=>by
   have ih:=tG xs n hn h (by omega)
   have hk:=CH xs n h hn
   have:=tF (keyF xs n h) _ _ ih (by omega)
   intro k
   have:=this k
   exact⟨this.1,by have:=this.2;show(mget (gH (keyF xs n h) (cO xs n h)) k).getD 0≤_;omega⟩
theorem yV(m:List (Int×Int))(h:AO 400004 m): ∀k,(eZ m k).length ≤400004*k
 | 0=>Nat.le_refl 0
 | k+1=>by
   have ih:=yV m h k
   have:=h k
   show(eZ m k++List.replicate ((mget m (k:Int)).getD 0).toNat (k:Int)).length ≤_
   rw [List.length_append,List.length_replicate]
   omega
theorem X1(t n sh:Int)(s:MS)(K:AVal→aD Ob→Prop)(hn:0≤n∧n≤100000)(hK:K (.slice 2 0 (cN s.xs n sh).length 1) [aZ 1 s,a9 s,some (.ints (some .i64) (cN s.xs n sh))]):HT t n sh s K:=by
 unfold HT
 unfold cN at hK
 refine aN (fun a=>?_) (fun a=>?_)
 ·rw [a]at hK
  exact⟨⟨rfl,hn,by decide,by decide⟩,hK⟩
 ·rw [a]at hK
  have hsm:=tG s.xs n hn 4 (Nat.le_refl _)
  refine⟨aQ (H:=QA t n s) (0,[]) rfl ⟨Nat.zero_le _,rfl⟩,?_⟩
  rintro⟨h,m⟩ ⟨h0,heq⟩
  dsimp only at h0 heq⊢
  refine o0 (fun e=>?_) (fun e=>?_)
  ·refine⟨⟨rfl,hn,by omega,by omega⟩,aQ (H:=HI2 t n s h) (0,m) rfl ⟨⟨by omega,by omega⟩,Nat.zero_le _,by rw [heq];rfl⟩,?_⟩
   rintro⟨i,m2⟩ ⟨b0,bi,beq⟩
   dsimp only at b0 bi beq⊢
   refine o0 (fun e2=>?_) (fun e2=>?_)
   ·have hi:i<(keyF s.xs n h).length :=by omega
    have hkl:=CH s.xs n h hn
    have e4:W ((i:Int)+1)=((i+1:Nat):Int):=(cG (by omega)).trans rfl
    have e0:0+(i:Int).toNat *1=i:=by omega
    rw [e4,e0]
    refine⟨⟨by omega,by omega⟩,hi,aQ (H:=HI2 t n s h) (i+1,dO m2 (keyF s.xs n h)[i] (W ((mget m2 (keyF s.xs n h)[i]).getD 0+1))) ?_ ⟨⟨b0,hi,?_⟩,by show(keyF s.xs n h).length - (i+1)<(keyF s.xs n h).length - i;omega⟩⟩
    ·have hg:List.getD (keyF s.xs n h) i 0=(keyF s.xs n h)[i]:=by rw [gD',gE' hi];rfl
     simp only [HI2,←hg]
     rfl
    ·have ht:(keyF s.xs n h).take (i+1)=(keyF s.xs n h).take i++ [(keyF s.xs n h)[i]]:=List.take_succ_eq_append_getElem hi
     rw [ht,show∀a b m,gH (a++b) m=gH b (gH a m)from fun a b=>by
      induction a with
      | nil=>intro m;rfl
      | cons x a ih=>intro m;exact ih _]
     rw [←beq];rfl
   ·have hi:i=(keyF s.xs n h).length :=by omega
    have e4:W ((h:Int)+1)=((h+1:Nat):Int):=(cG (by omega)).trans rfl
    rw [e4]
    refine aQ (H:=QA t n s) (h+1,m2) rfl ⟨⟨by show h+1≤4;omega,?_⟩,by show 4 - (h+1)<4 - h;omega⟩
    rw [hi,List.take_length]at beq
    exact beq
  ·have h4:h=4:=by omega
   subst h4
   subst heq
   refine⟨aQ (H:=P6 s (cO s.xs n 4)) (0:Nat) rfl ⟨Nat.zero_le _⟩,?_⟩
   rintro k ⟨k0⟩
   have hrl:=yV _ hsm
   refine tU (fun e3=>?_) (fun e3=>?_)
   ·have hc:=hsm k
    have hv:(mget (cO s.xs n 4) (k:Int)).getD 0=((((mget (cO s.xs n 4) (k:Int)).getD 0).toNat :Nat):Int):=by omega
    have hk4:W ((k:Int)+1)=((k+1:Nat):Int):=(cG (by omega)).trans rfl
    rw [hv,hk4]
    generalize hcc:((mget (cO s.xs n 4) (k:Int)).getD 0).toNat =c at*
    refine⟨aQ (H:=HI4 s (cO s.xs n 4) k) (0,c) (by simp only [HI4,List.replicate_zero,List.append_nil]<;>rfl) ⟨⟨by omega,by omega⟩,by show 0+c=_;rw [hcc];omega⟩,?_⟩
    rintro⟨j,l⟩ ⟨c0,ceq⟩
    dsimp only at c0 ceq⊢
    rw [hcc]at ceq
    have hr:=hrl k
    have hkt:((k:Nat):Int).toNat =k:=rfl
    refine o0 (fun e5=>?_) (fun e5=>?_)
    ·obtain⟨l,rfl⟩: ∃y,l=y+1:=⟨l - 1,by omega⟩
     have e6:W (((l+1:Nat):Int) - 1)=(l:Int):=(cG (by omega)).trans (by omega)
     rw [e6]
     refine⟨⟨rfl,rfl,rfl,by rw [List.length_append,List.length_replicate,hkt];omega⟩,aQ (H:=HI4 s (cO s.xs n 4) k) (j+1,l) ?_ ⟨⟨c0,by show j+1+l=_;rw [hcc];omega⟩,Nat.lt_succ_self l⟩⟩
     have hrep:List.replicate (j+1) ((k:Nat):Int)=List.replicate j ((k:Nat):Int)++ [((k:Nat):Int)]:=List.replicate_succ'
     simp only [HI4,hrep,List.length_append,List.length_singleton,←List.append_assoc]
     rfl
    ·have hl:l=0:=by omega
     subst hl
     have hj:j=c:=by omega
     subst hj
     refine aQ (H:=P6 s (cO s.xs n 4)) (k+1:Nat) ?_ ⟨⟨by show k+1≤1024;omega⟩,by show 1024 - (k+1)<1024 - k;omega⟩
     have hrs:eZ (cO s.xs n 4) (k+1)=eZ (cO s.xs n 4) k++List.replicate j ((k:Nat):Int):=by
      show eZ (cO s.xs n 4) k++List.replicate ((mget (cO s.xs n 4) (k:Int)).getD 0).toNat (k:Int)=_
      rw [hcc]
     simp only [P6,hrs]
     rfl
   ·have hk:k=1024:=by omega
    subst hk
    have he:cntM s.xs n=cO s.xs n 4:=rfl
    rw [he]at hK
    exact hK
def itmS:aM Ob:=fun args h=>match args,h with
 | [.ptr 0 0,.agg [.int .i64 t,.int .i64 n],.int .i64 sh],[e1,e2]=>(match eI 1 [e1,e2]with
   | some (l,s)=>some (.pre (l=s.xs.length∧0≤n∧n≤100000) (.ret (.slice 2 0 (cN s.xs n sh).length 1) [aZ 1 s,a9 s,some (.ints (some .i64) (cN s.xs n sh))]))
   | none=>none)
 | _,_=>none
theorem X0:sT' 34 itmS:=by
 intro args h o ho K hK
 unfold itmS at ho
 split at ho
 case h_2=>cases ho
 rename_i t n sh e1 e2
 split at ho<;>cases ho
 rename_i l s hm
 obtain⟨⟨hl,h1⟩,hK⟩:=hK
 have hh:=b8 hm hl
 cases hh
 exact J3 t n sh s K (X1 t n sh s K h1 hK)
noncomputable def EV8:=EV7.addS 34 itmS X0
noncomputable def EV9:=EV8
noncomputable def EW0:=EV9
noncomputable def EW1:=EW0
def QC(k:Int)(m:Nat)(f g:Nat→Int):Hint Ob:= {X:=Nat,st:=fun x=>([.int .i64 k,.O,.O,.O,.O,.O,.O,.view m 2 (fun i=>[.int .i64 (f i),.int .i64 (g i)]),.int .i64 (m:Int),.int .i64 (x:Int)]++List.replicate 8 .O,[]),ok:=fun x=>x≤m∧ ∀j,j<x→b9 k (f j) (g j)=true,mu:=fun x=>m - x,keep:=[0,7,8,9] }
def QB(xs ys:List Int)(off k:Nat):Hint Ob:= {X:=Nat,st:=fun i=>([.slice 0 0 xs.length 1,.slice 1 off k 1,.O,.O,.O,.int .i64 (i:Int)]++List.replicate 20 .O,[some (.ints (some .i64) xs),some (.ints (some .i64) ys)]),ok:=okI xs (ys.drop off),mu:=fun i=>xs.length - i,keep:=[0,1,5] }
def N3(xs ys:List Int)(off k:Nat)(K:AVal→aD Ob→Prop):Prop:=bif !ieq (↑(List.length xs):Int) (↑k:Int)then K (.bool false) [some (.ints (some .i64) xs),some (.ints (some .i64) ys)]else okSt (QB xs ys off k) (Hint.ok (QB xs ys off k)) [.slice 0 0 (List.length xs) 1,.slice 1 off k 1,.O,.O,.O,.int .i64 0,.O,.O,.O,.O,.O,.O,.O,.O,.O,.O,.O,.O,.O,.O,.O,.O,.O,.O,.O,.O] [some (.ints (some .i64) xs),some (.ints (some .i64) ys)]∧ ∀(x:Nat),okI xs (List.drop off ys) x→bif ilt (↑x:Int) (↑(List.length xs):Int)then((0:Int)≤(↑x:Int)∧(↑x:Int)<(↑(List.length xs):Int))∧0+Int.toNat (↑x:Int)*(1:Nat)<List.length xs∧((0:Int)≤(↑x:Int)∧(↑x:Int)<(↑k:Int))∧off+Int.toNat (↑x:Int)*(1:Nat)<List.length ys∧bif !ieq (List.getD xs (0+Int.toNat (↑x:Int)*1) 0) (List.getD ys (off+Int.toNat (↑x:Int)*1) 0)then K (.bool false) [some (.ints (some .i64) xs),some (.ints (some .i64) ys)]else okSt (QB xs ys off k) (fun x'=>Hint.ok (QB xs ys off k) x'∧Hint.mu (QB xs ys off k) x'<Hint.mu (QB xs ys off k) x) [.slice 0 0 (List.length xs) 1,.slice 1 off k 1,.O,.O,.O,.int .i64 (W ((↑x:Int)+1)),.O,.O,.O,.O,.O,.O,.O,.O,.O,.O,.O,.O,.O,.O,.O,.O,.O,.O,.O,.O] [some (.ints (some .i64) xs),some (.ints (some .i64) ys)]else K (.bool true) [some (.ints (some .i64) xs),some (.ints (some .i64) ys)]
theorem J2(xs ys:List Int)(off k:Nat)(K:AVal→aD Ob→Prop)(h:N3 xs ys off k K):cT' 33 [.slice 0 0 xs.length 1,.slice 1 off k 1] [some (.ints (some .i64) xs),some (.ints (some .i64) ys)] K:=by
 refine aCu (aE (E:=EW1) Tryz.checked.mixed (L:=(fun _ _=>some (.states (QB xs ys off k)))) (n:=10) (aR (by kernel_rfl) h))
def uQ(sh t m:Int)(ys:List Int)(off k:Nat):Hint Ob:= {X:=Nat×MS,st:=fun x=>([.int .i64 sh,.O,.O,.slice 0 off k 1,.O,.O,.O,.O,.O,.ptr 1 0,.ptr 2 0,.ptr 3 0,.O,.int .i64 (x.1:Int)]++List.replicate 79 .O,[some (.ints (some .i64) ys),some (.cells [.int .i64 0,.int .i64 0]),some (.cells [.int .i64 t,.int .i64 (IntKind.wrap .i64 ((k:Int)+m))]),aZ 4 x.2,a9 x.2]),ok:=oL sh t (IntKind.wrap .i64 ((k:Int)+m)) (ys.drop off),mu:=fun x=>4 - x.1,keep:=[0,3,9,10,11,13] }
def HFio(sh t m:Int)(ys:List Int)(off k:Nat)(h:Int):Hint Ob:= {X:=Nat×Int×Int×Int×MS,st:=fun x=>([.int .i64 sh,.O,.O,.slice 0 off k 1,.O,.O,.O,.O,.O,.ptr 1 0,.ptr 2 0,.ptr 3 0,.O,.int .i64 h,.int .i64 x.2.1,.ptr 5 0]++List.replicate 28 .O ++ [.slice 0 off k 1,.int .i64 (k:Int),.int .i64 (x.1:Int)]++List.replicate 46 .O,[some (.ints (some .i64) ys),some (.cells [.int .i64 0,.int .i64 0]),some (.cells [.int .i64 t,.int .i64 (IntKind.wrap .i64 ((k:Int)+m))]),aZ 4 x.2.2.2.2,a9 x.2.2.2.2,some (.cells [.int .i64 x.2.2.1,.int .i64 0,.bool false,.int .i64 0,.int .i64 x.2.2.2.1])]),ok:=uF sh t (IntKind.wrap .i64 ((k:Int)+m)) (ys.drop off) h,mu:=fun x=>k - x.1,keep:=[0,3,9,10,11,13,14,15,44,45,46] }
def WV(sh t m:Int)(ys:List Int)(off k:Nat):FuncId→Nat→Option (qB Ob):=fun _ q=>if q=6 then some (.states (uQ sh t m ys off k))else if q=10 then some (.statesAt 13 (HFio sh t m ys off k))else some (.rounds 12)
def HB(sh t m:Int)(ys:List Int)(off k:Nat)(K:AVal→aD Ob→Prop):Prop:=True∧bif !gM t (W ((↑k:Int)+m))then K (.tup [.raw (Value.pointer none),.agg [.int .i64 t,.int .i64 (W ((↑k:Int)+m))]]) [some (.ints (some .i64) ys)]else(((0:Int)≤t∧t≤(100000:Int))∧(0:Int)≤W ((↑k:Int)+m)∧W ((↑k:Int)+m)≤(100000:Int))∧bif ilt (2*W ((↑k:Int)+m)+5*t+6) (↑0:Int)then K (.tup [.raw (Value.pointer none),.agg [.int .i64 t,.int .i64 (W ((↑k:Int)+m))]]) [some (.ints (some .i64) ys)]else((((0:Int)≤t∧t≤(100000:Int))∧(0:Int)≤W ((↑k:Int)+m)∧W ((↑k:Int)+m)≤(100000:Int))∧True)∧((0:Int)≤(2:Int)*W ((↑k:Int)+m)+5*t+6∧2*W ((↑k:Int)+m)+5*t+(6:Int)=(2:Int)*W ((↑k:Int)+m)+5*t+6∧2*W ((↑k:Int)+m)+5*t+(6:Int)≤(4294967296:Int))∧okSt (uQ sh t m ys off k) (Hint.ok (uQ sh t m ys off k)) [.int .i64 sh,.O,.O,.slice 0 off k 1,.O,.O,.O,.O,.O,.ptr 1 0,.ptr 2 0,.ptr 3 0,.O,.int .i64 0,.O,.O,.O,.O,.O,.O,.O,.O,.O,.O,.O,.O,.O,.O,.O,.O,.O,.O,.O,.O,.O,.O,.O,.O,.O,.O,.O,.O,.O,.O,.O,.O,.O,.O,.O,.O,.O,.O,.O,.O,.O,.O,.O,.O,.O,.O,.O,.O,.O,.O,.O,.O,.O,.O,.O,.O,.O,.O,.O,.O,.O,.O,.O,.O,.O,.O,.O,.O,.O,.O,.O,.O,.O,.O,.O,.O,.O,.O,.O] [some (.ints (some .i64) ys),some (.cells [.int .i64 0,.int .i64 0]),some (.cells [.int .i64 t,.int .i64 (W ((↑k:Int)+m))]),some (.cells [.int .i64 t,.int .i64 (W ((↑k:Int)+m)),.slice 4 0 (Int.toNat (2*W ((↑k:Int)+m)+5*t+6)) 1,.int .i64 0,.int .i64 0,.int .i64 0,.int .u64 0,.int .u64 0,.bool false]),some (.ints (some .u64) (List.replicate (Int.toNat (2*W ((↑k:Int)+m)+5*t+6)) 0))]∧ ∀(x:(Nat×MS)),oL sh t (W ((↑k:Int)+m)) (List.drop off ys) x→bif ilt (↑x.1:Int) 4 then(((0:Int)≤W ((↑k:Int)+m)∧W ((↑k:Int)+m)≤(100000:Int))∧(-1000000:Int)≤(↑x.1:Int)∧(↑x.1:Int)≤(1000000:Int))∧okSt (HFio sh t m ys off k (↑(Prod.fst x):Int)) (Hint.ok (HFio sh t m ys off k (↑(Prod.fst x):Int))) [.int .i64 sh,.O,.O,.slice 0 off k 1,.O,.O,.O,.O,.O,.ptr 1 0,.ptr 2 0,.ptr 3 0,.O,.int .i64 (↑x.1:Int),.int .i64 (W ((↑k:Int)+m)+1+(↑x.1:Int)),.ptr 5 0,.O,.O,.O,.O,.O,.O,.O,.O,.O,.O,.O,.O,.O,.O,.O,.O,.O,.O,.O,.O,.O,.O,.O,.O,.O,.O,.O,.O,.slice 0 off k 1,.int .i64 (↑k:Int),.int .i64 0,.O,.O,.O,.O,.O,.O,.O,.O,.O,.O,.O,.O,.O,.O,.O,.O,.O,.O,.O,.O,.O,.O,.O,.O,.O,.O,.O,.O,.O,.O,.O,.O,.O,.O,.O,.O,.O,.O,.O,.O,.O,.O,.O,.O,.O,.O] [some (.ints (some .i64) ys),some (.cells [.int .i64 0,.int .i64 0]),some (.cells [.int .i64 t,.int .i64 (W ((↑k:Int)+m))]),some (.cells [.int .i64 (Prod.snd x).1,.int .i64 (Prod.snd x).2,.slice 4 0 (List.length (Prod.snd x).3) 1,.int .i64 (Prod.snd x).4,.int .i64 (Prod.snd x).5,.int .i64 (Prod.snd x).6,.int .u64 (Prod.snd x).7,.int .u64 (Prod.snd x).8,.bool (Prod.snd x).9]),some (.ints (some .u64) (Prod.snd x).3),some (.cells [.int .i64 0,.int .i64 0,.bool false,.int .i64 0,.int .i64 0])]∧ ∀(x_1:Hint.X (HFio sh t m ys off k (↑(Prod.fst x):Int))),uF sh t (W ((↑k:Int)+m)) (List.drop off ys) (↑x.1:Int) x_1→bif ilt (↑x_1.1:Int) (↑k:Int)then((0:Int)≤(↑x_1.1:Int)∧(↑x_1.1:Int)<(↑k:Int))∧off+Int.toNat (↑x_1.1:Int)*(1:Nat)<List.length ys∧bif ieq sh 2 then(4:Int)≠(0:Int)∧bif !ieq (Int.tmod (List.getD ys (off+Int.toNat (↑x_1.1:Int)*1) 0) 4) (↑x.1:Int)then okSt (HFio sh t m ys off k (↑(Prod.fst x):Int)) (fun x'=>Hint.ok (HFio sh t m ys off k (↑(Prod.fst x):Int)) x'∧Hint.mu (HFio sh t m ys off k (↑(Prod.fst x):Int)) x'<Hint.mu (HFio sh t m ys off k (↑(Prod.fst x):Int)) x_1) [.int .i64 sh,.O,.O,.slice 0 off k 1,.O,.O,.O,.O,.O,.ptr 1 0,.ptr 2 0,.ptr 3 0,.O,.int .i64 (↑x.1:Int),.int .i64 (Prod.snd x_1).1,.ptr 5 0,.O,.O,.O,.O,.O,.O,.O,.O,.O,.O,.O,.O,.O,.O,.O,.O,.O,.O,.O,.O,.O,.O,.O,.O,.O,.O,.O,.O,.slice 0 off k 1,.int .i64 (↑k:Int),.int .i64 (W ((↑x_1.1:Int)+1)),.O,.O,.O,.O,.O,.O,.O,.O,.O,.O,.O,.O,.O,.O,.O,.O,.O,.O,.O,.O,.O,.O,.O,.O,.O,.O,.O,.O,.O,.O,.O,.O,.O,.O,.O,.O,.O,.O,.O,.O,.O,.O,.O,.O,.O,.O] [some (.ints (some .i64) ys),some (.cells [.int .i64 0,.int .i64 0]),some (.cells [.int .i64 t,.int .i64 (W ((↑k:Int)+m))]),some (.cells [.int .i64 (Prod.snd (Prod.snd x_1.2).2).1,.int .i64 (Prod.snd (Prod.snd x_1.2).2).2,.slice 4 0 (List.length (Prod.snd (Prod.snd x_1.2).2).3) 1,.int .i64 (Prod.snd (Prod.snd x_1.2).2).4,.int .i64 (Prod.snd (Prod.snd x_1.2).2).5,.int .i64 (Prod.snd (Prod.snd x_1.2).2).6,.int .u64 (Prod.snd (Prod.snd x_1.2).2).7,.int .u64 (Prod.snd (Prod.snd x_1.2).2).8,.bool (Prod.snd (Prod.snd x_1.2).2).9]),some (.ints (some .u64) (Prod.snd (Prod.snd x_1.2).2).3),some (.cells [.int .i64 (Prod.snd x_1.2).1,.int .i64 0,.bool false,.int .i64 0,.int .i64 (Prod.snd (Prod.snd x_1).2).1])]else bif !ieq sh 2 then bif ilt 0 (↑x.1:Int)then okSt (HFio sh t m ys off k (↑(Prod.fst x):Int)) (fun x'=>Hint.ok (HFio sh t m ys off k (↑(Prod.fst x):Int)) x'∧Hint.mu (HFio sh t m ys off k (↑(Prod.fst x):Int)) x'<Hint.mu (HFio sh t m ys off k (↑(Prod.fst x):Int)) x_1) [.int .i64 sh,.O,.O,.slice 0 off k 1,.O,.O,.O,.O,.O,.ptr 1 0,.ptr 2 0,.ptr 3 0,.O,.int .i64 (↑x.1:Int),.int .i64 (Prod.snd x_1).1,.ptr 5 0,.O,.O,.O,.O,.O,.O,.O,.O,.O,.O,.O,.O,.O,.O,.O,.O,.O,.O,.O,.O,.O,.O,.O,.O,.O,.O,.O,.O,.slice 0 off k 1,.int .i64 (↑k:Int),.int .i64 (W ((↑x_1.1:Int)+1)),.O,.O,.O,.O,.O,.O,.O,.O,.O,.O,.O,.O,.O,.O,.O,.O,.O,.O,.O,.O,.O,.O,.O,.O,.O,.O,.O,.O,.O,.O,.O,.O,.O,.O,.O,.O,.O,.O,.O,.O,.O,.O,.O,.O,.O,.O] [some (.ints (some .i64) ys),some (.cells [.int .i64 0,.int .i64 0]),some (.cells [.int .i64 t,.int .i64 (W ((↑k:Int)+m))]),some (.cells [.int .i64 (Prod.snd (Prod.snd x_1.2).2).1,.int .i64 (Prod.snd (Prod.snd x_1.2).2).2,.slice 4 0 (List.length (Prod.snd (Prod.snd x_1.2).2).3) 1,.int .i64 (Prod.snd (Prod.snd x_1.2).2).4,.int .i64 (Prod.snd (Prod.snd x_1.2).2).5,.int .i64 (Prod.snd (Prod.snd x_1.2).2).6,.int .u64 (Prod.snd (Prod.snd x_1.2).2).7,.int .u64 (Prod.snd (Prod.snd x_1.2).2).8,.bool (Prod.snd (Prod.snd x_1.2).2).9]),some (.ints (some .u64) (Prod.snd (Prod.snd x_1.2).2).3),some (.cells [.int .i64 (Prod.snd x_1.2).1,.int .i64 0,.bool false,.int .i64 0,.int .i64 (Prod.snd (Prod.snd x_1).2).1])]else(((0:Int)≤(Prod.snd x_1.2).1∧(Prod.snd x_1.2).1<(1024:Int))∧((0:Int)≤W ((↑x_1.1:Int)+1)∧W ((↑x_1.1:Int)+1)<(512:Int))∧((0:Int)≤(0:Int)∧(0:Int)<(32:Int))∧(0:Int)≤(Prod.snd (Prod.snd x_1).2).1∧(Prod.snd (Prod.snd x_1).2).1<(262144:Int))∧(lE' (Prod.snd (Prod.snd x_1.2).2).3∧(0:Int)≤(Prod.snd (Prod.snd x_1.2).2).4∧(Prod.snd (Prod.snd x_1.2).2).4≤(4611686018427387904:Int))∧(((0:Int)≤t∧t≤(100000:Int))∧((0:Int)≤W ((↑k:Int)+m)∧W ((↑k:Int)+m)≤(100000:Int))∧(-1099511627776:Int)≤W ((↑x_1.1:Int)+1)∧W ((↑x_1.1:Int)+1)≤(1099511627776:Int))∧(lE' (aJ (Prod.snd (Prod.snd x_1.2).2).3 (Prod.snd x_1).1 (aV (Prod.snd x_1.2).1 (W ((↑x_1.1:Int)+1)) false 0 (Prod.snd (Prod.snd x_1).2).1))∧(0:Int)≤(Prod.snd (Prod.snd x_1.2).2).4+1∧(Prod.snd (Prod.snd x_1.2).2).4+(1:Int)≤(4611686018427387904:Int))∧okSt (HFio sh t m ys off k (↑(Prod.fst x):Int)) (fun x'=>Hint.ok (HFio sh t m ys off k (↑(Prod.fst x):Int)) x'∧Hint.mu (HFio sh t m ys off k (↑(Prod.fst x):Int)) x'<Hint.mu (HFio sh t m ys off k (↑(Prod.fst x):Int)) x_1) [.int .i64 sh,.O,.O,.slice 0 off k 1,.O,.O,.O,.O,.O,.ptr 1 0,.ptr 2 0,.ptr 3 0,.O,.int .i64 (↑x.1:Int),.int .i64 (W ((↑x_1.1:Int)+1)),.ptr 5 0,.O,.O,.O,.O,.O,.O,.O,.O,.O,.O,.O,.O,.O,.O,.O,.O,.O,.O,.O,.O,.O,.O,.O,.O,.O,.O,.O,.O,.slice 0 off k 1,.int .i64 (↑k:Int),.int .i64 (W ((↑x_1.1:Int)+1)),.O,.O,.O,.O,.O,.O,.O,.O,.O,.O,.O,.O,.O,.O,.O,.O,.O,.O,.O,.O,.O,.O,.O,.O,.O,.O,.O,.O,.O,.O,.O,.O,.O,.O,.O,.O,.O,.O,.O,.O,.O,.O,.O,.O,.O,.O] [some (.ints (some .i64) ys),some (.cells [.int .i64 0,.int .i64 0]),some (.cells [.int .i64 t,.int .i64 (W ((↑k:Int)+m))]),some (.cells [.int .i64 (Prod.snd (Prod.snd x_1.2).2).1,.int .i64 (Prod.snd (Prod.snd x_1.2).2).2,.slice 4 0 (List.length (aJ (aJ (Prod.snd (Prod.snd x_1.2).2).3 (Prod.snd x_1).1 (aV (Prod.snd x_1.2).1 (W ((↑x_1.1:Int)+1)) false 0 (Prod.snd (Prod.snd x_1).2).1)) (W ((↑k:Int)+m)+4+W ((↑x_1.1:Int)+1)) 1)) 1,.int .i64 ((Prod.snd (Prod.snd x_1.2).2).4+1+1),.int .i64 2,.int .i64 (W ((↑k:Int)+m)+4+W ((↑x_1.1:Int)+1)),.int .u64 (aB (aJ (Prod.snd (Prod.snd x_1.2).2).3 (Prod.snd x_1).1 (aV (Prod.snd x_1.2).1 (W ((↑x_1.1:Int)+1)) false 0 (Prod.snd (Prod.snd x_1).2).1)) (W ((↑k:Int)+m)+4+W ((↑x_1.1:Int)+1))),.int .u64 (bif bN (aJ (Prod.snd (Prod.snd x_1.2).2).3 (Prod.snd x_1).1 (aV (Prod.snd x_1.2).1 (W ((↑x_1.1:Int)+1)) false 0 (Prod.snd (Prod.snd x_1).2).1)) (W ((↑k:Int)+m)+4+W ((↑x_1.1:Int)+1))then 1 else 0),.bool (bN (aJ (Prod.snd (Prod.snd x_1.2).2).3 (Prod.snd x_1).1 (aV (Prod.snd x_1.2).1 (W ((↑x_1.1:Int)+1)) false 0 (Prod.snd (Prod.snd x_1).2).1)) (W ((↑k:Int)+m)+4+W ((↑x_1.1:Int)+1)))]),some (.ints (some .u64) (aJ (aJ (Prod.snd (Prod.snd x_1.2).2).3 (Prod.snd x_1).1 (aV (Prod.snd x_1.2).1 (W ((↑x_1.1:Int)+1)) false 0 (Prod.snd (Prod.snd x_1).2).1)) (W ((↑k:Int)+m)+4+W ((↑x_1.1:Int)+1)) 1)),some (.cells [.int .i64 (List.getD ys (off+Int.toNat (↑x_1.1:Int)*1) 0),.int .i64 0,.bool false,.int .i64 0,.int .i64 3])]else(((0:Int)≤(Prod.snd x_1.2).1∧(Prod.snd x_1.2).1<(1024:Int))∧((0:Int)≤W ((↑x_1.1:Int)+1)∧W ((↑x_1.1:Int)+1)<(512:Int))∧((0:Int)≤(0:Int)∧(0:Int)<(32:Int))∧(0:Int)≤(Prod.snd (Prod.snd x_1).2).1∧(Prod.snd (Prod.snd x_1).2).1<(262144:Int))∧(lE' (Prod.snd (Prod.snd x_1.2).2).3∧(0:Int)≤(Prod.snd (Prod.snd x_1.2).2).4∧(Prod.snd (Prod.snd x_1.2).2).4≤(4611686018427387904:Int))∧(((0:Int)≤t∧t≤(100000:Int))∧((0:Int)≤W ((↑k:Int)+m)∧W ((↑k:Int)+m)≤(100000:Int))∧(-1099511627776:Int)≤W ((↑x_1.1:Int)+1)∧W ((↑x_1.1:Int)+1)≤(1099511627776:Int))∧(lE' (aJ (Prod.snd (Prod.snd x_1.2).2).3 (Prod.snd x_1).1 (aV (Prod.snd x_1.2).1 (W ((↑x_1.1:Int)+1)) false 0 (Prod.snd (Prod.snd x_1).2).1))∧(0:Int)≤(Prod.snd (Prod.snd x_1.2).2).4+1∧(Prod.snd (Prod.snd x_1.2).2).4+(1:Int)≤(4611686018427387904:Int))∧okSt (HFio sh t m ys off k (↑(Prod.fst x):Int)) (fun x'=>Hint.ok (HFio sh t m ys off k (↑(Prod.fst x):Int)) x'∧Hint.mu (HFio sh t m ys off k (↑(Prod.fst x):Int)) x'<Hint.mu (HFio sh t m ys off k (↑(Prod.fst x):Int)) x_1) [.int .i64 sh,.O,.O,.slice 0 off k 1,.O,.O,.O,.O,.O,.ptr 1 0,.ptr 2 0,.ptr 3 0,.O,.int .i64 (↑x.1:Int),.int .i64 (W ((↑x_1.1:Int)+1)),.ptr 5 0,.O,.O,.O,.O,.O,.O,.O,.O,.O,.O,.O,.O,.O,.O,.O,.O,.O,.O,.O,.O,.O,.O,.O,.O,.O,.O,.O,.O,.slice 0 off k 1,.int .i64 (↑k:Int),.int .i64 (W ((↑x_1.1:Int)+1)),.O,.O,.O,.O,.O,.O,.O,.O,.O,.O,.O,.O,.O,.O,.O,.O,.O,.O,.O,.O,.O,.O,.O,.O,.O,.O,.O,.O,.O,.O,.O,.O,.O,.O,.O,.O,.O,.O,.O,.O,.O,.O,.O,.O,.O,.O] [some (.ints (some .i64) ys),some (.cells [.int .i64 0,.int .i64 0]),some (.cells [.int .i64 t,.int .i64 (W ((↑k:Int)+m))]),some (.cells [.int .i64 (Prod.snd (Prod.snd x_1.2).2).1,.int .i64 (Prod.snd (Prod.snd x_1.2).2).2,.slice 4 0 (List.length (aJ (aJ (Prod.snd (Prod.snd x_1.2).2).3 (Prod.snd x_1).1 (aV (Prod.snd x_1.2).1 (W ((↑x_1.1:Int)+1)) false 0 (Prod.snd (Prod.snd x_1).2).1)) (W ((↑k:Int)+m)+4+W ((↑x_1.1:Int)+1)) 1)) 1,.int .i64 ((Prod.snd (Prod.snd x_1.2).2).4+1+1),.int .i64 2,.int .i64 (W ((↑k:Int)+m)+4+W ((↑x_1.1:Int)+1)),.int .u64 (aB (aJ (Prod.snd (Prod.snd x_1.2).2).3 (Prod.snd x_1).1 (aV (Prod.snd x_1.2).1 (W ((↑x_1.1:Int)+1)) false 0 (Prod.snd (Prod.snd x_1).2).1)) (W ((↑k:Int)+m)+4+W ((↑x_1.1:Int)+1))),.int .u64 (bif bN (aJ (Prod.snd (Prod.snd x_1.2).2).3 (Prod.snd x_1).1 (aV (Prod.snd x_1.2).1 (W ((↑x_1.1:Int)+1)) false 0 (Prod.snd (Prod.snd x_1).2).1)) (W ((↑k:Int)+m)+4+W ((↑x_1.1:Int)+1))then 1 else 0),.bool (bN (aJ (Prod.snd (Prod.snd x_1.2).2).3 (Prod.snd x_1).1 (aV (Prod.snd x_1.2).1 (W ((↑x_1.1:Int)+1)) false 0 (Prod.snd (Prod.snd x_1).2).1)) (W ((↑k:Int)+m)+4+W ((↑x_1.1:Int)+1)))]),some (.ints (some .u64) (aJ (aJ (Prod.snd (Prod.snd x_1.2).2).3 (Prod.snd x_1).1 (aV (Prod.snd x_1.2).1 (W ((↑x_1.1:Int)+1)) false 0 (Prod.snd (Prod.snd x_1).2).1)) (W ((↑k:Int)+m)+4+W ((↑x_1.1:Int)+1)) 1)),some (.cells [.int .i64 (List.getD ys (off+Int.toNat (↑x_1.1:Int)*1) 0),.int .i64 0,.bool false,.int .i64 0,.int .i64 3])]else bif !ieq sh 2 then bif ilt 0 (↑x.1:Int)then okSt (HFio sh t m ys off k (↑(Prod.fst x):Int)) (fun x'=>Hint.ok (HFio sh t m ys off k (↑(Prod.fst x):Int)) x'∧Hint.mu (HFio sh t m ys off k (↑(Prod.fst x):Int)) x'<Hint.mu (HFio sh t m ys off k (↑(Prod.fst x):Int)) x_1) [.int .i64 sh,.O,.O,.slice 0 off k 1,.O,.O,.O,.O,.O,.ptr 1 0,.ptr 2 0,.ptr 3 0,.O,.int .i64 (↑x.1:Int),.int .i64 (Prod.snd x_1).1,.ptr 5 0,.O,.O,.O,.O,.O,.O,.O,.O,.O,.O,.O,.O,.O,.O,.O,.O,.O,.O,.O,.O,.O,.O,.O,.O,.O,.O,.O,.O,.slice 0 off k 1,.int .i64 (↑k:Int),.int .i64 (W ((↑x_1.1:Int)+1)),.O,.O,.O,.O,.O,.O,.O,.O,.O,.O,.O,.O,.O,.O,.O,.O,.O,.O,.O,.O,.O,.O,.O,.O,.O,.O,.O,.O,.O,.O,.O,.O,.O,.O,.O,.O,.O,.O,.O,.O,.O,.O,.O,.O,.O,.O] [some (.ints (some .i64) ys),some (.cells [.int .i64 0,.int .i64 0]),some (.cells [.int .i64 t,.int .i64 (W ((↑k:Int)+m))]),some (.cells [.int .i64 (Prod.snd (Prod.snd x_1.2).2).1,.int .i64 (Prod.snd (Prod.snd x_1.2).2).2,.slice 4 0 (List.length (Prod.snd (Prod.snd x_1.2).2).3) 1,.int .i64 (Prod.snd (Prod.snd x_1.2).2).4,.int .i64 (Prod.snd (Prod.snd x_1.2).2).5,.int .i64 (Prod.snd (Prod.snd x_1.2).2).6,.int .u64 (Prod.snd (Prod.snd x_1.2).2).7,.int .u64 (Prod.snd (Prod.snd x_1.2).2).8,.bool (Prod.snd (Prod.snd x_1.2).2).9]),some (.ints (some .u64) (Prod.snd (Prod.snd x_1.2).2).3),some (.cells [.int .i64 (Prod.snd x_1.2).1,.int .i64 0,.bool false,.int .i64 0,.int .i64 (Prod.snd (Prod.snd x_1).2).1])]else(((0:Int)≤(Prod.snd x_1.2).1∧(Prod.snd x_1.2).1<(1024:Int))∧((0:Int)≤W ((↑x_1.1:Int)+1)∧W ((↑x_1.1:Int)+1)<(512:Int))∧((0:Int)≤(0:Int)∧(0:Int)<(32:Int))∧(0:Int)≤(Prod.snd (Prod.snd x_1).2).1∧(Prod.snd (Prod.snd x_1).2).1<(262144:Int))∧(lE' (Prod.snd (Prod.snd x_1.2).2).3∧(0:Int)≤(Prod.snd (Prod.snd x_1.2).2).4∧(Prod.snd (Prod.snd x_1.2).2).4≤(4611686018427387904:Int))∧(((0:Int)≤t∧t≤(100000:Int))∧((0:Int)≤W ((↑k:Int)+m)∧W ((↑k:Int)+m)≤(100000:Int))∧(-1099511627776:Int)≤W ((↑x_1.1:Int)+1)∧W ((↑x_1.1:Int)+1)≤(1099511627776:Int))∧(lE' (aJ (Prod.snd (Prod.snd x_1.2).2).3 (Prod.snd x_1).1 (aV (Prod.snd x_1.2).1 (W ((↑x_1.1:Int)+1)) false 0 (Prod.snd (Prod.snd x_1).2).1))∧(0:Int)≤(Prod.snd (Prod.snd x_1.2).2).4+1∧(Prod.snd (Prod.snd x_1.2).2).4+(1:Int)≤(4611686018427387904:Int))∧okSt (HFio sh t m ys off k (↑(Prod.fst x):Int)) (fun x'=>Hint.ok (HFio sh t m ys off k (↑(Prod.fst x):Int)) x'∧Hint.mu (HFio sh t m ys off k (↑(Prod.fst x):Int)) x'<Hint.mu (HFio sh t m ys off k (↑(Prod.fst x):Int)) x_1) [.int .i64 sh,.O,.O,.slice 0 off k 1,.O,.O,.O,.O,.O,.ptr 1 0,.ptr 2 0,.ptr 3 0,.O,.int .i64 (↑x.1:Int),.int .i64 (W ((↑x_1.1:Int)+1)),.ptr 5 0,.O,.O,.O,.O,.O,.O,.O,.O,.O,.O,.O,.O,.O,.O,.O,.O,.O,.O,.O,.O,.O,.O,.O,.O,.O,.O,.O,.O,.slice 0 off k 1,.int .i64 (↑k:Int),.int .i64 (W ((↑x_1.1:Int)+1)),.O,.O,.O,.O,.O,.O,.O,.O,.O,.O,.O,.O,.O,.O,.O,.O,.O,.O,.O,.O,.O,.O,.O,.O,.O,.O,.O,.O,.O,.O,.O,.O,.O,.O,.O,.O,.O,.O,.O,.O,.O,.O,.O,.O,.O,.O] [some (.ints (some .i64) ys),some (.cells [.int .i64 0,.int .i64 0]),some (.cells [.int .i64 t,.int .i64 (W ((↑k:Int)+m))]),some (.cells [.int .i64 (Prod.snd (Prod.snd x_1.2).2).1,.int .i64 (Prod.snd (Prod.snd x_1.2).2).2,.slice 4 0 (List.length (aJ (aJ (Prod.snd (Prod.snd x_1.2).2).3 (Prod.snd x_1).1 (aV (Prod.snd x_1.2).1 (W ((↑x_1.1:Int)+1)) false 0 (Prod.snd (Prod.snd x_1).2).1)) (W ((↑k:Int)+m)+4+W ((↑x_1.1:Int)+1)) 1)) 1,.int .i64 ((Prod.snd (Prod.snd x_1.2).2).4+1+1),.int .i64 2,.int .i64 (W ((↑k:Int)+m)+4+W ((↑x_1.1:Int)+1)),.int .u64 (aB (aJ (Prod.snd (Prod.snd x_1.2).2).3 (Prod.snd x_1).1 (aV (Prod.snd x_1.2).1 (W ((↑x_1.1:Int)+1)) false 0 (Prod.snd (Prod.snd x_1).2).1)) (W ((↑k:Int)+m)+4+W ((↑x_1.1:Int)+1))),.int .u64 (bif bN (aJ (Prod.snd (Prod.snd x_1.2).2).3 (Prod.snd x_1).1 (aV (Prod.snd x_1.2).1 (W ((↑x_1.1:Int)+1)) false 0 (Prod.snd (Prod.snd x_1).2).1)) (W ((↑k:Int)+m)+4+W ((↑x_1.1:Int)+1))then 1 else 0),.bool (bN (aJ (Prod.snd (Prod.snd x_1.2).2).3 (Prod.snd x_1).1 (aV (Prod.snd x_1.2).1 (W ((↑x_1.1:Int)+1)) false 0 (Prod.snd (Prod.snd x_1).2).1)) (W ((↑k:Int)+m)+4+W ((↑x_1.1:Int)+1)))]),some (.ints (some .u64) (aJ (aJ (Prod.snd (Prod.snd x_1.2).2).3 (Prod.snd x_1).1 (aV (Prod.snd x_1.2).1 (W ((↑x_1.1:Int)+1)) false 0 (Prod.snd (Prod.snd x_1).2).1)) (W ((↑k:Int)+m)+4+W ((↑x_1.1:Int)+1)) 1)),some (.cells [.int .i64 (List.getD ys (off+Int.toNat (↑x_1.1:Int)*1) 0),.int .i64 0,.bool false,.int .i64 0,.int .i64 3])]else(((0:Int)≤(Prod.snd x_1.2).1∧(Prod.snd x_1.2).1<(1024:Int))∧((0:Int)≤W ((↑x_1.1:Int)+1)∧W ((↑x_1.1:Int)+1)<(512:Int))∧((0:Int)≤(0:Int)∧(0:Int)<(32:Int))∧(0:Int)≤(Prod.snd (Prod.snd x_1).2).1∧(Prod.snd (Prod.snd x_1).2).1<(262144:Int))∧(lE' (Prod.snd (Prod.snd x_1.2).2).3∧(0:Int)≤(Prod.snd (Prod.snd x_1.2).2).4∧(Prod.snd (Prod.snd x_1.2).2).4≤(4611686018427387904:Int))∧(((0:Int)≤t∧t≤(100000:Int))∧((0:Int)≤W ((↑k:Int)+m)∧W ((↑k:Int)+m)≤(100000:Int))∧(-1099511627776:Int)≤W ((↑x_1.1:Int)+1)∧W ((↑x_1.1:Int)+1)≤(1099511627776:Int))∧(lE' (aJ (Prod.snd (Prod.snd x_1.2).2).3 (Prod.snd x_1).1 (aV (Prod.snd x_1.2).1 (W ((↑x_1.1:Int)+1)) false 0 (Prod.snd (Prod.snd x_1).2).1))∧(0:Int)≤(Prod.snd (Prod.snd x_1.2).2).4+1∧(Prod.snd (Prod.snd x_1.2).2).4+(1:Int)≤(4611686018427387904:Int))∧okSt (HFio sh t m ys off k (↑(Prod.fst x):Int)) (fun x'=>Hint.ok (HFio sh t m ys off k (↑(Prod.fst x):Int)) x'∧Hint.mu (HFio sh t m ys off k (↑(Prod.fst x):Int)) x'<Hint.mu (HFio sh t m ys off k (↑(Prod.fst x):Int)) x_1) [.int .i64 sh,.O,.O,.slice 0 off k 1,.O,.O,.O,.O,.O,.ptr 1 0,.ptr 2 0,.ptr 3 0,.O,.int .i64 (↑x.1:Int),.int .i64 (W ((↑x_1.1:Int)+1)),.ptr 5 0,.O,.O,.O,.O,.O,.O,.O,.O,.O,.O,.O,.O,.O,.O,.O,.O,.O,.O,.O,.O,.O,.O,.O,.O,.O,.O,.O,.O,.slice 0 off k 1,.int .i64 (↑k:Int),.int .i64 (W ((↑x_1.1:Int)+1)),.O,.O,.O,.O,.O,.O,.O,.O,.O,.O,.O,.O,.O,.O,.O,.O,.O,.O,.O,.O,.O,.O,.O,.O,.O,.O,.O,.O,.O,.O,.O,.O,.O,.O,.O,.O,.O,.O,.O,.O,.O,.O,.O,.O,.O,.O] [some (.ints (some .i64) ys),some (.cells [.int .i64 0,.int .i64 0]),some (.cells [.int .i64 t,.int .i64 (W ((↑k:Int)+m))]),some (.cells [.int .i64 (Prod.snd (Prod.snd x_1.2).2).1,.int .i64 (Prod.snd (Prod.snd x_1.2).2).2,.slice 4 0 (List.length (aJ (aJ (Prod.snd (Prod.snd x_1.2).2).3 (Prod.snd x_1).1 (aV (Prod.snd x_1.2).1 (W ((↑x_1.1:Int)+1)) false 0 (Prod.snd (Prod.snd x_1).2).1)) (W ((↑k:Int)+m)+4+W ((↑x_1.1:Int)+1)) 1)) 1,.int .i64 ((Prod.snd (Prod.snd x_1.2).2).4+1+1),.int .i64 2,.int .i64 (W ((↑k:Int)+m)+4+W ((↑x_1.1:Int)+1)),.int .u64 (aB (aJ (Prod.snd (Prod.snd x_1.2).2).3 (Prod.snd x_1).1 (aV (Prod.snd x_1.2).1 (W ((↑x_1.1:Int)+1)) false 0 (Prod.snd (Prod.snd x_1).2).1)) (W ((↑k:Int)+m)+4+W ((↑x_1.1:Int)+1))),.int .u64 (bif bN (aJ (Prod.snd (Prod.snd x_1.2).2).3 (Prod.snd x_1).1 (aV (Prod.snd x_1.2).1 (W ((↑x_1.1:Int)+1)) false 0 (Prod.snd (Prod.snd x_1).2).1)) (W ((↑k:Int)+m)+4+W ((↑x_1.1:Int)+1))then 1 else 0),.bool (bN (aJ (Prod.snd (Prod.snd x_1.2).2).3 (Prod.snd x_1).1 (aV (Prod.snd x_1.2).1 (W ((↑x_1.1:Int)+1)) false 0 (Prod.snd (Prod.snd x_1).2).1)) (W ((↑k:Int)+m)+4+W ((↑x_1.1:Int)+1)))]),some (.ints (some .u64) (aJ (aJ (Prod.snd (Prod.snd x_1.2).2).3 (Prod.snd x_1).1 (aV (Prod.snd x_1.2).1 (W ((↑x_1.1:Int)+1)) false 0 (Prod.snd (Prod.snd x_1).2).1)) (W ((↑k:Int)+m)+4+W ((↑x_1.1:Int)+1)) 1)),some (.cells [.int .i64 (List.getD ys (off+Int.toNat (↑x_1.1:Int)*1) 0),.int .i64 0,.bool false,.int .i64 0,.int .i64 3])]else(((0:Int)≤(Prod.snd x_1.2).1∧(Prod.snd x_1.2).1<(1024:Int))∧((0:Int)≤(0:Int)∧(0:Int)<(512:Int))∧((0:Int)≤(0:Int)∧(0:Int)<(32:Int))∧(0:Int)≤(Prod.snd (Prod.snd x_1).2).1∧(Prod.snd (Prod.snd x_1).2).1<(262144:Int))∧(lE' (Prod.snd (Prod.snd x_1.2).2).3∧(0:Int)≤(Prod.snd (Prod.snd x_1.2).2).4∧(Prod.snd (Prod.snd x_1.2).2).4≤(4611686018427387904:Int))∧okSt (uQ sh t m ys off k) (fun x'=>Hint.ok (uQ sh t m ys off k) x'∧Hint.mu (uQ sh t m ys off k) x'<Hint.mu (uQ sh t m ys off k) x) [.int .i64 sh,.O,.O,.slice 0 off k 1,.O,.O,.O,.O,.O,.ptr 1 0,.ptr 2 0,.ptr 3 0,.O,.int .i64 (W ((↑x.1:Int)+1)),.O,.O,.O,.O,.O,.O,.O,.O,.O,.O,.O,.O,.O,.O,.O,.O,.O,.O,.O,.O,.O,.O,.O,.O,.O,.O,.O,.O,.O,.O,.O,.O,.O,.O,.O,.O,.O,.O,.O,.O,.O,.O,.O,.O,.O,.O,.O,.O,.O,.O,.O,.O,.O,.O,.O,.O,.O,.O,.O,.O,.O,.O,.O,.O,.O,.O,.O,.O,.O,.O,.O,.O,.O,.O,.O,.O,.O,.O,.O] [some (.ints (some .i64) ys),some (.cells [.int .i64 0,.int .i64 0]),some (.cells [.int .i64 t,.int .i64 (W ((↑k:Int)+m))]),some (.cells [.int .i64 (Prod.snd (Prod.snd x_1.2).2).1,.int .i64 (Prod.snd (Prod.snd x_1.2).2).2,.slice 4 0 (List.length (aJ (Prod.snd (Prod.snd x_1.2).2).3 (Prod.snd x_1).1 (aV (Prod.snd x_1.2).1 0 false 0 (Prod.snd (Prod.snd x_1).2).1))) 1,.int .i64 ((Prod.snd (Prod.snd x_1.2).2).4+1),.int .i64 2,.int .i64 (Prod.snd x_1).1,.int .u64 (aB (Prod.snd (Prod.snd x_1.2).2).3 (Prod.snd x_1).1),.int .u64 (bif bN (Prod.snd (Prod.snd x_1.2).2).3 (Prod.snd x_1).1 then aV (Prod.snd x_1.2).1 0 false 0 (Prod.snd (Prod.snd x_1).2).1 else 0),.bool (bN (Prod.snd (Prod.snd x_1.2).2).3 (Prod.snd x_1).1)]),some (.ints (some .u64) (aJ (Prod.snd (Prod.snd x_1.2).2).3 (Prod.snd x_1).1 (aV (Prod.snd x_1.2).1 0 false 0 (Prod.snd (Prod.snd x_1).2).1)))]else K (.tup [.ptr 1 0,.agg [.int .i64 t,.int .i64 (W ((↑k:Int)+m))]]) [some (.ints (some .i64) ys),some (.cells [.int .i64 (Prod.snd x).1,.int .i64 (Prod.snd x).2,.slice 2 0 (List.length (Prod.snd x).3) 1,.int .i64 (Prod.snd x).4,.int .i64 (Prod.snd x).5,.int .i64 (Prod.snd x).6,.int .u64 (Prod.snd x).7,.int .u64 (Prod.snd x).8,.bool (Prod.snd x).9]),some (.ints (some .u64) (Prod.snd x).3)]
theorem JC(sh t m:Int)(ys:List Int)(off k:Nat)(K:AVal→aD Ob→Prop)(h:HB sh t m ys off k K):cT' 15 [.int .i64 sh,.int .i64 t,.int .i64 m,.slice 0 off k 1] [some (.ints (some .i64) ys)] K:=by
 refine aCu (aE (E:=EW1) Tryz.checked.mixed (L:=(WV sh t m ys off k)) (n:=10) (aR (by kernel_rfl) h))
theorem zO{ys:List Int}{off k i:Nat}(ho:off+k=ys.length)(hi:i<k):ys.getD (off+(i:Int).toNat *1) 0=(ys.drop off)[i]'(by rw [List.length_drop];omega):=by
 have e:off+(i:Int).toNat *1=off+i:=by omega
 rw [e,List.getElem_drop,gD',gE' (by omega)];rfl
theorem XZ(xs ys:List Int)(off k:Nat)(K:AVal→aD Ob→Prop)(ho:off+k=ys.length)(hp:xs.length≤4294967296)(hK:K (.bool (kK xs (ys.drop off))) [some (.ints (some .i64) xs),some (.ints (some .i64) ys)]):N3 xs ys off k K:=by
 have hd:(ys.drop off).length =k:=by rw [List.length_drop];omega
 have hS:kK xs (ys.drop off)=decide (xs=ys.drop off):=rfl
 refine aN (fun e=>?_) (fun e=>⟨aQ (H:=QB xs ys off k) (0:Nat) rfl ⟨Nat.zero_le _,?_,rfl⟩,?_⟩)
 ·rw [bX]at e
  have:xs≠ys.drop off:=by intro h;rw [h,hd]at e;simp at e
  rw [hS,decide_eq_false this]at hK;exact hK
 ·rw [bX]at e;simp at e;omega
 ·rintro i ⟨h1,h2,h3⟩
  refine aN (fun e1=>?_) (fun e1=>?_)
  ·rw [bP,dT']at e1
   have hi:i<xs.length:=by omega
   have hj:i<(ys.drop off).length :=by omega
   have e2:0+(i:Int).toNat *1=i:=by omega
   rw [e2,zO ho (show i<k by omega)]
   refine⟨by omega,hi,by omega,by omega,aN (fun e3=>?_) (fun e3=>?_)⟩
   ·rw [bX]at e3
    have:xs≠ys.drop off:=by
     intro h
     have:xs.getD i 0=(ys.drop off)[i]:=by rw [gD',gE' hi];simp only [h]<;>rfl
     rw [this]at e3;simp at e3
    rw [hS,decide_eq_false this]at hK;exact hK
   ·rw [bX]at e3
    have e3:xs.getD i 0=(ys.drop off)[i]:=by simpa using e3
    have e4:IntKind.wrap .i64 ((i:Int)+1)=((i+1:Nat):Int):=by rw [cG (by omega)];rfl
    refine aQ (H:=QB xs ys off k) (i+1:Nat) (by simp only [W,e4]<;>rfl) ⟨⟨hi,h2,?_⟩,by show xs.length - (i+1)<xs.length - i;omega⟩
    rw [gD',gE' hi]at e3
    rw [List.take_succ_eq_append_getElem hi,List.take_succ_eq_append_getElem hj,h3]
    have e5:xs[i]=(ys.drop off)[i]:=by simpa using e3
    rw [e5]
  ·rw [bP,dF']at e1
   have:xs=ys.drop off:=by
    rw [List.take_of_length_le (by omega),List.take_of_length_le (by omega)]at h3;exact h3
   rw [hS,decide_eq_true this]at hK;exact hK
def iofS:aM Ob:=fun args h=>match args,h with
 | [.slice 0 0 n 1,.slice 1 off k 1],[some (.ints (some .i64) xs),some (.ints (some .i64) ys)]=>some (.pre ((n=xs.length∧off+k=ys.length)∧n≤4294967296) (.ret (.bool (kK xs (ys.drop off))) [some (.ints (some .i64) xs),some (.ints (some .i64) ys)]))
 | _,_=>none
theorem XY:sT' 33 iofS:=by
 intro args h o ho K hK
 unfold iofS at ho
 split at ho<;>cases ho
 rename_i n off k xs ys
 obtain⟨⟨⟨rfl,hf⟩,hp⟩,hK⟩:=hK
 exact J2 xs ys off k K (XZ xs ys off k K hf hp hK)
theorem WY(sh t m:Int)(ys:List Int)(off k:Nat)(K:AVal→aD Ob→Prop)(ho:off+k=ys.length)(hm:0≤m∧m≤100)(hl:k≤100)(hr:gM t ((k:Int)+m)=true)(hk: ∀q∈ys.drop off,0≤q∧q<1024)
 (hK:K (.tup [.ptr 1 0,.agg [.int .i64 t,.int .i64 ((k:Int)+m)]]) [some (.ints (some .i64) ys),aZ 2 (f9 sh ((k:Int)+m) (ys.drop off) 4 0 (memN t ((k:Int)+m))),a9 (f9 sh ((k:Int)+m) (ys.drop off) 4 0 (memN t ((k:Int)+m)))]):HB sh t m ys off k K:=by
 have hd:(ys.drop off).length =k:=by rw [List.length_drop];omega
 unfold HB
 have hr2:=kV.1 hr
 have hn:W ((k:Int)+m)=k+m:=cG (by omega)
 have hr':gM t (W ((k:Int)+m))=true:=by rw [hn];exact hr
 have hz:(2*W ((k:Int)+m)+5*t+6).toNat =(2*((k:Int)+m)+5*t+6).toNat :=by rw [hn]
 rw [hr']
 refine⟨trivial,aN (fun e=>by cases e) (fun _=>⟨⟨by omega,by omega,by omega⟩,aN (fun e=>?_) (fun _=>⟨⟨⟨by omega,by omega,by omega⟩,trivial⟩,⟨by omega,rfl,by omega⟩,?_,?_⟩)⟩)⟩
 ·rw [bP,dT']at e;omega
 ·refine aQ (H:=uQ sh t m ys off k) ((0:Nat),memN t (W ((k:Int)+m))) ?_ ⟨Nat.zero_le _,⟨Int.le_refl 0,by show(0:Int)≤_;omega⟩,rfl⟩
  simp only [uQ,aZ,a9,memN,List.length_replicate]
  rfl
 ·rintro⟨h,s⟩ ⟨h4,hc,heq⟩
  simp only at h4 hc heq
  refine aN (fun e1=>?_) (fun e1=>?_)
  ·rw [bP,dT']at e1
   refine⟨⟨by omega,by omega,by omega⟩,aQ (H:=HFio sh t m ys off k (h:Int)) ((0:Nat),(W ((k:Int)+m)+1+h,((0:Int),((0:Int),s)))) rfl ⟨by omega,Nat.zero_le _,⟨Int.le_refl 0,by show(0:Int)<1024;omega⟩,⟨Int.le_refl 0,by show(0:Int)<262144;omega⟩,⟨hc.1,by show s.c≤1000*(h:Int)+3*((0:Nat):Int);omega⟩,?_⟩,?_⟩
   ·rw [heq,vM _ _ _ _ (by omega)];rfl
   ·rintro⟨i,a,ky,vr,s1⟩ ⟨g4,gi,gk,gv,gc,geq⟩
    simp only at g4 gi gk gv gc geq
    have gc2:s1.c≤1000*(h:Int)+3*i:=gc.2
    have gc1:0≤s1.c:=gc.1
    have gh:(h:Int)<4:=g4.2
    have hskip: ∀(hi:i<k),dY sh h (ys.getD (off+(i:Int).toNat *1) 0)=true→okSt (HFio sh t m ys off k h) (fun x'=>Hint.ok (HFio sh t m ys off k h) x'∧Hint.mu (HFio sh t m ys off k h) x'<Hint.mu (HFio sh t m ys off k h) (i,a,ky,vr,s1)) ((HFio sh t m ys off k h).st ((i+1:Nat),a,ky,vr,s1)).1 ((HFio sh t m ys off k h).st ((i+1:Nat),a,ky,vr,s1)).2:=by
     intro hi hs
     refine aQ (H:=HFio sh t m ys off k h) ((i+1:Nat),a,ky,vr,s1) rfl ⟨⟨g4,(by show i+1≤(ys.drop off).length;omega),gk,gv,⟨gc.1,by show s1.c≤1000*(h:Int)+3*((i+1:Nat):Int);omega⟩,?_⟩,by show k - (i+1)<k - i;omega⟩
     rw [zO ho hi]at hs
     rw [geq,List.drop_eq_getElem_cons (show i<(ys.drop off).length by omega),tK _ _ _ _ _ _ _ _ _ _ hs];rfl
    have hput: ∀(hi:i<k),dY sh h (ys.getD (off+(i:Int).toNat *1) 0)=false→okSt (HFio sh t m ys off k h) (fun x'=>Hint.ok (HFio sh t m ys off k h) x'∧Hint.mu (HFio sh t m ys off k h) x'<Hint.mu (HFio sh t m ys off k h) (i,a,ky,vr,s1)) ((HFio sh t m ys off k h).st ((i+1:Nat),((i+1:Nat):Int),(ys.getD (off+(i:Int).toNat *1) 0,(3:Int),((s1.stored a (aV ky ((i:Int)+1) false 0 vr)).stored (W ((k:Int)+m)+4+((i:Int)+1)) 1)))).1 ((HFio sh t m ys off k h).st ((i+1:Nat),((i+1:Nat):Int),(ys.getD (off+(i:Int).toNat *1) 0,(3:Int),((s1.stored a (aV ky ((i:Int)+1) false 0 vr)).stored (W ((k:Int)+m)+4+((i:Int)+1)) 1)))).2:=by
     intro hi hs
     rw [zO ho hi]at hs⊢
     refine aQ (H:=HFio sh t m ys off k h) _ rfl ⟨⟨g4,(by show i+1≤(ys.drop off).length;omega),hk _ (List.getElem_mem _),⟨by show(0:Int)≤3;omega,by show(3:Int)<262144;omega⟩,⟨?_,?_⟩,?_⟩,by show k - (i+1)<k - i;omega⟩
     ·show 0≤s1.c+1+1;omega
     ·show s1.c+1+1≤1000*(h:Int)+3*((i+1:Nat):Int);omega
     ·rw [geq,List.drop_eq_getElem_cons (show i<(ys.drop off).length by omega),tL _ _ _ _ _ _ _ _ _ _ hs];rfl
    have e4:i<k→W ((i:Int)+1)=((i+1:Nat):Int):=fun hi=>(cG (by omega)).trans rfl
    have e4':W ((h:Int)+1)=((h+1:Nat):Int):=(cG (by have:(h:Int)<4:=g4.2;omega)).trans rfl
    refine aN (fun e2=>?_) (fun e2=>?_)
    ·rw [bP,dT']at e2
     have hi:i<k:=by omega
     have e4:=e4 hi
     have e0:off+(i:Int).toNat *1<ys.length:=by omega
     refine⟨⟨by omega,by omega⟩,e0,?_⟩
     have hput:=hput hi
     have hskip:=hskip hi
     unfold dY at hput hskip
     simp only [e4]at hput hskip⊢
     refine aN (fun e5=>?_) (fun e5=>?_)
     ·rw [e5]at hput hskip
      refine⟨by decide,aN (fun e6=>?_) (fun e6=>?_)⟩
      ·exact hskip e6
      ·rw [e5]
       refine aN (fun e7=>by cases e7) (fun _=>?_)
       refine⟨⟨gk,⟨by omega,by omega⟩,⟨by decide,by decide⟩,gv⟩,⟨trivial,gc.1,by omega⟩,⟨⟨by omega,by omega⟩,⟨by omega,by omega⟩,by omega,by omega⟩,⟨trivial,by omega,by omega⟩,?_⟩
       exact hput e6
     ·rw [e5]at hput hskip
      rw [e5]
      refine aN (fun _=>aN (fun e6=>?_) (fun e6=>?_)) (fun e7=>by cases e7)
      ·exact hskip e6
      ·refine⟨⟨gk,⟨by omega,by omega⟩,⟨by decide,by decide⟩,gv⟩,⟨trivial,gc.1,by omega⟩,⟨⟨by omega,by omega⟩,⟨by omega,by omega⟩,by omega,by omega⟩,⟨trivial,by omega,by omega⟩,?_⟩
       exact hput e6
    ·rw [bP,dF']at e2
     have hi:i=k:=by omega
     refine⟨⟨gk,⟨by decide,by decide⟩,⟨by decide,by decide⟩,gv⟩,⟨rfl,gc1,by show s1.c≤4611686018427387904;omega⟩,aQ (H:=uQ sh t m ys off k) ((h+1:Nat),s1.stored a (aV ky 0 false 0 vr)) ?_ ⟨⟨by show h+1≤4;omega,⟨by show 0≤s1.c+1;omega,by show s1.c+1≤1000*((h+1:Nat):Int);omega⟩,?_⟩,by show 4 - (h+1)<4 - h;omega⟩⟩
     ·simp only [uQ,←e4']
      rfl
     ·rw [geq,show(ys.drop off).drop i=[]from List.drop_eq_nil_of_le (by omega)]
      have e9:(3 - (h:Int)).toNat =4 - (h+1):=by omega
      rw [e9];rfl
  ·rw [bP,dF']at e1
   have e5:h=4:=by omega
   subst e5
   have heq':f9 sh (W ((k:Int)+m)) (ys.drop off) 4 0 (memN t (W ((k:Int)+m)))=s:=heq
   rw [hn]at heq'
   rw [heq']at hK
   rw [hn]
   exact hK
def fillSo:aM Ob:=fun args h=>match args,h with
 | [.int .i64 sh,.int .i64 t,.int .i64 m,.slice 0 off k 1],[some (.ints (some .i64) ys)]=>some (.pre (off+k=ys.length∧sH t m (ys.drop off)) (.ret (.tup [.ptr 1 0,.agg [.int .i64 t,.int .i64 (k+m)]]) [some (.ints (some .i64) ys),aZ 2 (bO sh t (k+m) (ys.drop off)),a9 (bO sh t (k+m) (ys.drop off))]))
 | _,_=>none
theorem NE:sT' 15 fillSo:=by
 intro args h o ho K hK
 unfold fillSo at ho
 split at ho<;>cases ho
 rename_i sh t m off k ys
 obtain⟨⟨hf,ok⟩,hK⟩:=hK
 have hd:(ys.drop off).length =k:=by rw [List.length_drop];omega
 exact JC sh t m ys off k K (WY sh t m ys off k K hf ok.hm (by rw [←hd];exact ok.hl) (by rw [←hd];exact ok.hr) ok.hk hK)
noncomputable def EW2:=((EW1).addS 33 iofS XY).addS 15 (aM.or fillSo fillSb) (aCN NE B2)
def aw17S:aM Ob:=fun args h=>match args,h with
 | [],[]=>some (.pre True (.ret (.bool true) ([])))
 | _,_=>none
def zG(K:AVal→aD Ob→Prop):Prop:=sH 2 3 []∧GV 2 3 0 1 3 5∧(lE' (bO 1 2 3 []).3∧((0:Int)≤(9:Int)∧(9:Int)≤(1000000:Int))∧A6 2 3 9 (anNF 2 3 0 1 3 5) (bO 1 2 3 []))∧bif (Prod.snd (cY 2 3 9 (anNF 2 3 0 1 3 5) (bO 1 2 3 []))).1 then bif !ieq (Prod.fst (Prod.snd (cY 2 3 9 (anNF 2 3 0 1 3 5) (bO 1 2 3 []))).2).1 1 then K (.bool false) []else True∧(0=0∧tR 2 3 0 (Prod.fst (Prod.snd (cY 2 3 9 (anNF 2 3 0 1 3 5) (bO 1 2 3 []))).2).1 2 {me:=1,sp:=0,R:=[] })∧((lE' (Prod.snd (Prod.snd (cY 2 3 9 (anNF 2 3 0 1 3 5) (bO 1 2 3 []))).2).3∧lE' (Prod.snd (hpNF 2 3 0 (Prod.fst (Prod.snd (cY 2 3 9 (anNF 2 3 0 1 3 5) (bO 1 2 3 []))).2).1 2 {me:=1,sp:=0,R:=[] })).3∧(2:Int)=(2:Int)∧(3:Int)=(3:Int))∧((0:Int)≤(20:Int)∧(20:Int)≤(1000000:Int))∧tS 2 3 20 (hpNF 2 3 0 (Prod.fst (Prod.snd (cY 2 3 9 (anNF 2 3 0 1 3 5) (bO 1 2 3 []))).2).1 2 {me:=1,sp:=0,R:=[] }).1 (hpNF 2 3 0 (Prod.fst (Prod.snd (cY 2 3 9 (anNF 2 3 0 1 3 5) (bO 1 2 3 []))).2).1 2 {me:=1,sp:=0,R:=[] }).2 (Prod.snd (cY 2 3 9 (anNF 2 3 0 1 3 5) (bO 1 2 3 []))).2.2)∧bif (Prod.snd (cL 2 3 20 (hpNF 2 3 0 (Prod.fst (Prod.snd (cY 2 3 9 (anNF 2 3 0 1 3 5) (bO 1 2 3 []))).2).1 2 {me:=1,sp:=0,R:=[] }).1 (hpNF 2 3 0 (Prod.fst (Prod.snd (cY 2 3 9 (anNF 2 3 0 1 3 5) (bO 1 2 3 []))).2).1 2 {me:=1,sp:=0,R:=[] }).2 (Prod.snd (cY 2 3 9 (anNF 2 3 0 1 3 5) (bO 1 2 3 []))).2.2)).1 then bif ieq (↑(cL 2 3 20 (hpNF 2 3 0 (Prod.fst (Prod.snd (cY 2 3 9 (anNF 2 3 0 1 3 5) (bO 1 2 3 []))).2).1 2 {me:=1,sp:=0,R:=[] }).1 (hpNF 2 3 0 (Prod.fst (Prod.snd (cY 2 3 9 (anNF 2 3 0 1 3 5) (bO 1 2 3 []))).2).1 2 {me:=1,sp:=0,R:=[] }).2 (Prod.snd (cY 2 3 9 (anNF 2 3 0 1 3 5) (bO 1 2 3 []))).2.2).1:Int) 6 then bif ieq (Prod.fst (Prod.snd (cL 2 3 20 (hpNF 2 3 0 (Prod.fst (Prod.snd (cY 2 3 9 (anNF 2 3 0 1 3 5) (bO 1 2 3 []))).2).1 2 {me:=1,sp:=0,R:=[] }).1 (hpNF 2 3 0 (Prod.fst (Prod.snd (cY 2 3 9 (anNF 2 3 0 1 3 5) (bO 1 2 3 []))).2).1 2 {me:=1,sp:=0,R:=[] }).2 (Prod.snd (cY 2 3 9 (anNF 2 3 0 1 3 5) (bO 1 2 3 []))).2.2)).2).3 2 then(((0:Int)≤(2:Int)∧(2:Int)≤(100000:Int))∧((0:Int)≤(3:Int)∧(3:Int)≤(100000:Int))∧(-1099511627776:Int)≤(0:Int)∧(0:Int)≤(1099511627776:Int))∧(lE' (Prod.snd (Prod.snd (cL 2 3 20 (hpNF 2 3 0 (Prod.fst (Prod.snd (cY 2 3 9 (anNF 2 3 0 1 3 5) (bO 1 2 3 []))).2).1 2 {me:=1,sp:=0,R:=[] }).1 (hpNF 2 3 0 (Prod.fst (Prod.snd (cY 2 3 9 (anNF 2 3 0 1 3 5) (bO 1 2 3 []))).2).1 2 {me:=1,sp:=0,R:=[] }).2 (Prod.snd (cY 2 3 9 (anNF 2 3 0 1 3 5) (bO 1 2 3 []))).2.2).2).2).3∧True)∧True∧K (.bool (bif ieq (aA (aB (Prod.snd (Prod.snd (cL 2 3 20 (hpNF 2 3 0 (Prod.fst (Prod.snd (cY 2 3 9 (anNF 2 3 0 1 3 5) (bO 1 2 3 []))).2).1 2 {me:=1,sp:=0,R:=[] }).1 (hpNF 2 3 0 (Prod.fst (Prod.snd (cY 2 3 9 (anNF 2 3 0 1 3 5) (bO 1 2 3 []))).2).1 2 {me:=1,sp:=0,R:=[] }).2 (Prod.snd (cY 2 3 9 (anNF 2 3 0 1 3 5) (bO 1 2 3 []))).2.2).2).2).3 (2*3+5+2*2+3*0+2)) 0 12) 1 then bif ieq (aA (aB (Prod.snd (Prod.snd (cL 2 3 20 (hpNF 2 3 0 (Prod.fst (Prod.snd (cY 2 3 9 (anNF 2 3 0 1 3 5) (bO 1 2 3 []))).2).1 2 {me:=1,sp:=0,R:=[] }).1 (hpNF 2 3 0 (Prod.fst (Prod.snd (cY 2 3 9 (anNF 2 3 0 1 3 5) (bO 1 2 3 []))).2).1 2 {me:=1,sp:=0,R:=[] }).2 (Prod.snd (cY 2 3 9 (anNF 2 3 0 1 3 5) (bO 1 2 3 []))).2.2).2).2).3 (2*3+5+2*2+3*0+2)) 12 9) 0 then bif ieq (aA (aB (Prod.snd (Prod.snd (cL 2 3 20 (hpNF 2 3 0 (Prod.fst (Prod.snd (cY 2 3 9 (anNF 2 3 0 1 3 5) (bO 1 2 3 []))).2).1 2 {me:=1,sp:=0,R:=[] }).1 (hpNF 2 3 0 (Prod.fst (Prod.snd (cY 2 3 9 (anNF 2 3 0 1 3 5) (bO 1 2 3 []))).2).1 2 {me:=1,sp:=0,R:=[] }).2 (Prod.snd (cY 2 3 9 (anNF 2 3 0 1 3 5) (bO 1 2 3 []))).2.2).2).2).3 (2*3+5+2*2+3*0+2)) 21 18) 0 then bif ieq (aA (aB (Prod.snd (Prod.snd (cL 2 3 20 (hpNF 2 3 0 (Prod.fst (Prod.snd (cY 2 3 9 (anNF 2 3 0 1 3 5) (bO 1 2 3 []))).2).1 2 {me:=1,sp:=0,R:=[] }).1 (hpNF 2 3 0 (Prod.fst (Prod.snd (cY 2 3 9 (anNF 2 3 0 1 3 5) (bO 1 2 3 []))).2).1 2 {me:=1,sp:=0,R:=[] }).2 (Prod.snd (cY 2 3 9 (anNF 2 3 0 1 3 5) (bO 1 2 3 []))).2.2).2).2).3 (2*3+5+2*2+3*0+2)) 39 9) 0 then bif !ieq (aA (aB (Prod.snd (Prod.snd (cL 2 3 20 (hpNF 2 3 0 (Prod.fst (Prod.snd (cY 2 3 9 (anNF 2 3 0 1 3 5) (bO 1 2 3 []))).2).1 2 {me:=1,sp:=0,R:=[] }).1 (hpNF 2 3 0 (Prod.fst (Prod.snd (cY 2 3 9 (anNF 2 3 0 1 3 5) (bO 1 2 3 []))).2).1 2 {me:=1,sp:=0,R:=[] }).2 (Prod.snd (cY 2 3 9 (anNF 2 3 0 1 3 5) (bO 1 2 3 []))).2.2).2).2).3 (2*3+5+2*2+3*0+2)) 48 1) 1 then bif ieq (aA (aB (Prod.snd (Prod.snd (cL 2 3 20 (hpNF 2 3 0 (Prod.fst (Prod.snd (cY 2 3 9 (anNF 2 3 0 1 3 5) (bO 1 2 3 []))).2).1 2 {me:=1,sp:=0,R:=[] }).1 (hpNF 2 3 0 (Prod.fst (Prod.snd (cY 2 3 9 (anNF 2 3 0 1 3 5) (bO 1 2 3 []))).2).1 2 {me:=1,sp:=0,R:=[] }).2 (Prod.snd (cY 2 3 9 (anNF 2 3 0 1 3 5) (bO 1 2 3 []))).2.2).2).2).3 (2*3+5+2*2+3*0+2)) 49 3) 5 then bif ieq (aA (aB (Prod.snd (Prod.snd (cL 2 3 20 (hpNF 2 3 0 (Prod.fst (Prod.snd (cY 2 3 9 (anNF 2 3 0 1 3 5) (bO 1 2 3 []))).2).1 2 {me:=1,sp:=0,R:=[] }).1 (hpNF 2 3 0 (Prod.fst (Prod.snd (cY 2 3 9 (anNF 2 3 0 1 3 5) (bO 1 2 3 []))).2).1 2 {me:=1,sp:=0,R:=[] }).2 (Prod.snd (cY 2 3 9 (anNF 2 3 0 1 3 5) (bO 1 2 3 []))).2.2).2).2).3 (2*3+5+2*2+3*0+2)) 52 10) 0 then true else false else false else false else false else false else false else false)) []else K (.bool false) []else K (.bool false) []else bif ieq (↑(cL 2 3 20 (hpNF 2 3 0 (Prod.fst (Prod.snd (cY 2 3 9 (anNF 2 3 0 1 3 5) (bO 1 2 3 []))).2).1 2 {me:=1,sp:=0,R:=[] }).1 (hpNF 2 3 0 (Prod.fst (Prod.snd (cY 2 3 9 (anNF 2 3 0 1 3 5) (bO 1 2 3 []))).2).1 2 {me:=1,sp:=0,R:=[] }).2 (Prod.snd (cY 2 3 9 (anNF 2 3 0 1 3 5) (bO 1 2 3 []))).2.2).1:Int) 6 then K (.bool false) []else K (.bool false) []else K (.bool false) []
theorem D0(K:AVal→aD Ob→Prop)(h:zG K):cT' 41 [] [] K:=by
 refine aCu (cM' (E:=EF3) (by kernel_rfl) h)
theorem QQ(K:AVal→aD Ob→Prop)(hK:K (.bool true) []):zG K:=by
 unfold zG
 refine⟨⟨by decide,by decide,by kernel_rfl,fun k hk=>by cases hk⟩,?_⟩
 with_unfolding_all repeat' (first | exact hK | trivial | decide | apply And.intro | intro _)
theorem QP:sT' 41 aw17S:=by
 intro args h o ho K hK
 unfold aw17S at ho
 split at ho
 case h_2=>cases ho
 simp only [sI']at ho;subst ho
 obtain⟨_,hK⟩:=hK
 exact D0 K (QQ K hK)
noncomputable def EM0:=EW2.addS 41 aw17S QP
def PB(k:Int)(m:Nat)(f g:Nat→Int)(K:AVal→aD Ob→Prop):Prop:=okSt (QC k m f g) (Hint.ok (QC k m f g)) [.int .i64 k,.O,.O,.O,.O,.O,.O,.view m 2 fun i=>[.int .i64 (f i),.int .i64 (g i)],.int .i64 (↑m:Int),.int .i64 0,.O,.O,.O,.O,.O,.O,.O,.O] []∧ ∀(x:Nat),(x≤m∧ ∀(j:Nat),j<x→b9 k (f j) (g j)=true)→bif ilt (↑x:Int) (↑m:Int)then((0:Int)≤(↑x:Int)∧(↑x:Int)<(↑m:Int))∧True∧bif !b9 k (f (Int.toNat (↑x:Int))) (g (Int.toNat (↑x:Int)))then K (.bool false) []else okSt (QC k m f g) (fun x'=>Hint.ok (QC k m f g) x'∧Hint.mu (QC k m f g) x'<Hint.mu (QC k m f g) x) [.int .i64 k,.O,.O,.O,.O,.O,.O,.view m 2 fun i=>[.int .i64 (f i),.int .i64 (g i)],.int .i64 (↑m:Int),.int .i64 (W ((↑x:Int)+1)),.O,.O,.O,.O,.O,.O,.O,.O] []else K (.bool true) []
theorem KW(k:Int)(m:Nat)(f g:Nat→Int)(K:AVal→aD Ob→Prop)(h:PB k m f g K):cT' 42 [.int .i64 k,.view m 2 (fun i=>[.int .i64 (f i),.int .i64 (g i)])] [] K:=by
 refine aCu (aE (E:=EM0) Tryz.checked.mixed (L:=(fun _ _=>some (.states (QC k m f g)))) (n:=10) (aR (by kernel_rfl) h))
theorem YY(k:Int)(m:Nat)(f g:Nat→Int)(K:AVal→aD Ob→Prop)(hm:m≤4611686018427387904)(hK:K (.bool (lI k m f g)) []):PB k m f g K:=by
 refine⟨aQ (H:=QC k m f g) (0:Nat) rfl ⟨Nat.zero_le _,fun j hj=>by omega⟩,?_⟩
 rintro x ⟨hx,hj⟩
 refine aN (fun e=>?_) (fun e=>?_)
 ·rw [bP,dT']at e
  refine⟨⟨by omega,by omega⟩,trivial,aN (fun e2=>?_) (fun e2=>?_)⟩
  ·have hf:lI k m f g=false:=by
    cases h:lI k m f g with
    | false=>rfl
    | true=>
      have:=pY.1 h x (by omega)
      rw [Int.toNat_natCast]at e2
      rw [this]at e2;cases e2
   rw [hf]at hK;exact hK
  ·have e4:W ((x:Int)+1)=((x+1:Nat):Int):=by rw [W,cG (by omega)];rfl
   refine aQ (H:=QC k m f g) (x+1:Nat) (by simp only [e4]<;>rfl) ⟨⟨by show x+1≤m;omega,?_⟩,by show m - (x+1)<m - x;omega⟩
   intro j hj2
   by_cases hjx:j=x
   ·subst hjx
    rw [Int.toNat_natCast]at e2
    simpa using e2
   ·exact hj j (by omega)
 ·rw [bP,dF']at e
  have ht:lI k m f g=true:=pY.2 fun j hj3=>hj j (by omega)
  rw [ht]at hK;exact hK
def rihS:aM Ob:=fun args h=>match args,h with
 | [.int .i64 k,.view m 2 row],[]=>some (.pre (m≤4611686018427387904∧d7 row) (.ret (.bool (lI k m (rK row) (rY row))) []))
 | _,_=>none
theorem YX:sT' 42 rihS:=by
 intro args h o ho K hK
 unfold rihS at ho
 split at ho<;>cases ho
 rename_i k m row
 obtain⟨⟨hm,⟨hr⟩⟩,hK⟩:=hK
 have hK:K (.bool (lI k m (rK row) (rY row))) []:=hK
 rw [hr]
 exact KW k m (rK row) (rY row) K (YY k m (rK row) (rY row) K hm hK)
def hpNSA:aM Ob:=fun args h=>match args,h with
 | [.ptr 0 0,.int .i64 u,.int .u64 no,.int .i64 lim],[some (.abs (.store t n st) [])]=>some (.pre (tR t n u no lim st) (.ret (.ptr 1 0) [some (.abs (.store t n (hpNF t n u no lim st).2) []),some (.abs (.help t n (hpNF t n u no lim st).1) [0])]))
 | _,_=>none
theorem R8:sT' 46 hpNSA:=by
 intro args h o ho K hK
 unfold hpNSA at ho
 split at ho<;>cases ho
 rename_i u no lim t n st
 obtain⟨ok,hK⟩:=hK
 refine aC.pack (tb:=tbl) (aC.unpack (tb:=tbl) (Mc.store t n st) 0 0 (iZ t n st) [] rfl rfl rfl rfl ?_)
 refine FA [.ptr 0 0,.int .i64 u,.int .u64 no,.int .i64 lim] [stC 1 t n st,mM st] _ rfl _ ⟨⟨rfl,ok⟩,⟨[0,2,1],[some (.abs (.store t n (hpNF t n u no lim st).2) []),some (.abs (.help t n (hpNF t n u no lim st).1) [0])],.store t n (hpNF t n u no lim st).2,0,0,iZ t n (hpNF t n u no lim st).2,[],by kernel_rfl,by kernel_rfl,rfl,rfl,hK⟩⟩
noncomputable def EM1:=(EM0.addS 42 rihS YX).addS 46 (aM.or hpNSA hpNS) (aCN R8 FA)
def kH(sh:Int):Int:=IntKind.wrap .i64 (1+Int.tmod (IntKind.wrap .i64 sh) 4)
def nB(m:Nat):Nat:=Int.toNat (IntKind.wrap .i64 ((m:Int) - 1))
def iH(sh:Int)(m:Nat)(f g:Nat→Int):List Int:=aT (kH sh) f g (nB m)
def dH(sh:Int)(m:Nat)(f g:Nat→Int):List Int:=List.drop (eG (kH sh) f g (nB m)) (fE (kH sh) f g (nB m))
def lH(sh:Int)(m:Nat)(f g:Nat→Int):Int:=((iH sh m f g).length :Int)
def aH(sh:Int)(m:Nat)(f g:Nat→Int):Nat×Bool×ANS×MS:=cY 2 (lH sh m f g+2) 9 (anNF 2 (lH sh m f g+2) 0 (kH sh) (f (nB m)) (g (nB m))) (bO (kH sh) 2 (lH sh m f g+2) (dH sh m f g))
def mHs(sh:Int)(m:Nat)(f g:Nat→Int):MS:=(aH sh m f g).2.2.2
def bH(sh:Int)(m:Nat)(f g:Nat→Int):MS:= {t:=(mHs sh m f g).1,n:=(mHs sh m f g).2,xs:=aJ (aJ (mHs sh m f g).3 (lH sh m f g+2+4+IntKind.wrap .i64 (lH sh m f g+1)) 1) (lH sh m f g+2+4+IntKind.wrap .i64 (lH sh m f g+2)) 1,c:=(mHs sh m f g).4+1+1,k:=2,a:=lH sh m f g+2+4+IntKind.wrap .i64 (lH sh m f g+2),o:=aB (aJ (mHs sh m f g).3 (lH sh m f g+2+4+IntKind.wrap .i64 (lH sh m f g+1)) 1) (lH sh m f g+2+4+IntKind.wrap .i64 (lH sh m f g+2)),w:=bif bN (aJ (mHs sh m f g).3 (lH sh m f g+2+4+IntKind.wrap .i64 (lH sh m f g+1)) 1) (lH sh m f g+2+4+IntKind.wrap .i64 (lH sh m f g+2))then 1 else 0,ok:=bN (aJ (mHs sh m f g).3 (lH sh m f g+2+4+IntKind.wrap .i64 (lH sh m f g+1)) 1) (lH sh m f g+2+4+IntKind.wrap .i64 (lH sh m f g+2)) }
def xH(sh:Int)(m:Nat)(f g:Nat→Int)(lim:Int):HPS×STS:=hpNF 2 (lH sh m f g+2) 0 (aH sh m f g).2.2.1.no (Int.tmod (IntKind.wrap .i64 lim) 8) ⟨1,0,[]⟩
def rH(sh:Int)(m:Nat)(f g:Nat→Int)(lim:Int):Nat×Bool×HPS×STS×MS:=cL 2 (lH sh m f g+2) 3000 (xH sh m f g lim).1 (xH sh m f g lim).2 (bH sh m f g)
def eH(sh:Int)(m:Nat)(f g:Nat→Int)(lim:Int):MS:=(rH sh m f g lim).2.2.2.2
def wH(sh:Int)(m:Nat)(f g:Nat→Int)(lim:Int):AwO:=awF 2 (lH sh m f g+2) (awNF 2 (lH sh m f g+2) 0) (eH sh m f g lim)
def HS(sh:Int)(m:Nat)(f g:Nat→Int)(lim:Int)(K:AVal→aD Ob→Prop):Prop:=True∧(4:Int)≠(0:Int)∧bif ieq (↑m:Int) 0 then K (.bool true) []else bif ilt 13 (↑m:Int)then K (.bool true) []else(m≤(4611686018427387904:Nat)∧d7 fun i=>[.int .i64 (f i),.int .i64 (g i)])∧bif !lI (kH sh) m f g then K (.bool true) []else((0:Int)≤W ((↑m:Int) - 1)∧nB m≤m)∧((0:Int)≤W ((↑m:Int) - 1)∧W ((↑m:Int) - 1)<(↑m:Int))∧(nB m≤(1000000:Nat)∧d7 fun i=>[.int .i64 (f i),.int .i64 (g i)])∧(eG (kH sh) f g (nB m)+List.length (iH sh m f g)=List.length (fE (kH sh) f g (nB m))∧sH 2 2 (dH sh m f g))∧GV 2 (lH sh m f g+2) 0 (kH sh) (f (nB m)) (g (nB m))∧(lE' (bO (kH sh) 2 (lH sh m f g+2) (dH sh m f g)).3∧((0:Int)≤(9:Int)∧(9:Int)≤(1000000:Int))∧A6 2 (lH sh m f g+2) 9 (anNF 2 (lH sh m f g+2) 0 (kH sh) (f (nB m)) (g (nB m))) (bO (kH sh) 2 (lH sh m f g+2) (dH sh m f g)))∧bif (Prod.snd (aH sh m f g)).1 then bif !ieq (Prod.fst (Prod.snd (aH sh m f g)).2).1 1 then K (.bool false) []else(((0:Int)≤(2:Int)∧(2:Int)≤(100000:Int))∧((0:Int)≤lH sh m f g+2∧lH sh m f g+(2:Int)≤(100000:Int))∧(-1099511627776:Int)≤W (lH sh m f g+1)∧W (lH sh m f g+1)≤(1099511627776:Int))∧(lE' (mHs sh m f g).3∧(0:Int)≤(mHs sh m f g).4∧(mHs sh m f g).4≤(4611686018427387904:Int))∧(((0:Int)≤(2:Int)∧(2:Int)≤(100000:Int))∧((0:Int)≤lH sh m f g+2∧lH sh m f g+(2:Int)≤(100000:Int))∧(-1099511627776:Int)≤W (lH sh m f g+2)∧W (lH sh m f g+2)≤(1099511627776:Int))∧(lE' (aJ (mHs sh m f g).3 (lH sh m f g+2+4+W (lH sh m f g+1)) 1)∧(0:Int)≤(mHs sh m f g).4+1∧(mHs sh m f g).4+(1:Int)≤(4611686018427387904:Int))∧True∧(8:Int)≠(0:Int)∧tR 2 (lH sh m f g+2) 0 (Prod.fst (Prod.snd (aH sh m f g)).2).1 (Int.tmod (W lim) 8) {me:=1,sp:=0,R:=[] } ∧((lE' (aJ (aJ (mHs sh m f g).3 (lH sh m f g+2+4+W (lH sh m f g+1)) 1) (lH sh m f g+2+4+W (lH sh m f g+2)) 1)∧(2:Int)=(2:Int)∧lH sh m f g+(2:Int)=lH sh m f g+2)∧((0:Int)≤(3000:Int)∧(3000:Int)≤(1000000:Int))∧tS 2 (lH sh m f g+2) 3000 (xH sh m f g lim).1 (xH sh m f g lim).2 (bH sh m f g))∧bif (Prod.snd (rH sh m f g lim)).1 then LU 2 (lH sh m f g+2) 0∧(lE' (eH sh m f g lim).3∧awOk 2 (lH sh m f g+2) (awNF 2 (lH sh m f g+2) 0) (eH sh m f g lim))∧bif (wH sh m f g lim).1 then bif ieq (f (nB m)) 1 then bif bif ieq (AwO.x (wH sh m f g lim)).1 4 then bif !(AwO.x (wH sh m f g lim)).2 then bif ieq (AwO.x (wH sh m f g lim)).3 0 then true else false else false else false then(lE' (AwO.s (wH sh m f g lim)).3∧(0:Int)≤lH sh m f g+2∧lH sh m f g+(2:Int)≤(100000:Int))∧((lE' (cN (AwO.s (wH sh m f g lim)).3 (lH sh m f g+2) (kH sh))∧eG (kH sh) f g (nB m)+List.length (iH sh m f g)=List.length (fE (kH sh) f g (nB m)))∧List.length (cN (AwO.s (wH sh m f g lim)).3 (lH sh m f g+2) (kH sh))≤(4294967296:Nat))∧K (.bool (kK (cN (AwO.s (wH sh m f g lim)).3 (lH sh m f g+2) (kH sh)) (dH sh m f g))) []else K (.bool false) []else bif ieq (f (nB m)) 4 then bif bif ieq (AwO.x (wH sh m f g lim)).1 4 then bif !(AwO.x (wH sh m f g lim)).2 then bif ieq (AwO.x (wH sh m f g lim)).3 0 then true else false else false else false then(lE' (AwO.s (wH sh m f g lim)).3∧(0:Int)≤lH sh m f g+2∧lH sh m f g+(2:Int)≤(100000:Int))∧((lE' (cN (AwO.s (wH sh m f g lim)).3 (lH sh m f g+2) (kH sh))∧eG (kH sh) f g (nB m)+List.length (iH sh m f g)=List.length (fE (kH sh) f g (nB m)))∧List.length (cN (AwO.s (wH sh m f g lim)).3 (lH sh m f g+2) (kH sh))≤(4294967296:Nat))∧K (.bool (kK (cN (AwO.s (wH sh m f g lim)).3 (lH sh m f g+2) (kH sh)) (dH sh m f g))) []else K (.bool false) []else((nB m≤(1000000:Nat)∧d7 fun i=>[.int .i64 (f i),.int .i64 (g i)])∧True)∧bif bif ieq (AwO.x (wH sh m f g lim)).1 0 then bif bif (AwO.x (wH sh m f g lim)).2 then resB (kH sh) f g (nB m) (f (nB m)) (g (nB m))else !resB (kH sh) f g (nB m) (f (nB m)) (g (nB m))then bif ieq (AwO.x (wH sh m f g lim)).3 (resV (kH sh) f g (nB m) (f (nB m)) (g (nB m)))then true else false else false else false then((lE' (AwO.s (wH sh m f g lim)).3∧(0:Int)≤lH sh m f g+2∧lH sh m f g+(2:Int)≤(100000:Int))∧True)∧((m≤(1000000:Nat)∧d7 fun i=>[.int .i64 (f i),.int .i64 (g i)])∧True)∧(((lE' (cN (AwO.s (wH sh m f g lim)).3 (lH sh m f g+2) (kH sh))∧eG (kH sh) f g m+List.length (aT (kH sh) f g m)=List.length (fE (kH sh) f g m))∧List.length (cN (AwO.s (wH sh m f g lim)).3 (lH sh m f g+2) (kH sh))≤(4294967296:Nat))∧True)∧K (.bool (kK (cN (AwO.s (wH sh m f g lim)).3 (lH sh m f g+2) (kH sh)) (List.drop (eG (kH sh) f g m) (fE (kH sh) f g m)))) []else K (.bool false) []else bif ieq (f (nB m)) 1 then bif bif ieq (AwO.x (wH sh m f g lim)).1 4 then bif !(AwO.x (wH sh m f g lim)).2 then bif ieq (AwO.x (wH sh m f g lim)).3 0 then true else false else false else false then(lE' (AwO.s (wH sh m f g lim)).3∧(0:Int)≤lH sh m f g+2∧lH sh m f g+(2:Int)≤(100000:Int))∧((lE' (cN (AwO.s (wH sh m f g lim)).3 (lH sh m f g+2) (kH sh))∧eG (kH sh) f g (nB m)+List.length (iH sh m f g)=List.length (fE (kH sh) f g (nB m)))∧List.length (cN (AwO.s (wH sh m f g lim)).3 (lH sh m f g+2) (kH sh))≤(4294967296:Nat))∧K (.bool (kK (cN (AwO.s (wH sh m f g lim)).3 (lH sh m f g+2) (kH sh)) (dH sh m f g))) []else K (.bool false) []else bif ieq (f (nB m)) 4 then bif bif ieq (AwO.x (wH sh m f g lim)).1 4 then bif !(AwO.x (wH sh m f g lim)).2 then bif ieq (AwO.x (wH sh m f g lim)).3 0 then true else false else false else false then(lE' (AwO.s (wH sh m f g lim)).3∧(0:Int)≤lH sh m f g+2∧lH sh m f g+(2:Int)≤(100000:Int))∧((lE' (cN (AwO.s (wH sh m f g lim)).3 (lH sh m f g+2) (kH sh))∧eG (kH sh) f g (nB m)+List.length (iH sh m f g)=List.length (fE (kH sh) f g (nB m)))∧List.length (cN (AwO.s (wH sh m f g lim)).3 (lH sh m f g+2) (kH sh))≤(4294967296:Nat))∧K (.bool (kK (cN (AwO.s (wH sh m f g lim)).3 (lH sh m f g+2) (kH sh)) (dH sh m f g))) []else K (.bool false) []else False else K (.bool false) []else K (.bool false) []
theorem J0(sh:Int)(m:Nat)(f g:Nat→Int)(lim:Int)(K:AVal→aD Ob→Prop)(h:HS sh m f g lim K):cT' 7 [.int .u8 sh,.view m 2 (fun i=>[.int .i64 (f i),.int .i64 (g i)]),.int .u8 lim] [] K:=by
 refine aCu (cM' (E:=EM1) (by kernel_rfl) h)
theorem nE'{P Q:Prop}(h:¬P:=by dsimp only;decide):P→Q:=fun e=>absurd e h
theorem aCL{X:Type}{K:X→Prop} : ∀ {t:Tr X},t.run K→t.ok
 | .ret x,k=>trivial
 | .ite b l r,k=>by cases b with
   | true=>exact aCL (t:=l) k
   | false=>exact aCL (t:=r) k
 | .pre p t,k=>⟨k.1,aCL (t:=t) k.2⟩
theorem aCM{X:Type}{K:X→Prop} : ∀ {t:Tr X},t.run K→K t.val
 | .ret x,k=>k
 | .ite b l r,k=>by cases b with
   | true=>exact aCM (t:=l) k
   | false=>exact aCM (t:=r) k
 | .pre p t,k=>aCM (t:=t) k.2
theorem Tr.run_ite{X:Type}{K:X→Prop}{b:Bool}{l r:Tr X}(h1:b=true→l.run K)(h2:b=false→r.run K):(Tr.ite b l r).run K:=aN h1 h2
theorem aCx{X:Type}{K:X→Prop}{b:Bool}{l r:Tr X}(h1:b=true→l.run K)(h2:b=false→r.run K):(bif b then l else r).run K:=by
 cases b with
 | true=>exact h1 rfl
 | false=>exact h2 rfl
theorem aCy{X:Type}{K:X→Prop}{p:Prop}{t:Tr X}(h1:p)(h2:t.run K):(Tr.pre p t).run K:=⟨h1,h2⟩
theorem aCz{X:Type}{K:X→Prop}{x:X}(h:K x):(Tr.ret x).run K:=h
structure rN (x:Int):Prop where
 h0:0≤x
 h1:x≤18446744073709551615
theorem PC:rN 0:=⟨by decide,by decide⟩
theorem F9(x:Int):rN (WU x):=⟨(DL x).1,(DL x).2⟩
theorem PE{xs:List Int}(h:okW xs)(a:Int):rN (aB xs a):=⟨(nR h a).1,(nR h a).2⟩
theorem H5{b:Bool}{x y:Int}(h1:b=true→rN x)(h2:rN y):rN (bif b then x else y):=by
 cases b with
 | true=>exact h1 rfl
 | false=>exact h2
theorem lB{n w:Int}(h:aI n w=true):0≤n∧n<2^w.toNat:=by
 unfold aI at h
 simp only [Bool.and_eq_true,cE,bP,dT']at h
 exact h
theorem LX(b:Bool):0≤bitI b∧bitI b≤1:=by cases b<;>decide
theorem PD{a b c d e f:Int}{m:Bool} :rN (bif dOk a b c d e f then bA a b c d m e f else 0):=by
 refine H5 (fun h=>?_) PC
 unfold dOk at h
 simp only [Bool.and_eq_true]at h
 obtain⟨h1,h2,h3,h4,h5,h6⟩:=h
 have h1:=lB h1
 have h2:=lB h2
 have h3:=lB h3
 have h4:=lB h4
 have h5:=lB h5
 have h6:=lB h6
 have hb:=LX m
 simp only [Int.reduceToNat,Int.reducePow]at h1 h2 h3 h4 h5 h6
 unfold bA
 exact⟨by omega,by omega⟩
theorem TL{a b c v:Int}{m:Bool} :rN (bif bif aI a 10 then bif aI b 9 then bif aI c 5 then aI v 18 else false else false else false then aV a b m c v else 0):=by
 refine H5 (fun h=>?_) PC
 cases h1:aI a 10 with
 | false=>rw [h1]at h;cases h
 | true=>
   cases h2:aI b 9 with
   | false=>rw [h1,h2]at h;cases h
   | true=>
     cases h3:aI c 5 with
     | false=>rw [h1,h2,h3]at h;cases h
     | true=>
       rw [h1,h2,h3]at h
       have h:=lB (show aI v 18=true from h)
       have h1:=lB h1
       have h2:=lB h2
       have h3:=lB h3
       have hb:=LX m
       simp only [Int.reduceToNat,Int.reducePow]at h h1 h2 h3
       unfold aV
       exact⟨by omega,by omega⟩
structure Act1 (s s':MS):Prop where
 c:s'.c=s.c+1
 len:s'.xs.length=s.xs.length
 w:okW s.xs→okW s'.xs
 t:s'.t=s.t
 n:s'.n=s.n
theorem A3(s:MS)(k a o w:Int)(ok:Bool):Act1 s ⟨s.t,s.n,s.xs,s.c+1,k,a,o,w,ok⟩:=⟨rfl,rfl,id,rfl,rfl⟩
theorem zC(s:MS)(b v k a o w:Int)(ok:Bool)(h:rN v):Act1 s ⟨s.t,s.n,aJ s.xs b v,s.c+1,k,a,o,w,ok⟩:=⟨rfl,bR _ _ _,fun hw=>dU hw ⟨h.h0,h.h1⟩,rfl,rfl⟩
theorem GO(s:MS)(q:Bool)(b v k a o w:Int)(ok:Bool)(h:rN v):Act1 s ⟨s.t,s.n,bif q then aJ s.xs b v else s.xs,s.c+1,k,a,o,w,ok⟩:=by
 cases q with
 | true=>exact zC s b v k a o w ok h
 | false=>exact A3 s k a o w ok
theorem Q7(x a:Int)(w:Int):0≤aA x a w∧aA x a w<2^w.toNat:=fX
structure tA (t n:Int) (s:MS):Prop where
 ht:1≤t∧t≤1000
 hn:1≤n∧n≤1000
 hc:0≤s.c∧s.c≤900000
 hw:okW s.xs
theorem rO{P:Prop}(h:P:=by(with_reducible first | exact PC | exact F9 _ | exact PD | exact TL | assumption)):P:=h
theorem BN{P:Prop}(h:P:=by(simp only [aA,Int.reduceToNat,Int.reducePow];omega)):P:=h
theorem bC{P:Prop}(h:P:=by(first
 | with_reducible exact trivial
 | with_reducible rfl
 | with_reducible assumption
 | with_reducible exact A3 _ _ _ _ _ _
 | ((with_reducible refine zC _ _ _ _ _ _ _ _ ?_);exact rO)
 | ((with_reducible refine GO _ _ _ _ _ _ _ _ _ ?_);exact rO)
 | omega
 | exact BN
 | decide)):P:=h
theorem wY{P:Prop}(h:P:=by first | exact rO | (exact PE (by assumption) _)):P:=h
theorem dR{P:Prop}(h:P:=by(dsimp only;first | omega | (constructor<;>omega) | exact BN)):P:=h
structure VW (t:Int) (x:CLS):Prop where
 h:x.at'=0∨x.at'=1∨x.at'=2∨x.at'=3
structure Z1 (t:Int) (s:MS) (o:ClO):Prop where
 a:Act1 s o.s
 w:o.d=false→VW t o.x
theorem UJ{t n:Int}{x:CLS}{s:MS}(hb:tA t n s)(hx:VW t x):(ZJ t n x s).run (Z1 t s):=by
 obtain⟨⟨t0,t1⟩,⟨n0,n1⟩,⟨c0,c1⟩,hw⟩:=hb
 obtain⟨h⟩:=hx
 unfold ZJ
 refine aCx (fun h0=>?_) (fun h0=>aCx (fun h1=>?_) (fun h1=>aCx (fun h2=>?_) (fun h2=>aCx (fun h3=>?_) (fun h3=>?_))))
 ·unfold BJ
  (repeat' (with_reducible first | exact trivial | rfl | assumption | refine aCy ?_ ?_ | refine Tr.run_ite (fun _=>?_) (fun _=>?_) | refine aCz ?_ | refine And.intro ?_ ?_))
  all_goals first | exact bC | (refine⟨by exact bC,fun hd=>?_⟩;first | (exact Bool.noConfusion hd) | exact⟨by dsimp only;decide⟩)
 ·unfold BK
  (repeat' (with_reducible first | exact trivial | rfl | assumption | refine aCy ?_ ?_ | refine Tr.run_ite (fun _=>?_) (fun _=>?_) | refine aCz ?_ | refine And.intro ?_ ?_))
  all_goals first | exact bC | (refine⟨by exact bC,fun hd=>?_⟩;first | (exact Bool.noConfusion hd) | exact⟨by dsimp only;decide⟩)
 ·unfold BL
  (repeat' (with_reducible first | exact trivial | rfl | assumption | refine aCy ?_ ?_ | refine Tr.run_ite (fun _=>?_) (fun _=>?_) | refine aCz ?_ | refine And.intro ?_ ?_))
  all_goals first | exact bC | (refine⟨by exact bC,fun hd=>?_⟩;first | (exact Bool.noConfusion hd) | exact⟨by dsimp only;decide⟩)
 ·unfold BM
  (repeat' (with_reducible first | exact trivial | rfl | assumption | refine aCy ?_ ?_ | refine Tr.run_ite (fun _=>?_) (fun _=>?_) | refine aCz ?_ | refine And.intro ?_ ?_))
  all_goals first | exact bC | (refine⟨by exact bC,fun hd=>?_⟩;first | (exact Bool.noConfusion hd) | exact⟨by dsimp only;decide⟩)
 ·simp only [bX,beq_eq_false_iff_ne]at h0 h1 h2 h3
  rcases h with e | e | e | e<;>contradiction
theorem L3{t n:Int}{x:CLS}{s:MS}(hb:tA t n s)(hx:VW t x):Q1 t n x s:=aCL (UJ hb hx)
theorem D5{t n:Int}{x:CLS}{s:MS}(hb:tA t n s)(hx:VW t x):Z1 t s (gE t n x s):=aCM (UJ hb hx)
structure anW (t:Int) (x:ANS):Prop where
 h:x.at'=0∨x.at'=1∨x.at'=2∨x.at'=3∨x.at'=4
 m:0≤x.me∧x.me≤1000
 b:rN x.bits
 q:rN x.no
structure aBd (t:Int) (s:MS) (o:AnO):Prop where
 a:Act1 s o.s
 w:o.d=false→anW t o.x
theorem ZW{t n:Int}{x:ANS}{s:MS}(hb:tA t n s)(hx:anW t x):(LR t n x s).run (aBd t s):=by
 obtain⟨⟨t0,t1⟩,⟨n0,n1⟩,⟨c0,c1⟩,hw⟩:=hb
 obtain⟨h,⟨m0,m1⟩,b,q⟩:=hx
 unfold LR
 refine aCx (fun h0=>?_) (fun h0=>aCx (fun h1=>?_) (fun h1=>aCx (fun h2=>?_) (fun h2=>aCx (fun h3=>?_) (fun h3=>aCx (fun h4=>?_) (fun h4=>?_)))))
 ·unfold A8
  (repeat' (with_reducible first | exact trivial | rfl | assumption | refine aCy ?_ ?_ | refine Tr.run_ite (fun _=>?_) (fun _=>?_) | refine aCz ?_ | refine And.intro ?_ ?_))
  all_goals first | exact bC | (refine⟨by exact bC,fun hd=>?_⟩;first | (exact Bool.noConfusion hd) | exact⟨by dsimp only;decide,⟨m0,m1⟩,by assumption,by exact wY⟩)
 ·unfold A9
  (repeat' (with_reducible first | exact trivial | rfl | assumption | refine aCy ?_ ?_ | refine Tr.run_ite (fun _=>?_) (fun _=>?_) | refine aCz ?_ | refine And.intro ?_ ?_))
  all_goals first | exact bC | (refine⟨by exact bC,fun hd=>?_⟩;first | (exact Bool.noConfusion hd) | exact⟨by dsimp only;decide,⟨m0,m1⟩,by assumption,by exact wY⟩)
 ·unfold BA
  (repeat' (with_reducible first | exact trivial | rfl | assumption | refine aCy ?_ ?_ | refine Tr.run_ite (fun _=>?_) (fun _=>?_) | refine aCz ?_ | refine And.intro ?_ ?_))
  all_goals first | exact bC | (refine⟨by exact bC,fun hd=>?_⟩;first | (exact Bool.noConfusion hd) | exact⟨by dsimp only;decide,⟨m0,m1⟩,by assumption,by exact wY⟩)
 ·unfold BB
  (repeat' (with_reducible first | exact trivial | rfl | assumption | refine aCy ?_ ?_ | refine Tr.run_ite (fun _=>?_) (fun _=>?_) | refine aCz ?_ | refine And.intro ?_ ?_))
  all_goals first | exact bC | (refine⟨by exact bC,fun hd=>?_⟩;first | (exact Bool.noConfusion hd) | exact⟨by dsimp only;decide,⟨m0,m1⟩,by assumption,by exact wY⟩)
 ·unfold u3
  (repeat' (with_reducible first | exact trivial | rfl | assumption | refine aCy ?_ ?_ | refine Tr.run_ite (fun _=>?_) (fun _=>?_) | refine aCz ?_ | refine And.intro ?_ ?_))
  all_goals first | exact bC | (refine⟨by exact bC,fun hd=>?_⟩;first | (exact Bool.noConfusion hd) | exact⟨by dsimp only;decide,⟨m0,m1⟩,by assumption,by exact wY⟩)
 ·simp only [bX,beq_eq_false_iff_ne]at h0 h1 h2 h3 h4
  rcases h with e | e | e | e | e<;>contradiction
theorem u4{t n:Int}{x:ANS}{s:MS}(hb:tA t n s)(hx:anW t x):LQ t n x s:=aCL (ZW hb hx)
structure awW (t:Int) (x:AWS):Prop where
 m:0≤x.me∧x.me≤1000
structure aBl (t:Int) (s:MS) (o:AwO):Prop where
 a:Act1 s o.s
 w:o.d=false→awW t o.x
theorem Z0{t n:Int}{x:AWS}{s:MS}(hb:tA t n s)(hx:awW t x):(ZI t n x s).run (aBl t s):=by
 obtain⟨⟨t0,t1⟩,⟨n0,n1⟩,⟨c0,c1⟩,hw⟩:=hb
 obtain⟨⟨m0,m1⟩⟩:=hx
 unfold ZI
 unfold QU
 (repeat' (with_reducible first | exact trivial | rfl | assumption | refine aCy ?_ ?_ | refine Tr.run_ite (fun _=>?_) (fun _=>?_) | refine aCz ?_ | refine And.intro ?_ ?_))
 all_goals first | exact bC | (refine⟨by exact bC,fun hd=>?_⟩;first | (exact Bool.noConfusion hd) | exact⟨⟨m0,m1⟩⟩)
theorem VN{t n:Int}{x:AWS}{s:MS}(hb:tA t n s)(hx:awW t x):awOk t n x s:=aCL (Z0 hb hx)
structure ZK (t:Int) (x:EXS):Prop where
 h:x.at'=0∨x.at'=1∨x.at'=2∨x.at'=3∨x.at'=4∨x.at'=5∨x.at'=6∨x.at'=7∨x.at'=8∨x.at'=9
 m:0≤x.u∧x.u≤1000
 po:0≤x.popped∧x.popped≤1000
structure aAa (t:Int) (s:MS) (o:ExO):Prop where
 a:Act1 s o.s
 w:o.d=false→ZK t o.x
 p:0≤o.x.popped∧o.x.popped≤1000
theorem UK{t n:Int}{x:EXS}{s:MS}(hb:tA t n s)(hx:ZK t x):(IZ t n x s).run (aAa t s):=by
 obtain⟨⟨t0,t1⟩,⟨n0,n1⟩,⟨c0,c1⟩,hw⟩:=hb
 obtain⟨h,⟨m0,m1⟩,⟨p0,p1⟩⟩:=hx
 unfold IZ
 refine aCx (fun h0=>?_) (fun h0=>aCx (fun h1=>?_) (fun h1=>aCx (fun h2=>?_) (fun h2=>aCx (fun h3=>?_) (fun h3=>aCx (fun h4=>?_) (fun h4=>aCx (fun h5=>?_) (fun h5=>aCx (fun h6=>?_) (fun h6=>aCx (fun h7=>?_) (fun h7=>aCx (fun h8=>?_) (fun h8=>aCx (fun h9=>?_) (fun h9=>?_))))))))))
 ·unfold vF
  (repeat' (with_reducible first | exact trivial | rfl | assumption | refine aCy ?_ ?_ | refine Tr.run_ite (fun _=>?_) (fun _=>?_) | refine aCz ?_ | refine And.intro ?_ ?_))
  all_goals first | exact bC | (refine⟨by exact bC,fun hd=>by first | (exact Bool.noConfusion hd) | exact⟨by dsimp only;decide,⟨m0,m1⟩,by exact dR⟩,?_⟩;exact dR)
 ·unfold vG
  (repeat' (with_reducible first | exact trivial | rfl | assumption | refine aCy ?_ ?_ | refine Tr.run_ite (fun _=>?_) (fun _=>?_) | refine aCz ?_ | refine And.intro ?_ ?_))
  all_goals first | exact bC | (refine⟨by exact bC,fun hd=>by first | (exact Bool.noConfusion hd) | exact⟨by dsimp only;decide,⟨m0,m1⟩,by exact dR⟩,?_⟩;exact dR)
 ·unfold vH
  (repeat' (with_reducible first | exact trivial | rfl | assumption | refine aCy ?_ ?_ | refine Tr.run_ite (fun _=>?_) (fun _=>?_) | refine aCz ?_ | refine And.intro ?_ ?_))
  all_goals first | exact bC | (refine⟨by exact bC,fun hd=>by first | (exact Bool.noConfusion hd) | exact⟨by dsimp only;decide,⟨m0,m1⟩,by exact dR⟩,?_⟩;exact dR)
 ·unfold vI
  (repeat' (with_reducible first | exact trivial | rfl | assumption | refine aCy ?_ ?_ | refine Tr.run_ite (fun _=>?_) (fun _=>?_) | refine aCz ?_ | refine And.intro ?_ ?_))
  all_goals first | exact bC | (refine⟨by exact bC,fun hd=>by first | (exact Bool.noConfusion hd) | exact⟨by dsimp only;decide,⟨m0,m1⟩,by exact dR⟩,?_⟩;exact dR)
 ·unfold BX
  (repeat' (with_reducible first | exact trivial | rfl | assumption | refine aCy ?_ ?_ | refine Tr.run_ite (fun _=>?_) (fun _=>?_) | refine aCz ?_ | refine And.intro ?_ ?_))
  all_goals first | exact bC | (refine⟨by exact bC,fun hd=>by first | (exact Bool.noConfusion hd) | exact⟨by dsimp only;decide,⟨m0,m1⟩,by exact dR⟩,?_⟩;exact dR)
 ·unfold vJ
  (repeat' (with_reducible first | exact trivial | rfl | assumption | refine aCy ?_ ?_ | refine Tr.run_ite (fun _=>?_) (fun _=>?_) | refine aCz ?_ | refine And.intro ?_ ?_))
  all_goals first | exact bC | (refine⟨by exact bC,fun hd=>by first | (exact Bool.noConfusion hd) | exact⟨by dsimp only;decide,⟨m0,m1⟩,by exact dR⟩,?_⟩;exact dR)
 ·unfold vK
  (repeat' (with_reducible first | exact trivial | rfl | assumption | refine aCy ?_ ?_ | refine Tr.run_ite (fun _=>?_) (fun _=>?_) | refine aCz ?_ | refine And.intro ?_ ?_))
  all_goals first | exact bC | (refine⟨by exact bC,fun hd=>by first | (exact Bool.noConfusion hd) | exact⟨by dsimp only;decide,⟨m0,m1⟩,by exact dR⟩,?_⟩;exact dR)
 ·unfold vL
  (repeat' (with_reducible first | exact trivial | rfl | assumption | refine aCy ?_ ?_ | refine Tr.run_ite (fun _=>?_) (fun _=>?_) | refine aCz ?_ | refine And.intro ?_ ?_))
  all_goals first | exact bC | (refine⟨by exact bC,fun hd=>by first | (exact Bool.noConfusion hd) | exact⟨by dsimp only;decide,⟨m0,m1⟩,by exact dR⟩,?_⟩;exact dR)
 ·unfold BY
  (repeat' (with_reducible first | exact trivial | rfl | assumption | refine aCy ?_ ?_ | refine Tr.run_ite (fun _=>?_) (fun _=>?_) | refine aCz ?_ | refine And.intro ?_ ?_))
  all_goals first | exact bC | (refine⟨by exact bC,fun hd=>by first | (exact Bool.noConfusion hd) | exact⟨by dsimp only;decide,⟨m0,m1⟩,by exact dR⟩,?_⟩;exact dR)
 ·unfold BZ
  (repeat' (with_reducible first | exact trivial | rfl | assumption | refine aCy ?_ ?_ | refine Tr.run_ite (fun _=>?_) (fun _=>?_) | refine aCz ?_ | refine And.intro ?_ ?_))
  all_goals first | exact bC | (refine⟨by exact bC,fun hd=>by first | (exact Bool.noConfusion hd) | exact⟨by dsimp only;decide,⟨m0,m1⟩,by exact dR⟩,?_⟩;exact dR)
 ·simp only [bX,beq_eq_false_iff_ne]at h0 h1 h2 h3 h4 h5 h6 h7 h8 h9
  rcases h with e | e | e | e | e | e | e | e | e | e<;>contradiction
theorem WO{t n:Int}{x:EXS}{s:MS}(hb:tA t n s)(hx:ZK t x):WL t n x s:=aCL (UK hb hx)
theorem WP{t n:Int}{x:EXS}{s:MS}(hb:tA t n s)(hx:ZK t x):aAa t s (exF t n x s):=aCM (UK hb hx)
structure ZM (t:Int) (x:PRS):Prop where
 h:True
structure aAN (t:Int) (s:MS) (st:STS) (o:PrO):Prop where
 a:Act1 s o.s
 w:o.d=false→ZM t o.x
 st:o.st=st
theorem UY{t n:Int}{x:PRS}{st:STS}{s:MS}(hb:tA t n s)(hx:ZM t x):(UX t n x st s).run (aAN t s st):=by
 obtain⟨⟨t0,t1⟩,⟨n0,n1⟩,⟨c0,c1⟩,hw⟩:=hb
 obtain⟨h⟩:=hx
 unfold UX
 unfold KQ
 (repeat' (with_reducible first | exact trivial | rfl | assumption | refine aCy ?_ ?_ | refine Tr.run_ite (fun _=>?_) (fun _=>?_) | refine aCz ?_ | refine And.intro ?_ ?_))
 all_goals first | exact bC | (refine⟨by exact bC,fun hd=>?_,rfl⟩;first | (exact Bool.noConfusion hd) | exact⟨trivial⟩)
theorem YP{t n:Int}{x:PRS}{st:STS}{s:MS}(hb:tA t n s)(hx:ZM t x):TF t n x st s:=aCL (UY hb hx)
theorem YQ{t n:Int}{x:PRS}{st:STS}{s:MS}(hb:tA t n s)(hx:ZM t x):aAN t s st (prF t n x st s):=aCM (UY hb hx)
theorem yH{a b:Int}(h:ieq a b=true):a=b:=by simpa [bX]using h
theorem NX{a b:Int}(h:ieq a b=false):a≠b:=by simpa [bX]using h
def fT(l:List Int):Prop:= ∀r∈l,0≤r∧r≤1000
theorem yY:fT []:=fun r h=>nomatch h
theorem wS{l:List Int}{a:Int}(h:fT l)(ha:0≤a∧a≤1000):fT (l++ [a]):=by
 intro r hr
 rcases List.mem_append.1 hr with h1 | h1
 ·exact h r h1
 ·rw [List.mem_singleton.1 h1];exact ha
theorem KY{l m:List Int}(h:fT l)(hm:fT m):fT (l++m):=by
 intro r hr
 rcases List.mem_append.1 hr with h1 | h1
 ·exact h r h1
 ·exact hm r h1
theorem kN(t n a:Int):vA t n a:=⟨⟨rfl,rfl⟩,trivial⟩
theorem L1(t n a:Int):VW t (D4 t n a):=⟨.inl rfl⟩
theorem aBo(x a:Int):0≤aA x a 9∧aA x a 9≤1000:=by
 have:=Q7 x a 9
 simp only [Int.reduceToNat,Int.reducePow]at this
 omega
structure P9 (b:Int) (x:FNS):Prop where
 m:0≤x.me∧x.me≤1000
 cu:0≤x.curr∧x.curr≤1000
 ul:fT x.ul
 ln:(x.ul.length:Int)≤b
structure W8 (t:Int) (x:FNS):Prop where
 h:x.at'=0∨x.at'=1∨x.at'=2∨x.at'=3∨x.at'=4∨x.at'=5∨x.at'=6
 cl:x.at'=4→VW t x.cl
structure aAg (t b:Int) (s:MS) (o:FnO):Prop where
 a:Act1 s o.s
 q:P9 (b+1) o.x
 w:o.d=false→W8 t o.x
theorem pP{P:Prop}(h:P:=by(refine⟨?_,⟨?_,?_,?_,?_⟩,fun hd=>?_⟩<;>first
 | exact bC
 | (exact(D5 (by assumption) (by assumption)).a)
 | (constructor<;>assumption)
 | exact aBo _ _
 | (exact wS (by assumption) ⟨by assumption,by assumption⟩)
 | exact yY
 | (dsimp only;simp only [List.length_append,List.length_singleton,List.length_nil];omega)
 | exact Bool.noConfusion hd
 | exact⟨by dsimp only;decide,fun e=>absurd e (by dsimp only;decide)⟩
 | exact⟨by dsimp only;decide,fun e=>(D5 (by assumption) (by assumption)).w (by assumption)⟩
 | exact⟨by dsimp only;decide,fun e=>by dsimp only;with_reducible exact L1 _ _ _⟩)):P:=h
theorem UL{t n b:Int}{x:FNS}{s:MS}(hb:tA t n s)(hx:W8 t x)(hq:P9 b x)(hbb:b≤900000):(HE t n x s).run (aAg t b s):=by
 have hb':=hb
 obtain⟨⟨t0,t1⟩,⟨n0,n1⟩,⟨c0,c1⟩,hw⟩:=hb
 obtain⟨h,hcl⟩:=hx
 obtain⟨⟨m0,m1⟩,⟨q0,q1⟩,hul,hln⟩:=hq
 have b0:0≤b:=by omega
 unfold HE
 refine aCx (fun h0=>?_) (fun h0=>aCx (fun h1=>?_) (fun h1=>aCx (fun h2=>?_) (fun h2=>aCx (fun h3=>?_) (fun h3=>aCx (fun h4=>?_) (fun h4=>aCx (fun h5=>?_) (fun h5=>aCx (fun h6=>?_) (fun h6=>?_)))))))
 ·unfold vO
  (repeat' (with_reducible first | exact trivial | rfl | assumption | refine aCy ?_ ?_ | refine Tr.run_ite (fun _=>?_) (fun _=>?_) | refine aCz ?_ | refine And.intro ?_ ?_))
  all_goals first | exact bC | exact kN _ _ _ | (simp only [List.length_append,List.length_singleton];done) | exact pP
 ·unfold yD
  (repeat' (with_reducible first | exact trivial | rfl | assumption | refine aCy ?_ ?_ | refine Tr.run_ite (fun _=>?_) (fun _=>?_) | refine aCz ?_ | refine And.intro ?_ ?_))
  all_goals first | exact bC | exact kN _ _ _ | (simp only [List.length_append,List.length_singleton];done) | exact pP
 ·unfold vP
  (repeat' (with_reducible first | exact trivial | rfl | assumption | refine aCy ?_ ?_ | refine Tr.run_ite (fun _=>?_) (fun _=>?_) | refine aCz ?_ | refine And.intro ?_ ?_))
  all_goals first | exact bC | exact kN _ _ _ | (simp only [List.length_append,List.length_singleton];done) | exact pP
 ·unfold nE
  (repeat' (with_reducible first | exact trivial | rfl | assumption | refine aCy ?_ ?_ | refine Tr.run_ite (fun _=>?_) (fun _=>?_) | refine aCz ?_ | refine And.intro ?_ ?_))
  all_goals first | exact bC | exact kN _ _ _ | (simp only [List.length_append,List.length_singleton];done) | exact pP
 ·unfold B7
  have hcl4:=hcl (yH h4)
  have hclo:=L3 hb' hcl4
  (repeat' (with_reducible first | exact trivial | rfl | assumption | refine aCy ?_ ?_ | refine Tr.run_ite (fun _=>?_) (fun _=>?_) | refine aCz ?_ | refine And.intro ?_ ?_))
  all_goals first | exact bC | exact kN _ _ _ | (simp only [List.length_append,List.length_singleton];done) | exact pP
 ·unfold vQ
  (repeat' (with_reducible first | exact trivial | rfl | assumption | refine aCy ?_ ?_ | refine Tr.run_ite (fun _=>?_) (fun _=>?_) | refine aCz ?_ | refine And.intro ?_ ?_))
  all_goals first | exact bC | exact kN _ _ _ | (simp only [List.length_append,List.length_singleton];done) | exact pP
 ·unfold vR
  (repeat' (with_reducible first | exact trivial | rfl | assumption | refine aCy ?_ ?_ | refine Tr.run_ite (fun _=>?_) (fun _=>?_) | refine aCz ?_ | refine And.intro ?_ ?_))
  all_goals first | exact bC | exact kN _ _ _ | (simp only [List.length_append,List.length_singleton];done) | exact pP
 ·simp only [bX,beq_eq_false_iff_ne]at h0 h1 h2 h3 h4 h5 h6
  rcases h with e | e | e | e | e | e | e<;>contradiction
theorem W9{t n b:Int}{x:FNS}{s:MS}(hb:tA t n s)(hx:W8 t x)(hq:P9 b x)(hbb:b≤900000):W5 t n x s:=aCL (UL hb hx hq hbb)
theorem XA{t n b:Int}{x:FNS}{s:MS}(hb:tA t n s)(hx:W8 t x)(hq:P9 b x)(hbb:b≤900000):aAg t b s (fnF t n x s):=aCM (UL hb hx hq hbb)
theorem fV(sh ky:Int):0≤cH sh ky∧cH sh ky≤3:=by
 unfold cH
 cases ieq sh 2 with
 | true=>exact⟨Int.emod_nonneg _ (by decide),by have:=Int.emod_lt_of_pos ky (b:=4) (by decide);show ky%4≤3;omega⟩
 | false=>exact⟨Int.le_refl 0,(by decide:(0:Int)≤3)⟩
theorem EV{t n me hd key lim:Int}(hn:1≤n∧n≤1000)(hm:0≤me∧me≤1000)(hh:0≤hd∧hd≤3):(NG t n me hd key lim).run (fun x=>W8 t x∧P9 0 x):=by
 obtain⟨n0,n1⟩:=hn
 obtain⟨m0,m1⟩:=hm
 obtain⟨e0,e1⟩:=hh
 unfold NG
 (repeat' (with_reducible first | exact trivial | rfl | assumption | refine aCy ?_ ?_ | refine Tr.run_ite (fun _=>?_) (fun _=>?_) | refine aCz ?_ | refine And.intro ?_ ?_))
 all_goals first | exact bC | exact⟨by dsimp only;decide,fun e=>absurd e (by dsimp only;decide)⟩ | exact⟨⟨m0,m1⟩,⟨(by decide:(0:Int)≤0),(by decide:(0:Int)≤1000)⟩,yY,(by decide:((0:Nat):Int)≤0)⟩
theorem H0(sh kd ky pred pw cw sp:Int){curr:Int}(hc:0≤curr∧curr≤1000):(yS sh kd ky pred pw curr cw sp).run (fun p=>0≤p.pops∧p.pops≤1000):=by
 obtain⟨c0,c1⟩:=hc
 unfold yS
 (repeat' (with_reducible first | exact trivial | rfl | assumption | refine aCy ?_ ?_ | refine Tr.run_ite (fun _=>?_) (fun _=>?_) | refine aCz ?_ | refine And.intro ?_ ?_))
 all_goals first | exact bC | (dsimp only;first | assumption | decide)
theorem OX(sh kd ky pred pw cw sp:Int){curr:Int}(hc:0≤curr∧curr≤1000):F3 sh kd ky pred pw curr cw sp:=aCL (H0 sh kd ky pred pw cw sp hc)
theorem KO(sh kd ky pred pw cw sp:Int){curr:Int}(hc:0≤curr∧curr≤1000):0≤(bQ sh kd ky pred pw curr cw sp).pops ∧(bQ sh kd ky pred pw curr cw sp).pops ≤1000:=aCM (H0 sh kd ky pred pw cw sp hc)
theorem CW(a b c d e f g h i j):(sU a b c d e f g h i j).run (fun r=>rN r.1):=by
 unfold sU
 (repeat' (with_reducible first | exact trivial | rfl | assumption | refine aCy ?_ ?_ | refine Tr.run_ite (fun _=>?_) (fun _=>?_) | refine aCz ?_ | refine And.intro ?_ ?_))
 all_goals first | exact bC | exact rO
theorem KN(a b c d e f g h i j):AE a b c d e f g h i j:=aCL (CW a b c d e f g h i j)
theorem KM(a b c d e f g h i j):rN (fG a b c d e f g h i j).1:=aCM (CW a b c d e f g h i j)
theorem CV(a b c d e f g h i):(sT a b c d e f g h i).run (fun _=>True):=by
 unfold sT
 (repeat' (with_reducible first | exact trivial | rfl | assumption | refine aCy ?_ ?_ | refine Tr.run_ite (fun _=>?_) (fun _=>?_) | refine aCz ?_ | refine And.intro ?_ ?_))
 all_goals exact bC
theorem KK(p:PLN):uN p.1 p.2 p.3 p.4 p.5 p.6 p.7 p.8 p.9:=aCL (CV _ _ _ _ _ _ _ _ _)
theorem F1(a b c d e f g h i):uN a b c d e f g h i:=aCL (CV _ _ _ _ _ _ _ _ _)
theorem B6{b c:Int}{x:FNS}(h:P9 b x)(hbc:b≤c):P9 c x:=⟨h.m,h.cu,h.ul,Int.le_trans h.ln hbc⟩
theorem RX{t n me hd key lim:Int}(hn:1≤n∧n≤1000)(hm:0≤me∧me≤1000)(hh:0≤hd∧hd≤3):B5 t n me hd key lim:=aCL (EV hn hm hh)
theorem aAf{t n me hd key lim:Int}(hn:1≤n∧n≤1000)(hm:0≤me∧me≤1000)(hh:0≤hd∧hd≤3):W8 t (qM t n me hd key lim):=by
 have h:=aCM (EV (t:=t) (key:=key) (lim:=lim) hn hm hh)
 exact h.1
theorem aAe{t n me hd key lim:Int}(hn:1≤n∧n≤1000)(hm:0≤me∧me≤1000)(hh:0≤hd∧hd≤3):P9 0 (qM t n me hd key lim):=by
 have h:=aCM (EV (t:=t) (key:=key) (lim:=lim) hn hm hh)
 exact h.2
theorem O0(t n key nx:Int)(st:STS):(TD t n key nx st).run (fun r=>r.2=st):=⟨⟨rfl,rfl,rfl⟩,rfl⟩
theorem TE(t n key nx:Int)(st:STS):OZ t n key nx st:=aCL (O0 t n key nx st)
theorem YK(t n key nx:Int)(st:STS):(CX t n key nx st).2=st:=aCM (O0 t n key nx st)
structure stW (b:Int) (st:STS):Prop where
 m:0≤st.me∧st.me≤1000
 r:fT st.R
 ln:(st.R.length:Int)≤b
theorem rT{b c:Int}{st:STS}(h:stW b st)(hbc:b≤c):stW c st:=⟨h.m,h.r,Int.le_trans h.ln hbc⟩
theorem TU{b:Int}{st:STS}{k:Int}{x:FNS}(h:stW b st)(hq:P9 (b - st.R.length+1) x):stW (b+1) {me:=st.me,sp:=k,R:=st.R++x.ul} :=
 ⟨h.m,KY h.r hq.ul,by have:=hq.ln;simp only [List.length_append];omega⟩
theorem PL{b:Int}{st:STS}{k a:Int}(h:stW b st)(ha:0≤a∧a≤1000):stW (b+1) {me:=st.me,sp:=k,R:=st.R++ [a] } :=
 ⟨h.m,wS h.r ha,by have:=h.ln;simp only [List.length_append,List.length_singleton];omega⟩
theorem Y5{b:Int}{st:STS}(h:stW b st)(k:Int):stW (b+1) {me:=st.me,sp:=k,R:=st.R} :=⟨h.m,h.r,by have:=h.ln;show(st.R.length:Int)≤_;omega⟩
end Go.Sh
