import Derived.Test.YteindpciaceeeaaGreatZN17toQ5
set_option linter.all false
set_option maxHeartbeats 8000000
namespace Go.Sh
open Go Go.Proofs
theorem jX{b:Bool}{x y:aC Mc}(hx:cK x=true)(hy:cK y=true):cK (bif b then x else y)=true:=by cases b<;>assumption
theorem wT{A:Type}(ws:List (Option A)): ∀k,aHF (rowC k ws)=true:=by
 induction ws with
 | nil=>intro k;rfl
 | cons w ws ih=>
   intro k;cases w with
   | none=>exact ih (k+1)
   | some t=>exact ih (k+1)
theorem PJ(v:AVal)(hv:v.noV=true)(l:List AVal): ∀i,aHF l=true→aHF (l.set i v)=true:=by
 induction l with
 | nil=>intro i h;exact h
 | cons a l ih=>
   intro i h;obtain⟨h1,h2⟩:=Bool.and_eq_true_iff.1 h;cases i with
   | zero=>exact Bool.and_eq_true_iff.2 ⟨hv,h2⟩
   | succ i=>exact Bool.and_eq_true_iff.2 ⟨h1,ih i h2⟩
theorem B6{A:Type}(ws:List (Option A)):cK (QI ws)=true:=by
 induction ws with
 | nil=>rfl
 | cons w ws ih=>cases w<;>exact ih
theorem WJ{A:Type}(h:aC A): ∀i,cK h=true→cK (h.set i none)=true:=by
 induction h with
 | nil=>intro i hh;exact hh
 | cons e h ih=>
   intro i hh;unfold cK at hh⊢;rw [List.all_cons,Bool.and_eq_true]at hh;cases i with
   | zero=>rw [List.set_cons_zero,List.all_cons,Bool.and_eq_true];exact⟨rfl,hh.2⟩
   | succ i=>rw [List.set_cons_succ,List.all_cons,Bool.and_eq_true];exact⟨hh.1,ih i hh.2⟩
theorem PL{A:Type}(ws:List (Option A)):cK (rowE ws)=true:=by
 unfold rowE cK;rw [List.all_cons,Bool.and_eq_true];exact⟨wT _ 1,B6 _⟩
theorem KL{A:Type}(ws:List (Option A))(i:Nat):cK (kK ws i)=true:=by
 unfold kK cK;rw [List.all_cons,List.all_cons,Bool.and_eq_true,Bool.and_eq_true];exact⟨PJ _ rfl _ i (wT _ 2),rfl,WJ _ i (B6 _)⟩
theorem IA(t:Mc):cK (tbl t).2=true:=by
 cases t with
 | sweep t n y=>show cK (LH t n y)=true;unfold LH;split<;>rfl
 | ensure t n e=>show cK (C1 t n e)=true;unfold C1;split<;>rfl
 | find t n x=>show cK (tZ t n x)=true;unfold tZ;exact jX rfl rfl
 | fast t n x=>show cK (mQ t n x)=true;unfold mQ;exact jX rfl (jX rfl (jX rfl rfl))
 | help t n x=>show cK (jR t n x)=true;unfold jR;exact jX rfl (jX rfl (jX rfl (jX rfl (jX rfl rfl))))
 | doer t n x=>
   show cK (d4 t n x)=true;unfold d4
   repeat' (first | apply jX | rfl)
 | worker w=>show cK (wkG w)=true;unfold wkG;exact jX rfl rfl
 | wrow ws=>exact PL _
 | whole ws i=>exact KL _ i
 | _=>rfl
variable [c:Con]
def row2(a b c d:Int)(i:Nat):List AVal:=[.I (bif Nat.beq i 0 then a else c),.I (bif Nat.beq i 0 then b else d)]
def runLS:aI Ob:=fun args h=>match args,h with
 | [.ptr 0 0,.slice 1 0 n 2],[some (.abs (.engine x) []),some (.cells [.int .i64 p,.int .i64 q,.int .i64 r,.int .i64 s])]=>some (.pre (n=2∧I9 x) (.ret (.I (runP x 0 (bW 2 (row2 p q r s))).2) [some (.abs (.engine (runP x 0 (bW 2 (row2 p q r s))).1) []),cE' [.I p,.I q,.I r,.I s]]))
 | _,_=>none
def aDL(i:Nat):Bool:= !(Nat.beq i 1)
theorem XD:sT' 27 runLS:=by
 intro args h o ho K hK;unfold runLS at ho;split at ho<;>cases ho
 rename_i n x p q r s;obtain⟨⟨rfl,hx⟩,hK⟩:=hK;have hK:K (.I (runP x 0 (bW 2 (row2 p q r s))).2) [some (.abs (.engine (runP x 0 (bW 2 (row2 p q r s))).1) []),cE' [.I p,.I q,.I r,.I s]]:=hK;refine aH5 (args2:=[.ptr 0 0,.view 2 2 (row2 p q r s)]) IA aDL ?_ ?_
 ·intro c' hc V l hm hr;obtain⟨v0,l0,rfl,r0,v1,l1,rfl,r1,r2⟩:=hr;refine⟨v0,_,rfl,Rep.con hc _ _ r0,v1,_,rfl,?_,r2⟩;obtain⟨pp,p1,p2⟩:=hm 1 _ rfl rfl;refine tC (Rep.con hc _ _ r1) p1 p2 ?_ (Nat.le_refl _);intro i hi;refine⟨rfl,fun rs h=>?_⟩
  match i,hi with
  | 0,_=>exact h
  | 1,_=>exact h
  | i+2,hi=>omega
 ·intro c';have h1:=@F6 c' [.ptr 0 0,.view 2 2 (row2 p q r s)] [some (.abs (.engine x) [])] _ rfl (fun v g=>v=.I (runP x 0 (bW 2 (row2 p q r s))).2∧g=[some (.abs (.engine (runP x 0 (bW 2 (row2 p q r s))).1) [])]) ⟨⟨hx,by decide,⟨_,_,rfl⟩⟩,⟨rfl,rfl⟩⟩
  refine aHN h1 [0] rfl (by decide) (fun l hl=>by rw [qH,List.mem_singleton.1 hl];exact Nat.zero_lt_succ _) ?_ rfl ?_
  ·intro i l hi
   match i,hi with
   | 0,hi=>cases hi;rfl
   | i+1,hi=>simp at hi
  ·rintro v g ⟨rfl,rfl⟩ _;refine⟨rfl,rfl,?_,hK⟩;intro l hl hS
   match l,hl with
   | 0,_=>cases hS
   | 1,_=>rfl
   | l+2,hl=>simp at hl;omega
def fS(a c:Int)(i:Nat):Int:=bif Nat.beq i 0 then a else c
def newLS:aI Ob:=fun args h=>match args,h with
 | [.agg [.int .i64 sh,.int .i64 th,.int .i64 nd,.int .i64 tr],.slice 0 0 n 1],[some (.cells [.slice 1 0 n1 2,.slice 2 0 n2 2]),some (.cells [.int .i64 p,.int .i64 q]),some (.cells [.int .i64 r,.int .i64 s])]=>some (.pre ((n=2∧n1=1∧n2=1)∧gnC sh th nd tr 2 (fun _=>1) (fun i _=>fS p r i) (fun i _=>fS q s i)=0)
    (.ret (.tup [.ptr 3 0,.I 0]) [cE' [.slice 1 0 1 2,.slice 2 0 1 2],cE' [.I p,.I q],cE' [.I r,.I s],some (.abs (.engine (cW sh th nd tr 2 (fun _=>1) (fun i _=>fS p r i) (fun i _=>fS q s i))) [])]))
 | _,_=>none
def vr2(p q r s:Int)(i:Nat):List AVal:=[.view 1 2 (fun _=>[.I (fS p r i),.I (fS q s i)])]
theorem WH:sT' 25 newLS:=by
 intro args h o ho K hK;unfold newLS at ho;split at ho<;>cases ho
 rename_i sh th nd tr n n1 n2 p q r s;obtain⟨⟨⟨rfl,rfl,rfl⟩,hg⟩,hK⟩:=hK;have hK:K (.tup [.ptr 3 0,.I 0]) [cE' [.slice 1 0 1 2,.slice 2 0 1 2],cE' [.I p,.I q],cE' [.I r,.I s],some (.abs (.engine (cW sh th nd tr 2 (fun _=>1) (fun i _=>fS p r i) (fun i _=>fS q s i))) [])]:=hK;refine aH5 (args2:=[.agg [.I sh,.I th,.I nd,.I tr],.view 2 1 (vr2 p q r s)]) IA (fun _=>false) ?_ ?_
 ·intro c' hc V l hm hr;obtain⟨v0,l0,rfl,r0,v1,l1,rfl,r1,r2⟩:=hr;refine⟨v0,_,rfl,Rep.con hc _ _ r0,v1,_,rfl,?_,r2⟩;obtain⟨p0,a1,a2⟩:=hm 0 _ rfl rfl;obtain⟨p1,b1,b2⟩:=hm 1 _ rfl rfl;obtain⟨p2,d1,d2⟩:=hm 2 _ rfl rfl;refine tC (Rep.con hc _ _ r1) a1 a2 ?_ (Nat.le_refl _);intro i hi;refine⟨rfl,fun rs h=>?_⟩
  match i,hi with
  | 0,_=>
    obtain⟨y,ys,rfl,y1,y2⟩:=h;refine⟨y,ys,rfl,?_,y2⟩
    have y3: @Rep c' V (.view 1 2 (fun _=>[.I p,.I q])) y:=tC y1 b1 b2 (fun j hj=>⟨rfl,fun rs h=>by
     match j,hj with
     | 0,_=>exact h
     | j+1,hj=>omega⟩) (Nat.le_refl _)
    exact y3
  | 1,_=>
    obtain⟨y,ys,rfl,y1,y2⟩:=h;refine⟨y,ys,rfl,?_,y2⟩
    have y3: @Rep c' V (.view 1 2 (fun _=>[.I r,.I s])) y:=tC y1 d1 d2 (fun j hj=>⟨rfl,fun rs h=>by
     match j,hj with
     | 0,_=>exact h
     | j+1,hj=>omega⟩) (Nat.le_refl _)
    exact y3
  | i+2,hi=>omega
 ·intro c'
  have h1:=@G8 c' [.agg [.I sh,.I th,.I nd,.I tr],.view 2 1 (vr2 p q r s)] [] _ rfl (fun v g=>v=.tup [.ptr 0 0,.I 0]∧g=[some (.abs (.engine (cW sh th nd tr 2 (fun _=>1) (fun i _=>fS p r i) (fun i _=>fS q s i))) [])]) ⟨⟨by decide,⟨rfl⟩⟩,by
   show(pS sh th nd tr 2 (fun _=>1) (fun i _=>fS p r i) (fun i _=>fS q s i)).run _;unfold pS;rw [hg];exact⟨rfl,rfl⟩⟩
  refine aHN h1 [] rfl (by decide) (fun l hl=>by cases hl) ?_ rfl ?_
  ·intro i l hi;simp at hi
  ·rintro v g ⟨rfl,rfl⟩ _;refine⟨rfl,rfl,?_,hK⟩;intro l hl hS
   match l,hl with
   | 0,_=>rfl
   | 1,_=>rfl
   | 2,_=>rfl
   | l+3,hl=>simp at hl;omega
end Go.Sh
namespace Go.Sh
open Go Go.Proofs
variable [Con]
def G9(m n:Nat)(ln:Nat→Nat):Bool:=bif ilt 10 (m:Int)then true else bif ilt 60 (n:Int)then true else(List.range m).any (fun i=>ilt 50 (ln i:Int))
structure gr1 (m:Nat) (ln:Nat→Nat) (x:Nat):Prop where
 hi:x≤m
 hl: ∀j,j<x→ilt 50 (ln j:Int)=false
def R7(m:Nat)(ln:Nat→Nat)(f g:Nat→Nat→Int):Hint Ob:= {X:=Nat,st:=fun x=>(List.replicate 17 .O ++ [B9 m ln f g,.I (m:Int),.I (x:Int)]++List.replicate 7 .O,[]),ok:=gr1 m ln,mu:=fun x=>m - x,keep:=[17,18,19] }
def LGR(m:Nat)(ln:Nat→Nat)(f g:Nat→Nat→Int):FuncId→Nat→Option (sN Ob):=fun _ k=>match k with
 | 4=>some (.states (R7 m ln f g))
 | _=>none
def UV(sh th nd tr:Int)(m:Nat)(ln:Nat→Nat)(f g:Nat→Nat→Int)(n:Nat)(row:Nat→List AVal)(K:AVal→aC Ob→Prop):Prop:=bif ilt 10 (↑m:Int)then K (.bool true) []else bif ilt 60 (↑n:Int)then K (.bool true) []else okSt (R7 m ln f g) (Hint.ok (R7 m ln f g)) (tO' 17 [(.view m 1 fun i=>[.view (ln i) 2 fun j=>[.I (f i j),.I (g i j)]]),.I (↑m:Int),.I 0,.O,.O,.O,.O,.O,.O,.O]) []∧ ∀(x:Nat),gr1 m ln x→bif ilt (↑x:Int) (↑m:Int)then((0:Int)≤(↑x:Int)∧(↑x:Int)<(↑m:Int))∧bif ilt 50 (↑(ln (Int.toNat (↑x:Int))):Int)then K (.bool true) []else okSt (R7 m ln f g) (fun x'=>Hint.ok (R7 m ln f g) x'∧Hint.mu (R7 m ln f g) x'<Hint.mu (R7 m ln f g) x) (tO' 17 [(.view m 1 fun i=>[.view (ln i) 2 fun j=>[.I (f i j),.I (g i j)]]),.I (↑m:Int),.I (W ((↑x:Int)+1)),.O,.O,.O,.O,.O,.O,.O]) []else K (.bool false) []
theorem OS(sh th nd tr:Int)(m:Nat)(ln:Nat→Nat)(f g:Nat→Nat→Int)(n:Nat)(row:Nat→List AVal)(K:AVal→aC Ob→Prop)(h:UV sh th nd tr m ln f g n row K):cT' 23 [.agg [.I sh,.I th,.I nd,.I tr,B9 m ln f g],.view n 2 row] [] (kS 0 K):=by
 exact aE (E:=EUe) Tryz.checked.mixed (L:=LGR m ln f g) (n:=10) (aJ (by kernel_rfl) h)
theorem aBI{m n:Nat}{ln:Nat→Nat}(h:ilt 10 (m:Int)=true):G9 m n ln=true:=by unfold G9;rw [h];rfl
theorem aBK{m n:Nat}{ln:Nat→Nat}(h:ilt 10 (m:Int)=false)(h2:ilt 60 (n:Int)=true):G9 m n ln=true:=by unfold G9;rw [h,h2];rfl
theorem aBJ{m n:Nat}{ln:Nat→Nat}(h:ilt 10 (m:Int)=false)(h2:ilt 60 (n:Int)=false){i:Nat}(hi:i<m)(h3:ilt 50 (ln i:Int)=true):G9 m n ln=true:=by
 unfold G9;rw [h,h2];exact List.any_eq_true.2 ⟨i,List.mem_range.2 hi,h3⟩
theorem aBL{m n:Nat}{ln:Nat→Nat}(h:ilt 10 (m:Int)=false)(h2:ilt 60 (n:Int)=false)(h3: ∀i,i<m→ilt 50 (ln i:Int)=false):G9 m n ln=false:=by
 unfold G9;rw [h,h2];show(List.range m).any _=false;rw [List.any_eq_false];intro i hi;rw [h3 i (List.mem_range.1 hi)];simp
theorem aEw{m n:Nat}{ln:Nat→Nat}(h:G9 m n ln=false):m≤10∧n≤60:=by
 unfold G9 at h;cases h1:ilt 10 (m:Int)with
 | true=>rw [h1]at h;cases h
 | false=>
   cases h2:ilt 60 (n:Int)with
   | true=>rw [h1,h2]at h;cases h
   | false=>have:=gD h1;have:=gD h2;omega
theorem aEy(sh th nd tr:Int)(m:Nat)(ln:Nat→Nat)(f g:Nat→Nat→Int)(n:Nat)(row:Nat→List AVal)(K:AVal→aC Ob→Prop)(hK:K (.bool (G9 m n ln)) []):UV sh th nd tr m ln f g n row K:=by
 have key: ∀c,G9 m n ln=c→K (.bool c) []:=fun c e=>by rw [←e];exact hK
 unfold UV;refine bI (fun e1=>key true (aBI e1)) (fun e1=>?_);refine bI (fun e2=>key true (aBK e1 e2)) (fun e2=>?_);have m10:=gD e1;refine⟨bC (H:=R7 m ln f g) (0:Nat) rfl ⟨Nat.zero_le _,fun j hj=>absurd hj (Nat.not_lt_zero _)⟩,?_⟩;rintro x ⟨hx,hxl⟩;refine bI (fun a1=>?_) (fun a1=>?_)
 ·have a1:=iB a1;have hxm:x<m:=by omega
  rw [Int.toNat_natCast];refine⟨⟨by omega,by omega⟩,bI (fun a2=>key true (aBJ e1 e2 hxm a2)) (fun a2=>?_)⟩
  rw [W1 hxm (by omega)]
  refine bC (H:=R7 m ln f g) (x+1:Nat) rfl ⟨⟨hxm,fun j hj=>?_⟩,by show m - (x+1)<m - x;omega⟩
  by_cases e:j=x
  ·subst e;exact a2
  ·exact hxl j (by omega)
 ·have a1:=gD a1;exact key false (aBL e1 e2 (fun i hi=>hxl i (by omega)))
def grS:aI Ob:=fun args h=>match args,h with
 | [.agg [.int .i64 sh,.int .i64 th,.int .i64 nd,.int .i64 tr,.view m 1 vr],.view n 2 row],[]=>some (.pre (iO vr) (.ret (.bool (G9 m n (vL vr))) []))
 | _,_=>none
theorem aEx:sT' 23 grS:=by
 intro args h o ho K hK;unfold grS at ho;split at ho<;>cases ho
 rename_i sh th nd tr m vr n row;obtain⟨⟨hr⟩,hK⟩:=hK;rw [hr];exact aHa (OS sh th nd tr m (vL vr) (vK vr) (vY vr) n row K (aEy sh th nd tr m (vL vr) (vK vr) (vY vr) n row K hK))
noncomputable def EUf:=(EUe.addS 23 grS aEx)
noncomputable def EUg:=(EUf.addS 25 (aI.or newLS gnS) (aHA WH G8)).addS 27 (aI.or runLS runS) (aHA XD F6)
def SR(K:AVal→aC Ob→Prop):Prop:=((2=2∧1=1∧1=1)∧(gnC 4 2 5 1 2 (fun x=>(1:Nat)) (fun i x=>fS 4 5 i) fun i x=>fS 3 0 i)=(0:Int))∧(2=2∧I9 (cW 4 2 5 1 2 (fun x=>(1:Nat)) (fun i x=>fS 4 5 i) fun i x=>fS 3 0 i))∧(List.length (EGS.h (runP (cW 4 2 5 1 2 (fun x=>(1:Nat)) (fun i x=>fS 4 5 i) fun i x=>fS 3 0 i) 0 (bW 2 (row2 0 99 1 99))).1).1≤(4294967296:Nat)∧List.length (EGS.h (runP (cW 4 2 5 1 2 (fun x=>(1:Nat)) (fun i x=>fS 4 5 i) fun i x=>fS 3 0 i) 0 (bW 2 (row2 0 99 1 99))).1).2≤(4294967296:Nat))∧List.length (EGS.h (runP (cW 4 2 5 1 2 (fun x=>(1:Nat)) (fun i x=>fS 4 5 i) fun i x=>fS 3 0 i) 0 (bW 2 (row2 0 99 1 99))).1).2≤(4294967296:Nat)∧True∧bif ieq (runP (cW 4 2 5 1 2 (fun x=>(1:Nat)) (fun i x=>fS 4 5 i) fun i x=>fS 3 0 i) 0 (bW 2 (row2 0 99 1 99))).2 (Prod.fst (runP (cW 4 2 5 1 2 (fun x=>(1:Nat)) (fun i x=>fS 4 5 i) fun i x=>fS 3 0 i) 0 (bW 2 (row2 0 99 1 99)))).8 then bif ieq (↑(List.length (EGS.h (runP (cW 4 2 5 1 2 (fun x=>(1:Nat)) (fun i x=>fS 4 5 i) fun i x=>fS 3 0 i) 0 (bW 2 (row2 0 99 1 99))).1).2):Int) 2 then((0:Int)≤(1:Int)∧(1:Int)<(↑(List.length (EGS.h (runP (cW 4 2 5 1 2 (fun x=>(1:Nat)) (fun i x=>fS 4 5 i) fun i x=>fS 3 0 i) 0 (bW 2 (row2 0 99 1 99))).1).2):Int))∧0+Int.toNat (1:Int)<List.length (EGS.h (runP (cW 4 2 5 1 2 (fun x=>(1:Nat)) (fun i x=>fS 4 5 i) fun i x=>fS 3 0 i) 0 (bW 2 (row2 0 99 1 99))).1).2∧bif bif ieq (List.headD (List.tail (List.tail (List.tail (List.tail (List.tail (List.tail (List.getD (EGS.h (runP (cW 4 2 5 1 2 (fun x=>(1:Nat)) (fun i x=>fS 4 5 i) fun i x=>fS 3 0 i) 0 (bW 2 (row2 0 99 1 99))).1).2 (0+Int.toNat 1) []))))))) 0) 0 then bif bif !ieq (List.headD (List.tail (List.tail (List.tail (List.tail (List.tail (List.tail (List.tail (List.getD (EGS.h (runP (cW 4 2 5 1 2 (fun x=>(1:Nat)) (fun i x=>fS 4 5 i) fun i x=>fS 3 0 i) 0 (bW 2 (row2 0 99 1 99))).1).2 (0+Int.toNat 1) [])))))))) 0) 0 then true else false then bif ieq (List.headD (List.tail (List.tail (List.tail (List.tail (List.tail (List.tail (List.tail (List.tail (List.getD (EGS.h (runP (cW 4 2 5 1 2 (fun x=>(1:Nat)) (fun i x=>fS 4 5 i) fun i x=>fS 3 0 i) 0 (bW 2 (row2 0 99 1 99))).1).2 (0+Int.toNat 1) []))))))))) 0) 3 then true else false else false else false then True∧bif ieq (gE 0 (runP (cW 4 2 5 1 2 (fun x=>(1:Nat)) (fun i x=>fS 4 5 i) fun i x=>fS 3 0 i) 0 (bW 2 (row2 0 99 1 99))).1) 0 then((0:Int)≤(EGS.s (runP (cW 4 2 5 1 2 (fun x=>(1:Nat)) (fun i x=>fS 4 5 i) fun i x=>fS 3 0 i) 0 (bW 2 (row2 0 99 1 99))).1).2∧(EGS.s (runP (cW 4 2 5 1 2 (fun x=>(1:Nat)) (fun i x=>fS 4 5 i) fun i x=>fS 3 0 i) 0 (bW 2 (row2 0 99 1 99))).1).2≤(100000:Int))∧K (.bool (ieq (↑(List.length (fY (runP (cW 4 2 5 1 2 (fun x=>(1:Nat)) (fun i x=>fS 4 5 i) fun i x=>fS 3 0 i) 0 (bW 2 (row2 0 99 1 99))).1)):Int) 0)) []else K (.bool false) []else K (.bool false) []else K (.bool false) []else K (.bool false) []
theorem MF(K:AVal→aC Ob→Prop)(h:SR K):cT' 22 [] [] (kS 0 K):=by
 exact cM' (E:=EUg) (by kernel_rfl) h
theorem xT{b:Bool}{p q:Prop}(h:b=true)(hp:p):bif b then p else q:=by rw [h];exact hp
theorem aBb(K:AVal→aC Ob→Prop)(hK:K (.bool true) []):SR K:=by
 have h0:gnC 4 2 5 1 2 (fun x=>(1:Nat)) (fun i x=>fS 4 5 i) (fun i x=>fS 3 0 i)=0:=by kernel_rfl
 have hw:=GU h0;have e1:(runP (cW 4 2 5 1 2 (fun x=>(1:Nat)) (fun i x=>fS 4 5 i) (fun i x=>fS 3 0 i)) 0 (bW 2 (row2 0 99 1 99))).2=19:=by kernel_rfl
 have e2:(runP (cW 4 2 5 1 2 (fun x=>(1:Nat)) (fun i x=>fS 4 5 i) (fun i x=>fS 3 0 i)) 0 (bW 2 (row2 0 99 1 99))).1.k =19:=by kernel_rfl
 have e3:(runP (cW 4 2 5 1 2 (fun x=>(1:Nat)) (fun i x=>fS 4 5 i) (fun i x=>fS 3 0 i)) 0 (bW 2 (row2 0 99 1 99))).1.h.cl =[[0,1,0,0,4,3,0,1,0],[2,3,1,1,5,0,0,1,3]]:=by kernel_rfl
 have e4:gE 0 (runP (cW 4 2 5 1 2 (fun x=>(1:Nat)) (fun i x=>fS 4 5 i) (fun i x=>fS 3 0 i)) 0 (bW 2 (row2 0 99 1 99))).1=0:=by kernel_rfl
 have e5:(fY (runP (cW 4 2 5 1 2 (fun x=>(1:Nat)) (fun i x=>fS 4 5 i) (fun i x=>fS 3 0 i)) 0 (bW 2 (row2 0 99 1 99))).1).length =0:=by kernel_rfl
 have hr:=F5 (bW 2 (row2 0 99 1 99)) _ 0 hw;unfold SR;generalize hR:runP (cW 4 2 5 1 2 (fun x=>(1:Nat)) (fun i x=>fS 4 5 i) (fun i x=>fS 3 0 i)) 0 (bW 2 (row2 0 99 1 99))=R at e1 e2 e3 e4 e5 hr⊢;have hn:=hr.sn;have hl:=AQ hr;refine⟨⟨⟨rfl,rfl,rfl⟩,h0⟩,⟨rfl,⟨⟨_,_,hw⟩⟩⟩,hl,hl.2,trivial,?_⟩;rw [e1,e2,e3,e4,e5];refine xT (by kernel_rfl) (xT (by kernel_rfl) ⟨⟨by decide,by decide⟩,by decide,xT (by kernel_rfl) ⟨trivial,xT (by kernel_rfl) ⟨by omega,?_⟩⟩⟩)
 exact hK
def ewkS:aI Ob:=fun args h=>match args,h with
 | [],[]=>some (.ret (.bool true) [])
 | _,_=>none
theorem aBa:sT' 22 ewkS:=by
 intro args h o ho K hK;unfold ewkS at ho;split at ho
 case h_2=>cases ho
 simp only [sI']at ho;subst ho;exact aHa (MF K (aBb K hK))
def aDI(sh th nd tr:Int)(m:Nat)(vr:Nat→List AVal)(K:AVal→aC Ob→Prop):Prop:=K (.agg [.I sh,.I th,.I nd,.I tr]) []
theorem MM(sh th nd tr:Int)(m:Nat)(vr:Nat→List AVal)(K:AVal→aC Ob→Prop)(h:aDI sh th nd tr m vr K):cT' 26 [.agg [.I sh,.I th,.I nd,.I tr,.view m 1 vr]] [] (kS 0 K):=by
 exact cM' (E:=EUg) (by kernel_rfl) h
def cfR:bE Ob:=fun args h=>match args,h with
 | [.agg [.int .i64 sh,.int .i64 th,.int .i64 nd,.int .i64 tr,.view m 1 vr]],[]=>some (True,.agg [.I sh,.I th,.I nd,.I tr])
 | _,_=>none
theorem aAj:sT' 26 cfR.spec:=by
 intro args h o ho K hK;unfold bE.spec at ho;split at ho
 case h_2=>cases ho
 rename_i p v hv;unfold cfR at hv;split at hv
 case h_2=>cases hv
 rename_i sh th nd tr m vr;simp only [sI',pI']at hv;obtain⟨rfl,rfl⟩:=hv;simp only [sI']at ho;subst ho;obtain⟨_,hK⟩:=hK;exact aHa (MM sh th nd tr m vr K hK)
def gn1S:aI Ob:=fun args h=>match args,h with
 | [.agg [.int .i64 sh,.int .i64 th,.int .i64 nd,.int .i64 tr],.view m 1 vr],[]=>some (.pre ((m≤1000000∧iO vr)∧gnC sh th nd tr m (vL vr) (vK vr) (vY vr)=0) (.ret (.tup [.ptr 0 0,.I 0]) (egH (cW sh th nd tr m (vL vr) (vK vr) (vY vr)))))
 | _,_=>none
theorem aBD:sT' 25 gn1S:=by
 intro args h o ho K hK;unfold gn1S at ho;split at ho<;>cases ho
 rename_i sh th nd tr m vr;obtain⟨⟨h1,h2⟩,hK⟩:=hK;have hS:gnS [.agg [.I sh,.I th,.I nd,.I tr],.view m 1 vr] []=some (.pre (m≤1000000∧iO vr) (pS sh th nd tr m (vL vr) (vK vr) (vY vr))):=rfl;refine G8 _ _ _ hS K ⟨h1,?_⟩;show(pS sh th nd tr m (vL vr) (vK vr) (vY vr)).run K;unfold pS;rw [h2];exact hK
abbrev WT(pt pm:Nat→Int)(i:Nat):List AVal:=[.I (pt i),.I (pm i)]
def egX(sh th nd tr:Int)(m:Nat)(vr:Nat→List AVal):EGS:=cW sh th nd tr m (vL vr) (vK vr) (vY vr)
def gn2S:aI Ob:=fun args h=>match args,h with
 | [.agg [.int .i64 sh,.int .i64 th,.int .i64 nd,.int .i64 tr],.view m 1 vr],[]=>some (.pre ((m≤1000000∧iO vr)∧gnC sh th nd tr m (vL vr) (vK vr) (vY vr)=0) (.ret (.tup [.ptr 0 0,.int .i64 0]) (egH (egX sh th nd tr m vr))))
 | _,_=>none
theorem aBE:sT' 25 gn2S:=by
 intro args h o ho K hK;unfold gn2S at ho;split at ho<;>cases ho
 rename_i sh th nd tr m vr;have hS:gn1S [.agg [.int .i64 sh,.int .i64 th,.int .i64 nd,.int .i64 tr],.view m 1 vr] []=some (.pre ((m≤1000000∧iO vr)∧gnC sh th nd tr m (vL vr) (vK vr) (vY vr)=0) (.ret (.tup [.ptr 0 0,.int .i64 0]) (egH (cW sh th nd tr m (vL vr) (vK vr) (vY vr))))):=rfl;exact aBD _ _ _ hS K hK
def nAt(x:HST)(u:Int):Int:=bif ieq u 0 then x.n0 else bif ieq u 1 then x.n1 else bif ieq u 2 then x.n2 else bif ieq u 3 then x.n3 else bif ieq u 4 then x.n4 else bif ieq u 5 then x.n5 else bif ieq u 6 then x.n6 else x.n7
def slwK(X:EGS)(u:Nat):Int:=((List.range u).map fun(i:Nat)=>((b9 (i:Int) X).length :Int)).sum
def undK(X:EGS)(u:Nat):Int:=((List.range u).map fun(i:Nat)=>bif ilt 0 (nAt X.h (i:Int))then(1:Int)else 0).sum
abbrev qK(x:HST):aC Ob:=[some (.cells [.tslice 1 0 x.ev.length 7,.tslice 2 0 x.cl.length 9,.int .i64 x.n0,.int .i64 x.n1,.int .i64 x.n2,.int .i64 x.n3,.int .i64 x.n4,.int .i64 x.n5,.int .i64 x.n6,.int .i64 x.n7]),some (.tab [some .i64,none,some .i64,some .i64,some .i64,none,some .i64] x.ev),some (.tab [some .i64,some .i64,some .i64,some .i64,some .i64,some .i64,some .i64,none,some .i64] x.cl)]
theorem EM(x:HST)(K:AVal→aC Ob→Prop)(h:K (.bool (ilt 0 x.n0)) (qK x)):cT' 36 [.ptr 0 0,.int .i64 0] (qK x) K:=by
 exact cM' (E:=EUg) (q:=((0:Int)≤(0:Int)∧(0:Int)<((8:Nat):Int))∧K (.bool (ilt 0 x.n0)) (qK x)) (by kernel_rfl) ⟨⟨by decide,by decide⟩,h⟩
theorem EN(x:HST)(K:AVal→aC Ob→Prop)(h:K (.bool (ilt 0 x.n1)) (qK x)):cT' 36 [.ptr 0 0,.int .i64 1] (qK x) K:=by
 exact cM' (E:=EUg) (q:=((0:Int)≤(1:Int)∧(1:Int)<((8:Nat):Int))∧K (.bool (ilt 0 x.n1)) (qK x)) (by kernel_rfl) ⟨⟨by decide,by decide⟩,h⟩
theorem EP(x:HST)(K:AVal→aC Ob→Prop)(h:K (.bool (ilt 0 x.n2)) (qK x)):cT' 36 [.ptr 0 0,.int .i64 2] (qK x) K:=by
 exact cM' (E:=EUg) (q:=((0:Int)≤(2:Int)∧(2:Int)<((8:Nat):Int))∧K (.bool (ilt 0 x.n2)) (qK x)) (by kernel_rfl) ⟨⟨by decide,by decide⟩,h⟩
theorem ES(x:HST)(K:AVal→aC Ob→Prop)(h:K (.bool (ilt 0 x.n3)) (qK x)):cT' 36 [.ptr 0 0,.int .i64 3] (qK x) K:=by
 exact cM' (E:=EUg) (q:=((0:Int)≤(3:Int)∧(3:Int)<((8:Nat):Int))∧K (.bool (ilt 0 x.n3)) (qK x)) (by kernel_rfl) ⟨⟨by decide,by decide⟩,h⟩
theorem EU(x:HST)(K:AVal→aC Ob→Prop)(h:K (.bool (ilt 0 x.n4)) (qK x)):cT' 36 [.ptr 0 0,.int .i64 4] (qK x) K:=by
 exact cM' (E:=EUg) (q:=((0:Int)≤(4:Int)∧(4:Int)<((8:Nat):Int))∧K (.bool (ilt 0 x.n4)) (qK x)) (by kernel_rfl) ⟨⟨by decide,by decide⟩,h⟩
theorem EV(x:HST)(K:AVal→aC Ob→Prop)(h:K (.bool (ilt 0 x.n5)) (qK x)):cT' 36 [.ptr 0 0,.int .i64 5] (qK x) K:=by
 exact cM' (E:=EUg) (q:=((0:Int)≤(5:Int)∧(5:Int)<((8:Nat):Int))∧K (.bool (ilt 0 x.n5)) (qK x)) (by kernel_rfl) ⟨⟨by decide,by decide⟩,h⟩
theorem EW(x:HST)(K:AVal→aC Ob→Prop)(h:K (.bool (ilt 0 x.n6)) (qK x)):cT' 36 [.ptr 0 0,.int .i64 6] (qK x) K:=by
 exact cM' (E:=EUg) (q:=((0:Int)≤(6:Int)∧(6:Int)<((8:Nat):Int))∧K (.bool (ilt 0 x.n6)) (qK x)) (by kernel_rfl) ⟨⟨by decide,by decide⟩,h⟩
theorem EX(x:HST)(K:AVal→aC Ob→Prop)(h:K (.bool (ilt 0 x.n7)) (qK x)):cT' 36 [.ptr 0 0,.int .i64 7] (qK x) K:=by
 exact cM' (E:=EUg) (q:=((0:Int)≤(7:Int)∧(7:Int)<((8:Nat):Int))∧K (.bool (ilt 0 x.n7)) (qK x)) (by kernel_rfl) ⟨⟨by decide,by decide⟩,h⟩
def aCc:bE Ob:=fun args h=>match args,h with
 | [.ptr 0 0,.int .i64 u],[some (.abs (.hist x) [])]=>some (0≤u∧u<8,.bool (ilt 0 (nAt x u)))
 | _,_=>none
theorem WB:sT' 36 aCc.spec:=by
 intro args h o ho K hK;unfold bE.spec at ho;split at ho
 case h_2=>cases ho
 rename_i hv;unfold aCc at hv;split at hv
 case h_2=>cases hv
 rename_i u x;simp only [sI',pI']at hv;obtain⟨rfl,rfl⟩:=hv;simp only [sI']at ho;subst ho;obtain⟨hu,hK⟩:=hK;have hK:K (.bool (ilt 0 (nAt x u))) [some (.abs (.hist x) [])]:=hK;refine aHn ?_;refine aHi (h2:=qK x) (aR.unpack (.hist x) 0 0 (wO x) [] rfl rfl rfl rfl) ?_;have ht: ∀b,aF (obI tbl) 1 (.bool b) (qK x) (.bool b) [some (.abs (.hist x) [])]:=fun b=>aF.pack [some (.abs (.hist x) [])] (.hist x) 0 0 (wO x) [] (by kernel_rfl) rfl rfl (by kernel_rfl)
 rcases(show u=0∨u=1∨u=2∨u=3∨u=4∨u=5∨u=6∨u=7 by omega)with rfl | rfl | rfl | rfl | rfl | rfl | rfl | rfl
 ·exact EM x _ ⟨⟨_,_,ht _,hK⟩⟩
 ·exact EN x _ ⟨⟨_,_,ht _,hK⟩⟩
 ·exact EP x _ ⟨⟨_,_,ht _,hK⟩⟩
 ·exact ES x _ ⟨⟨_,_,ht _,hK⟩⟩
 ·exact EU x _ ⟨⟨_,_,ht _,hK⟩⟩
 ·exact EV x _ ⟨⟨_,_,ht _,hK⟩⟩
 ·exact EW x _ ⟨⟨_,_,ht _,hK⟩⟩
 ·exact EX x _ ⟨⟨_,_,ht _,hK⟩⟩
theorem aEO{c:Bool}{α:Type}{a b:α}{p:α→Prop}(hc:c=false)(h:p b):p (bif c then a else b):=by rw [hc];exact h
theorem aFV{th:Int}(x:HST)(kd ky:Int)(h:0≤th∧th<8)(hn:ilt 0 (nAt x th)=false): ∀u,0≤u∧u<8→nAt (hbF th x kd ky).2 u=bif ieq u th then((x.cl.length+1:Nat):Int)else nAt x u:=by
 rcases th8 h with rfl | rfl | rfl | rfl | rfl | rfl | rfl | rfl<;>
 exact aEO (p:=fun r:Int×HST=> ∀u,0≤u∧u<8→nAt r.2 u=bif ieq u _ then((x.cl.length+1:Nat):Int)else nAt x u) hn (fun u hu=>by rcases th8 hu with rfl | rfl | rfl | rfl | rfl | rfl | rfl | rfl<;>rfl)
theorem aF0{th:Int}(x:HST)(code:Int)(okk:Bool)(val:Int)(h:0≤th∧th<8)(hn:ilt 0 (nAt x th)=true): ∀u,0≤u∧u<8→nAt (heF th x code okk val).2 u=bif ieq u th then 0 else nAt x u:=by
 have hn:(!ilt 0 (nAt x th))=false:=by rw [hn];rfl
 rcases th8 h with rfl | rfl | rfl | rfl | rfl | rfl | rfl | rfl<;>
 exact aEO (p:=fun r:Int×HST=> ∀u,0≤u∧u<8→nAt r.2 u=bif ieq u _ then 0 else nAt x u) hn (fun u hu=>by rcases th8 hu with rfl | rfl | rfl | rfl | rfl | rfl | rfl | rfl<;>rfl)
theorem aGi(w:WK1)(s:MS):(wsF w s).x.b =(!(wsF w s).d)∧(wsF w s).x.tk =w.tk:=by
 obtain⟨D,hD⟩: ∃D,D=rS w.1 w.2 w.6 w.3 s:=⟨_,rfl⟩
 have e:wsF w s=bif D.1 then(bif (DqO.x D).4 then {code:=(DqO.x D).1,okk:=(DqO.x D).2,val:=(DqO.x D).3,d:=true,x:= {w with st:=D.3,en:=W (w.5+1),b:=false,d:=d3,tl:=List.set w.7 (0+Int.toNat w.5*1) (W (List.getD w.7 (0+Int.toNat w.5*1) 0+1)),sl:=w.8++ [w.5] },s:=D.4}
  else {code:=(DqO.x D).1,okk:=(DqO.x D).2,val:=(DqO.x D).3,d:=true,x:= {w with st:=D.3,en:=W (w.5+1),b:=false,d:=d3,tl:=List.set w.7 (0+Int.toNat w.5*1) (W (List.getD w.7 (0+Int.toNat w.5*1) 0+1)),sl:=w.8},s:=D.4})
  else {code:=0,okk:=false,val:=0,d:=false,x:= {w with st:=D.3,b:=true,d:=D.2,tl:=List.set w.7 (0+Int.toNat w.5*1) (W (List.getD w.7 (0+Int.toNat w.5*1) 0+1)),sl:=w.8},s:=D.4} :=by rw [hD];rfl
 rw [e];cases D.1 with
 | false=>exact⟨rfl,rfl⟩
 | true=>cases (DqO.x D).4<;>exact⟨rfl,rfl⟩
theorem aFg(tr:Int)(x:WKS):(wbF tr x).tk =x.tk:=by unfold wbF;cases x.b<;>rfl
def sumK(ws:List WKS):Int:=(ws.map tkc).sum
theorem QS(ws:List WKS)(w:WKS): ∀i,i<ws.length→sumK (cG ws i w)=sumK ws - tkc (aX ws i)+tkc w:=by
 unfold sumK cG aX
 induction ws with
 | nil=>intro i hi;exact absurd hi (Nat.not_lt_zero _)
 | cons a ws ih=>
   intro i hi;cases i with
   | zero=>simp;omega
   | succ i=>
     have:=ih i (by simpa using hi)
     simp at this⊢;omega
theorem aFd(w:WKS):0≤tkc w:=by
 unfold tkc;cases (w.b&&drw w.d)<;>simp<;>omega
theorem F8(ws:List WKS):0≤sumK ws:=by
 unfold sumK
 induction ws with
 | nil=>exact Int.le_refl 0
 | cons a ws ih=>rw [List.map_cons,List.sum_cons];have:=aFd a;omega
structure sLq (T:Nat→List (List Int)) (t n:Int) (x:EGS):Prop where
 tk: ∀i,i<x.ws.length→(aX x.ws i).tk =T i
 ct:aD x.s.xs (2*n+5+2*t+3*t)=sumK x.ws
 ck:sumK x.ws≤x.k
 nb: ∀i,i<x.ws.length→ilt 0 (nAt x.h (i:Int))=(aX x.ws i).b
theorem aFb{T:Nat→List (List Int)}{t n th:Int}{x:EGS}(hx:egW t n x)(hc:sLq T t n x)(hy:Y3 t n th x):sLq T t n (aCv th x th.toNat):=by
 obtain⟨h0,hi,hk,he,hv⟩:=hy;have ht:=hx.ht;have h8:0≤th∧th<8:=by omega
 obtain⟨i,hti⟩: ∃i,i=th.toNat:=⟨_,rfl⟩;have hthi:th=(i:Int):=by omega
 rw [←hti]at hi he⊢;have hw:=hx.ws i hi;have hB:Bnd t n x.s:=⟨⟨ht.1,by omega⟩,hx.hn,by have:=hx.c;have:=hx.k;omega,hx.w,hx.mi,hx.ln⟩
 have hb:=RI (tr:=x.tr) hw ht.1 he;have hs:=RM hB hb.w (by omega)
 have hk0:=hx.k;have hk1:W (x.k+1)=x.k+1:=cP ⟨by omega,by omega⟩
 have h9:=F8 x.ws;have hsum:=QS x.ws (pkO x i).x i hi;have hb8:=aGi (CC x i) x.s
 have hK:(tkc (pkO x i).x =tkc (aX x.ws i)+1∧aD (pkO x i).s.xs (2*n+5+2*t+3*t)=WU (aD x.s.xs (2*n+5+2*t+3*t)+1))∨(tkc (pkO x i).x =tkc (aX x.ws i)∧aD (pkO x i).s.xs (2*n+5+2*t+3*t)=aD x.s.xs (2*n+5+2*t+3*t)):=by
  have h:=hs.k;rw [hb.k]at h;exact h
 have hn:=hc.nb i hi;rw [←hthi]at hn;refine⟨fun j hj=>?_,?_,?_,fun j hj=>?_⟩
 ·have hj:j<(cG x.ws i (pkO x i).x).length :=hj;rw [n8]at hj;show(aX (cG x.ws i (pkO x i).x) j).tk =T j;rw [vE hi]
  by_cases e:i=j
  ·subst e;rw [if_pos rfl];exact hb8.2.trans ((aFg _ _).trans (hc.tk i hi))
  ·rw [if_neg e];exact hc.tk j hj
 ·show aD (pkO x i).s.xs (2*n+5+2*t+3*t)=sumK (cG x.ws i (pkO x i).x);have h2:=hc.ct;have h3:=hc.ck;rcases hK with⟨k1,k2⟩ | ⟨k1,k2⟩
  ·have hWU:WU (sumK x.ws+1)=sumK x.ws+1:=l7 ⟨by omega,by omega⟩
   rw [k2,h2,hWU,hsum,k1];omega
  ·rw [k2,h2,hsum,k1];omega
 ·show sumK (cG x.ws i (pkO x i).x)≤W (x.k+1);have h3:=hc.ck;rw [hk1,hsum];rcases hK with⟨k1,k2⟩ | ⟨k1,k2⟩<;>omega
 ·have hj:j<(cG x.ws i (pkO x i).x).length :=hj;rw [n8]at hj;have hjl:=hx.l;have hj8:0≤(j:Int)∧(j:Int)<8:=by omega
  show ilt 0 (nAt (pkH th x i) (j:Int))=(aX (cG x.ws i (pkO x i).x) j).b
  have h1: ∀u,0≤u∧u<8→ilt 0 (nAt (PQ th x i) u)=(ieq u th||ilt 0 (nAt x.h u)):=by
   intro u hu;unfold PQ;cases hwb:(aX x.ws i).b with
   | true=>
     rw [hwb]at hn
     by_cases e:u=th
     ·subst e;rw [cond_true,hn];simp
     ·have:ieq u th=false:=by simpa [cV]using e
      rw [this];rfl
   | false=>
     rw [hwb]at hn;rw [cond_false,aFV _ _ _ h8 hn u hu]
     by_cases e:u=th
     ·have:ieq u th=true:=by simpa [cV]using e
      rw [this];show ilt 0 ((x.h.cl.length+1:Nat):Int)=true;rw [bB,dT'];omega
     ·have:ieq u th=false:=by simpa [cV]using e
      rw [this];rfl
  have h2:ilt 0 (nAt (pkH th x i) (j:Int))=bif ieq (j:Int) th then !(pkO x i).d else ilt 0 (nAt x.h (j:Int)):=by
   unfold pkH;cases hd:(pkO x i).d with
   | false=>
     rw [cond_false,h1 _ hj8];cases ieq (j:Int) th<;>rfl
   | true=>
     rw [cond_true,aF0 _ _ _ _ h8 (by rw [h1 _ h8,show ieq th th=true from by simp [cV]];rfl) _ hj8]
     cases e:ieq (j:Int) th with
     | true=>rfl
     | false=>rw [cond_false,h1 _ hj8,e];rfl
  rw [h2,vE hi]
  by_cases e:i=j
  ·subst e;rw [if_pos rfl,←hthi];have:ieq th th=true:=by simp [cV]
   rw [this];exact hb8.1.symm
  ·rw [if_neg e]
   have:ieq (j:Int) th=false:=by
    have: ¬(j:Int)=th:=by omega
    simpa [cV]using this
   rw [this];exact hc.nb j hj
theorem aFc{T:Nat→List (List Int)}{t n:Int}(th:Int){x:EGS}(hx:egW t n x)(hc:sLq T t n x):sLq T t n (pkF th x).2:=by
 rcases PR th hx with h | hy
 ·rw [h];exact hc
 ·have:=aFb hx hc hy;rw [hy.hv];exact this
theorem aC3{T:Nat→List (List Int)}{t n:Int}(us:List Int): ∀(x:EGS) (c:Int),egW t n x→sLq T t n x→sLq T t n (runP x c us).1:=by
 induction us with
 | nil=>intro x c _ h;exact h
 | cons u us ih=>intro x c hx h;exact ih _ _ (FP u hx).w (aFc u hx h)
theorem aC2(sh th nd tr:Int)(m:Nat)(ln:Nat→Nat)(f g:Nat→Nat→Int):sLq (fun i=>(d7 sh th nd m ln f g i).tk) th nd (cW sh th nd tr m ln f g):=by
 have hz:sumK (cW sh th nd tr m ln f g).ws =0:=by
  show(((List.range th.toNat).map (d7 sh th nd m ln f g)).map tkc).sum =0;rw [List.map_map];generalize List.range th.toNat=l
  induction l with
  | nil=>rfl
  | cons a l ih=>rw [List.map_cons,List.sum_cons,ih];rfl
 refine⟨fun i hi=>?_,?_,by rw [hz];exact Int.le_refl 0,fun i hi=>?_⟩
 rotate_left
 ·rw [hz];exact uS _ _
 all_goals
  have hi:i<((List.range th.toNat).map (d7 sh th nd m ln f g)).length :=hi;rw [List.length_map,List.length_range]at hi
  have e:aX (cW sh th nd tr m ln f g).ws i=d7 sh th nd m ln f g i:=by
   show aX ((List.range th.toNat).map (d7 sh th nd m ln f g)) i=_;unfold aX;rw [gD',List.getElem?_map,List.getElem?_range hi];rfl
  rw [e]
 ·unfold nAt;show ilt 0 (bif ieq (i:Int) 0 then 0 else bif ieq (i:Int) 1 then 0 else bif ieq (i:Int) 2 then 0 else bif ieq (i:Int) 3 then 0 else bif ieq (i:Int) 4 then 0 else bif ieq (i:Int) 5 then 0 else bif ieq (i:Int) 6 then 0 else 0)=false;simp [bB]
noncomputable def EUk:=((((EUg.addS 22 ewkS aBa).addR 26 cfR aAj).addS 25 gn2S aBE).addR 36 aCc WB)
structure ec2 (th:Int) (u:Nat):Prop where
 h:(u:Int)≤th
structure ec4 (l:List Int) (q:Nat):Prop where
 h:q≤l.length
abbrev vRr(ln:Nat→Nat)(f g:Nat→Nat→Int):Nat→List AVal:=fun i=>[.view (ln i) 2 fun j=>[.int .i64 (f i j),.int .i64 (g i j)]]
abbrev jobE(sh th nd tr:Int)(m:Nat)(ln:Nat→Nat)(f g:Nat→Nat→Int):Option (aH Ob):=some (.cells [.int .i64 sh,.int .i64 th,.int .i64 nd,.int .i64 tr,B9 m ln f g])
def HET1(J:Option (aH Ob))(X:EGS)(th:Int):Hint Ob:= {X:=Nat,st:=fun u=>([.O,.O,.ptr 0 0,.O,.O,.ptr 1 0,.O,.int .i64 (slwK X u),.int .i64 (undK X u),.ptr 2 0,.int .i64 (u:Int)]++List.replicate 97 .O,[J,some (.abs (.engine X) []),some (.abs (.hist X.h) [])]),ok:=ec2 th,mu:=fun u=>(th - (u:Int)).toNat,keep:=[2,5,7,8,9,10] }
def lN(J:Option (aH Ob))(X:EGS)(z:Int):Hint Ob:= {X:=Nat,st:=fun q=>([.O,.O,.ptr 0 0,.O,.O,.ptr 1 0,.O,.int .i64 (slwK X (z.toNat+1)),.int .i64 (undK X (z.toNat+1)),.ptr 2 0,.int .i64 z]++List.replicate 51 .O ++ [.slice 3 0 (b9 z X).length 1,.int .i64 ((b9 z X).length :Int),.int .i64 (q:Int)]++List.replicate 43 .O,[J,some (.abs (.engine X) []),some (.abs (.hist X.h) []),some (.ints (some .i64) (b9 z X))]),ok:=ec4 (b9 z X),mu:=fun q=>(b9 z X).length - q,keep:=[2,5,7,8,9,10,62,63,64] }
def LEK(J:Option (aH Ob))(X:EGS)(th:Int):FuncId→Nat→Option (sN Ob):=fun _ j=>match j with
 | 12=>some (.states (HET1 J X th))
 | 18=>some (.statesAt 10 (lN J X))
 | _=>none
abbrev w3l(f g:Nat→Nat→Int)(ln:Nat→Nat)(m:Nat)(nd sh th tr:Int):Option (aH Ob):=some (.cells [.int .i64 sh,.int .i64 th,.int .i64 nd,.int .i64 tr,.view m 1 (vRr ln f g)])
def TX(sh th nd tr:Int)(m:Nat)(ln:Nat→Nat)(f g:Nat→Nat→Int)(n:Nat)(pt pm:Nat→Int)(X:EGS)(K:AVal→aC Ob→Prop):Prop:=(iO (vRr ln f g))∧bif G9 m n (vL (vRr ln f g))then K (.bool true) []else(m≤(1000000:Nat)∧iO (vRr ln f g))∧bif !ieq (gnC sh th nd tr m (vL (vRr ln f g)) (vK (vRr ln f g)) (vY (vRr ln f g))) 0 then K (.bool true) []else True∧(((m≤(1000000:Nat)∧iO (vRr ln f g))∧gnC sh th nd tr m (vL (vRr ln f g)) (vK (vRr ln f g)) (vY (vRr ln f g))=(0:Int))∧True)∧(I9 (egX sh th nd tr m (vRr ln f g))∧n≤(4294967296:Nat)∧rowOk (WT pt pm))∧(List.length (EGS.h (runP (egX sh th nd tr m (vRr ln f g)) 0 (bW n (WT pt pm))).1).1≤(4294967296:Nat)∧List.length (EGS.h (runP (egX sh th nd tr m (vRr ln f g)) 0 (bW n (WT pt pm))).1).2≤(4294967296:Nat))∧okSt (HET1 (jobE sh th nd tr m ln f g) X th) (Hint.ok (HET1 (jobE sh th nd tr m ln f g) X th)) (.O::.O::.ptr 0 0::.O::.O::.ptr 1 0::.O::.int .i64 0::.int .i64 0::.ptr 2 0::.int .i64 0::(tO' 97 [])) [w3l f g ln m nd sh th tr,some (.abs (.engine (runP (egX sh th nd tr m (vRr ln f g)) 0 (bW n (WT pt pm))).1) []),some (.abs (.hist (Prod.fst (runP (egX sh th nd tr m (vRr ln f g)) 0 (bW n (WT pt pm)))).6) [])]∧ ∀(x:Nat),ec2 th x→bif ilt (↑x:Int) th then wJ X∧((0:Int)≤(↑x:Int)∧(↑x:Int)<(8:Int))∧bif ilt 0 (nAt X.6 (↑x:Int))then wJ X∧okSt (lN (jobE sh th nd tr m ln f g) X (↑x:Int)) (Hint.ok (lN (jobE sh th nd tr m ln f g) X (↑x:Int))) (.O::.O::.ptr 0 0::.O::.O::.ptr 1 0::.O::.int .i64 (W (slwK X x+(↑(List.length (b9 (↑x:Int) X)):Int)))::.int .i64 (W (undK X x+1))::.ptr 2 0::.int .i64 (↑x:Int)::(tO' 51 (.slice 3 0 (List.length (b9 (↑x:Int) X)) 1::.int .i64 (↑(List.length (b9 (↑x:Int) X)):Int)::.int .i64 0::(tO' 43 [])))) [w3l f g ln m nd sh th tr,some (.abs (.engine X) []),some (.abs (.hist X.6) []),some (.ints (some .i64) (b9 (↑x:Int) X))]∧ ∀(x_1:Nat),ec4 (b9 (↑x:Int) X) x_1→bif ilt (↑x_1:Int) (↑(List.length (b9 (↑x:Int) X)):Int)then((0:Int)≤(↑x_1:Int)∧(↑x_1:Int)<(↑(List.length (b9 (↑x:Int) X)):Int))∧0+Int.toNat (↑x_1:Int)*(1:Nat)<List.length (b9 (↑x:Int) X)∧bif ile (↑m:Int) (↑x:Int)then K (.bool false) []else bif ilt (List.getD (b9 (↑x:Int) X) (0+Int.toNat (↑x_1:Int)*1) 0) 0 then K (.bool false) []else((0:Int)≤(↑x:Int)∧(↑x:Int)<(↑m:Int))∧True∧bif ile (W ((↑(ln (Int.toNat (↑x:Int))):Int) - gE (↑x:Int) X)) (List.getD (b9 (↑x:Int) X) (0+Int.toNat (↑x_1:Int)*1) 0)then K (.bool false) []else okSt (lN (jobE sh th nd tr m ln f g) X (↑x:Int)) (fun x'=>Hint.ok (lN (jobE sh th nd tr m ln f g) X (↑x:Int)) x'∧Hint.mu (lN (jobE sh th nd tr m ln f g) X (↑x:Int)) x'<Hint.mu (lN (jobE sh th nd tr m ln f g) X (↑x:Int)) x_1) (.O::.O::.ptr 0 0::.O::.O::.ptr 1 0::.O::.int .i64 (slwK X (Int.toNat (↑x:Int)+1))::.int .i64 (undK X (Int.toNat (↑x:Int)+1))::.ptr 2 0::.int .i64 (↑x:Int)::(tO' 51 (.slice 3 0 (List.length (b9 (↑x:Int) X)) 1::.int .i64 (↑(List.length (b9 (↑x:Int) X)):Int)::.int .i64 (W ((↑x_1:Int)+1))::(tO' 43 [])))) [w3l f g ln m nd sh th tr,some (.abs (.engine X) []),some (.abs (.hist X.6) []),some (.ints (some .i64) (b9 (↑x:Int) X))]else okSt (HET1 (jobE sh th nd tr m ln f g) X th) (fun x'=>Hint.ok (HET1 (jobE sh th nd tr m ln f g) X th) x'∧Hint.mu (HET1 (jobE sh th nd tr m ln f g) X th) x'<Hint.mu (HET1 (jobE sh th nd tr m ln f g) X th) x) (.O::.O::.ptr 0 0::.O::.O::.ptr 1 0::.O::.int .i64 (slwK X (Int.toNat (↑x:Int)+1))::.int .i64 (undK X (Int.toNat (↑x:Int)+1))::.ptr 2 0::.int .i64 (W ((↑x:Int)+1))::(tO' 97 [])) [w3l f g ln m nd sh th tr,some (.abs (.engine X) []),some (.abs (.hist X.6) [])]else wJ X∧okSt (lN (jobE sh th nd tr m ln f g) X (↑x:Int)) (Hint.ok (lN (jobE sh th nd tr m ln f g) X (↑x:Int))) (.O::.O::.ptr 0 0::.O::.O::.ptr 1 0::.O::.int .i64 (W (slwK X x+(↑(List.length (b9 (↑x:Int) X)):Int)))::.int .i64 (undK X x)::.ptr 2 0::.int .i64 (↑x:Int)::(tO' 51 (.slice 3 0 (List.length (b9 (↑x:Int) X)) 1::.int .i64 (↑(List.length (b9 (↑x:Int) X)):Int)::.int .i64 0::(tO' 43 [])))) [w3l f g ln m nd sh th tr,some (.abs (.engine X) []),some (.abs (.hist X.6) []),some (.ints (some .i64) (b9 (↑x:Int) X))]∧ ∀(x_1:Nat),ec4 (b9 (↑x:Int) X) x_1→bif ilt (↑x_1:Int) (↑(List.length (b9 (↑x:Int) X)):Int)then((0:Int)≤(↑x_1:Int)∧(↑x_1:Int)<(↑(List.length (b9 (↑x:Int) X)):Int))∧0+Int.toNat (↑x_1:Int)*(1:Nat)<List.length (b9 (↑x:Int) X)∧bif ile (↑m:Int) (↑x:Int)then K (.bool false) []else bif ilt (List.getD (b9 (↑x:Int) X) (0+Int.toNat (↑x_1:Int)*1) 0) 0 then K (.bool false) []else((0:Int)≤(↑x:Int)∧(↑x:Int)<(↑m:Int))∧True∧bif ile (W ((↑(ln (Int.toNat (↑x:Int))):Int) - gE (↑x:Int) X)) (List.getD (b9 (↑x:Int) X) (0+Int.toNat (↑x_1:Int)*1) 0)then K (.bool false) []else okSt (lN (jobE sh th nd tr m ln f g) X (↑x:Int)) (fun x'=>Hint.ok (lN (jobE sh th nd tr m ln f g) X (↑x:Int)) x'∧Hint.mu (lN (jobE sh th nd tr m ln f g) X (↑x:Int)) x'<Hint.mu (lN (jobE sh th nd tr m ln f g) X (↑x:Int)) x_1) (.O::.O::.ptr 0 0::.O::.O::.ptr 1 0::.O::.int .i64 (slwK X (Int.toNat (↑x:Int)+1))::.int .i64 (undK X (Int.toNat (↑x:Int)+1))::.ptr 2 0::.int .i64 (↑x:Int)::(tO' 51 (.slice 3 0 (List.length (b9 (↑x:Int) X)) 1::.int .i64 (↑(List.length (b9 (↑x:Int) X)):Int)::.int .i64 (W ((↑x_1:Int)+1))::(tO' 43 [])))) [w3l f g ln m nd sh th tr,some (.abs (.engine X) []),some (.abs (.hist X.6) []),some (.ints (some .i64) (b9 (↑x:Int) X))]else okSt (HET1 (jobE sh th nd tr m ln f g) X th) (fun x'=>Hint.ok (HET1 (jobE sh th nd tr m ln f g) X th) x'∧Hint.mu (HET1 (jobE sh th nd tr m ln f g) X th) x'<Hint.mu (HET1 (jobE sh th nd tr m ln f g) X th) x) (.O::.O::.ptr 0 0::.O::.O::.ptr 1 0::.O::.int .i64 (slwK X (Int.toNat (↑x:Int)+1))::.int .i64 (undK X (Int.toNat (↑x:Int)+1))::.ptr 2 0::.int .i64 (W ((↑x:Int)+1))::(tO' 97 [])) [w3l f g ln m nd sh th tr,some (.abs (.engine X) []),some (.abs (.hist X.6) [])]else True∧(((0:Int)≤(EGS.s X).1∧(EGS.s X).1≤(100000:Int))∧(0:Int)≤(EGS.s X).2∧(EGS.s X).2≤(100000:Int))∧True∧bif ile (slwK X x) (W (aD (EGS.s X).3 (2*(EGS.s X).2+5+2*(EGS.s X).1+3*(EGS.s X).1)))then K (.bool (ile (W (aD (EGS.s X).3 (2*(EGS.s X).2+5+2*(EGS.s X).1+3*(EGS.s X).1))) (W (slwK X x+undK X x)))) []else K (.bool false) []
theorem NU(sh th nd tr:Int)(m:Nat)(ln:Nat→Nat)(f g:Nat→Nat→Int)(n:Nat)(pt pm:Nat→Int)(X:EGS)(K:AVal→aC Ob→Prop)(h:TX sh th nd tr m ln f g n pt pm X K):cT' 5 [.agg [.int .i64 sh,.int .i64 th,.int .i64 nd,.int .i64 tr,B9 m ln f g],.view n 2 (WT pt pm)] [] (kS 0 K):=by
 exact aE (E:=EUk) Tryz.checked.mixed (L:=LEK (jobE sh th nd tr m ln f g) X th) (n:=10) (aJ (by kernel_rfl) h)
theorem Wj{x:Int}(h:0≤x∧x≤1000000000000):W x=x:=cP ⟨by omega,by omega⟩
theorem WL{sh th nd tr:Int}{m:Nat}{ln:Nat→Nat}{f g:Nat→Nat→Int}(h:gnC sh th nd tr m ln f g=0)(j:Nat):(d7 sh th nd m ln f g j).tk.length =if j<m then ln j else 0:=by
 have h0:=OP h;have h1:=OQ h;unfold gnC at h;rw [h0,h1]at h;show(bif ilt (j:Int) (m:Int)then ofR sh (ln j) (f j) (g j)else []).length =_
 by_cases hj:j<m
 ·have e:ilt (j:Int) (m:Int)=true:=by rw [bB,dT'];omega
  rw [e,if_pos hj];cases ha:(List.range m).all (fun j=>d6 sh (ln j) (f j) (g j))with
  | false=>rw [ha]at h;exact absurd (show(1:Int)=0 from h) (by decide)
  | true=>
    have ha:=List.all_eq_true.1 ha j (List.mem_range.2 hj);show(ofR sh (ln j) (f j) (g j)).length =ln j;unfold ofR;rw [ha];exact l4 _ _ _ _
 ·have e:ilt (j:Int) (m:Int)=false:=by rw [bB,dF'];omega
  rw [e,if_neg hj];rfl
theorem ZI(X:EGS)(u:Nat):slwK X (u+1)=slwK X u+((b9 (u:Int) X).length :Int):=by
 unfold slwK;rw [List.range_succ,List.map_append,List.sum_append]
 simp
theorem ZM(X:EGS)(u:Nat):undK X (u+1)=undK X u+bif ilt 0 (nAt X.h (u:Int))then 1 else 0:=by
 unfold undK;rw [List.range_succ,List.map_append,List.sum_append]
 simp
theorem u6{th nd:Int}{X:EGS}(hX:egW th nd X){u:Nat}(hu:(u:Int)<th):b9 (u:Int) X=(aX X.ws u).sl :=by
 have hl:=hX.l;have n1:ilt (u:Int) 0=false:=by rw [bB,dF'];omega
 have n2:ile (X.ws.length:Int) (u:Int)=false:=by rw [cA,dF'];omega
 unfold b9;rw [n1,n2,Int.toNat_natCast];rfl
theorem PB{th nd:Int}{X:EGS}(hX:egW th nd X){u:Nat}(hu:(u:Int)<th):gE (u:Int) X=((aX X.ws u).tk.length :Int) - (aX X.ws u).en :=by
 have hl:=hX.l;have hw:=hX.ws u (by omega)
 have h1:=hw.e0;have h2:=hw.e1;have h3:=hw.tk;have n1:ilt (u:Int) 0=false:=by rw [bB,dF'];omega
 have n2:ile (X.ws.length:Int) (u:Int)=false:=by rw [cA,dF'];omega
 have e:gE (u:Int) X=W (((aX X.ws u).tk.length :Int) - (aX X.ws u).en):=by unfold gE;rw [n1,n2,Int.toNat_natCast];rfl
 rw [e,Wj ⟨by omega,by omega⟩]
theorem QT(ws:List WKS)(u:Nat)(hu:u<ws.length):sumK (ws.take (u+1))=sumK (ws.take u)+tkc (aX ws u):=by
 unfold sumK;rw [List.take_succ,List.map_append,List.sum_append,gE' hu];unfold aX;rw [gD',gE' hu]
 simp
theorem XO{T:Nat→List (List Int)}{th nd:Int}{X:EGS}(hX:egW th nd X)(hT:sLq T th nd X): ∀u:Nat,(u:Int)≤th→0≤slwK X u∧0≤undK X u∧undK X u≤(u:Int)∧slwK X u≤sumK (X.ws.take u)∧sumK (X.ws.take u)≤slwK X u+undK X u:=by
 intro u
 induction u with
 | zero=>intro _;exact⟨Int.le_refl 0,Int.le_refl 0,Int.le_refl 0,Int.le_refl 0,Int.le_refl 0⟩
 | succ u ih=>
   intro hu;have hl:=hX.l;have h1:=ih (by omega)
   have hul:u<X.ws.length:=by omega
   have hn:=hT.nb u hul;rw [ZI,ZM,QT _ _ hul,u6 hX (by omega),hn]
   unfold tkc;cases (aX X.ws u).b with
   | false=>simp only [Bool.false_and,cond_false];omega
   | true=>
     cases drw (aX X.ws u).d with
     | false=>simp only [Bool.and_false,cond_false,cond_true];omega
     | true=>simp only [Bool.and_true,cond_true];omega
theorem XE(a b:List WKS):sumK (a++b)=sumK a+sumK b:=by unfold sumK;rw [List.map_append,List.sum_append]
theorem aCQ(ws:List WKS)(u:Nat):sumK (ws.take u)≤sumK ws:=by
 have h1:=F8 (ws.drop u);have h2:=XE (ws.take u) (ws.drop u);rw [List.take_append_drop]at h2;omega
set_option maxRecDepth 10000 in
theorem aD7(sh th nd tr:Int)(m:Nat)(ln:Nat→Nat)(f g:Nat→Nat→Int)(n:Nat)(pt pm:Nat→Int)(X:EGS)(hXe:(runP (cW sh th nd tr m ln f g) 0 (bW n (WT pt pm))).1=X)(K:AVal→aC Ob→Prop)(hK:K (.bool true) []):TX sh th nd tr m ln f g n pt pm X K:=by
 have e1:vL (vRr ln f g)=ln:=rfl;have e2:vK (vRr ln f g)=f:=rfl;have e3:vY (vRr ln f g)=g:=rfl;have e4:egX sh th nd tr m (vRr ln f g)=cW sh th nd tr m ln f g:=rfl;unfold TX;rw [e1,e2,e3,e4,hXe];refine⟨⟨rfl⟩,bI (fun _=>hK) (fun hg=>?_)⟩;obtain⟨hm,hnn⟩:=aEw hg;refine⟨⟨by omega,⟨rfl⟩⟩,bI (fun _=>hK) (fun hc=>?_)⟩
 have hc0:gnC sh th nd tr m ln f g=0:=by
  rw [cV]at hc
  simpa using hc
 have hx:=GU hc0;have hX:=F5 (bW n (WT pt pm)) _ 0 hx;have hT:=aC3 (bW n (WT pt pm)) _ 0 hx (aC2 sh th nd tr m ln f g);rw [hXe]at hX hT;have hl:=AQ hX;have hk:=hX.k;have ht:=hX.ht;have hws:=hX.l;have hfit:=NM hX;have hsm:=XO hX hT;have hck:=hT.ck;have hle: ∀u,sumK (X.ws.take u)≤sumK X.ws:=aCQ X.ws;refine⟨trivial,⟨⟨⟨by omega,⟨rfl⟩⟩,hc0⟩,trivial⟩,⟨⟨_,_,hx⟩,by omega,⟨_,_,rfl⟩⟩,hl,?_⟩
 refine⟨bC (H:=HET1 (jobE sh th nd tr m ln f g) X th) (0:Nat) rfl ⟨by show((0:Nat):Int)≤th;omega⟩,?_⟩
 rintro u ⟨hu⟩;have h1:=hsm u hu;have h2:=hle u;refine bI (fun a1=>?_) (fun a1=>?_)
 ·have a1:=iB a1;have h3:=hsm (u+1) (by omega)
  have h4:=hle (u+1);have hsl:=ZI X u;have hul:u<X.ws.length:=by omega
  have hw:=hX.ws u hul;have hW1:W (slwK X u+((b9 (u:Int) X).length :Int))=slwK X (u+1):=by rw [←hsl];exact Wj ⟨by omega,by omega⟩
  have hend:okSt (HET1 (jobE sh th nd tr m ln f g) X th) (fun x'=>Hint.ok (HET1 (jobE sh th nd tr m ln f g) X th) x'∧Hint.mu (HET1 (jobE sh th nd tr m ln f g) X th) x'<Hint.mu (HET1 (jobE sh th nd tr m ln f g) X th) u) ((HET1 (jobE sh th nd tr m ln f g) X th).st (u+1:Nat)).1 ((HET1 (jobE sh th nd tr m ln f g) X th).st (u+1:Nat)).2:=
   bC (H:=HET1 (jobE sh th nd tr m ln f g) X th) (u+1:Nat) rfl ⟨⟨by show((u+1:Nat):Int)≤th;omega⟩,by show(th - ((u+1:Nat):Int)).toNat <(th - (u:Int)).toNat;omega⟩
  have hWu:W ((u:Int)+1)=((u+1:Nat):Int):=by rw [Wj ⟨by omega,by omega⟩];omega
  have hbody: ∀q:Nat,ec4 (b9 (u:Int) X) q→q<(b9 (u:Int) X).length →u<m∧0≤List.getD (b9 (u:Int) X) (0+Int.toNat (q:Int)*1) 0∧List.getD (b9 (u:Int) X) (0+Int.toNat (q:Int)*1) 0<W ((ln (Int.toNat (u:Int)):Int) - gE (u:Int) X):=by
   intro q _ hq;rw [u6 hX (by omega)]at hq⊢
   have hmem:List.getD (aX X.ws u).sl (0+Int.toNat (q:Int)*1) 0∈(aX X.ws u).sl :=by
    rw [show 0+Int.toNat (q:Int)*1=q from by rw [Int.toNat_natCast];omega,gD',gE' hq]
    exact List.getElem_mem hq
   have hb:=hw.sb _ hmem;have he1:=hw.e1;have htk:=hT.tk u hul;have hlen:=WL hc0 u;have hlen:(aX X.ws u).tk.length =if u<m then ln u else 0:=by rw [htk];exact hlen
   by_cases hum:u<m
   ·rw [if_pos hum]at hlen;have htl:=hw.tk;show u<m∧0≤_∧_<W ((ln u:Int) - gE (u:Int) X);rw [PB hX (by omega),hlen,Wj ⟨by omega,by omega⟩]
    exact⟨hum,hb.1,by omega⟩
   ·rw [if_neg hum]at hlen;omega
  have hU:=ZM X u
  have hrest: ∀uu:Int,uu=undK X (u+1)→okSt (lN (jobE sh th nd tr m ln f g) X (u:Int)) (Hint.ok (lN (jobE sh th nd tr m ln f g) X (u:Int))) ((lN (jobE sh th nd tr m ln f g) X (u:Int)).st (0:Nat)).1 ((lN (jobE sh th nd tr m ln f g) X (u:Int)).st (0:Nat)).2:=fun uu _=>
   bC (H:=lN (jobE sh th nd tr m ln f g) X (u:Int)) (0:Nat) rfl ⟨Nat.zero_le _⟩
  refine⟨hfit,⟨by omega,by omega⟩,bI (fun b1=>?_) (fun b1=>?_)⟩
  all_goals
   rw [b1]at hU;rw [hW1];refine⟨hfit,?_,?_⟩
   ·first
     | (have hW2:W (undK X u+1)=undK X (u+1):=by rw [hU];exact Wj ⟨by omega,by omega⟩
        rw [hW2];exact hrest _ rfl)
     | (have hW2:undK X u=undK X (u+1):=by rw [hU];simp
        rw [hW2];exact hrest _ rfl)
   ·intro q hq;have hq0:=hq.h;refine bI (fun a2=>?_) (fun _=>?_)
    ·have a2:=iB a2;have hql:q<(b9 (u:Int) X).length :=by omega
     obtain⟨b2,b3,b4⟩:=hbody q hq hql;refine⟨⟨by omega,a2⟩,by rw [Int.toNat_natCast];omega,bI (fun r=>absurd (O7 r) (by omega)) (fun _=>bI (fun r=>absurd (iB r) (by omega)) (fun _=>⟨⟨by omega,by omega⟩,trivial,bI (fun r=>absurd (O7 r) (by omega)) (fun _=>?_)⟩))⟩
     have hWq:W ((q:Int)+1)=((q+1:Nat):Int):=by
      have h5:((b9 (u:Int) X).length :Int)≤1000000:=by rw [u6 hX (by omega)];have:=hfit.hs u hul;omega
      rw [Wj ⟨by omega,by omega⟩];omega
     rw [hWq];exact bC (H:=lN (jobE sh th nd tr m ln f g) X (u:Int)) (q+1:Nat) rfl ⟨⟨by show q+1≤_;omega⟩,by show(b9 (u:Int) X).length - (q+1)<(b9 (u:Int) X).length - q;omega⟩
    ·rw [hWu];exact hend
 ·have a1:=gD a1;have hu8:(u:Int)=th:=by omega
  have hst:=hX.st;have hsn:=hX.sn;have hal:X.ws.take u=X.ws:=List.take_of_length_le (by omega)
  rw [hal]at h1;have hct:=hT.ct;refine⟨trivial,⟨⟨by rw [hst];omega,by rw [hst];omega⟩,by rw [hsn];have:=hX.hn;omega,by rw [hsn];have:=hX.hn;omega⟩,trivial,?_⟩
  have ep:aD (EGS.s X).3 (2*(EGS.s X).2+5+2*(EGS.s X).1+3*(EGS.s X).1)=sumK X.ws:=by
   have:(2*(EGS.s X).2+5+2*(EGS.s X).1+3*(EGS.s X).1)=2*nd+5+2*th+3*th:=by
    rw [show(EGS.s X).2=nd from hsn,show(EGS.s X).1=th from hst]
   rw [this];exact hct
  have h9:=F8 X.ws;rw [ep,Wj (x:=sumK X.ws) ⟨by omega,by omega⟩,Wj (x:=slwK X u+undK X u) ⟨by omega,by omega⟩]
  refine bI (fun _=>?_) (fun r=>absurd (BX r) (by omega))
  rw [show ile (sumK X.ws) (slwK X u+undK X u)=true from by rw [cA,dT'];omega]
  exact hK
end Go.Sh
