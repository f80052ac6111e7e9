import Derived.Test.YteindpciaceeeaaGreatZSh35toSh36
set_option linter.all false
set_option maxHeartbeats 8000000
namespace Go.Sh
open Go Go.Proofs
variable [Con]
def aB4:bI Ob:=fun args h=>match args,h with
 | [.ptr 0 0,.int .i64 th],[some (.abs (.engine x) [])]=>some (True,.I (gV th x))
 | _,_=>none
theorem WI:sT' 33 aB4.spec:=by
 intro args h o ho K hK;unfold bI.spec at ho;split at ho
 case h_2=>cases ho
 rename_i hv;unfold aB4 at hv;split at hv
 case h_2=>cases hv
 simp only [sI',pI']at hv;obtain⟨rfl,rfl⟩:=hv;simp only [sI']at ho;subst ho;exact PO _ _ _ rfl K hK
def aAz:bI Ob:=fun args h=>match args,h with
 | [.ptr 0 0],[some (.abs (.engine x) [])]=>some (True,.I x.k)
 | _,_=>none
theorem TL:sT' 34 aAz.spec:=by
 intro args h o ho K hK;unfold bI.spec at ho;split at ho
 case h_2=>cases ho
 rename_i hv;unfold aAz at hv;split at hv
 case h_2=>cases hv
 simp only [sI',pI']at hv;obtain⟨rfl,rfl⟩:=hv;simp only [sI']at ho;subst ho;exact NC _ _ _ rfl K hK
def aAp:bI Ob:=fun args h=>match args,h with
 | [.ptr 0 0],[some (.abs (.engine x) [])]=>some (True,.agg [.I x.s.t,.I x.s.n])
 | _,_=>none
theorem TE:sT' 38 aAp.spec:=by
 intro args h o ho K hK;unfold bI.spec at ho;split at ho
 case h_2=>cases ho
 rename_i hv;unfold aAp at hv;split at hv
 case h_2=>cases hv
 simp only [sI',pI']at hv;obtain⟨rfl,rfl⟩:=hv;simp only [sI']at ho;subst ho;exact MY _ _ _ rfl K hK
def aB6:dG Ob:=fun args h=>match args,h with
 | [.ptr 0 0,.int .i64 th],[some (.abs (.engine x) [])]=>some (GJ x,.slice 1 0 (bM th x).length 1,[.ints (some .i64) (bM th x)])
 | _,_=>none
theorem WL:sT' 32 aB6.spec:=by
 intro args h o ho K hK;unfold dG.spec at ho;split at ho
 case h_2=>cases ho
 rename_i hv;unfold aB6 at hv;split at hv
 case h_2=>cases hv
 simp only [sI',pI']at hv;obtain⟨rfl,rfl,rfl⟩:=hv;simp only [sI']at ho;subst ho;exact PS _ _ _ rfl K hK
def aAn:dG Ob:=fun args h=>match args,h with
 | [.ptr 0 0],[some (.abs (.engine x) [])]=>some (x.h.ev.length≤4294967296∧x.h.cl.length≤4294967296,.ptr 1 0,[.abs (.hist x.h) []])
 | _,_=>none
theorem TC:sT' 28 aAn.spec:=by
 intro args h o ho K hK;unfold dG.spec at ho;split at ho
 case h_2=>cases ho
 rename_i hv;unfold aAn at hv;split at hv
 case h_2=>cases hv
 simp only [sI',pI']at hv;obtain⟨rfl,rfl,rfl⟩:=hv;simp only [sI']at ho;subst ho;exact MT _ _ _ rfl K hK
def aAo:dG Ob:=fun args h=>match args,h with
 | [.ptr 0 0],[some (.abs (.engine x) [])]=>some (0≤x.s.n∧x.s.n≤100000,.slice 1 0 (gH x).length 1,[.ints (some .i64) (gH x)])
 | _,_=>none
theorem TD:sT' 55 aAo.spec:=by
 intro args h o ho K hK;unfold dG.spec at ho;split at ho
 case h_2=>cases ho
 rename_i hv;unfold aAo at hv;split at hv
 case h_2=>cases hv
 simp only [sI',pI']at hv;obtain⟨rfl,rfl,rfl⟩:=hv;simp only [sI']at ho;subst ho;exact MV _ _ _ rfl K hK
noncomputable def EUe0:=((((((((((EUd.addR 33 aB4 WI).addR 34 aAz TL).addR 38 aAp TE))).addN 32 aB6 WL))).addN 28 aAn TC).addN 55 aAo TD)
noncomputable def EUe:oL Ob Tryz.prog:= {EUe0 with fld:=FF tbl Tryz.prog,fldOk:=fun t l off h v hk V hR w b k hi hV=>JZ t l off h v hk V hR w b k hi hV}
theorem MP{t n:Int}{x:EGS}(h:egW t n x):GJ x:=by
 have hk:=h.k;refine⟨by have:=h.l;have:=h.ht;omega,fun i hi=>?_,fun i hi=>?_,fun i hi=>?_⟩
 ·have h1:=(h.ws i hi).tl;have:=(h.ws i hi).e1;have:=(h.ws i hi).tk;cases hb:(a8 x.ws i).b with
  | true=>
    rw [hb]at h1;have h1:((a8 x.ws i).tl.length :Int)=(a8 x.ws i).en +1:=h1;omega
  | false=>
    rw [hb]at h1;have h1:((a8 x.ws i).tl.length :Int)=(a8 x.ws i).en +0:=h1;omega
 ·have:=(h.ws i hi).sl;have:=(h.ws i hi).e1;have:=(h.ws i hi).tk;omega
 ·have:=(h.ws i hi).st.3;omega
theorem AQ{t n:Int}{x:EGS}(h:egW t n x):x.h.ev.length≤4294967296∧x.h.cl.length≤4294967296:=by
 have:=h.h.he;have:=h.h.hc;have hk:=h.k;exact⟨by omega,by omega⟩
end Go.Sh
namespace Go.Sh
open Go Go.Proofs
theorem kE{b:Bool}{x y:aC Mc}(hx:cT x=true)(hy:cT y=true):cT (bif b then x else y)=true:=by cases b<;>assumption
theorem wW{A:Type}(ws:List (Option A)): ∀k,aHe (rowC k ws)=true:=by
 induction ws with
 | nil=>intro k;rfl
 | cons w ws ih=>
   intro k;cases w with
   | none=>exact ih (k+1)
   | some t=>exact ih (k+1)
theorem OT(v:AVal)(hv:v.noV=true)(l:List AVal): ∀i,aHe l=true→aHe (l.set i v)=true:=by
 induction l with
 | nil=>intro i h;exact h
 | cons a l ih=>
   intro i h;obtain⟨h1,h2⟩:=Bool.and_eq_true_iff.1 h;cases i with
   | zero=>exact Bool.and_eq_true_iff.2 ⟨hv,h2⟩
   | succ i=>exact Bool.and_eq_true_iff.2 ⟨h1,ih i h2⟩
theorem CL{A:Type}(ws:List (Option A)):cT (PR ws)=true:=by
 induction ws with
 | nil=>rfl
 | cons w ws ih=>cases w<;>exact ih
theorem VP{A:Type}(h:aC A): ∀i,cT h=true→cT (h.set i none)=true:=by
 induction h with
 | nil=>intro i hh;exact hh
 | cons e h ih=>
   intro i hh;unfold cT at hh⊢;rw [List.all_cons,Bool.and_eq_true]at hh;cases i with
   | zero=>rw [List.set_cons_zero,List.all_cons,Bool.and_eq_true];exact⟨rfl,hh.2⟩
   | succ i=>rw [List.set_cons_succ,List.all_cons,Bool.and_eq_true];exact⟨hh.1,ih i hh.2⟩
theorem HN(t:Mc):cT (tbl t).2=true:=by
 cases t with
 | sweep t n y=>show cT (KR t n y)=true;unfold KR;split<;>rfl
 | ensure t n e=>show cT (DD t n e)=true;unfold DD;split<;>rfl
 | find t n x=>show cT (uL t n x)=true;unfold uL;exact kE rfl rfl
 | fast t n x=>show cT (mZ t n x)=true;unfold mZ;exact kE rfl (kE rfl (kE rfl rfl))
 | help t n x=>show cT (kA t n x)=true;unfold kA;exact kE rfl (kE rfl (kE rfl (kE rfl (kE rfl rfl))))
 | doer t n x=>
   show cT (eC t n x)=true;unfold eC
   repeat' (first | apply kE | rfl)
 | worker w=>show cT (wkG w)=true;unfold wkG;exact kE rfl rfl
 | wrow ws=>
   show cT (rowE (ws.map fun w=>some (Mc.worker w)))=true;unfold rowE cT;rw [List.all_cons,Bool.and_eq_true];exact⟨wW _ 1,CL _⟩
 | whole ws i=>
   show cT (kR (ws.map fun w=>some (Mc.worker w)) i)=true;unfold kR cT;rw [List.all_cons,List.all_cons,Bool.and_eq_true,Bool.and_eq_true];exact⟨OT _ rfl _ i (wW _ 2),rfl,VP _ i (CL _)⟩
 | _=>rfl
variable [c:Con]
def row2(a b c d:Int)(i:Nat):List AVal:=[.I (bif Nat.beq i 0 then a else c),.I (bif Nat.beq i 0 then b else d)]
def runLS:aI Ob:=fun args h=>match args,h with
 | [.ptr 0 0,.slice 1 0 n 2],[some (.abs (.engine x) []),some (.cells [.int .i64 p,.int .i64 q,.int .i64 r,.int .i64 s])]=>some (.pre (n=2∧IM x) (.ret (.I (runP x 0 (cD 2 (row2 p q r s))).2) [some (.abs (.engine (runP x 0 (cD 2 (row2 p q r s))).1) []),cE' [.I p,.I q,.I r,.I s]]))
 | _,_=>none
def aDc(i:Nat):Bool:= !(Nat.beq i 1)
theorem WM:sT' 27 runLS:=by
 intro args h o ho K hK;unfold runLS at ho;split at ho<;>cases ho
 rename_i n x p q r s;obtain⟨⟨rfl,hx⟩,hK⟩:=hK;have hK:K (.I (runP x 0 (cD 2 (row2 p q r s))).2) [some (.abs (.engine (runP x 0 (cD 2 (row2 p q r s))).1) []),cE' [.I p,.I q,.I r,.I s]]:=hK;refine aHE (args2:=[.ptr 0 0,.view 2 2 (row2 p q r s)]) HN aDc ?_ ?_
 ·intro c' hc V l hm hr;obtain⟨v0,l0,rfl,r0,v1,l1,rfl,r1,r2⟩:=hr;refine⟨v0,_,rfl,Rep.con hc _ _ r0,v1,_,rfl,?_,r2⟩;obtain⟨pp,p1,p2⟩:=hm 1 _ rfl rfl;refine tQ (Rep.con hc _ _ r1) p1 p2 ?_ (Nat.le_refl _);intro i hi;refine⟨rfl,fun rs h=>?_⟩
  match i,hi with
  | 0,_=>exact h
  | 1,_=>exact h
  | i+2,hi=>omega
 ·intro c';have h1:=@FZ c' [.ptr 0 0,.view 2 2 (row2 p q r s)] [some (.abs (.engine x) [])] _ rfl (fun v g=>v=.I (runP x 0 (cD 2 (row2 p q r s))).2∧g=[some (.abs (.engine (runP x 0 (cD 2 (row2 p q r s))).1) [])]) ⟨⟨hx,by decide,⟨_,_,rfl⟩⟩,⟨rfl,rfl⟩⟩
  refine aHm h1 [0] rfl (by decide) (fun l hl=>by rw [qV,List.mem_singleton.1 hl];exact Nat.zero_lt_succ _) ?_ rfl ?_
  ·intro i l hi
   match i,hi with
   | 0,hi=>cases hi;rfl
   | i+1,hi=>simp at hi
  ·rintro v g ⟨rfl,rfl⟩ _;refine⟨rfl,rfl,?_,hK⟩;intro l hl hS
   match l,hl with
   | 0,_=>cases hS
   | 1,_=>rfl
   | l+2,hl=>simp at hl;omega
def gB(a c:Int)(i:Nat):Int:=bif Nat.beq i 0 then a else c
def newLS:aI Ob:=fun args h=>match args,h with
 | [.agg [.int .i64 sh,.int .i64 th,.int .i64 nd,.int .i64 tr],.slice 0 0 n 1],[some (.cells [.slice 1 0 n1 2,.slice 2 0 n2 2]),some (.cells [.int .i64 p,.int .i64 q]),some (.cells [.int .i64 r,.int .i64 s])]=>some (.pre ((n=2∧n1=1∧n2=1)∧gnC sh th nd tr 2 (fun _=>1) (fun i _=>gB p r i) (fun i _=>gB q s i)=0)
    (.ret (.tup [.ptr 3 0,.I 0]) [cE' [.slice 1 0 1 2,.slice 2 0 1 2],cE' [.I p,.I q],cE' [.I r,.I s],some (.abs (.engine (dC sh th nd tr 2 (fun _=>1) (fun i _=>gB p r i) (fun i _=>gB q s i))) [])]))
 | _,_=>none
def vr2(p q r s:Int)(i:Nat):List AVal:=[.view 1 2 (fun _=>[.I (gB p r i),.I (gB q s i)])]
theorem VN:sT' 25 newLS:=by
 intro args h o ho K hK;unfold newLS at ho;split at ho<;>cases ho
 rename_i sh th nd tr n n1 n2 p q r s;obtain⟨⟨⟨rfl,rfl,rfl⟩,hg⟩,hK⟩:=hK;have hK:K (.tup [.ptr 3 0,.I 0]) [cE' [.slice 1 0 1 2,.slice 2 0 1 2],cE' [.I p,.I q],cE' [.I r,.I s],some (.abs (.engine (dC sh th nd tr 2 (fun _=>1) (fun i _=>gB p r i) (fun i _=>gB q s i))) [])]:=hK;refine aHE (args2:=[.agg [.I sh,.I th,.I nd,.I tr],.view 2 1 (vr2 p q r s)]) HN (fun _=>false) ?_ ?_
 ·intro c' hc V l hm hr;obtain⟨v0,l0,rfl,r0,v1,l1,rfl,r1,r2⟩:=hr;refine⟨v0,_,rfl,Rep.con hc _ _ r0,v1,_,rfl,?_,r2⟩;obtain⟨p0,a1,a2⟩:=hm 0 _ rfl rfl;obtain⟨p1,b1,b2⟩:=hm 1 _ rfl rfl;obtain⟨p2,d1,d2⟩:=hm 2 _ rfl rfl;refine tQ (Rep.con hc _ _ r1) a1 a2 ?_ (Nat.le_refl _);intro i hi;refine⟨rfl,fun rs h=>?_⟩
  match i,hi with
  | 0,_=>
    obtain⟨y,ys,rfl,y1,y2⟩:=h;refine⟨y,ys,rfl,?_,y2⟩
    have y3: @Rep c' V (.view 1 2 (fun _=>[.I p,.I q])) y:=tQ y1 b1 b2 (fun j hj=>⟨rfl,fun rs h=>by
     match j,hj with
     | 0,_=>exact h
     | j+1,hj=>omega⟩) (Nat.le_refl _)
    exact y3
  | 1,_=>
    obtain⟨y,ys,rfl,y1,y2⟩:=h;refine⟨y,ys,rfl,?_,y2⟩
    have y3: @Rep c' V (.view 1 2 (fun _=>[.I r,.I s])) y:=tQ y1 d1 d2 (fun j hj=>⟨rfl,fun rs h=>by
     match j,hj with
     | 0,_=>exact h
     | j+1,hj=>omega⟩) (Nat.le_refl _)
    exact y3
  | i+2,hi=>omega
 ·intro c'
  have h1:=@GZ c' [.agg [.I sh,.I th,.I nd,.I tr],.view 2 1 (vr2 p q r s)] [] _ rfl (fun v g=>v=.tup [.ptr 0 0,.I 0]∧g=[some (.abs (.engine (dC sh th nd tr 2 (fun _=>1) (fun i _=>gB p r i) (fun i _=>gB q s i))) [])]) ⟨⟨by decide,⟨rfl⟩⟩,by
   show(qD sh th nd tr 2 (fun _=>1) (fun i _=>gB p r i) (fun i _=>gB q s i)).run _;unfold qD;rw [hg];exact⟨rfl,rfl⟩⟩
  refine aHm h1 [] rfl (by decide) (fun l hl=>by cases hl) ?_ rfl ?_
  ·intro i l hi;simp at hi
  ·rintro v g ⟨rfl,rfl⟩ _;refine⟨rfl,rfl,?_,hK⟩;intro l hl hS
   match l,hl with
   | 0,_=>rfl
   | 1,_=>rfl
   | 2,_=>rfl
   | l+3,hl=>simp at hl;omega
end Go.Sh
namespace Go.Sh
open Go Go.Proofs
variable [Con]
def G0(m n:Nat)(ln:Nat→Nat):Bool:=bif ilt 10 (m:Int)then true else bif ilt 60 (n:Int)then true else(List.range m).any (fun i=>ilt 50 (ln i:Int))
structure gr1 (m:Nat) (ln:Nat→Nat) (x:Nat):Prop where
 hi:x≤m
 hl: ∀j,j<x→ilt 50 (ln j:Int)=false
def RF(m:Nat)(ln:Nat→Nat)(f g:Nat→Nat→Int):Hint Ob:= {X:=Nat,st:=fun x=>(List.replicate 17 .O ++ [CO m ln f g,.I (m:Int),.I (x:Int)]++List.replicate 7 .O,[]),ok:=gr1 m ln,mu:=fun x=>m - x,keep:=[17,18,19] }
def LGR(m:Nat)(ln:Nat→Nat)(f g:Nat→Nat→Int):FuncId→Nat→Option (pR Ob):=fun _ k=>match k with
 | 4=>some (.states (RF m ln f g))
 | _=>none
def UD(sh th nd tr:Int)(m:Nat)(ln:Nat→Nat)(f g:Nat→Nat→Int)(n:Nat)(row:Nat→List AVal)(K:AVal→aC Ob→Prop):Prop:=bif ilt 10 (↑m:Int)then K (.bool true) []else bif ilt 60 (↑n:Int)then K (.bool true) []else okSt (RF m ln f g) (Hint.ok (RF m ln f g)) (tO' 17 [(.view m 1 fun i=>[.view (ln i) 2 fun j=>[.I (f i j),.I (g i j)]]),.I (↑m:Int),.I 0,.O,.O,.O,.O,.O,.O,.O]) []∧ ∀(x:Nat),gr1 m ln x→bif ilt (↑x:Int) (↑m:Int)then((0:Int)≤(↑x:Int)∧(↑x:Int)<(↑m:Int))∧bif ilt 50 (↑(ln (Int.toNat (↑x:Int))):Int)then K (.bool true) []else okSt (RF m ln f g) (fun x'=>Hint.ok (RF m ln f g) x'∧Hint.mu (RF m ln f g) x'<Hint.mu (RF m ln f g) x) (tO' 17 [(.view m 1 fun i=>[.view (ln i) 2 fun j=>[.I (f i j),.I (g i j)]]),.I (↑m:Int),.I (W ((↑x:Int)+1)),.O,.O,.O,.O,.O,.O,.O]) []else K (.bool false) []
theorem NW(sh th nd tr:Int)(m:Nat)(ln:Nat→Nat)(f g:Nat→Nat→Int)(n:Nat)(row:Nat→List AVal)(K:AVal→aC Ob→Prop)(h:UD sh th nd tr m ln f g n row K):cT' 23 [.agg [.I sh,.I th,.I nd,.I tr,CO m ln f g],.view n 2 row] [] (kJ 0 K):=by
 exact aD (E:=EUe) Tryz.checked.mixed (L:=LGR m ln f g) (n:=10) (aJ (by kernel_rfl) h)
abbrev pZ:List Code1:=[some .i64,none,some .i64,some .i64,some .i64,none,some .i64]
theorem aA8{m n:Nat}{ln:Nat→Nat}(h:ilt 10 (m:Int)=true):G0 m n ln=true:=by unfold G0;rw [h];rfl
theorem aBa{m n:Nat}{ln:Nat→Nat}(h:ilt 10 (m:Int)=false)(h2:ilt 60 (n:Int)=true):G0 m n ln=true:=by unfold G0;rw [h,h2];rfl
theorem aA9{m n:Nat}{ln:Nat→Nat}(h:ilt 10 (m:Int)=false)(h2:ilt 60 (n:Int)=false){i:Nat}(hi:i<m)(h3:ilt 50 (ln i:Int)=true):G0 m n ln=true:=by
 unfold G0;rw [h,h2];exact List.any_eq_true.2 ⟨i,List.mem_range.2 hi,h3⟩
theorem aBb{m n:Nat}{ln:Nat→Nat}(h:ilt 10 (m:Int)=false)(h2:ilt 60 (n:Int)=false)(h3: ∀i,i<m→ilt 50 (ln i:Int)=false):G0 m n ln=false:=by
 unfold G0;rw [h,h2];show(List.range m).any _=false;rw [List.any_eq_false];intro i hi;rw [h3 i (List.mem_range.1 hi)];simp
theorem aDY{m n:Nat}{ln:Nat→Nat}(h:G0 m n ln=false):m≤10∧n≤60:=by
 unfold G0 at h;cases h1:ilt 10 (m:Int)with
 | true=>rw [h1]at h;cases h
 | false=>
   cases h2:ilt 60 (n:Int)with
   | true=>rw [h1,h2]at h;cases h
   | false=>have:=eD h1;have:=eD h2;omega
theorem aD0(sh th nd tr:Int)(m:Nat)(ln:Nat→Nat)(f g:Nat→Nat→Int)(n:Nat)(row:Nat→List AVal)(K:AVal→aC Ob→Prop)(hK:K (.bool (G0 m n ln)) []):UD sh th nd tr m ln f g n row K:=by
 have key: ∀c,G0 m n ln=c→K (.bool c) []:=fun c e=>by rw [←e];exact hK
 unfold UD;refine aT (fun e1=>key true (aA8 e1)) (fun e1=>?_);refine aT (fun e2=>key true (aBa e1 e2)) (fun e2=>?_);have m10:=eD e1;refine⟨aP (H:=RF m ln f g) (0:Nat) rfl ⟨Nat.zero_le _,fun j hj=>absurd hj (Nat.not_lt_zero _)⟩,?_⟩;rintro x ⟨hx,hxl⟩;refine aT (fun a1=>?_) (fun a1=>?_)
 ·have a1:=d0 a1;have hxm:x<m:=by omega
  rw [Int.toNat_natCast];refine⟨⟨by omega,by omega⟩,aT (fun a2=>key true (aA9 e1 e2 hxm a2)) (fun a2=>?_)⟩
  rw [W1 hxm (by omega)]
  refine aP (H:=RF m ln f g) (x+1:Nat) rfl ⟨⟨hxm,fun j hj=>?_⟩,by show m - (x+1)<m - x;omega⟩
  by_cases e:j=x
  ·subst e;exact a2
  ·exact hxl j (by omega)
 ·have a1:=eD a1;exact key false (aBb e1 e2 (fun i hi=>hxl i (by omega)))
def grS:aI Ob:=fun args h=>match args,h with
 | [.agg [.int .i64 sh,.int .i64 th,.int .i64 nd,.int .i64 tr,.view m 1 vr],.view n 2 row],[]=>some (.pre (iX vr) (.ret (.bool (G0 m n (vL vr))) []))
 | _,_=>none
theorem aDZ:sT' 23 grS:=by
 intro args h o ho K hK;unfold grS at ho;split at ho<;>cases ho
 rename_i sh th nd tr m vr n row;obtain⟨⟨hr⟩,hK⟩:=hK;rw [hr];exact aGK (NW sh th nd tr m (vL vr) (vK vr) (vY vr) n row K (aD0 sh th nd tr m (vL vr) (vK vr) (vY vr) n row K hK))
noncomputable def EUf:=(EUe.addS 23 grS aDZ)
noncomputable def EUg:=(EUf.addS 25 (aI.or newLS gnS) (aG9 VN GZ)).addS 27 (aI.or runLS runS) (aG9 WM FZ)
def RW(K:AVal→aC Ob→Prop):Prop:=((2=2∧1=1∧1=1)∧(gnC 4 2 5 1 2 (fun x=>(1:Nat)) (fun i x=>gB 4 5 i) fun i x=>gB 3 0 i)=(0:Int))∧(2=2∧IM (dC 4 2 5 1 2 (fun x=>(1:Nat)) (fun i x=>gB 4 5 i) fun i x=>gB 3 0 i))∧(List.length (EGS.h (runP (dC 4 2 5 1 2 (fun x=>(1:Nat)) (fun i x=>gB 4 5 i) fun i x=>gB 3 0 i) 0 (cD 2 (row2 0 99 1 99))).1).1≤(4294967296:Nat)∧List.length (EGS.h (runP (dC 4 2 5 1 2 (fun x=>(1:Nat)) (fun i x=>gB 4 5 i) fun i x=>gB 3 0 i) 0 (cD 2 (row2 0 99 1 99))).1).2≤(4294967296:Nat))∧List.length (EGS.h (runP (dC 4 2 5 1 2 (fun x=>(1:Nat)) (fun i x=>gB 4 5 i) fun i x=>gB 3 0 i) 0 (cD 2 (row2 0 99 1 99))).1).2≤(4294967296:Nat)∧True∧bif ieq (runP (dC 4 2 5 1 2 (fun x=>(1:Nat)) (fun i x=>gB 4 5 i) fun i x=>gB 3 0 i) 0 (cD 2 (row2 0 99 1 99))).2 (Prod.fst (runP (dC 4 2 5 1 2 (fun x=>(1:Nat)) (fun i x=>gB 4 5 i) fun i x=>gB 3 0 i) 0 (cD 2 (row2 0 99 1 99)))).8 then bif ieq (↑(List.length (EGS.h (runP (dC 4 2 5 1 2 (fun x=>(1:Nat)) (fun i x=>gB 4 5 i) fun i x=>gB 3 0 i) 0 (cD 2 (row2 0 99 1 99))).1).2):Int) 2 then((0:Int)≤(1:Int)∧(1:Int)<(↑(List.length (EGS.h (runP (dC 4 2 5 1 2 (fun x=>(1:Nat)) (fun i x=>gB 4 5 i) fun i x=>gB 3 0 i) 0 (cD 2 (row2 0 99 1 99))).1).2):Int))∧0+Int.toNat (1:Int)<List.length (EGS.h (runP (dC 4 2 5 1 2 (fun x=>(1:Nat)) (fun i x=>gB 4 5 i) fun i x=>gB 3 0 i) 0 (cD 2 (row2 0 99 1 99))).1).2∧bif bif ieq (List.headD (List.tail (List.tail (List.tail (List.tail (List.tail (List.tail (List.getD (EGS.h (runP (dC 4 2 5 1 2 (fun x=>(1:Nat)) (fun i x=>gB 4 5 i) fun i x=>gB 3 0 i) 0 (cD 2 (row2 0 99 1 99))).1).2 (0+Int.toNat 1) []))))))) 0) 0 then bif bif !ieq (List.headD (List.tail (List.tail (List.tail (List.tail (List.tail (List.tail (List.tail (List.getD (EGS.h (runP (dC 4 2 5 1 2 (fun x=>(1:Nat)) (fun i x=>gB 4 5 i) fun i x=>gB 3 0 i) 0 (cD 2 (row2 0 99 1 99))).1).2 (0+Int.toNat 1) [])))))))) 0) 0 then true else false then bif ieq (List.headD (List.tail (List.tail (List.tail (List.tail (List.tail (List.tail (List.tail (List.tail (List.getD (EGS.h (runP (dC 4 2 5 1 2 (fun x=>(1:Nat)) (fun i x=>gB 4 5 i) fun i x=>gB 3 0 i) 0 (cD 2 (row2 0 99 1 99))).1).2 (0+Int.toNat 1) []))))))))) 0) 3 then true else false else false else false then True∧bif ieq (gV 0 (runP (dC 4 2 5 1 2 (fun x=>(1:Nat)) (fun i x=>gB 4 5 i) fun i x=>gB 3 0 i) 0 (cD 2 (row2 0 99 1 99))).1) 0 then((0:Int)≤(EGS.s (runP (dC 4 2 5 1 2 (fun x=>(1:Nat)) (fun i x=>gB 4 5 i) fun i x=>gB 3 0 i) 0 (cD 2 (row2 0 99 1 99))).1).2∧(EGS.s (runP (dC 4 2 5 1 2 (fun x=>(1:Nat)) (fun i x=>gB 4 5 i) fun i x=>gB 3 0 i) 0 (cD 2 (row2 0 99 1 99))).1).2≤(100000:Int))∧K (.bool (ieq (↑(List.length (gH (runP (dC 4 2 5 1 2 (fun x=>(1:Nat)) (fun i x=>gB 4 5 i) fun i x=>gB 3 0 i) 0 (cD 2 (row2 0 99 1 99))).1)):Int) 0)) []else K (.bool false) []else K (.bool false) []else K (.bool false) []else K (.bool false) []
theorem LS(K:AVal→aC Ob→Prop)(h:RW K):cT' 22 [] [] (kJ 0 K):=by
 exact cM' (E:=EUg) (by kernel_rfl) h
theorem xX{b:Bool}{p q:Prop}(h:b=true)(hp:p):bif b then p else q:=by rw [h];exact hp
theorem aAC(K:AVal→aC Ob→Prop)(hK:K (.bool true) []):RW K:=by
 have h0:gnC 4 2 5 1 2 (fun x=>(1:Nat)) (fun i x=>gB 4 5 i) (fun i x=>gB 3 0 i)=0:=by kernel_rfl
 have hw:=GK h0;have e1:(runP (dC 4 2 5 1 2 (fun x=>(1:Nat)) (fun i x=>gB 4 5 i) (fun i x=>gB 3 0 i)) 0 (cD 2 (row2 0 99 1 99))).2=19:=by kernel_rfl
 have e2:(runP (dC 4 2 5 1 2 (fun x=>(1:Nat)) (fun i x=>gB 4 5 i) (fun i x=>gB 3 0 i)) 0 (cD 2 (row2 0 99 1 99))).1.k =19:=by kernel_rfl
 have e3:(runP (dC 4 2 5 1 2 (fun x=>(1:Nat)) (fun i x=>gB 4 5 i) (fun i x=>gB 3 0 i)) 0 (cD 2 (row2 0 99 1 99))).1.h.cl =[[0,1,0,0,4,3,0,1,0],[2,3,1,1,5,0,0,1,3]]:=by kernel_rfl
 have e4:gV 0 (runP (dC 4 2 5 1 2 (fun x=>(1:Nat)) (fun i x=>gB 4 5 i) (fun i x=>gB 3 0 i)) 0 (cD 2 (row2 0 99 1 99))).1=0:=by kernel_rfl
 have e5:(gH (runP (dC 4 2 5 1 2 (fun x=>(1:Nat)) (fun i x=>gB 4 5 i) (fun i x=>gB 3 0 i)) 0 (cD 2 (row2 0 99 1 99))).1).length =0:=by kernel_rfl
 have hr:=FY (cD 2 (row2 0 99 1 99)) _ 0 hw;unfold RW;generalize hR:runP (dC 4 2 5 1 2 (fun x=>(1:Nat)) (fun i x=>gB 4 5 i) (fun i x=>gB 3 0 i)) 0 (cD 2 (row2 0 99 1 99))=R at e1 e2 e3 e4 e5 hr⊢;have hn:=hr.sn;have hl:=AQ hr;refine⟨⟨⟨rfl,rfl,rfl⟩,h0⟩,⟨rfl,⟨⟨_,_,hw⟩⟩⟩,hl,hl.2,trivial,?_⟩;rw [e1,e2,e3,e4,e5];refine xX (by kernel_rfl) (xX (by kernel_rfl) ⟨⟨by decide,by decide⟩,by decide,xX (by kernel_rfl) ⟨trivial,xX (by kernel_rfl) ⟨by omega,?_⟩⟩⟩)
 exact hK
def ewkS:aI Ob:=fun args h=>match args,h with
 | [],[]=>some (.ret (.bool true) [])
 | _,_=>none
theorem aAB:sT' 22 ewkS:=by
 intro args h o ho K hK;unfold ewkS at ho;split at ho
 case h_2=>cases ho
 simp only [sI']at ho;subst ho;exact aGK (LS K (aAC K hK))
def aC9(sh th nd tr:Int)(m:Nat)(vr:Nat→List AVal)(K:AVal→aC Ob→Prop):Prop:=K (.agg [.I sh,.I th,.I nd,.I tr]) []
theorem LX(sh th nd tr:Int)(m:Nat)(vr:Nat→List AVal)(K:AVal→aC Ob→Prop)(h:aC9 sh th nd tr m vr K):cT' 26 [.agg [.I sh,.I th,.I nd,.I tr,.view m 1 vr]] [] (kJ 0 K):=by
 exact cM' (E:=EUg) (by kernel_rfl) h
def cfR:bI Ob:=fun args h=>match args,h with
 | [.agg [.int .i64 sh,.int .i64 th,.int .i64 nd,.int .i64 tr,.view m 1 vr]],[]=>some (True,.agg [.I sh,.I th,.I nd,.I tr])
 | _,_=>none
theorem ZJ:sT' 26 cfR.spec:=by
 intro args h o ho K hK;unfold bI.spec at ho;split at ho
 case h_2=>cases ho
 rename_i p v hv;unfold cfR at hv;split at hv
 case h_2=>cases hv
 rename_i sh th nd tr m vr;simp only [sI',pI']at hv;obtain⟨rfl,rfl⟩:=hv;simp only [sI']at ho;subst ho;obtain⟨_,hK⟩:=hK;exact aGK (LX sh th nd tr m vr K hK)
def gn1S:aI Ob:=fun args h=>match args,h with
 | [.agg [.int .i64 sh,.int .i64 th,.int .i64 nd,.int .i64 tr],.view m 1 vr],[]=>some (.pre ((m≤1000000∧iX vr)∧gnC sh th nd tr m (vL vr) (vK vr) (vY vr)=0) (.ret (.tup [.ptr 0 0,.I 0]) (egH (dC sh th nd tr m (vL vr) (vK vr) (vY vr)))))
 | _,_=>none
theorem aA3:sT' 25 gn1S:=by
 intro args h o ho K hK;unfold gn1S at ho;split at ho<;>cases ho
 rename_i sh th nd tr m vr;obtain⟨⟨h1,h2⟩,hK⟩:=hK;have hS:gnS [.agg [.I sh,.I th,.I nd,.I tr],.view m 1 vr] []=some (.pre (m≤1000000∧iX vr) (qD sh th nd tr m (vL vr) (vK vr) (vY vr))):=rfl;refine GZ _ _ _ hS K ⟨h1,?_⟩;show(qD sh th nd tr m (vL vr) (vK vr) (vY vr)).run K;unfold qD;rw [h2];exact hK
abbrev LA(pt pm:Nat→Int)(i:Nat):List AVal:=[.I (pt i),.I (pm i)]
def thE(e:List Int):Int:=List.headD e 0
def endE(e:List Int):Bool:=!ieq (List.headD (List.tail e) 0) 0
def pdF(ev:List (List Int))(th:Int):Bool:=ev.foldl (fun b e=>bif ieq (thE e) th then !endE e else b) false
structure CQL where
 th:Int
 bg:Int
 en:Int
 kd:Int
 ky:Int
 code:Int
 okk:Bool
 val:Int
instance:Inhabited CQL:=⟨⟨0,0,0,0,0,0,false,0⟩⟩
def aFe(e:List Int)(i:Nat):CQL:=⟨thE e,(i:Int),-1,List.headD (List.tail (List.tail e)) 0,List.headD (List.tail (List.tail (List.tail e))) 0,0,false,0⟩
def aFg(c:CQL)(e:List Int)(j:Nat):CQL:=⟨c.th,c.bg,(j:Int),c.kd,c.ky,List.headD (List.tail (List.tail (List.tail (List.tail e)))) 0,!ieq (List.headD (List.tail (List.tail (List.tail (List.tail (List.tail e))))) 0) 0,List.headD (List.tail (List.tail (List.tail (List.tail (List.tail (List.tail e)))))) 0⟩
def H7(ev:List (List Int))(i:Nat)(c:CQL)(d:Nat):CQL:=bif ilt c.en 0&&ieq (thE (ev.getD (i+1+d) [])) c.th then aFg c (ev.getD (i+1+d) []) (i+1+d)else c
def cqR(ev:List (List Int))(i n:Nat):CQL:=(List.range n).foldl (H7 ev i) (aFe (ev.getD i []) i)
def uE(c:CQL):List Int:=[c.th,c.bg,c.en,c.kd,c.ky,c.code,bif c.okk then 1 else 0,c.val]
def cqF(ev:List (List Int))(k:Nat):List (List Int):=((List.range k).filter fun i=>!endE (ev.getD i [])).map fun i=>uE (cqR ev i (ev.length - (i+1)))
def egX(sh th nd tr:Int)(m:Nat)(vr:Nat→List AVal):EGS:=dC sh th nd tr m (vL vr) (vK vr) (vY vr)
def gn2S:aI Ob:=fun args h=>match args,h with
 | [.agg [.int .i64 sh,.int .i64 th,.int .i64 nd,.int .i64 tr],.view m 1 vr],[]=>some (.pre ((m≤1000000∧iX vr)∧gnC sh th nd tr m (vL vr) (vK vr) (vY vr)=0) (.ret (.tup [.ptr 0 0,.int .i64 0]) (egH (egX sh th nd tr m vr))))
 | _,_=>none
theorem aA4:sT' 25 gn2S:=by
 intro args h o ho K hK;unfold gn2S at ho;split at ho<;>cases ho
 rename_i sh th nd tr m vr;have hS:gn1S [.agg [.int .i64 sh,.int .i64 th,.int .i64 nd,.int .i64 tr],.view m 1 vr] []=some (.pre ((m≤1000000∧iX vr)∧gnC sh th nd tr m (vL vr) (vK vr) (vY vr)=0) (.ret (.tup [.ptr 0 0,.int .i64 0]) (egH (dC sh th nd tr m (vL vr) (vK vr) (vY vr))))):=rfl;exact aA3 _ _ _ hS K hK
def sumU(X:EGS)(u:Nat):Int:=((List.range u).map fun(i:Nat)=>(bM (i:Int) X).sum).sum
def mF(X:EGS)(u q:Nat):Int:=sumU X u+((bM (u:Int) X).take q).sum
def cntB(C:List (List Int))(u:Int)(k:Nat):Nat:=((C.take k).filter fun c=>ieq (List.headD c 0) u).length
def cntE(C:List (List Int))(u:Int)(k:Nat):Nat:=((C.take k).filter fun c=>ieq (List.headD c 0) u&&ile 0 (List.headD (List.tail (List.tail c)) 0)).length
structure pd1 (ev:List (List Int)) (th:Int) (j:Nat):Prop where
 h1:j≤ev.length
 h2:pdF (ev.take j) th=pdF ev th
def RH(ev:List (List Int))(th:Int):Hint Ob:= {X:=Nat,st:=fun j=>([.tslice 0 0 ev.length 7,.I th,.O,.O,.O,.I ((j:Int) - 1)]++List.replicate 20 .O,[some (.tab pZ ev)]),ok:=pd1 ev th,mu:=fun j=>j,keep:=[0,1,5] }
def LPD(ev:List (List Int))(th:Int):FuncId→Nat→Option (pR Ob):=fun _ k=>match k with
 | 2=>some (.states (RH ev th))
 | _=>none
def VS(ev:List (List Int))(th:Int)(K:AVal→aC Ob→Prop):Prop:=okSt (RH ev th) (Hint.ok (RH ev th)) (.tslice 0 0 ev.length 7::.I th::.O::.O::.O::.I (W ((↑ev.length:Int) - 1))::(tO' 20 [])) [some (.tab cK7 ev)]∧ ∀(x:Nat),pd1 ev th x→bif ile 0 ((↑x:Int) - 1)then((0:Int)≤(↑x:Int) - 1∧(↑x:Int) - (1:Int)<(↑ev.length:Int))∧0+Int.toNat ((↑x:Int) - 1)<ev.length∧bif ieq (List.headD (List.getD ev (0+Int.toNat ((↑x:Int) - 1)) []) 0) th then((0:Int)≤(↑x:Int) - 1∧(↑x:Int) - (1:Int)<(↑ev.length:Int))∧0+Int.toNat ((↑x:Int) - 1)<ev.length∧K (.bool !!ieq (List.headD (List.tail (List.getD ev (0+Int.toNat ((↑x:Int) - 1)) [])) 0) 0) [some (.tab cK7 ev)]else okSt (RH ev th) (fun x'=>Hint.ok (RH ev th) x'∧Hint.mu (RH ev th) x'<Hint.mu (RH ev th) x) (.tslice 0 0 ev.length 7::.I th::.O::.O::.O::.I (W ((↑x:Int) - 1 - 1))::(tO' 20 [])) [some (.tab cK7 ev)]else K (.bool false) [some (.tab cK7 ev)]
theorem OY(ev:List (List Int))(th:Int)(K:AVal→aC Ob→Prop)(h:VS ev th K):cT' 88 [.tslice 0 0 ev.length 7,.I th] [some (.tab pZ ev)] (kJ 1 K):=by
 exact aD (E:=EUg) Tryz.checked.mixed (L:=LPD ev th) (n:=10) (aJ (by kernel_rfl) h)
abbrev RZ:List Code1:=[some .i64,some .i64,some .i64,some .i64,some .i64,some .i64,none,some .i64]
structure cq1 (ev:List (List Int)) (i:Nat):Prop where
 h1:i≤ev.length
structure cr1 (ev:List (List Int)) (i n:Nat):Prop where
 h1:i+1+n≤ev.length
 h2:endE (ev.getD i [])=false
 h3:0<n→(cqR ev i (n - 1)).en <0
abbrev cqV(c:CQL):List AVal:=[.I c.th,.I c.bg,.I c.en,.I c.kd,.I c.ky,.I c.code,.bool c.okk,.I c.val]
def tA(ev:List (List Int)):Hint Ob:= {X:=Nat,st:=fun i=>([.tslice 0 0 ev.length 7,.O,.O,.tslice 1 0 (cqF ev i).length 8,.I (i:Int)]++List.replicate 59 .O,[some (.tab pZ ev),some (.tab RZ (cqF ev i))]),ok:=cq1 ev,mu:=fun i=>ev.length - i,keep:=[0,3,4],casts:=[(.slot 3,.tab RZ)] }
def HCR(ev:List (List Int))(i:Nat):Hint Ob:= {X:=Nat,st:=fun n=>([.tslice 0 0 ev.length 7,.O,.O,.tslice 1 0 (cqF ev i).length 8,.I (i:Int),.ptr 2 0,.I ((i+1+n:Nat):Int)]++List.replicate 57 .O,[some (.tab pZ ev),some (.tab RZ (cqF ev i)),some (.cells (cqV (cqR ev i n)))]),ok:=cr1 ev i,mu:=fun n=>ev.length - n,keep:=[0,3,4,5,6] }
def oM(ev:List (List Int))(z:Int):Hint Ob:=HCR ev z.toNat
def LCQ(ev:List (List Int)):FuncId→Nat→Option (pR Ob):=fun _ k=>match k with
 | 3=>some (.states (tA ev))
 | 8=>some (.statesAt 4 (oM ev))
 | _=>none
def SE(ev:List (List Int))(K:AVal→aC Ob→Prop):Prop:=okSt (tA ev) (Hint.ok (tA ev)) (.tslice 0 0 ev.length 7::.O::.O::.tslice 1 0 0 8::.I 0::(tO' 59 [])) [some (.tab cK7 ev),some (.tab [some .i64,some .i64,some .i64,some .i64,some .i64,some .i64,none,some .i64] [])]∧ ∀(x:Nat),cq1 ev x→bif ilt (↑x:Int) (↑ev.length:Int)then((0:Int)≤(↑x:Int)∧(↑x:Int)<(↑ev.length:Int))∧0+Int.toNat (↑x:Int)<ev.length∧bif !ieq (List.headD (List.tail (List.getD ev (0+Int.toNat (↑x:Int)) [])) 0) 0 then okSt (tA ev) (fun x'=>Hint.ok (tA ev) x'∧Hint.mu (tA ev) x'<Hint.mu (tA ev) x) (.tslice 0 0 ev.length 7::.O::.O::.tslice 1 0 (List.length (cqF ev x)) 8::.I (W ((↑x:Int)+1))::(tO' 59 [])) [some (.tab cK7 ev),some (.tab [some .i64,some .i64,some .i64,some .i64,some .i64,some .i64,none,some .i64] (cqF ev x))]else((0:Int)≤(↑x:Int)∧(↑x:Int)<(↑ev.length:Int))∧0+Int.toNat (↑x:Int)<ev.length∧((0:Int)≤(↑x:Int)∧(↑x:Int)<(↑ev.length:Int))∧0+Int.toNat (↑x:Int)<ev.length∧okSt (oM ev (↑x:Int)) (Hint.ok (oM ev (↑x:Int))) (.tslice 0 0 ev.length 7::.O::.O::.tslice 1 0 (List.length (cqF ev x)) 8::.I (↑x:Int)::.ptr 2 0::.I (W ((↑x:Int)+1))::(tO' 57 [])) [some (.tab cK7 ev),some (.tab [some .i64,some .i64,some .i64,some .i64,some .i64,some .i64,none,some .i64] (cqF ev x)),cE' [.I (List.headD (List.getD ev (0+Int.toNat (↑x:Int)) []) 0),.I (↑x:Int),.I (-1:Int),.I (List.headD (List.tail (List.tail (List.getD ev (0+Int.toNat (↑x:Int)) []))) 0),.I (List.headD (List.tail (List.tail (List.tail (List.getD ev (0+Int.toNat (↑x:Int)) [])))) 0),.I 0,.bool false,.I 0]]∧ ∀(x_1:Nat),cr1 ev (Int.toNat (↑x:Int)) x_1→bif ilt (↑(Int.toNat (↑x:Int)+1+x_1):Int) (↑ev.length:Int)then bif ilt (cqR ev (Int.toNat (↑x:Int)) x_1).3 0 then((0:Int)≤(↑(Int.toNat (↑x:Int)+1+x_1):Int)∧(↑(Int.toNat (↑x:Int)+1+x_1):Int)<(↑ev.length:Int))∧0+Int.toNat (↑(Int.toNat (↑x:Int)+1+x_1):Int)<ev.length∧bif ieq (List.headD (List.getD ev (0+Int.toNat (↑(Int.toNat (↑x:Int)+1+x_1):Int)) []) 0) (cqR ev (Int.toNat (↑x:Int)) x_1).1 then((0:Int)≤(↑(Int.toNat (↑x:Int)+1+x_1):Int)∧(↑(Int.toNat (↑x:Int)+1+x_1):Int)<(↑ev.length:Int))∧0+Int.toNat (↑(Int.toNat (↑x:Int)+1+x_1):Int)<ev.length∧okSt (oM ev (↑x:Int)) (fun x'=>Hint.ok (oM ev (↑x:Int)) x'∧Hint.mu (oM ev (↑x:Int)) x'<Hint.mu (oM ev (↑x:Int)) x_1) (.tslice 0 0 ev.length 7::.O::.O::.tslice 1 0 (List.length (cqF ev (Int.toNat (↑x:Int)))) 8::.I (↑(Int.toNat (↑x:Int)):Int)::.ptr 2 0::.I (W ((↑(Int.toNat (↑x:Int)+1+x_1):Int)+1))::(tO' 57 [])) [some (.tab cK7 ev),some (.tab [some .i64,some .i64,some .i64,some .i64,some .i64,some .i64,none,some .i64] (cqF ev (Int.toNat (↑x:Int)))),cE' [.I (cqR ev (Int.toNat (↑x:Int)) x_1).1,.I (cqR ev (Int.toNat (↑x:Int)) x_1).2,.I (↑(Int.toNat (↑x:Int)+1+x_1):Int),.I (cqR ev (Int.toNat (↑x:Int)) x_1).4,.I (cqR ev (Int.toNat (↑x:Int)) x_1).5,.I (List.headD (List.tail (List.tail (List.tail (List.tail (List.getD ev (0+Int.toNat (↑(Int.toNat (↑x:Int)+1+x_1):Int)) []))))) 0),.bool !ieq (List.headD (List.tail (List.tail (List.tail (List.tail (List.tail (List.getD ev (0+Int.toNat (↑(Int.toNat (↑x:Int)+1+x_1):Int)) [])))))) 0) 0,.I (List.headD (List.tail (List.tail (List.tail (List.tail (List.tail (List.tail (List.getD ev (0+Int.toNat (↑(Int.toNat (↑x:Int)+1+x_1):Int)) []))))))) 0)]]else okSt (oM ev (↑x:Int)) (fun x'=>Hint.ok (oM ev (↑x:Int)) x'∧Hint.mu (oM ev (↑x:Int)) x'<Hint.mu (oM ev (↑x:Int)) x_1) (.tslice 0 0 ev.length 7::.O::.O::.tslice 1 0 (List.length (cqF ev (Int.toNat (↑x:Int)))) 8::.I (↑(Int.toNat (↑x:Int)):Int)::.ptr 2 0::.I (W ((↑(Int.toNat (↑x:Int)+1+x_1):Int)+1))::(tO' 57 [])) [some (.tab cK7 ev),some (.tab [some .i64,some .i64,some .i64,some .i64,some .i64,some .i64,none,some .i64] (cqF ev (Int.toNat (↑x:Int)))),cE' [.I (cqR ev (Int.toNat (↑x:Int)) x_1).1,.I (cqR ev (Int.toNat (↑x:Int)) x_1).2,.I (cqR ev (Int.toNat (↑x:Int)) x_1).3,.I (cqR ev (Int.toNat (↑x:Int)) x_1).4,.I (cqR ev (Int.toNat (↑x:Int)) x_1).5,.I (cqR ev (Int.toNat (↑x:Int)) x_1).6,.bool (cqR ev (Int.toNat (↑x:Int)) x_1).7,.I (cqR ev (Int.toNat (↑x:Int)) x_1).8]]else(0=0∧lE' (cqF ev (Int.toNat (↑x:Int)))∧List.length (cqF ev (Int.toNat (↑x:Int)))+(1:Nat)≤(4294967296:Nat))∧okSt (tA ev) (fun x'=>Hint.ok (tA ev) x'∧Hint.mu (tA ev) x'<Hint.mu (tA ev) x) (.tslice 0 0 ev.length 7::.O::.O::.tslice 1 0 (List.length (cqF ev (Int.toNat (↑x:Int)))+1) 8::.I (W ((↑(Int.toNat (↑x:Int)):Int)+1))::(tO' 59 [])) [some (.tab cK7 ev),some (.tab [some .i64,some .i64,some .i64,some .i64,some .i64,some .i64,none,some .i64] (cqF ev (Int.toNat (↑x:Int))++ [[(cqR ev (Int.toNat (↑x:Int)) x_1).1,(cqR ev (Int.toNat (↑x:Int)) x_1).2,(cqR ev (Int.toNat (↑x:Int)) x_1).3,(cqR ev (Int.toNat (↑x:Int)) x_1).4,(cqR ev (Int.toNat (↑x:Int)) x_1).5,(cqR ev (Int.toNat (↑x:Int)) x_1).6,bif (cqR ev (Int.toNat (↑x:Int)) x_1).7 then 1 else 0,(cqR ev (Int.toNat (↑x:Int)) x_1).8]]))]else(0=0∧lE' (cqF ev (Int.toNat (↑x:Int)))∧List.length (cqF ev (Int.toNat (↑x:Int)))+(1:Nat)≤(4294967296:Nat))∧okSt (tA ev) (fun x'=>Hint.ok (tA ev) x'∧Hint.mu (tA ev) x'<Hint.mu (tA ev) x) (.tslice 0 0 ev.length 7::.O::.O::.tslice 1 0 (List.length (cqF ev (Int.toNat (↑x:Int)))+1) 8::.I (W ((↑(Int.toNat (↑x:Int)):Int)+1))::(tO' 59 [])) [some (.tab cK7 ev),some (.tab [some .i64,some .i64,some .i64,some .i64,some .i64,some .i64,none,some .i64] (cqF ev (Int.toNat (↑x:Int))++ [[(cqR ev (Int.toNat (↑x:Int)) x_1).1,(cqR ev (Int.toNat (↑x:Int)) x_1).2,(cqR ev (Int.toNat (↑x:Int)) x_1).3,(cqR ev (Int.toNat (↑x:Int)) x_1).4,(cqR ev (Int.toNat (↑x:Int)) x_1).5,(cqR ev (Int.toNat (↑x:Int)) x_1).6,bif (cqR ev (Int.toNat (↑x:Int)) x_1).7 then 1 else 0,(cqR ev (Int.toNat (↑x:Int)) x_1).8]]))]else K (.tslice 1 0 (List.length (cqF ev x)) 8) [some (.tab cK7 ev),some (.tab [some .i64,some .i64,some .i64,some .i64,some .i64,some .i64,none,some .i64] (cqF ev x))]
theorem L5(ev:List (List Int))(K:AVal→aC Ob→Prop)(h:SE ev K):cT' 31 [.tslice 0 0 ev.length 7] [some (.tab pZ ev)] (kJ 1 K):=by
 exact aD (E:=EUg) Tryz.checked.mixed (L:=LCQ ev) (n:=10) (aJ (by kernel_rfl) h)
theorem uZ(l:List (List Int))(e:List Int)(th:Int):pdF (l++ [e]) th=bif ieq (thE e) th then !endE e else pdF l th:=by
 unfold pdF;rw [List.foldl_append];rfl
theorem qU{α:Type}(l:List α)(d:α){j:Nat}(hj:j<l.length):l.take (j+1)=l.take j++ [l.getD j d]:=by
 rw [List.take_succ_eq_append_getElem hj,gD',gE' hj];rfl
theorem Wi{x:Int}(h: -4294967296≤x∧x≤4294967296):W x=x:=dB ⟨by omega,by omega⟩
theorem aEx(ev:List (List Int))(th:Int)(K:AVal→aC Ob→Prop)(hl:ev.length≤4294967296)(hK:K (.bool (pdF ev th)) [some (.tab pZ ev)]):VS ev th K:=by
 have key: ∀b,pdF ev th=b→K (.bool b) [some (.tab pZ ev)]:=fun b e=>by rw [←e];exact hK
 unfold VS;rw [Wi (x:=(ev.length:Int) - 1) ⟨by omega,by omega⟩]
 refine⟨aP (H:=RH ev th) ev.length rfl ⟨Nat.le_refl _,by rw [List.take_length]⟩,?_⟩
 rintro j ⟨hj,hp⟩;refine aT (fun a=>?_) (fun a=>key false ?_)
 ·rw [cC,dT']at a;obtain⟨m,rfl⟩: ∃m,j=m+1:=⟨j - 1,by omega⟩
  have hm:m<ev.length:=by omega
  have e1:((m+1:Nat):Int) - 1=(m:Int):=by omega
  rw [e1,Int.toNat_natCast,Nat.zero_add];rw [qU ev [] hm,uZ]at hp;refine⟨⟨by omega,by omega⟩,hm,aT (fun c=>?_) (fun c=>?_)⟩
  ·have c':ieq (thE (ev.getD m [])) th=true:=c;rw [c']at hp;exact⟨⟨by omega,by omega⟩,hm,key _ hp.symm⟩
  ·have c':ieq (thE (ev.getD m [])) th=false:=c;rw [c']at hp;rw [Wi (x:=(m:Int) - 1) ⟨by omega,by omega⟩]
   exact aP (H:=RH ev th) m rfl ⟨⟨by omega,hp⟩,Nat.lt_succ_self m⟩
 ·rw [cC,dF']at a;have:j=0:=by omega
  subst this;exact hp.symm
def pdR:bI Ob:=fun args h=>match args,h with
 | [.tslice 0 0 n 7,.int .i64 th],[some (.tab [some .i64,none,some .i64,some .i64,some .i64,none,some .i64] ev)]=>some (n=ev.length∧ev.length≤4294967296,.bool (pdF ev th))
 | _,_=>none
theorem aBQ:sT' 88 pdR.spec:=by
 intro args h o ho K hK;unfold bI.spec at ho;split at ho
 case h_2=>cases ho
 rename_i p v hv;unfold pdR at hv;split at hv
 case h_2=>cases hv
 rename_i n th ev;simp only [sI',pI']at hv;obtain⟨rfl,rfl⟩:=hv;simp only [sI']at ho;subst ho;obtain⟨⟨rfl,hl⟩,hK⟩:=hK;exact aGK (OY ev th K (aEx ev th K hl hK))
theorem GG(ev:List (List Int))(i n:Nat):cqR ev i (n+1)=H7 ev i (cqR ev i n) n:=by
 unfold cqR;rw [List.range_succ,List.foldl_append];rfl
theorem L4{ev:List (List Int)}{i n:Nat}(h:ilt (cqR ev i n).en 0=false): ∀d,cqR ev i (n+d)=cqR ev i n:=by
 intro d
 induction d with
 | zero=>rfl
 | succ d ih=>
   rw [←Nat.add_assoc,GG,ih];unfold H7;rw [h];rfl
theorem XP(ev:List (List Int))(k:Nat):cqF ev (k+1)=cqF ev k++(bif !endE (ev.getD k [])then [uE (cqR ev k (ev.length - (k+1)))]else []):=by
 unfold cqF;rw [List.range_succ,List.filter_append,List.map_append,List.filter_cons];cases (!endE (ev.getD k []))<;>rfl
theorem GC(ev:List (List Int))(k:Nat):(cqF ev k).length ≤k:=by
 unfold cqF;rw [List.length_map];exact Nat.le_trans (List.length_filter_le _ _) (by rw [List.length_range];omega)
set_option maxRecDepth 10000 in
theorem aDd(ev:List (List Int))(K:AVal→aC Ob→Prop)(hl:ev.length≤1000000)(hK:K (.tslice 1 0 (cqF ev ev.length).length 8) [some (.tab pZ ev),some (.tab RZ (cqF ev ev.length))]):SE ev K:=by
 unfold SE;refine⟨aP (H:=tA ev) (0:Nat) rfl ⟨Nat.zero_le _⟩,?_⟩;rintro i ⟨hi⟩;have hcl:=GC ev i;simp only [Int.toNat_natCast,Nat.zero_add];refine aT (fun a=>?_) (fun a=>?_)
 ·have a:=d0 a;have hil:i<ev.length:=by omega
  rw [Wi (x:=(i:Int)+1) ⟨by omega,by omega⟩]
  refine⟨⟨by omega,a⟩,hil,aT (fun b=>?_) (fun b=>?_)⟩
  ·have b:endE (ev.getD i [])=true:=b;refine aP (H:=tA ev) (i+1:Nat) ?_ ⟨⟨hil⟩,by show ev.length - (i+1)<ev.length - i;omega⟩
   simp only [tA];rw [XP,b];simp only [Bool.not_true,cond_false,List.append_nil];rfl
  ·have b:endE (ev.getD i [])=false:=b
   have hd: ∀n,okSt (tA ev) (fun x'=>Hint.ok (tA ev) x'∧Hint.mu (tA ev) x'<Hint.mu (tA ev) i) (.tslice 0 0 ev.length 7::.O::.O::.tslice 1 0 (List.length (cqF ev i)+1) 8::.I ((i:Int)+1)::(tO' 59 [])) [some (.tab pZ ev),some (.tab RZ (cqF ev i++ [uE (cqR ev i n)]))]∨cqR ev i n≠cqR ev i (ev.length - (i+1)):=by
    intro n
    by_cases hn:cqR ev i n=cqR ev i (ev.length - (i+1))
    ·left;refine aP (H:=tA ev) (i+1:Nat) ?_ ⟨⟨hil⟩,by show ev.length - (i+1)<ev.length - i;omega⟩
     simp only [tA];rw [XP,b,hn,List.length_append];rfl
    ·right;exact hn
   refine⟨⟨by omega,a⟩,hil,⟨by omega,a⟩,hil,aP (H:=oM ev (i:Int)) (0:Nat) rfl ⟨by show i+1+0≤ev.length;omega,b,fun h=>absurd h (Nat.lt_irrefl 0)⟩,?_⟩
   rintro n ⟨h1,h2,h3⟩;have h1:i+1+n≤ev.length:=h1;refine aT (fun c=>aT (fun d=>?_) (fun d=>?_)) (fun c=>?_)
   ·have c:=d0 c;have hj:i+1+n<ev.length:=by omega
    have d':=d0 d;rw [Wi (x:=((i+1+n:Nat):Int)+1) ⟨by omega,by omega⟩]
    refine⟨⟨by omega,c⟩,hj,aT (fun e=>⟨⟨by omega,c⟩,hj,?_⟩) (fun e=>?_)⟩
    ·have e:ieq (thE (ev.getD (i+1+n) [])) (cqR ev i n).th =true:=e;refine aP (H:=oM ev (i:Int)) (n+1:Nat) ?_ ⟨⟨by show i+1+(n+1)≤ev.length;omega,h2,fun _=>d'⟩,by show ev.length - (n+1)<ev.length - n;omega⟩
     simp only [oM,HCR,Int.toNat_natCast];rw [GG];unfold H7;rw [d,e];rfl
    ·have e:ieq (thE (ev.getD (i+1+n) [])) (cqR ev i n).th =false:=e;refine aP (H:=oM ev (i:Int)) (n+1:Nat) ?_ ⟨⟨by show i+1+(n+1)≤ev.length;omega,h2,fun _=>d'⟩,by show ev.length - (n+1)<ev.length - n;omega⟩
     simp only [oM,HCR,Int.toNat_natCast];rw [GG];unfold H7;rw [d,e];rfl
   ·have hs:=L4 d (ev.length - (i+1) - n);rw [show n+(ev.length - (i+1) - n)=ev.length - (i+1)from by omega]at hs
    exact⟨⟨trivial,trivial,by omega⟩,(hd n).resolve_right (fun hn=>hn hs.symm)⟩
   ·have c:=eD c;have hn:n=ev.length - (i+1):=by omega
    exact⟨⟨trivial,trivial,by omega⟩,(hd n).resolve_right (fun h=>h (by rw [←hn]))⟩
 ·have a:=eD a;have:i=ev.length:=by omega
  subst this;exact hK
def cqN:dG Ob:=fun args h=>match args,h with
 | [.tslice 0 0 n 7],[some (.tab [some .i64,none,some .i64,some .i64,some .i64,none,some .i64] ev)]=>some (n=ev.length∧ev.length≤1000000,.tslice 1 0 (cqF ev ev.length).length 8,[.tab RZ (cqF ev ev.length)])
 | _,_=>none
theorem ZS:sT' 31 cqN.spec:=by
 intro args h o ho K hK;unfold dG.spec at ho;split at ho
 case h_2=>cases ho
 rename_i p v nw hv;unfold cqN at hv;split at hv
 case h_2=>cases hv
 rename_i n ev;simp only [sI',pI']at hv;obtain⟨rfl,rfl,rfl⟩:=hv;simp only [sI']at ho;subst ho;obtain⟨⟨rfl,hl⟩,hK⟩:=hK;exact aGK (L5 ev K (aDd ev K hl hK))
noncomputable def EUk:=(((((EUg.addS 22 ewkS aAB).addR 26 cfR ZJ).addS 25 gn2S aA4).addR 88 pdR aBQ).addN 31 cqN ZS)
structure ec1 (ev:List (List Int)) (i:Nat):Prop where
 h:i≤ev.length
structure ec2 (th:Int) (u:Nat):Prop where
 h:(u:Int)≤th
structure ec3 (C:List (List Int)) (k:Nat):Prop where
 h:k≤C.length
structure ec4 (l:List Int) (q:Nat):Prop where
 h:q≤l.length
abbrev vRr(ln:Nat→Nat)(f g:Nat→Nat→Int):Nat→List AVal:=fun i=>[.view (ln i) 2 fun j=>[.int .i64 (f i j),.int .i64 (g i j)]]
abbrev jobE(sh th nd tr:Int)(m:Nat)(ln:Nat→Nat)(f g:Nat→Nat→Int):Option (aH Ob):=some (.cells [.int .i64 sh,.int .i64 th,.int .i64 nd,.int .i64 tr,CO m ln f g])
def HEC1(J:Option (aH Ob))(X:EGS)(ev:List (List Int)):Hint Ob:= {X:=Nat,st:=fun i=>([.O,.O,.ptr 0 0,.O,.O,.ptr 1 0,.O,.tslice 2 0 (ev.take i).length 7]++List.replicate 42 .O ++ [.tslice 3 0 ev.length 7,.int .i64 (ev.length:Int),.int .i64 (i:Int)]++List.replicate 132 .O,[J,some (.abs (.engine X) []),some (.tab pZ (ev.take i)),some (.tab pZ ev)]),ok:=ec1 ev,mu:=fun i=>ev.length - i,keep:=[2,5,7,50,51,52],casts:=[(.slot 7,.tab pZ)] }
def k9(J:Option (aH Ob))(X:EGS)(C:List (List Int))(th:Int):Hint Ob:= {X:=Nat,st:=fun u=>([.O,.O,.ptr 0 0,.O,.O,.ptr 1 0,.O,.O,.O,.O,.O,.tslice 2 0 C.length 8,.int .i64 (sumU X u),.int .i64 (u:Int)]++List.replicate 171 .O,[J,some (.abs (.engine X) []),some (.tab RZ C)]),ok:=ec2 th,mu:=fun u=>(th - (u:Int)).toNat,keep:=[2,5,11,12,13] }
def jT(J:Option (aH Ob))(X:EGS)(C:List (List Int))(z:Int):Hint Ob:= {X:=Nat,st:=fun k=>([.O,.O,.ptr 0 0,.O,.O,.ptr 1 0,.O,.O,.O,.O,.O,.tslice 2 0 C.length 8,.int .i64 (sumU X z.toNat),.int .i64 z,.int .i64 (cntE C z k:Int),.int .i64 (cntB C z k:Int)]++List.replicate 66 .O ++ [.tslice 2 0 C.length 8,.int .i64 (C.length:Int),.int .i64 (k:Int)]++List.replicate 100 .O,[J,some (.abs (.engine X) []),some (.tab RZ C)]),ok:=ec3 C,mu:=fun k=>C.length - k,keep:=[2,5,11,12,13,14,15,82,83,84] }
def gC(J:Option (aH Ob))(X:EGS)(C:List (List Int))(z:Int):Hint Ob:= {X:=Nat,st:=fun q=>([.O,.O,.ptr 0 0,.O,.O,.ptr 1 0,.O,.O,.O,.O,.O,.tslice 2 0 C.length 8,.int .i64 (mF X z.toNat q),.int .i64 z]++List.replicate 155 .O ++ [.slice 3 0 (bM z X).length 1,.int .i64 ((bM z X).length :Int),.int .i64 (q:Int)]++List.replicate 13 .O,[J,some (.abs (.engine X) []),some (.tab RZ C),some (.ints (some .i64) (bM z X))]),ok:=ec4 (bM z X),mu:=fun q=>(bM z X).length - q,keep:=[2,5,11,12,13,169,170,171] }
def LEC(J:Option (aH Ob))(X:EGS)(ev C:List (List Int))(th:Int):FuncId→Nat→Option (pR Ob):=fun _ j=>match j with
 | 11=>some (.states (HEC1 J X ev))
 | 21=>some (.states (k9 J X C th))
 | 25=>some (.statesAt 13 (jT J X C))
 | 38=>some (.statesAt 13 (gC J X C))
 | _=>none
abbrev w53(f g:Nat→Nat→Int)(ln:Nat→Nat)(m:Nat)(nd sh th tr:Int):Option (aH Ob):=some (.cells [.int .i64 sh,.int .i64 th,.int .i64 nd,.int .i64 tr,.view m 1 (vRr ln f g)])
def TB(sh th nd tr:Int)(m:Nat)(ln:Nat→Nat)(f g:Nat→Nat→Int)(n:Nat)(pt pm:Nat→Int)(X:EGS)(ev C:List (List Int))(K:AVal→aC Ob→Prop):Prop:=(iX (vRr ln f g))∧bif G0 m n (vL (vRr ln f g))then K (.bool true) []else(m≤(1000000:Nat)∧iX (vRr ln f g))∧bif !ieq (gnC sh th nd tr m (vL (vRr ln f g)) (vK (vRr ln f g)) (vY (vRr ln f g))) 0 then K (.bool true) []else True∧(((m≤(1000000:Nat)∧iX (vRr ln f g))∧gnC sh th nd tr m (vL (vRr ln f g)) (vK (vRr ln f g)) (vY (vRr ln f g))=(0:Int))∧True)∧(IM (egX sh th nd tr m (vRr ln f g))∧n≤(4294967296:Nat)∧rowOk (LA pt pm))∧(List.length (EGS.h (runP (egX sh th nd tr m (vRr ln f g)) 0 (cD n (LA pt pm))).1).1≤(4294967296:Nat)∧List.length (EGS.h (runP (egX sh th nd tr m (vRr ln f g)) 0 (cD n (LA pt pm))).1).2≤(4294967296:Nat))∧List.length (EGS.h (runP (egX sh th nd tr m (vRr ln f g)) 0 (cD n (LA pt pm))).1).1≤(4294967296:Nat)∧okSt (HEC1 (jobE sh th nd tr m ln f g) X ev) (Hint.ok (HEC1 (jobE sh th nd tr m ln f g) X ev)) (.O::.O::.ptr 0 0::.O::.O::.ptr 1 0::.O::.tslice 2 0 0 7::(tO' 42 (.tslice 3 0 (List.length (EGS.h (runP (egX sh th nd tr m (vRr ln f g)) 0 (cD n (LA pt pm))).1).1) 7::.int .i64 (↑(List.length (EGS.h (runP (egX sh th nd tr m (vRr ln f g)) 0 (cD n (LA pt pm))).1).1):Int)::.int .i64 0::(tO' 132 [])))) [w53 f g ln m nd sh th tr,some (.abs (.engine (runP (egX sh th nd tr m (vRr ln f g)) 0 (cD n (LA pt pm))).1) []),some (.tab cK7 []),some (.tab cK7 (EGS.h (runP (egX sh th nd tr m (vRr ln f g)) 0 (cD n (LA pt pm))).1).1)]∧ ∀(x:Nat),ec1 ev x→bif ilt (↑x:Int) (↑ev.length:Int)then((0:Int)≤(↑x:Int)∧(↑x:Int)<(↑ev.length:Int))∧0+Int.toNat (↑x:Int)<ev.length∧bif ilt (List.headD (List.getD ev (0+Int.toNat (↑x:Int)) []) 0) 0 then K (.bool false) []else bif ilt 7 (List.headD (List.getD ev (0+Int.toNat (↑x:Int)) []) 0)then K (.bool false) []else bif !!ieq (List.headD (List.tail (List.getD ev (0+Int.toNat (↑x:Int)) [])) 0) 0 then(lE' (List.take x ev)∧List.length (List.take x ev)≤(4294967296:Nat))∧bif pdF (List.take x ev) (List.headD (List.getD ev (0+Int.toNat (↑x:Int)) []) 0)then K (.bool false) []else bif !ieq (List.headD (List.tail (List.getD ev (0+Int.toNat (↑x:Int)) [])) 0) 0 then(lE' (List.take x ev)∧List.length (List.take x ev)≤(4294967296:Nat))∧bif !pdF (List.take x ev) (List.headD (List.getD ev (0+Int.toNat (↑x:Int)) []) 0)then K (.bool false) []else(0=0∧lE' (List.take x ev)∧List.length (List.take x ev)+(1:Nat)≤(4294967296:Nat))∧okSt (HEC1 (jobE sh th nd tr m ln f g) X ev) (fun x'=>Hint.ok (HEC1 (jobE sh th nd tr m ln f g) X ev) x'∧Hint.mu (HEC1 (jobE sh th nd tr m ln f g) X ev) x'<Hint.mu (HEC1 (jobE sh th nd tr m ln f g) X ev) x) (.O::.O::.ptr 0 0::.O::.O::.ptr 1 0::.O::.tslice 2 0 (List.length (List.take x ev)+1) 7::(tO' 42 (.tslice 3 0 ev.length 7::.int .i64 (↑ev.length:Int)::.int .i64 (W ((↑x:Int)+1))::(tO' 132 [])))) [w53 f g ln m nd sh th tr,some (.abs (.engine X) []),some (.tab cK7 (List.take x ev++ [[List.headD (List.getD ev (0+Int.toNat (↑x:Int)) []) 0,bif !ieq (List.headD (List.tail (List.getD ev (0+Int.toNat (↑x:Int)) [])) 0) 0 then 1 else 0,List.headD (List.tail (List.tail (List.getD ev (0+Int.toNat (↑x:Int)) []))) 0,List.headD (List.tail (List.tail (List.tail (List.getD ev (0+Int.toNat (↑x:Int)) [])))) 0,List.headD (List.tail (List.tail (List.tail (List.tail (List.getD ev (0+Int.toNat (↑x:Int)) []))))) 0,bif !ieq (List.headD (List.tail (List.tail (List.tail (List.tail (List.tail (List.getD ev (0+Int.toNat (↑x:Int)) [])))))) 0) 0 then 1 else 0,List.headD (List.tail (List.tail (List.tail (List.tail (List.tail (List.tail (List.getD ev (0+Int.toNat (↑x:Int)) []))))))) 0]])),some (.tab cK7 ev)]else(0=0∧lE' (List.take x ev)∧List.length (List.take x ev)+(1:Nat)≤(4294967296:Nat))∧okSt (HEC1 (jobE sh th nd tr m ln f g) X ev) (fun x'=>Hint.ok (HEC1 (jobE sh th nd tr m ln f g) X ev) x'∧Hint.mu (HEC1 (jobE sh th nd tr m ln f g) X ev) x'<Hint.mu (HEC1 (jobE sh th nd tr m ln f g) X ev) x) (.O::.O::.ptr 0 0::.O::.O::.ptr 1 0::.O::.tslice 2 0 (List.length (List.take x ev)+1) 7::(tO' 42 (.tslice 3 0 ev.length 7::.int .i64 (↑ev.length:Int)::.int .i64 (W ((↑x:Int)+1))::(tO' 132 [])))) [w53 f g ln m nd sh th tr,some (.abs (.engine X) []),some (.tab cK7 (List.take x ev++ [[List.headD (List.getD ev (0+Int.toNat (↑x:Int)) []) 0,bif !ieq (List.headD (List.tail (List.getD ev (0+Int.toNat (↑x:Int)) [])) 0) 0 then 1 else 0,List.headD (List.tail (List.tail (List.getD ev (0+Int.toNat (↑x:Int)) []))) 0,List.headD (List.tail (List.tail (List.tail (List.getD ev (0+Int.toNat (↑x:Int)) [])))) 0,List.headD (List.tail (List.tail (List.tail (List.tail (List.getD ev (0+Int.toNat (↑x:Int)) []))))) 0,bif !ieq (List.headD (List.tail (List.tail (List.tail (List.tail (List.tail (List.getD ev (0+Int.toNat (↑x:Int)) [])))))) 0) 0 then 1 else 0,List.headD (List.tail (List.tail (List.tail (List.tail (List.tail (List.tail (List.getD ev (0+Int.toNat (↑x:Int)) []))))))) 0]])),some (.tab cK7 ev)]else bif !ieq (List.headD (List.tail (List.getD ev (0+Int.toNat (↑x:Int)) [])) 0) 0 then(lE' (List.take x ev)∧List.length (List.take x ev)≤(4294967296:Nat))∧bif !pdF (List.take x ev) (List.headD (List.getD ev (0+Int.toNat (↑x:Int)) []) 0)then K (.bool false) []else(0=0∧lE' (List.take x ev)∧List.length (List.take x ev)+(1:Nat)≤(4294967296:Nat))∧okSt (HEC1 (jobE sh th nd tr m ln f g) X ev) (fun x'=>Hint.ok (HEC1 (jobE sh th nd tr m ln f g) X ev) x'∧Hint.mu (HEC1 (jobE sh th nd tr m ln f g) X ev) x'<Hint.mu (HEC1 (jobE sh th nd tr m ln f g) X ev) x) (.O::.O::.ptr 0 0::.O::.O::.ptr 1 0::.O::.tslice 2 0 (List.length (List.take x ev)+1) 7::(tO' 42 (.tslice 3 0 ev.length 7::.int .i64 (↑ev.length:Int)::.int .i64 (W ((↑x:Int)+1))::(tO' 132 [])))) [w53 f g ln m nd sh th tr,some (.abs (.engine X) []),some (.tab cK7 (List.take x ev++ [[List.headD (List.getD ev (0+Int.toNat (↑x:Int)) []) 0,bif !ieq (List.headD (List.tail (List.getD ev (0+Int.toNat (↑x:Int)) [])) 0) 0 then 1 else 0,List.headD (List.tail (List.tail (List.getD ev (0+Int.toNat (↑x:Int)) []))) 0,List.headD (List.tail (List.tail (List.tail (List.getD ev (0+Int.toNat (↑x:Int)) [])))) 0,List.headD (List.tail (List.tail (List.tail (List.tail (List.getD ev (0+Int.toNat (↑x:Int)) []))))) 0,bif !ieq (List.headD (List.tail (List.tail (List.tail (List.tail (List.tail (List.getD ev (0+Int.toNat (↑x:Int)) [])))))) 0) 0 then 1 else 0,List.headD (List.tail (List.tail (List.tail (List.tail (List.tail (List.tail (List.getD ev (0+Int.toNat (↑x:Int)) []))))))) 0]])),some (.tab cK7 ev)]else(0=0∧lE' (List.take x ev)∧List.length (List.take x ev)+(1:Nat)≤(4294967296:Nat))∧okSt (HEC1 (jobE sh th nd tr m ln f g) X ev) (fun x'=>Hint.ok (HEC1 (jobE sh th nd tr m ln f g) X ev) x'∧Hint.mu (HEC1 (jobE sh th nd tr m ln f g) X ev) x'<Hint.mu (HEC1 (jobE sh th nd tr m ln f g) X ev) x) (.O::.O::.ptr 0 0::.O::.O::.ptr 1 0::.O::.tslice 2 0 (List.length (List.take x ev)+1) 7::(tO' 42 (.tslice 3 0 ev.length 7::.int .i64 (↑ev.length:Int)::.int .i64 (W ((↑x:Int)+1))::(tO' 132 [])))) [w53 f g ln m nd sh th tr,some (.abs (.engine X) []),some (.tab cK7 (List.take x ev++ [[List.headD (List.getD ev (0+Int.toNat (↑x:Int)) []) 0,bif !ieq (List.headD (List.tail (List.getD ev (0+Int.toNat (↑x:Int)) [])) 0) 0 then 1 else 0,List.headD (List.tail (List.tail (List.getD ev (0+Int.toNat (↑x:Int)) []))) 0,List.headD (List.tail (List.tail (List.tail (List.getD ev (0+Int.toNat (↑x:Int)) [])))) 0,List.headD (List.tail (List.tail (List.tail (List.tail (List.getD ev (0+Int.toNat (↑x:Int)) []))))) 0,bif !ieq (List.headD (List.tail (List.tail (List.tail (List.tail (List.tail (List.getD ev (0+Int.toNat (↑x:Int)) [])))))) 0) 0 then 1 else 0,List.headD (List.tail (List.tail (List.tail (List.tail (List.tail (List.tail (List.getD ev (0+Int.toNat (↑x:Int)) []))))))) 0]])),some (.tab cK7 ev)]else(lE' (List.take x ev)∧List.length (List.take x ev)≤(1000000:Nat))∧okSt (k9 (jobE sh th nd tr m ln f g) X C th) (Hint.ok (k9 (jobE sh th nd tr m ln f g) X C th)) (.O::.O::.ptr 0 0::.O::.O::.ptr 1 0::.O::.O::.O::.O::.O::.tslice 2 0 (List.length (cqF (List.take x ev) (List.length (List.take x ev)))) 8::.int .i64 0::.int .i64 0::(tO' 171 [])) [w53 f g ln m nd sh th tr,some (.abs (.engine X) []),some (.tab [some .i64,some .i64,some .i64,some .i64,some .i64,some .i64,none,some .i64] (cqF (List.take x ev) (List.length (List.take x ev))))]∧ ∀(x:Nat),ec2 th x→bif ilt (↑x:Int) th then okSt (jT (jobE sh th nd tr m ln f g) X C (↑x:Int)) (Hint.ok (jT (jobE sh th nd tr m ln f g) X C (↑x:Int))) (.O::.O::.ptr 0 0::.O::.O::.ptr 1 0::.O::.O::.O::.O::.O::.tslice 2 0 C.length 8::.int .i64 (sumU X x)::.int .i64 (↑x:Int)::.int .i64 0::.int .i64 0::(tO' 66 (.tslice 2 0 C.length 8::.int .i64 (↑C.length:Int)::.int .i64 0::(tO' 100 [])))) [w53 f g ln m nd sh th tr,some (.abs (.engine X) []),some (.tab [some .i64,some .i64,some .i64,some .i64,some .i64,some .i64,none,some .i64] C)]∧ ∀(x_1:Nat),ec3 C x_1→bif ilt (↑x_1:Int) (↑C.length:Int)then((0:Int)≤(↑x_1:Int)∧(↑x_1:Int)<(↑C.length:Int))∧0+Int.toNat (↑x_1:Int)<C.length∧bif !ieq (List.headD (List.getD C (0+Int.toNat (↑x_1:Int)) []) 0) (↑x:Int)then okSt (jT (jobE sh th nd tr m ln f g) X C (↑x:Int)) (fun x'=>Hint.ok (jT (jobE sh th nd tr m ln f g) X C (↑x:Int)) x'∧Hint.mu (jT (jobE sh th nd tr m ln f g) X C (↑x:Int)) x'<Hint.mu (jT (jobE sh th nd tr m ln f g) X C (↑x:Int)) x_1) (.O::.O::.ptr 0 0::.O::.O::.ptr 1 0::.O::.O::.O::.O::.O::.tslice 2 0 C.length 8::.int .i64 (sumU X (Int.toNat (↑x:Int)))::.int .i64 (↑x:Int)::.int .i64 (↑(cntE C (↑x:Int) x_1):Int)::.int .i64 (↑(cntB C (↑x:Int) x_1):Int)::(tO' 66 (.tslice 2 0 C.length 8::.int .i64 (↑C.length:Int)::.int .i64 (W ((↑x_1:Int)+1))::(tO' 100 [])))) [w53 f g ln m nd sh th tr,some (.abs (.engine X) []),some (.tab [some .i64,some .i64,some .i64,some .i64,some .i64,some .i64,none,some .i64] C)]else bif ile (↑m:Int) (↑x:Int)then K (.bool false) []else((0:Int)≤(↑x:Int)∧(↑x:Int)<(↑m:Int))∧bif ile (↑(ln (Int.toNat (↑x:Int))):Int) (↑(cntB C (↑x:Int) x_1):Int)then K (.bool false) []else((0:Int)≤(↑x:Int)∧(↑x:Int)<(↑m:Int))∧((0:Int)≤(↑(cntB C (↑x:Int) x_1):Int)∧(↑(cntB C (↑x:Int) x_1):Int)<(↑(ln (Int.toNat (↑x:Int))):Int))∧bif !bif ieq (List.headD (List.tail (List.tail (List.tail (List.getD C (0+Int.toNat (↑x_1:Int)) [])))) 0) (f (Int.toNat (↑x:Int)) (Int.toNat (↑(cntB C (↑x:Int) x_1):Int)))then bif ieq (List.headD (List.tail (List.tail (List.tail (List.tail (List.getD C (0+Int.toNat (↑x_1:Int)) []))))) 0) (g (Int.toNat (↑x:Int)) (Int.toNat (↑(cntB C (↑x:Int) x_1):Int)))then true else false else false then K (.bool false) []else bif ile 0 (List.headD (List.tail (List.tail (List.getD C (0+Int.toNat (↑x_1:Int)) []))) 0)then okSt (jT (jobE sh th nd tr m ln f g) X C (↑x:Int)) (fun x'=>Hint.ok (jT (jobE sh th nd tr m ln f g) X C (↑x:Int)) x'∧Hint.mu (jT (jobE sh th nd tr m ln f g) X C (↑x:Int)) x'<Hint.mu (jT (jobE sh th nd tr m ln f g) X C (↑x:Int)) x_1) (.O::.O::.ptr 0 0::.O::.O::.ptr 1 0::.O::.O::.O::.O::.O::.tslice 2 0 C.length 8::.int .i64 (sumU X (Int.toNat (↑x:Int)))::.int .i64 (↑x:Int)::.int .i64 (W ((↑(cntE C (↑x:Int) x_1):Int)+1))::.int .i64 (W ((↑(cntB C (↑x:Int) x_1):Int)+1))::(tO' 66 (.tslice 2 0 C.length 8::.int .i64 (↑C.length:Int)::.int .i64 (W ((↑x_1:Int)+1))::(tO' 100 [])))) [w53 f g ln m nd sh th tr,some (.abs (.engine X) []),some (.tab [some .i64,some .i64,some .i64,some .i64,some .i64,some .i64,none,some .i64] C)]else okSt (jT (jobE sh th nd tr m ln f g) X C (↑x:Int)) (fun x'=>Hint.ok (jT (jobE sh th nd tr m ln f g) X C (↑x:Int)) x'∧Hint.mu (jT (jobE sh th nd tr m ln f g) X C (↑x:Int)) x'<Hint.mu (jT (jobE sh th nd tr m ln f g) X C (↑x:Int)) x_1) (.O::.O::.ptr 0 0::.O::.O::.ptr 1 0::.O::.O::.O::.O::.O::.tslice 2 0 C.length 8::.int .i64 (sumU X (Int.toNat (↑x:Int)))::.int .i64 (↑x:Int)::.int .i64 (↑(cntE C (↑x:Int) x_1):Int)::.int .i64 (W ((↑(cntB C (↑x:Int) x_1):Int)+1))::(tO' 66 (.tslice 2 0 C.length 8::.int .i64 (↑C.length:Int)::.int .i64 (W ((↑x_1:Int)+1))::(tO' 100 [])))) [w53 f g ln m nd sh th tr,some (.abs (.engine X) []),some (.tab [some .i64,some .i64,some .i64,some .i64,some .i64,some .i64,none,some .i64] C)]else GJ X∧bif !ieq (↑(List.length (bM (↑x:Int) X)):Int) (↑(cntB C (↑x:Int) x_1):Int)then K (.bool false) []else bif ilt (↑x:Int) (↑m:Int)then True∧((0:Int)≤(↑x:Int)∧(↑x:Int)<(↑m:Int))∧bif !ieq (gV (↑x:Int) X) (W ((↑(ln (Int.toNat (↑x:Int))):Int) - (↑(cntE C (↑x:Int) x_1):Int)))then K (.bool false) []else bif ile (↑m:Int) (↑x:Int)then True∧bif !ieq (gV (↑x:Int) X) 0 then K (.bool false) []else okSt (gC (jobE sh th nd tr m ln f g) X C (↑x:Int)) (Hint.ok (gC (jobE sh th nd tr m ln f g) X C (↑x:Int))) (.O::.O::.ptr 0 0::.O::.O::.ptr 1 0::.O::.O::.O::.O::.O::.tslice 2 0 C.length 8::.int .i64 (sumU X (Int.toNat (↑x:Int)))::.int .i64 (↑x:Int)::(tO' 155 [.slice 3 0 (List.length (bM (↑x:Int) X)) 1,.int .i64 (↑(List.length (bM (↑x:Int) X)):Int),.int .i64 0,.O,.O,.O,.O,.O,.O,.O,.O,.O,.O,.O,.O,.O])) [w53 f g ln m nd sh th tr,some (.abs (.engine X) []),some (.tab [some .i64,some .i64,some .i64,some .i64,some .i64,some .i64,none,some .i64] C),some (.ints (some .i64) (bM (↑x:Int) X))]∧ ∀(x_2:Nat),ec4 (bM (↑x:Int) X) x_2→bif ilt (↑x_2:Int) (↑(List.length (bM (↑x:Int) X)):Int)then((0:Int)≤(↑x_2:Int)∧(↑x_2:Int)<(↑(List.length (bM (↑x:Int) X)):Int))∧0+Int.toNat (↑x_2:Int)*(1:Nat)<List.length (bM (↑x:Int) X)∧bif ilt (List.getD (bM (↑x:Int) X) (0+Int.toNat (↑x_2:Int)*1) 0) 1 then K (.bool false) []else okSt (gC (jobE sh th nd tr m ln f g) X C (↑x:Int)) (fun x'=>Hint.ok (gC (jobE sh th nd tr m ln f g) X C (↑x:Int)) x'∧Hint.mu (gC (jobE sh th nd tr m ln f g) X C (↑x:Int)) x'<Hint.mu (gC (jobE sh th nd tr m ln f g) X C (↑x:Int)) x_2) (.O::.O::.ptr 0 0::.O::.O::.ptr 1 0::.O::.O::.O::.O::.O::.tslice 2 0 C.length 8::.int .i64 (W (mF X (Int.toNat (↑x:Int)) x_2+List.getD (bM (↑x:Int) X) (0+Int.toNat (↑x_2:Int)*1) 0))::.int .i64 (↑x:Int)::(tO' 155 [.slice 3 0 (List.length (bM (↑x:Int) X)) 1,.int .i64 (↑(List.length (bM (↑x:Int) X)):Int),.int .i64 (W ((↑x_2:Int)+1)),.O,.O,.O,.O,.O,.O,.O,.O,.O,.O,.O,.O,.O])) [w53 f g ln m nd sh th tr,some (.abs (.engine X) []),some (.tab [some .i64,some .i64,some .i64,some .i64,some .i64,some .i64,none,some .i64] C),some (.ints (some .i64) (bM (↑x:Int) X))]else okSt (k9 (jobE sh th nd tr m ln f g) X C th) (fun x'=>Hint.ok (k9 (jobE sh th nd tr m ln f g) X C th) x'∧Hint.mu (k9 (jobE sh th nd tr m ln f g) X C th) x'<Hint.mu (k9 (jobE sh th nd tr m ln f g) X C th) x) (.O::.O::.ptr 0 0::.O::.O::.ptr 1 0::.O::.O::.O::.O::.O::.tslice 2 0 C.length 8::.int .i64 (mF X (Int.toNat (↑x:Int)) x_2)::.int .i64 (W ((↑x:Int)+1))::(tO' 171 [])) [w53 f g ln m nd sh th tr,some (.abs (.engine X) []),some (.tab [some .i64,some .i64,some .i64,some .i64,some .i64,some .i64,none,some .i64] C)]else okSt (gC (jobE sh th nd tr m ln f g) X C (↑x:Int)) (Hint.ok (gC (jobE sh th nd tr m ln f g) X C (↑x:Int))) (.O::.O::.ptr 0 0::.O::.O::.ptr 1 0::.O::.O::.O::.O::.O::.tslice 2 0 C.length 8::.int .i64 (sumU X (Int.toNat (↑x:Int)))::.int .i64 (↑x:Int)::(tO' 155 [.slice 3 0 (List.length (bM (↑x:Int) X)) 1,.int .i64 (↑(List.length (bM (↑x:Int) X)):Int),.int .i64 0,.O,.O,.O,.O,.O,.O,.O,.O,.O,.O,.O,.O,.O])) [w53 f g ln m nd sh th tr,some (.abs (.engine X) []),some (.tab [some .i64,some .i64,some .i64,some .i64,some .i64,some .i64,none,some .i64] C),some (.ints (some .i64) (bM (↑x:Int) X))]∧ ∀(x_2:Nat),ec4 (bM (↑x:Int) X) x_2→bif ilt (↑x_2:Int) (↑(List.length (bM (↑x:Int) X)):Int)then((0:Int)≤(↑x_2:Int)∧(↑x_2:Int)<(↑(List.length (bM (↑x:Int) X)):Int))∧0+Int.toNat (↑x_2:Int)*(1:Nat)<List.length (bM (↑x:Int) X)∧bif ilt (List.getD (bM (↑x:Int) X) (0+Int.toNat (↑x_2:Int)*1) 0) 1 then K (.bool false) []else okSt (gC (jobE sh th nd tr m ln f g) X C (↑x:Int)) (fun x'=>Hint.ok (gC (jobE sh th nd tr m ln f g) X C (↑x:Int)) x'∧Hint.mu (gC (jobE sh th nd tr m ln f g) X C (↑x:Int)) x'<Hint.mu (gC (jobE sh th nd tr m ln f g) X C (↑x:Int)) x_2) (.O::.O::.ptr 0 0::.O::.O::.ptr 1 0::.O::.O::.O::.O::.O::.tslice 2 0 C.length 8::.int .i64 (W (mF X (Int.toNat (↑x:Int)) x_2+List.getD (bM (↑x:Int) X) (0+Int.toNat (↑x_2:Int)*1) 0))::.int .i64 (↑x:Int)::(tO' 155 [.slice 3 0 (List.length (bM (↑x:Int) X)) 1,.int .i64 (↑(List.length (bM (↑x:Int) X)):Int),.int .i64 (W ((↑x_2:Int)+1)),.O,.O,.O,.O,.O,.O,.O,.O,.O,.O,.O,.O,.O])) [w53 f g ln m nd sh th tr,some (.abs (.engine X) []),some (.tab [some .i64,some .i64,some .i64,some .i64,some .i64,some .i64,none,some .i64] C),some (.ints (some .i64) (bM (↑x:Int) X))]else okSt (k9 (jobE sh th nd tr m ln f g) X C th) (fun x'=>Hint.ok (k9 (jobE sh th nd tr m ln f g) X C th) x'∧Hint.mu (k9 (jobE sh th nd tr m ln f g) X C th) x'<Hint.mu (k9 (jobE sh th nd tr m ln f g) X C th) x) (.O::.O::.ptr 0 0::.O::.O::.ptr 1 0::.O::.O::.O::.O::.O::.tslice 2 0 C.length 8::.int .i64 (mF X (Int.toNat (↑x:Int)) x_2)::.int .i64 (W ((↑x:Int)+1))::(tO' 171 [])) [w53 f g ln m nd sh th tr,some (.abs (.engine X) []),some (.tab [some .i64,some .i64,some .i64,some .i64,some .i64,some .i64,none,some .i64] C)]else bif ile (↑m:Int) (↑x:Int)then True∧bif !ieq (gV (↑x:Int) X) 0 then K (.bool false) []else okSt (gC (jobE sh th nd tr m ln f g) X C (↑x:Int)) (Hint.ok (gC (jobE sh th nd tr m ln f g) X C (↑x:Int))) (.O::.O::.ptr 0 0::.O::.O::.ptr 1 0::.O::.O::.O::.O::.O::.tslice 2 0 C.length 8::.int .i64 (sumU X (Int.toNat (↑x:Int)))::.int .i64 (↑x:Int)::(tO' 155 [.slice 3 0 (List.length (bM (↑x:Int) X)) 1,.int .i64 (↑(List.length (bM (↑x:Int) X)):Int),.int .i64 0,.O,.O,.O,.O,.O,.O,.O,.O,.O,.O,.O,.O,.O])) [w53 f g ln m nd sh th tr,some (.abs (.engine X) []),some (.tab [some .i64,some .i64,some .i64,some .i64,some .i64,some .i64,none,some .i64] C),some (.ints (some .i64) (bM (↑x:Int) X))]∧ ∀(x_2:Nat),ec4 (bM (↑x:Int) X) x_2→bif ilt (↑x_2:Int) (↑(List.length (bM (↑x:Int) X)):Int)then((0:Int)≤(↑x_2:Int)∧(↑x_2:Int)<(↑(List.length (bM (↑x:Int) X)):Int))∧0+Int.toNat (↑x_2:Int)*(1:Nat)<List.length (bM (↑x:Int) X)∧bif ilt (List.getD (bM (↑x:Int) X) (0+Int.toNat (↑x_2:Int)*1) 0) 1 then K (.bool false) []else okSt (gC (jobE sh th nd tr m ln f g) X C (↑x:Int)) (fun x'=>Hint.ok (gC (jobE sh th nd tr m ln f g) X C (↑x:Int)) x'∧Hint.mu (gC (jobE sh th nd tr m ln f g) X C (↑x:Int)) x'<Hint.mu (gC (jobE sh th nd tr m ln f g) X C (↑x:Int)) x_2) (.O::.O::.ptr 0 0::.O::.O::.ptr 1 0::.O::.O::.O::.O::.O::.tslice 2 0 C.length 8::.int .i64 (W (mF X (Int.toNat (↑x:Int)) x_2+List.getD (bM (↑x:Int) X) (0+Int.toNat (↑x_2:Int)*1) 0))::.int .i64 (↑x:Int)::(tO' 155 [.slice 3 0 (List.length (bM (↑x:Int) X)) 1,.int .i64 (↑(List.length (bM (↑x:Int) X)):Int),.int .i64 (W ((↑x_2:Int)+1)),.O,.O,.O,.O,.O,.O,.O,.O,.O,.O,.O,.O,.O])) [w53 f g ln m nd sh th tr,some (.abs (.engine X) []),some (.tab [some .i64,some .i64,some .i64,some .i64,some .i64,some .i64,none,some .i64] C),some (.ints (some .i64) (bM (↑x:Int) X))]else okSt (k9 (jobE sh th nd tr m ln f g) X C th) (fun x'=>Hint.ok (k9 (jobE sh th nd tr m ln f g) X C th) x'∧Hint.mu (k9 (jobE sh th nd tr m ln f g) X C th) x'<Hint.mu (k9 (jobE sh th nd tr m ln f g) X C th) x) (.O::.O::.ptr 0 0::.O::.O::.ptr 1 0::.O::.O::.O::.O::.O::.tslice 2 0 C.length 8::.int .i64 (mF X (Int.toNat (↑x:Int)) x_2)::.int .i64 (W ((↑x:Int)+1))::(tO' 171 [])) [w53 f g ln m nd sh th tr,some (.abs (.engine X) []),some (.tab [some .i64,some .i64,some .i64,some .i64,some .i64,some .i64,none,some .i64] C)]else okSt (gC (jobE sh th nd tr m ln f g) X C (↑x:Int)) (Hint.ok (gC (jobE sh th nd tr m ln f g) X C (↑x:Int))) (.O::.O::.ptr 0 0::.O::.O::.ptr 1 0::.O::.O::.O::.O::.O::.tslice 2 0 C.length 8::.int .i64 (sumU X (Int.toNat (↑x:Int)))::.int .i64 (↑x:Int)::(tO' 155 [.slice 3 0 (List.length (bM (↑x:Int) X)) 1,.int .i64 (↑(List.length (bM (↑x:Int) X)):Int),.int .i64 0,.O,.O,.O,.O,.O,.O,.O,.O,.O,.O,.O,.O,.O])) [w53 f g ln m nd sh th tr,some (.abs (.engine X) []),some (.tab [some .i64,some .i64,some .i64,some .i64,some .i64,some .i64,none,some .i64] C),some (.ints (some .i64) (bM (↑x:Int) X))]∧ ∀(x_2:Nat),ec4 (bM (↑x:Int) X) x_2→bif ilt (↑x_2:Int) (↑(List.length (bM (↑x:Int) X)):Int)then((0:Int)≤(↑x_2:Int)∧(↑x_2:Int)<(↑(List.length (bM (↑x:Int) X)):Int))∧0+Int.toNat (↑x_2:Int)*(1:Nat)<List.length (bM (↑x:Int) X)∧bif ilt (List.getD (bM (↑x:Int) X) (0+Int.toNat (↑x_2:Int)*1) 0) 1 then K (.bool false) []else okSt (gC (jobE sh th nd tr m ln f g) X C (↑x:Int)) (fun x'=>Hint.ok (gC (jobE sh th nd tr m ln f g) X C (↑x:Int)) x'∧Hint.mu (gC (jobE sh th nd tr m ln f g) X C (↑x:Int)) x'<Hint.mu (gC (jobE sh th nd tr m ln f g) X C (↑x:Int)) x_2) (.O::.O::.ptr 0 0::.O::.O::.ptr 1 0::.O::.O::.O::.O::.O::.tslice 2 0 C.length 8::.int .i64 (W (mF X (Int.toNat (↑x:Int)) x_2+List.getD (bM (↑x:Int) X) (0+Int.toNat (↑x_2:Int)*1) 0))::.int .i64 (↑x:Int)::(tO' 155 [.slice 3 0 (List.length (bM (↑x:Int) X)) 1,.int .i64 (↑(List.length (bM (↑x:Int) X)):Int),.int .i64 (W ((↑x_2:Int)+1)),.O,.O,.O,.O,.O,.O,.O,.O,.O,.O,.O,.O,.O])) [w53 f g ln m nd sh th tr,some (.abs (.engine X) []),some (.tab [some .i64,some .i64,some .i64,some .i64,some .i64,some .i64,none,some .i64] C),some (.ints (some .i64) (bM (↑x:Int) X))]else okSt (k9 (jobE sh th nd tr m ln f g) X C th) (fun x'=>Hint.ok (k9 (jobE sh th nd tr m ln f g) X C th) x'∧Hint.mu (k9 (jobE sh th nd tr m ln f g) X C th) x'<Hint.mu (k9 (jobE sh th nd tr m ln f g) X C th) x) (.O::.O::.ptr 0 0::.O::.O::.ptr 1 0::.O::.O::.O::.O::.O::.tslice 2 0 C.length 8::.int .i64 (mF X (Int.toNat (↑x:Int)) x_2)::.int .i64 (W ((↑x:Int)+1))::(tO' 171 [])) [w53 f g ln m nd sh th tr,some (.abs (.engine X) []),some (.tab [some .i64,some .i64,some .i64,some .i64,some .i64,some .i64,none,some .i64] C)]else True∧K (.bool (ieq (sumU X x) X.8)) []
theorem MO(sh th nd tr:Int)(m:Nat)(ln:Nat→Nat)(f g:Nat→Nat→Int)(n:Nat)(pt pm:Nat→Int)(X:EGS)(ev C:List (List Int))(K:AVal→aC Ob→Prop)(h:TB sh th nd tr m ln f g n pt pm X ev C K):cT' 4 [.agg [.int .i64 sh,.int .i64 th,.int .i64 nd,.int .i64 tr,CO m ln f g],.view n 2 (LA pt pm)] [] (kJ 0 K):=by
 exact aD (E:=EUk) Tryz.checked.mixed (L:=LEC (jobE sh th nd tr m ln f g) X ev C th) (n:=10) (aJ (by kernel_rfl) h)
def pkW1(x:EGS)(i:Nat):WK1:=wbF x.tr (a8 x.ws i)
def pkO(x:EGS)(i:Nat):WkO:=wsF (pkW1 x i) x.s
def pkH1(th:Int)(x:EGS)(i:Nat):HST:=bif (a8 x.ws i).b then x.h else(hbF th x.h (pkW1 x i).d.kd (pkW1 x i).d.ky).2
def pkH(th:Int)(x:EGS)(i:Nat):HST:=bif (pkO x i).d then(heF th (pkH1 th x i) (pkO x i).code (pkO x i).okk (pkO x i).val).2 else pkH1 th x i
def aBR(th:Int)(x:EGS)(i:Nat):EGS:= {sh:=x.sh,th:=x.th,nd:=x.nd,tr:=x.tr,s:=(pkO x i).s,h:=pkH th x i,ws:=cQ x.ws i (pkO x i).x,k:=W (x.k+1) }
structure YB (t n:Int) (th:Int) (x:EGS):Prop where
 h0:0≤th∧th<t
 hi:th.toNat<x.ws.length
 hk:x.k<60000
 he:(a8 x.ws th.toNat).en <((a8 x.ws th.toNat).tk.length :Int)
 hv:pkF th x=(true,aBR th x th.toNat)
theorem O0{t n:Int}{x:EGS}(th:Int)(hx:egW t n x):pkF th x=(false,x)∨YB t n th x:=by
 cases hb:(pkF th x).1 with
 | false=>left;exact Prod.ext hb ((FI th hx).no hb)
 | true=>
   right
   have e0:pkF th x=bif ilt th 0 then(false,x)else bif ile (x.ws.length:Int) th then(false,x)else bif ieq (W (((a8 x.ws (0+Int.toNat th*1)).tk.length :Int) - (a8 x.ws (0+Int.toNat th*1)).en)) 0 then(false,{sh:=x.sh,th:=x.th,nd:=x.nd,tr:=x.tr,s:=x.s,h:=x.h,ws:=cQ x.ws (0+Int.toNat th*1) (a8 x.ws (0+Int.toNat th*1)),k:=x.k})else bif ile 60000 x.k then(false,{sh:=x.sh,th:=x.th,nd:=x.nd,tr:=x.tr,s:=x.s,h:=x.h,ws:=cQ x.ws (0+Int.toNat th*1) (a8 x.ws (0+Int.toNat th*1)),k:=x.k})else
    bif !(a8 x.ws (0+Int.toNat th*1)).b then
     (bif (pkO x (0+Int.toNat th*1)).d then(true,{sh:=x.sh,th:=x.th,nd:=x.nd,tr:=x.tr,s:=(pkO x (0+Int.toNat th*1)).s,h:=(heF th (hbF th x.h (pkW1 x (0+Int.toNat th*1)).d.kd (pkW1 x (0+Int.toNat th*1)).d.ky).2 (pkO x (0+Int.toNat th*1)).code (pkO x (0+Int.toNat th*1)).okk (pkO x (0+Int.toNat th*1)).val).2,ws:=cQ x.ws (0+Int.toNat th*1) (pkO x (0+Int.toNat th*1)).x,k:=W (x.k+1) })
       else(true,{sh:=x.sh,th:=x.th,nd:=x.nd,tr:=x.tr,s:=(pkO x (0+Int.toNat th*1)).s,h:=(hbF th x.h (pkW1 x (0+Int.toNat th*1)).d.kd (pkW1 x (0+Int.toNat th*1)).d.ky).2,ws:=cQ x.ws (0+Int.toNat th*1) (pkO x (0+Int.toNat th*1)).x,k:=W (x.k+1) }))
    else(bif (pkO x (0+Int.toNat th*1)).d then(true,{sh:=x.sh,th:=x.th,nd:=x.nd,tr:=x.tr,s:=(pkO x (0+Int.toNat th*1)).s,h:=(heF th x.h (pkO x (0+Int.toNat th*1)).code (pkO x (0+Int.toNat th*1)).okk (pkO x (0+Int.toNat th*1)).val).2,ws:=cQ x.ws (0+Int.toNat th*1) (pkO x (0+Int.toNat th*1)).x,k:=W (x.k+1) })
     else(true,{sh:=x.sh,th:=x.th,nd:=x.nd,tr:=x.tr,s:=(pkO x (0+Int.toNat th*1)).s,h:=x.h,ws:=cQ x.ws (0+Int.toNat th*1) (pkO x (0+Int.toNat th*1)).x,k:=W (x.k+1) })):=rfl
   rw [Nat.zero_add,Nat.mul_one]at e0;cases c1:ilt th 0 with
   | true=>rw [e0,c1]at hb;exact Bool.noConfusion hb
   | false=>
   cases c2:ile (x.ws.length:Int) th with
   | true=>rw [e0,c1,c2]at hb;exact Bool.noConfusion hb
   | false=>
   cases c3:ieq (W (((a8 x.ws th.toNat).tk.length :Int) - (a8 x.ws th.toNat).en)) 0 with
   | true=>rw [e0,c1,c2,c3]at hb;exact Bool.noConfusion hb
   | false=>
   cases c4:ile 60000 x.k with
   | true=>rw [e0,c1,c2,c3,c4]at hb;exact Bool.noConfusion hb
   | false=>
   rw [c1,c2,c3,c4]at e0;have c2':=c2;have c1':=c1;rw [cC,dF']at c2;rw [aV,dF']at c1;rw [cC,dF']at c4;have hl:=hx.l;have hi:th.toNat<x.ws.length:=by omega
   have hw:=hx.ws _ hi;refine⟨⟨by omega,by omega⟩,hi,by omega,?_,?_⟩
   ·have h0:=hw.e0;have h1:=hw.e1;have h2:=hw.tk;have h3:=eM c3;have hW:=dB (x:=((a8 x.ws th.toNat).tk.length :Int) - (a8 x.ws th.toNat).en) ⟨by omega,by omega⟩
    have h4:W (((a8 x.ws th.toNat).tk.length :Int) - (a8 x.ws th.toNat).en)≠0:=h3;have hW:W (((a8 x.ws th.toNat).tk.length :Int) - (a8 x.ws th.toNat).en)=((a8 x.ws th.toNat).tk.length :Int) - (a8 x.ws th.toNat).en :=hW;rw [hW]at h4;omega
   ·rw [e0];unfold aBR pkH pkH1;cases (a8 x.ws th.toNat).b <;>cases (pkO x th.toNat).d <;>rfl
theorem th8{th:Int}(h:0≤th∧th<8):th=0∨th=1∨th=2∨th=3∨th=4∨th=5∨th=6∨th=7:=by omega
def opE(e:List Int):List Int:=[List.headD (List.tail (List.tail e)) 0,List.headD (List.tail (List.tail (List.tail e))) 0]
def opT(r:List Int):List Int:=[List.headD (List.tail r) 0,List.headD (List.tail (List.tail r)) 0]
def bgL(ev:List (List Int))(u:Int):List (List Int):=(ev.filter fun e=>ieq (thE e) u&& !endE e).map opE
def enC(ev:List (List Int))(u:Int):Nat:=(ev.filter fun e=>ieq (thE e) u&&endE e).length
theorem GB(ev:List (List Int))(e:List Int)(u:Int):bgL (ev++ [e]) u=bgL ev u++(bif ieq (thE e) u&& !endE e then [opE e]else []):=by
 unfold bgL;rw [List.filter_append,List.map_append,List.filter_cons];cases (ieq (thE e) u&& !endE e)<;>rfl
theorem GL(ev:List (List Int))(e:List Int)(u:Int):enC (ev++ [e]) u=enC ev u+(bif ieq (thE e) u&&endE e then 1 else 0):=by
 unfold enC;rw [List.filter_append,List.length_append,List.filter_cons];cases (ieq (thE e) u&&endE e)<;>rfl
def GS(e:List Int):List Int:=[List.headD e 0,bif !ieq (List.headD (List.tail e) 0) 0 then 1 else 0,List.headD (List.tail (List.tail e)) 0,List.headD (List.tail (List.tail (List.tail e))) 0,List.headD (List.tail (List.tail (List.tail (List.tail e)))) 0,bif !ieq (List.headD (List.tail (List.tail (List.tail (List.tail (List.tail e))))) 0) 0 then 1 else 0,List.headD (List.tail (List.tail (List.tail (List.tail (List.tail (List.tail e)))))) 0]
structure evOk (ev:List (List Int)):Prop where
 n: ∀k,k<ev.length→GS (ev.getD k [])=ev.getD k []
 h: ∀k,k<ev.length→0≤thE (ev.getD k [])∧thE (ev.getD k [])<8∧endE (ev.getD k [])=pdF (ev.take k) (thE (ev.getD k []))
theorem NF:evOk []:=⟨fun k hk=>absurd hk (Nat.not_lt_zero _),fun k hk=>absurd hk (Nat.not_lt_zero _)⟩
theorem lE{α:Type}{l:List α}{e d:α}{i:Nat}(hi:i<l.length):(l++ [e]).getD i d=l.getD i d:=by
 rw [gD',List.getElem?_append_left hi,←gD']
theorem yA{α:Type}{l:List α}{e d:α} :(l++ [e]).getD l.length d=e:=by
 rw [gD',List.getElem?_append_right (Nat.le_refl _),Nat.sub_self];rfl
theorem NG{ev:List (List Int)}{e:List Int}(h:evOk ev)(h1:0≤thE e∧thE e<8)(h2:endE e=pdF ev (thE e))(h3:GS e=e):evOk (ev++ [e]):=by
 refine⟨fun k hk=>?_,fun k hk=>?_⟩
 ·rw [List.length_append]at hk
  by_cases hkl:k<ev.length
  ·rw [lE hkl];exact h.n k hkl
  ·have hkl:k=ev.length:=by have: [e].length =1:=rfl;omega
   subst hkl;rw [yA];exact h3
 ·rw [List.length_append]at hk
  by_cases hkl:k<ev.length
  ·rw [lE hkl,List.take_append_of_le_length (by omega)]
   exact h.h k hkl
  ·have hkl:k=ev.length:=by have: [e].length =1:=rfl;omega
   subst hkl;rw [yA,List.take_append_of_le_length (Nat.le_refl _),List.take_length];exact⟨h1.1,h1.2,h2⟩
structure thD (ev:List (List Int)) (u:Int) (b:Bool) (n:Nat) (tk:List (List Int)) (en:Int):Prop where
 pd:pdF ev u=b
 bg:bgL ev u=(tk.take n).map opT
 en:(enC ev u:Int)=en
theorem dQ(a:Int):ieq a a=true:=by rw [cX];exact beq_self_eq_true a
theorem l6{a b:Int}(h:a≠b):ieq a b=false:=by rw [cX];simpa using h
theorem xD{ev:List (List Int)}{u:Int}{b:Bool}{n:Nat}{tk:List (List Int)}{en:Int}{e:List Int}(h:thD ev u b n tk en)(hn:thE e≠u):thD (ev++ [e]) u b n tk en:=by
 refine⟨?_,?_,?_⟩
 ·rw [uZ,l6 hn];exact h.pd
 ·rw [GB,l6 hn];exact(List.append_nil _).trans h.bg
 ·rw [GL,l6 hn];exact h.en
theorem KU{ev:List (List Int)}{u:Int}{b:Bool}{n:Nat}{tk:List (List Int)}{en:Int}{e:List Int}(h:thD ev u b n tk en)(ht:thE e=u)(he:endE e=false)(hn:n<tk.length)(ho:opE e=opT (tk.getD n [])):thD (ev++ [e]) u true (n+1) tk en:=by
 refine⟨?_,?_,?_⟩
 ·rw [uZ,ht,dQ,he];rfl
 ·rw [GB,ht,dQ,he,h.bg,qU tk [] hn,List.map_append,ho];rfl
 ·rw [GL,ht,dQ,he];exact h.en
theorem WZ{ev:List (List Int)}{u:Int}{b:Bool}{n:Nat}{tk:List (List Int)}{en:Int}{e:List Int}(h:thD ev u b n tk en)(ht:thE e=u)(he:endE e=true):thD (ev++ [e]) u false n tk (en+1):=by
 refine⟨?_,?_,?_⟩
 ·rw [uZ,ht,dQ,he];rfl
 ·rw [GB,ht,dQ,he];exact(List.append_nil _).trans h.bg
 ·rw [GL,ht,dQ,he];have:=h.en;show((enC ev u+1:Nat):Int)=en+1;omega
theorem aEI(tr:Int)(x:WKS):(wbF tr x).tk =x.tk:=by unfold wbF;cases x.b<;>rfl
theorem aEF(tr:Int)(x:WKS):(wbF tr x).en =x.en:=by unfold wbF;cases x.b<;>rfl
theorem aEJ(tr:Int)(x:WKS):(wbF tr x).tl =bif x.b then x.tl else x.tl++ [0]:=by unfold wbF;cases x.b<;>rfl
theorem aEH(tr:Int)(x:WKS)(h:x.b=false): [(wbF tr x).d.kd,(wbF tr x).d.ky]=opT (x.tk.getD x.en.toNat []):=by
 unfold wbF;rw [h];show [List.headD (List.tail (List.getD x.4 (0+Int.toNat x.5) [])) 0,List.headD (List.tail (List.tail (List.getD x.4 (0+Int.toNat x.5) []))) 0]=_;rw [Nat.zero_add];rfl
structure wsE (w:WK1) (o:WkO):Prop where
 tk:o.x.tk=w.tk
 tl:o.x.tl=w.tl.set w.en.toNat (W (w.tl.getD w.en.toNat 0+1))
 en:o.x.en=bif o.d then W (w.en+1)else w.en
 b:o.x.b= !o.d
theorem aFP(w:WK1)(s:MS):wsE w (wsF w s):=by
 have ei:(0+Int.toNat w.5*1)=w.en.toNat:=by rw [Nat.zero_add,Nat.mul_one]
 obtain⟨D,hD⟩: ∃D,D=s5 w.1 w.2 w.6 w.3 s:=⟨_,rfl⟩
 have e:wsF w s=bif D.1 then(bif (DqO.x D).4 then {code:=(DqO.x D).1,okk:=(DqO.x D).2,val:=(DqO.x D).3,d:=true,x:= {w with st:=D.3,en:=W (w.5+1),b:=false,d:=eB,tl:=List.set w.7 (0+Int.toNat w.5*1) (W (List.getD w.7 (0+Int.toNat w.5*1) 0+1)),sl:=w.8++ [w.5] },s:=D.4}
  else {code:=(DqO.x D).1,okk:=(DqO.x D).2,val:=(DqO.x D).3,d:=true,x:= {w with st:=D.3,en:=W (w.5+1),b:=false,d:=eB,tl:=List.set w.7 (0+Int.toNat w.5*1) (W (List.getD w.7 (0+Int.toNat w.5*1) 0+1)),sl:=w.8},s:=D.4})
  else {code:=0,okk:=false,val:=0,d:=false,x:= {w with st:=D.3,b:=true,d:=D.2,tl:=List.set w.7 (0+Int.toNat w.5*1) (W (List.getD w.7 (0+Int.toNat w.5*1) 0+1)),sl:=w.8},s:=D.4} :=by rw [hD];rfl
 rw [e,ei];cases D.1 with
 | false=>exact⟨rfl,rfl,rfl,rfl⟩
 | true=>cases (DqO.x D).4<;>exact⟨rfl,rfl,rfl,rfl⟩
def nAt(x:HST)(u:Int):Int:=bif ieq u 0 then x.n0 else bif ieq u 1 then x.n1 else bif ieq u 2 then x.n2 else bif ieq u 3 then x.n3 else bif ieq u 4 then x.n4 else bif ieq u 5 then x.n5 else bif ieq u 6 then x.n6 else x.n7
structure hbE (th:Int) (x:HST) (kd ky:Int) (y:HST):Prop where
 ev:y.ev=x.ev++ [[th,0,kd,ky,0,0,0]]
 n: ∀u,0≤u∧u<8→nAt y u=bif ieq u th then((x.cl.length+1:Nat):Int)else nAt x u
structure heE (th:Int) (x:HST) (code:Int) (okk:Bool) (val:Int) (y:HST):Prop where
 ev:y.ev=x.ev++ [[th,1,0,0,code,bif okk then 1 else 0,val]]
 n: ∀u,0≤u∧u<8→nAt y u=bif ieq u th then 0 else nAt x u
theorem aEg{c:Bool}{α:Type}{a b:α}{p:α→Prop}(hc:c=false)(h:p b):p (bif c then a else b):=by rw [hc];exact h
theorem aFs{th:Int}(x:HST)(kd ky:Int)(h:0≤th∧th<8)(hn:ilt 0 (nAt x th)=false):hbE th x kd ky (hbF th x kd ky).2:=by
 rcases th8 h with rfl | rfl | rfl | rfl | rfl | rfl | rfl | rfl<;>
 exact aEg (p:=fun r:Int×HST=>hbE _ x kd ky r.2) hn ⟨rfl,fun u hu=>by rcases th8 hu with rfl | rfl | rfl | rfl | rfl | rfl | rfl | rfl<;>rfl⟩
theorem aFw{th:Int}(x:HST)(code:Int)(okk:Bool)(val:Int)(h:0≤th∧th<8)(hn:ilt 0 (nAt x th)=true):heE th x code okk val (heF th x code okk val).2:=by
 have hn:(!ilt 0 (nAt x th))=false:=by rw [hn];rfl
 rcases th8 h with rfl | rfl | rfl | rfl | rfl | rfl | rfl | rfl<;>
 exact aEg (p:=fun r:Int×HST=>heE _ x code okk val r.2) hn ⟨rfl,fun u hu=>by rcases th8 hu with rfl | rfl | rfl | rfl | rfl | rfl | rfl | rfl<;>rfl⟩
structure thC (ev:List (List Int)) (T:List (List Int)) (u k:Int) (w:WKS):Prop where
 d:thD ev u w.b w.tl.length T w.en
 tk:w.tk=T
 t1: ∀v,v∈w.tl→1≤v∧v≤k
def sumT(ws:List WKS):Int:=(ws.map fun w=>w.tl.sum).sum
structure z7 (T:Nat→List (List Int)) (x:EGS):Prop where
 ok:evOk x.h.ev
 ws: ∀i,i<x.ws.length→thC x.h.ev (T i) (i:Int) x.k (a8 x.ws i)
 nn: ∀u,0≤u∧u<8→ilt 0 (nAt x.h u)=pdF x.h.ev u
 cl:0≤(x.h.cl.length:Int)
 sm:sumT x.ws=x.k
theorem P1(ws:List WKS)(w:WKS): ∀i,i<ws.length→sumT (cQ ws i w)=sumT ws - (a8 ws i).tl.sum +w.tl.sum:=by
 unfold sumT cQ a8
 induction ws with
 | nil=>intro i hi;exact absurd hi (Nat.not_lt_zero _)
 | cons a ws ih=>
   intro i hi;cases i with
   | zero=>simp;omega
   | succ i=>
     have:=ih i (by simpa using hi)
     simp at this⊢;omega
theorem WN(l:List Int)(v:Int): ∀i,i<l.length→(l.set i v).sum =l.sum - l.getD i 0+v:=by
 induction l with
 | nil=>intro i hi;exact absurd hi (Nat.not_lt_zero _)
 | cons a l ih=>
   intro i hi;cases i with
   | zero=>simp;omega
   | succ i=>
     have:=ih i (by simpa using hi)
     simp at this⊢;omega
theorem OP{l:List Int}{i:Nat}{v z:Int}(h:z∈l.set i v):z∈l∨z=v:=by
 rcases List.mem_or_eq_of_mem_set h with h | h
 ·exact .inl h
 ·exact .inr h
theorem ZQ{T:Nat→List (List Int)}{t n th:Int}{x:EGS}(hx:egW t n x)(hc:z7 T x)(hy:YB t n th x):z7 T (aBR th x th.toNat):=by
 obtain⟨h0,hi,hk,he,hv⟩:=hy;have ht:=hx.ht;have h8:0≤th∧th<8:=by omega
 obtain⟨i,hti⟩: ∃i,i=th.toNat:=⟨_,rfl⟩;have hthi:th=(i:Int):=by omega
 rw [←hti]at hi he⊢;have hw:=hx.ws i hi;obtain⟨d,htk,t1⟩:=hc.ws i hi;have hn:=hc.nn th h8;have hpd:pdF x.h.ev th=(a8 x.ws i).b :=by rw [hthi];exact d.pd
 obtain⟨w,hwe⟩: ∃w,w=a8 x.ws i:=⟨_,rfl⟩;have e1:(pkW1 x i).tk =w.tk:=by rw [hwe];exact aEI _ _
 have e2:(pkW1 x i).en =w.en:=by rw [hwe];exact aEF _ _
 have e3:(pkW1 x i).tl =bif w.b then w.tl else w.tl++ [0]:=by rw [hwe];exact aEJ _ _
 have e4:w.b=false→[(pkW1 x i).d.kd,(pkW1 x i).d.ky]=opT (w.tk.getD w.en.toNat []):=by rw [hwe];exact aEH _ _
 have eo:wsE (pkW1 x i) (pkO x i):=aFP _ _;rw [←hwe]at he hw d htk t1 hpd;have hl:=hw.tl;have hen:=hw.e0;have htkl:=hw.tk
 have hbeg:evOk (pkH1 th x i).ev ∧thD (pkH1 th x i).ev th true (pkW1 x i).tl.length (T i) w.en∧(∀j,j≠th→ ∀b n tk en,thD x.h.ev j b n tk en→thD (pkH1 th x i).ev j b n tk en)∧(∀u,0≤u∧u<8→ilt 0 (nAt (pkH1 th x i) u)=pdF (pkH1 th x i).ev u):=by
  unfold pkH1;rw [←hwe,e3];cases hb:w.b with
  | true=>
    rw [hb]at d;refine⟨hc.ok,?_,fun j _ b n tk en h=>h,hc.nn⟩;rw [hthi];exact d
  | false=>
    rw [hb]at d hl hpd;have hlen:(w.tl.length:Int)=w.en:=by have:(w.tl.length:Int)=w.en+0:=hl;omega
    rw [hpd]at hn;obtain⟨b1,b2⟩:=aFs x.h (pkW1 x i).d.kd (pkW1 x i).d.ky h8 hn;have b1:(hbF th x.h (pkW1 x i).d.kd (pkW1 x i).d.ky).2.ev =x.h.ev++ [[th,0,(pkW1 x i).d.kd,(pkW1 x i).d.ky,0,0,0]]:=b1;show evOk (hbF th x.h (pkW1 x i).d.kd (pkW1 x i).d.ky).2.ev ∧_;simp only [cond_false];rw [b1];have hts:thE [th,0,(pkW1 x i).d.kd,(pkW1 x i).d.ky,0,0,0]=th:=rfl;have hes:endE [th,0,(pkW1 x i).d.kd,(pkW1 x i).d.ky,0,0,0]=false:=rfl;refine⟨NG hc.ok h8 ?_ rfl,?_,?_,?_⟩
    ·rw [hes,hts,hpd]
    ·rw [List.length_append];refine KU (by rw [hthi];exact d) hts hes (by rw [←htk];omega) ?_
     show [(pkW1 x i).d.kd,(pkW1 x i).d.ky]=_;rw [e4 hb,htk,show w.en.toNat=w.tl.length from by omega]
    ·intro j hj b n tk en h;exact xD h (by rw [hts];exact fun e=>hj e.symm)
    ·intro u hu;rw [b2 u hu,uZ,hts,hes]
     by_cases e:u=th
     ·subst e;rw [dQ];show ilt 0 ((x.h.cl.length+1:Nat):Int)=true;rw [aV,dT'];omega
     ·rw [l6 e,l6 (fun h=>e h.symm)];exact hc.nn u hu
 obtain⟨g1,g2,g3,g4⟩:=hbeg
 have hl1:(pkW1 x i).tl.length =w.en.toNat+1:=by
  rw [e3];cases hb:w.b with
  | true=>rw [hb]at hl;have:(w.tl.length:Int)=w.en+1:=hl;simp only [cond_true];omega
  | false=>rw [hb]at hl;have:(w.tl.length:Int)=w.en+0:=hl;simp only [cond_false,List.length_append,List.length_singleton];omega
 have hsum1:(pkW1 x i).tl.sum =w.tl.sum:=by
  rw [e3];cases w.b with
  | true=>rfl
  | false=>simp
 have hval: ∀z,z∈(pkW1 x i).tl →0≤z∧z≤x.k∧(1≤z∨z=0):=by
  rw [e3];have hk0:=hx.k;cases w.b with
  | true=>exact fun z hz=>by have:=t1 z hz;omega
  | false=>
    intro z hz;rcases List.mem_append.1 hz with h | h
    ·have:=t1 z h;omega
    ·have:z=0:=by simpa using h
     omega
 have hlt:w.en.toNat<(pkW1 x i).tl.length :=by omega
 obtain⟨v0,hv0⟩: ∃v,v=(pkW1 x i).tl.getD w.en.toNat 0:=⟨_,rfl⟩
 have hv1:0≤v0∧v0≤x.k:=by
  have hm:v0∈(pkW1 x i).tl :=by
   rw [hv0,gD',gE' hlt];exact List.getElem_mem hlt
  have:=hval v0 hm;omega
 obtain⟨o1,o2,o3,o4⟩:=eo;rw [e2,←hv0,Wi (x:=v0+1) ⟨by omega,by omega⟩]at o2
 rw [e2,Wi (x:=w.en+1) ⟨by omega,by omega⟩]at o3
 have hk1:W (x.k+1)=x.k+1:=Wi ⟨by have:=hx.k;omega,by omega⟩
 have hpos: ∀z,z∈(pkO x i).x.tl →1≤z∧z≤x.k+1:=by
  rw [o2,e3];intro z hz;cases hb:w.b with
  | true=>
    rw [hb]at hz;rcases OP hz with h | h
    ·have:=t1 z h;omega
    ·omega
  | false=>
    rw [hb]at hz hl;have hlen:(w.tl.length:Int)=w.en:=by have:(w.tl.length:Int)=w.en+0:=hl;omega
    have hz:z∈(w.tl++ [0]).set w.en.toNat (v0+1):=hz;rw [List.set_append_right w.en.toNat (v0+1) (by omega),show w.en.toNat - w.tl.length=0 from by omega]at hz
    rcases List.mem_append.1 hz with h | h
    ·have:=t1 z h;omega
    ·have:z=v0+1:=by simpa using h
     omega
 have hsum:(pkO x i).x.tl.sum =w.tl.sum+1:=by
  rw [o2,WN _ _ _ hlt,←hv0,hsum1];omega
 have hS:sumT (cQ x.ws i (pkO x i).x)=W (x.k+1):=by
  rw [P1 _ _ _ hi,←hwe,hsum,hk1,hc.sm];omega
 have hlen2:(pkO x i).x.tl.length =(pkW1 x i).tl.length :=by rw [o2,List.length_set]
 have hstep:evOk (pkH th x i).ev ∧thD (pkH th x i).ev th (pkO x i).x.b (pkO x i).x.tl.length (T i) (pkO x i).x.en ∧(∀j,j≠th→ ∀b n tk en,thD x.h.ev j b n tk en→thD (pkH th x i).ev j b n tk en)∧(∀u,0≤u∧u<8→ilt 0 (nAt (pkH th x i) u)=pdF (pkH th x i).ev u):=by
  unfold pkH;rw [o4,o3,hlen2];cases hd:(pkO x i).d with
  | false=>exact⟨g1,g2,g3,g4⟩
  | true=>
    have g5:=g4 th h8;rw [g2.pd]at g5;obtain⟨b1,b2⟩:=aFw (pkH1 th x i) (pkO x i).code (pkO x i).okk (pkO x i).val h8 g5;simp only [cond_true];rw [b1];have hts:thE [th,1,0,0,(pkO x i).code,bif (pkO x i).okk then 1 else 0,(pkO x i).val]=th:=rfl;have hes:endE [th,1,0,0,(pkO x i).code,bif (pkO x i).okk then 1 else 0,(pkO x i).val]=true:=rfl;refine⟨NG g1 h8 ?_ (by cases (pkO x i).okk <;>rfl),WZ g2 hts hes,?_,?_⟩
    ·rw [hes,hts,g2.pd]
    ·intro j hj b n tk en h;exact xD (g3 j hj b n tk en h) (by rw [hts];exact fun e=>hj e.symm)
    ·intro u hu;rw [b2 u hu,uZ,hts,hes]
     by_cases e:u=th
     ·subst e;rw [dQ];rfl
     ·rw [l6 e,l6 (fun h=>e h.symm)];exact g4 u hu
 obtain⟨s1,s2,s3,s4⟩:=hstep;refine⟨s1,?_,s4,by omega,hS⟩
 intro j hj;have hj:j<(cQ x.ws i (pkO x i).x).length :=hj;rw [sB]at hj;show thC (pkH th x i).ev (T j) (j:Int) (W (x.k+1)) (a8 (cQ x.ws i (pkO x i).x) j);rw [DA hi,hk1]
 by_cases e:i=j
 ·subst e;rw [if_pos rfl];refine⟨by rw [←hthi];exact s2,by rw [o1,e1];exact htk,hpos⟩
 ·rw [if_neg e];obtain⟨q1,q2,q3⟩:=hc.ws j hj;exact⟨s3 _ (by omega) _ _ _ _ q1,q2,fun v hv=>by have:=q3 v hv;omega⟩
theorem ZR{T:Nat→List (List Int)}{t n:Int}(th:Int){x:EGS}(hx:egW t n x)(hc:z7 T x):z7 T (pkF th x).2:=by
 rcases O0 th hx with h | hy
 ·rw [h];exact hc
 ·have:=ZQ hx hc hy;rw [hy.hv];exact this
theorem SD{T:Nat→List (List Int)}{t n:Int}(us:List Int): ∀(x:EGS) (c:Int),egW t n x→z7 T x→z7 T (runP x c us).1:=by
 induction us with
 | nil=>intro x c _ h;exact h
 | cons u us ih=>intro x c hx h;exact ih _ _ (FI u hx).w (ZR u hx h)
theorem SC(sh th nd tr:Int)(m:Nat)(ln:Nat→Nat)(f g:Nat→Nat→Int):z7 (fun i=>(cP sh th nd m ln f g i).tk) (dC sh th nd tr m ln f g):=by
 have hat: ∀i,i<(dC sh th nd tr m ln f g).ws.length →a8 (dC sh th nd tr m ln f g).ws i=cP sh th nd m ln f g i:=by
  intro i hi;have hi:i<((List.range th.toNat).map (cP sh th nd m ln f g)).length :=hi;rw [List.length_map,List.length_range]at hi;show a8 ((List.range th.toNat).map (cP sh th nd m ln f g)) i=_;unfold a8;rw [gD',List.getElem?_map,List.getElem?_range hi];rfl
 refine⟨NF,fun i hi=>?_,fun u hu=>?_,by omega,?_⟩
 ·rw [hat i hi];exact⟨⟨rfl,rfl,rfl⟩,rfl,fun v hv=>by cases hv⟩
 ·rcases th8 hu with rfl | rfl | rfl | rfl | rfl | rfl | rfl | rfl<;>rfl
 ·show(((List.range th.toNat).map (cP sh th nd m ln f g)).map fun w=>w.tl.sum).sum =0;rw [List.map_map];generalize List.range th.toNat=l
  induction l with
  | nil=>rfl
  | cons a l ih=>rw [List.map_cons,List.sum_cons,ih];rfl
def eX(ev:List (List Int))(i n:Nat):Bool:=(List.range n).any fun d=>ieq (thE (ev.getD (i+1+d) [])) (thE (ev.getD i []))
structure cqE (ev:List (List Int)) (i n:Nat) (c:CQL):Prop where
 th:c.th=thE (ev.getD i [])
 op: [c.kd,c.ky]=opE (ev.getD i [])
 en:ilt c.en 0= !eX ev i n
theorem SF(ev:List (List Int))(i:Nat): ∀n,cqE ev i n (cqR ev i n):=by
 intro n
 induction n with
 | zero=>exact⟨rfl,rfl,rfl⟩
 | succ n ih=>
   obtain⟨h1,h2,h3⟩:=ih
   have hl:eX ev i (n+1)=(eX ev i n||ieq (thE (ev.getD (i+1+n) [])) (thE (ev.getD i []))):=by
    unfold eX;rw [List.range_succ,List.any_append];simp
   rw [GG];unfold H7;rw [h3,h1];cases hb:eX ev i n with
   | true=>
     refine⟨h1,h2,?_⟩;show ilt (cqR ev i n).en 0=_;rw [h3,hl,hb];rfl
   | false=>
     cases hc:ieq (thE (ev.getD (i+1+n) [])) (thE (ev.getD i []))with
     | false=>
       refine⟨h1,h2,?_⟩;show ilt (cqR ev i n).en 0=_;rw [h3,hl,hb,hc];rfl
     | true=>
       refine⟨h1,h2,?_⟩;rw [hl,hb,hc];show ilt ((i+1+n:Nat):Int) 0=false;rw [aV,dF'];omega
theorem uK{α:Type}(l:List α)(d:α)(p:α→Bool):l.filter p=((List.range l.length).filter fun i=>p (l.getD i d)).map fun i=>l.getD i d:=by
 have e:(List.range l.length).map (fun i=>l.getD i d)=l:=by
  apply List.ext_getElem
  ·simp
  ·intro i h1 h2;simp [gD',h2]
 conv=>lhs;rw [←e]
 rw [List.filter_map];rfl
def opC(c:List Int):List Int:=[List.headD (List.tail (List.tail (List.tail c))) 0,List.headD (List.tail (List.tail (List.tail (List.tail c)))) 0]
theorem ZT(ev:List (List Int))(u:Int):((cqF ev ev.length).filter fun c=>ieq (List.headD c 0) u).map opC=bgL ev u:=by
 unfold cqF bgL;rw [List.filter_map,List.map_map,uK ev [],List.map_map,List.filter_filter];have h1: ∀i,opC (uE (cqR ev i (ev.length - (i+1))))=opE (ev.getD i []):=fun i=>(SF ev i _).op;have h2: ∀i,ieq (List.headD (uE (cqR ev i (ev.length - (i+1)))) 0) u=ieq (thE (ev.getD i [])) u:=fun i=>congrArg (fun z=>ieq z u) (SF ev i _).th
 have h3:(fun i=>(((fun c=>ieq (List.headD c 0) u)∘fun i=>uE (cqR ev i (ev.length - (i+1)))) i&& !endE (ev.getD i [])))=fun i=>(ieq (thE (ev.getD i [])) u&& !endE (ev.getD i [])):=by
  funext i;show(ieq (List.headD (uE (cqR ev i (ev.length - (i+1)))) 0) u&&_)=_;rw [h2]
 rw [h3];exact List.map_congr_left fun i _=>h1 i
def uO(ev:List (List Int))(u:Int):Nat:=((List.range ev.length).filter fun i=>ieq (thE (ev.getD i [])) u&& !endE (ev.getD i [])&&eX ev i (ev.length - (i+1))).length
theorem H6(ev:List (List Int))(u:Int):cntE (cqF ev ev.length) u (cqF ev ev.length).length =uO ev u:=by
 unfold cntE uO;rw [List.take_length];unfold cqF;rw [List.filter_map,List.length_map,List.filter_filter];congr 2;funext i;have h1:=(SF ev i (ev.length - (i+1))).th;have h2:=(SF ev i (ev.length - (i+1))).en;show((ieq (cqR ev i (ev.length - (i+1))).th u&&ile 0 (cqR ev i (ev.length - (i+1))).en)&& !endE (ev.getD i []))=_
 have h3:ile 0 (cqR ev i (ev.length - (i+1))).en =eX ev i (ev.length - (i+1)):=by
  rw [cC];rw [aV]at h2;cases hl:eX ev i (ev.length - (i+1))with
  | true=>rw [hl]at h2;have:=of_decide_eq_false h2;exact decide_eq_true (by omega)
  | false=>rw [hl]at h2;have:=of_decide_eq_true h2;exact decide_eq_false (by omega)
 rw [h1,h3];cases ieq (thE (ev.getD i [])) u<;>cases endE (ev.getD i [])<;>cases eX ev i (ev.length - (i+1))<;>rfl
theorem VL(l:List (List Int))(e:List Int)(i:Nat)(hi:i<l.length):eX (l++ [e]) i ((l++ [e]).length - (i+1))=(eX l i (l.length - (i+1))||ieq (thE e) (thE (l.getD i []))):=by
 have e1:(l++ [e]).length - (i+1)=(l.length - (i+1))+1:=by rw [List.length_append];show l.length+1 - (i+1)=_;omega
 rw [e1];unfold eX;rw [List.range_succ,List.any_append];have e2:i+1+(l.length - (i+1))=l.length:=by omega
 congr 1
 ·rw [Bool.eq_iff_iff,List.any_eq_true,List.any_eq_true];constructor
  ·rintro⟨d,hd,h⟩;have:=List.mem_range.1 hd;rw [lE (by omega),lE hi]at h
   exact⟨d,hd,h⟩
  ·rintro⟨d,hd,h⟩;have:=List.mem_range.1 hd;refine⟨d,hd,?_⟩;rw [lE (by omega),lE hi]
   exact h
 ·simp only [List.any_cons,List.any_nil,Bool.or_false];rw [e2,yA,lE hi]
theorem aAA{l:List (List Int)}{e:List Int}(h:evOk (l++ [e])):evOk l∧endE e=pdF l (thE e):=by
 constructor
 ·refine⟨fun k hk=>?_,fun k hk=>?_⟩
  ·have:=h.n k (by rw [List.length_append];omega)
   rw [lE hk]at this;exact this
  ·have:=h.h k (by rw [List.length_append];omega)
   rw [lE hk,List.take_append_of_le_length (by omega)]at this
   exact this
 ·have:=(h.h l.length (by rw [List.length_append];show l.length<l.length+1;omega)).2.2
  rw [yA,List.take_append_of_le_length (Nat.le_refl _),List.take_length]at this;exact this
theorem aC8(u:Int)(n:Nat): ∀(ev:List (List Int)),ev.length=n→evOk ev→(bgL ev u).length =enC ev u+(bif pdF ev u then 1 else 0)∧uO ev u=enC ev u:=by
 induction n with
 | zero=>
   intro ev hl _;have:ev=[]:=List.length_eq_zero_iff.1 hl;subst this;exact⟨rfl,rfl⟩
 | succ n ih=>
   intro ev hl hok;obtain⟨l,e,rfl⟩: ∃l e,ev=l++ [e]:=⟨ev.dropLast,ev.getLast (by intro h;rw [h]at hl;cases hl),(List.dropLast_concat_getLast _).symm⟩
   have hll:l.length=n:=by rw [List.length_append]at hl;have:l.length+1=n+1:=hl;omega
   obtain⟨ho,hp⟩:=aAA hok;obtain⟨h1,h2⟩:=ih l hll ho
   have hb:(bgL l u).length =((List.range l.length).filter fun i=>ieq (thE (l.getD i [])) u&& !endE (l.getD i [])).length :=by
    unfold bgL;rw [uK l [],List.length_map,List.length_map]
   have hlast:(fun i=>ieq (thE ((l++ [e]).getD i [])) u&& !endE ((l++ [e]).getD i [])&&eX (l++ [e]) i ((l++ [e]).length - (i+1))) l.length=false:=by
    show(_&&eX (l++ [e]) l.length ((l++ [e]).length - (l.length+1)))=false;rw [show(l++ [e]).length - (l.length+1)=0 from by rw [List.length_append];show l.length+1 - (l.length+1)=0;omega]
    exact Bool.and_false _
   have hN:uO (l++ [e]) u=((List.range l.length).filter fun i=>ieq (thE (l.getD i [])) u&& !endE (l.getD i [])&&(eX l i (l.length - (i+1))||ieq (thE e) u)).length :=by
    unfold uO;rw [show(l++ [e]).length =l.length+1 from List.length_append,List.range_succ,List.filter_append,List.length_append]
    rw [show(l++ [e]).length =l.length+1 from List.length_append]at hlast
    rw [List.filter_cons,if_neg (fun h=>Bool.false_ne_true (hlast.symm.trans h))];rw [List.filter_nil,List.length_nil,Nat.add_zero];congr 1;refine List.filter_congr fun i hi=>?_;have hi:=List.mem_range.1 hi;have:=VL l e i hi;rw [show(l++ [e]).length =l.length+1 from List.length_append]at this
    rw [this,lE hi]
    by_cases hu:thE (l.getD i [])=u
    ·rw [hu]
    ·rw [l6 hu];rfl
   rw [GB,GL,uZ,List.length_append,hN]
   by_cases hu:thE e=u
   ·rw [hu,dQ];rw [hu]at hp
    have hall:((List.range l.length).filter fun i=>ieq (thE (l.getD i [])) u&& !endE (l.getD i [])&&(eX l i (l.length - (i+1))||true)).length =(bgL l u).length :=by
     rw [hb];congr 1;refine List.filter_congr fun i _=>?_;rw [Bool.or_true,Bool.and_true]
    rw [hall,h1,hp];cases hd:pdF l u<;>simp
   ·rw [l6 hu]
    have hsame:((List.range l.length).filter fun i=>ieq (thE (l.getD i [])) u&& !endE (l.getD i [])&&(eX l i (l.length - (i+1))||false)).length =uO l u:=by
     unfold uO;congr 1;refine List.filter_congr fun i _=>?_;rw [Bool.or_false]
    rw [hsame,h1,h2]
    simp
theorem XO{α:Type}(p:α→Bool)(C:List α)(d:α){k:Nat}(hk:k<C.length):((C.take (k+1)).filter p).length =((C.take k).filter p).length +(bif p (C.getD k d)then 1 else 0):=by
 rw [qU C d hk,List.filter_append,List.length_append,List.filter_cons];cases p (C.getD k d)<;>rfl
theorem ZP{α:Type}(p:α→Bool)(C:List α)(d:α){k:Nat}(hk:k<C.length)(hp:p (C.getD k d)=true):(C.filter p).getD ((C.take k).filter p).length d=C.getD k d∧((C.take k).filter p).length <(C.filter p).length :=by
 have e:C=C.take k++(C.getD k d::C.drop (k+1)):=by
  conv=>lhs;rw [←List.take_append_drop k C,List.drop_eq_getElem_cons hk]
  rw [gD',gE' hk];rfl
 have e2:C.filter p=(C.take k).filter p++(C.getD k d::(C.drop (k+1)).filter p):=by
  conv=>lhs;rw [e]
  rw [List.filter_append,List.filter_cons,if_pos hp]
 rw [e2];constructor
 ·rw [gD',List.getElem?_append_right (Nat.le_refl _),Nat.sub_self];rfl
 ·rw [List.length_append,List.length_cons];omega
theorem UC{sh th nd tr:Int}{m:Nat}{ln:Nat→Nat}{f g:Nat→Nat→Int}(h:gnC sh th nd tr m ln f g=0){j:Nat}(hj:j<m):d3 sh (ln j) (f j) (g j)=true:=by
 have h0:=NT h;have h1:=NU h;unfold gnC at h;rw [h0,h1]at h;cases e:(List.range m).all (fun j=>d3 sh (ln j) (f j) (g j))with
 | false=>rw [e]at h;exact absurd (show(1:Int)=0 from h) (by decide)
 | true=>exact List.all_eq_true.1 e j (List.mem_range.2 hj)
theorem KV{sh:Int}{n:Nat}{f g:Nat→Int}{j:Nat}(hj:j<n):(fB sh n f g).getD j []=[sh,f j,g j]:=by
 unfold fB;rw [gD',List.getElem?_map,List.getElem?_range hj];rfl
theorem P3(b:Int)(hb:0≤b): ∀l:List Int,(∀v,v∈l→0≤v∧v≤b)→0≤l.sum∧l.sum≤(l.length:Int)*b:=by
 intro l
 induction l with
 | nil=>intro _;exact⟨Int.le_refl 0,by simp⟩
 | cons a l ih=>
   intro h;have h1:=ih fun v hv=>h v (List.mem_cons_of_mem _ hv);have h2:=h a List.mem_cons_self;rw [List.sum_cons,List.length_cons];have e:((l.length+1:Nat):Int)*b=(l.length:Int)*b+b:=by rw [Int.natCast_add,Int.add_mul];simp
   rw [e];omega
structure ecF (sh:Int) (m:Nat) (ln:Nat→Nat) (f g:Nat→Nat→Int) (X:EGS) (C:List (List Int)) (u:Nat):Prop where
 a:cntB C (u:Int) C.length=(bM (u:Int) X).length
 b:u<m→gV (u:Int) X=W ((ln u:Int) - (cntE C (u:Int) C.length:Int))
 b0:m≤u→gV (u:Int) X=0
 c: ∀k,k<C.length→List.headD (C.getD k []) 0=(u:Int)→u<m∧cntB C (u:Int) k<ln u∧opC (C.getD k [])=[f u (cntB C (u:Int) k),g u (cntB C (u:Int) k)]
 d: ∀v,v∈bM (u:Int) X→1≤v∧v≤60000
 e:bM (u:Int) X=(a8 X.ws u).tl
 l:((bM (u:Int) X).length :Int)≤100001
theorem MN{sh th nd tr:Int}{m:Nat}{ln:Nat→Nat}{f g:Nat→Nat→Int}{X:EGS}(h0:gnC sh th nd tr m ln f g=0)(hX:egW th nd X)(hc:z7 (fun i=>(cP sh th nd m ln f g i).tk) X)(u:Nat)(hu:(u:Int)<th):ecF sh m ln f g X (cqF X.h.ev X.h.ev.length) u:=by
 have hl:=hX.l;have hul:u<X.ws.length:=by omega
 have hw:=hX.ws u hul;obtain⟨d,htk,t1⟩:=hc.ws u hul;have htk:(a8 X.ws u).tk =bif ilt (u:Int) (m:Int)then ofR sh (ln u) (f u) (g u)else []:=htk;have n1:ilt (u:Int) 0=false:=by rw [aV,dF'];omega
 have n2:ile (X.ws.length:Int) (u:Int)=false:=by rw [cC,dF'];omega
 have et:bM (u:Int) X=(a8 X.ws u).tl :=by unfold bM;rw [n1,n2,Int.toNat_natCast];rfl
 have el:gV (u:Int) X=W (((a8 X.ws u).tk.length :Int) - (a8 X.ws u).en):=by unfold gV;rw [n1,n2,Int.toNat_natCast];rfl
 obtain⟨q1,q2⟩:=aC8 (u:Int) _ X.h.ev rfl hc.ok;have hops:=ZT X.h.ev (u:Int)
 have hlb:cntB (cqF X.h.ev X.h.ev.length) (u:Int) (cqF X.h.ev X.h.ev.length).length =(bgL X.h.ev (u:Int)).length :=by
  rw [←hops,List.length_map];unfold cntB;rw [List.take_length]
 have htl:=hw.tl;have hen:=d.en;have hpd:=d.pd
 have hbe:(bgL X.h.ev (u:Int)).length =(a8 X.ws u).tl.length :=by
  rw [q1,hpd];cases hb:(a8 X.ws u).b with
  | true=>rw [hb]at htl;have:((a8 X.ws u).tl.length :Int)=(a8 X.ws u).en +1:=htl;simp only [cond_true];omega
  | false=>rw [hb]at htl;have:((a8 X.ws u).tl.length :Int)=(a8 X.ws u).en +0:=htl;simp only [cond_false];omega
 have hE:(cntE (cqF X.h.ev X.h.ev.length) (u:Int) (cqF X.h.ev X.h.ev.length).length :Int)=(a8 X.ws u).en :=by
  rw [H6,q2];exact hen
 have e0:=hw.e0;have e1:=hw.e1;have e2:=hw.tk
 have hlen:u<m→(a8 X.ws u).tk =fB sh (ln u) (f u) (g u):=by
  intro hm;rw [htk,show ilt (u:Int) (m:Int)=true from by rw [aV,dT'];omega]
  show ofR sh (ln u) (f u) (g u)=_;unfold ofR;rw [UC h0 hm];rfl
 have hlen0:m≤u→(a8 X.ws u).tk =[]:=by
  intro hm;rw [htk,show ilt (u:Int) (m:Int)=false from by rw [aV,dF'];omega];rfl
 have hk:=hX.k;refine⟨hlb.trans (hbe.trans (by rw [et])),?_,?_,?_,?_,et,?_⟩
 ·intro hm;rw [el,hE,hlen hm,hJ]
 ·intro hm;rw [el,hlen0 hm];rw [hlen0 hm]at e1;have:(a8 X.ws u).en =0:=by have:(a8 X.ws u).en ≤((0:Nat):Int):=e1;omega
  rw [this];rfl
 ·intro k hk hth
  have hp:(fun c=>ieq (List.headD c 0) (u:Int)) ((cqF X.h.ev X.h.ev.length).getD k [])=true:=by
   show ieq (List.headD _ 0) (u:Int)=true;rw [hth,dQ]
  obtain⟨c1,c2⟩:=ZP (fun c=>ieq (List.headD c 0) (u:Int)) (cqF X.h.ev X.h.ev.length) [] hk hp;have hcb:cntB (cqF X.h.ev X.h.ev.length) (u:Int) k=(((cqF X.h.ev X.h.ev.length).take k).filter fun c=>ieq (List.headD c 0) (u:Int)).length :=rfl;rw [←hcb]at c1 c2
  have hfl:((cqF X.h.ev X.h.ev.length).filter fun c=>ieq (List.headD c 0) (u:Int)).length =(a8 X.ws u).tl.length :=by
   rw [←hbe,←hops,List.length_map]
  rw [hfl]at c2
  have hbn:(a8 X.ws u).tl.length ≤(a8 X.ws u).tk.length :=by
   cases hb:(a8 X.ws u).b with
   | true=>
     rw [hb]at htl;have:((a8 X.ws u).tl.length :Int)=(a8 X.ws u).en +1:=htl;have:=(hw.d hb).2;omega
   | false=>rw [hb]at htl;have:((a8 X.ws u).tl.length :Int)=(a8 X.ws u).en +0:=htl;omega
  have hm:u<m:=by
   rcases Nat.lt_or_ge u m with h | h
   ·exact h
   ·rw [hlen0 h]at hbn;have:(a8 X.ws u).tl.length ≤0:=hbn;omega
  have hrow:=hlen hm;have hln:(a8 X.ws u).tk.length =ln u:=by rw [hrow,hJ]
  have hcl:cntB (cqF X.h.ev X.h.ev.length) (u:Int) k<ln u:=by omega
  refine⟨hm,hcl,?_⟩;have hbg:=d.bg;have hT:(cP sh th nd m ln f g u).tk =fB sh (ln u) (f u) (g u):=((hc.ws u hul).tk).symm.trans hrow;have hbg:bgL X.h.ev (u:Int)=((fB sh (ln u) (f u) (g u)).take (a8 X.ws u).tl.length).map opT:=by rw [←hT];exact hbg
  have h3:(bgL X.h.ev (u:Int)).getD (cntB (cqF X.h.ev X.h.ev.length) (u:Int) k) []=opC ((cqF X.h.ev X.h.ev.length).getD k []):=by
   rw [←hops,gD',List.getElem?_map,gE' (by rw [hfl];exact c2)]
   rw [gD',gE' (by rw [hfl];exact c2)]at c1
   show opC _=_;exact congrArg opC c1
  have h4:(bgL X.h.ev (u:Int)).getD (cntB (cqF X.h.ev X.h.ev.length) (u:Int) k) []=opT ((fB sh (ln u) (f u) (g u)).getD (cntB (cqF X.h.ev X.h.ev.length) (u:Int) k) []):=by
   rw [hbg,gD',List.getElem?_map,List.getElem?_take_of_lt c2,gD',gE' (by rw [hJ];exact hcl)];rfl
  rw [←h3,h4,KV hcl];rfl
 ·rw [et];intro v hv;have:=t1 v hv;omega
 ·rw [et];cases hb:(a8 X.ws u).b with
  | true=>rw [hb]at htl;have:((a8 X.ws u).tl.length :Int)=(a8 X.ws u).en +1:=htl;omega
  | false=>rw [hb]at htl;have:((a8 X.ws u).tl.length :Int)=(a8 X.ws u).en +0:=htl;omega
theorem P2(X:EGS)(u:Nat):sumU X (u+1)=sumU X u+(bM (u:Int) X).sum :=by
 unfold sumU;rw [List.range_succ,List.map_append,List.sum_append];simp
theorem aCe(X:EGS)(u q:Nat)(hq:q<(bM (u:Int) X).length):mF X u (q+1)=mF X u q+(bM (u:Int) X).getD q 0:=by
 unfold mF;rw [qU _ 0 hq,List.sum_append];simp;omega
theorem aCb(X:EGS)(u:Nat):mF X u 0=sumU X u:=by unfold mF;rw [List.take_zero];simp
theorem aCd(X:EGS)(u:Nat):mF X u (bM (u:Int) X).length =sumU X (u+1):=by unfold mF;rw [List.take_length,P2]
theorem aCf(ws:List WKS):sumT ws=((List.range ws.length).map fun i=>(a8 ws i).tl.sum).sum :=by
 unfold sumT;congr 1;apply List.ext_getElem
 ·simp
 ·intro i h1 h2;have h1:i<ws.length:=by simpa using h1
  simp [a8,gD',h1]
theorem Wj{x:Int}(h:0≤x∧x≤1000000000000):W x=x:=dB ⟨by omega,by omega⟩
theorem aCg{sh th:Int}{m:Nat}{ln:Nat→Nat}{f g:Nat→Nat→Int}{X:EGS}{C:List (List Int)}(hF: ∀u:Nat,(u:Int)<th→ecF sh m ln f g X C u): ∀u:Nat,(u:Int)≤th→0≤sumU X u∧sumU X u≤(u:Int)*6000060000:=by
 intro u
 induction u with
 | zero=>intro _;exact⟨Int.le_refl 0,Int.le_refl 0⟩
 | succ u ih=>
   intro hu;have h1:=ih (by omega)
   have hf:=hF u (by omega)
   have h2:=P3 60000 (by decide) (bM (u:Int) X) (fun v hv=>by have:=hf.d v hv;omega)
   have h3:=hf.l;rw [P2];omega
theorem aCc{sh th:Int}{m:Nat}{ln:Nat→Nat}{f g:Nat→Nat→Int}{X:EGS}{C:List (List Int)}(ht:th≤8)(hF: ∀u:Nat,(u:Int)<th→ecF sh m ln f g X C u)(u q:Nat)(hu:(u:Int)<th):W (mF X u q)=mF X u q:=by
 have h1:=aCg hF u (by omega)
 have hf:=hF u hu;have h2:=P3 60000 (by decide) ((bM (u:Int) X).take q) (fun v hv=>by have:=hf.d v (List.mem_of_mem_take hv);omega)
 have h3:=hf.l;have h4:(((bM (u:Int) X).take q).length :Int)≤100001:=by rw [List.length_take];omega
 refine Wj ?_;unfold mF;omega
set_option maxRecDepth 10000 in
theorem aDx(sh th nd tr:Int)(m:Nat)(ln:Nat→Nat)(f g:Nat→Nat→Int)(n:Nat)(pt pm:Nat→Int)(X:EGS)(hXe:(runP (dC sh th nd tr m ln f g) 0 (cD n (LA pt pm))).1=X)(K:AVal→aC Ob→Prop)(hK:K (.bool true) []):TB sh th nd tr m ln f g n pt pm X X.h.ev (cqF X.h.ev X.h.ev.length) K:=by
 have e1:vL (vRr ln f g)=ln:=rfl;have e2:vK (vRr ln f g)=f:=rfl;have e3:vY (vRr ln f g)=g:=rfl;have e4:egX sh th nd tr m (vRr ln f g)=dC sh th nd tr m ln f g:=rfl;unfold TB;rw [e1,e2,e3,e4,hXe];refine⟨⟨rfl⟩,aT (fun _=>hK) (fun hg=>?_)⟩;obtain⟨hm,hnn⟩:=aDY hg;refine⟨⟨by omega,⟨rfl⟩⟩,aT (fun _=>hK) (fun hc=>?_)⟩
 have hc0:gnC sh th nd tr m ln f g=0:=by
  rw [cX]at hc
  simpa using hc
 have hx:=GK hc0;have hX:=FY (cD n (LA pt pm)) _ 0 hx;have hC:=SD (cD n (LA pt pm)) _ 0 hx (SC sh th nd tr m ln f g);rw [hXe]at hX hC;have hl:=AQ hX;have hk:=hX.k;have ht:=hX.ht;have hws:=hX.l;have hev:X.h.ev.length≤1000000:=by have:=hX.h.he;omega
 have hok:=hC.ok;have hF: ∀u:Nat,(u:Int)<th→ecF sh m ln f g X (cqF X.h.ev X.h.ev.length) u:=fun u hu=>MN hc0 hX hC u hu;have hCl:=GC X.h.ev X.h.ev.length;obtain⟨C,hCe⟩: ∃C,C=cqF X.h.ev X.h.ev.length:=⟨_,rfl⟩;have hS:=hC.sm;rw [aCf]at hS;have hfit:=MP hX;refine⟨trivial,⟨⟨⟨by omega,⟨rfl⟩⟩,hc0⟩,trivial⟩,⟨⟨⟨_,_,hx⟩⟩,by omega,⟨_,_,rfl⟩⟩,hl,hl.1,aP (H:=HEC1 (jobE sh th nd tr m ln f g) X X.h.ev) (0:Nat) rfl ⟨Nat.zero_le _⟩,?_⟩
 rw [←hCe]at hF hCl⊢;rintro i ⟨hi⟩;rw [Int.toNat_natCast,Nat.zero_add];refine aT (fun a1=>?_) (fun a1=>?_)
 ·have a1:=d0 a1;have hil:i<X.h.ev.length:=by omega
  obtain⟨b1,b2,b3⟩:=hok.h i hil;have hrow:=hok.n i hil;have htk:X.h.ev.take (i+1)=X.h.ev.take i++ [GS (X.h.ev.getD i [])]:=by rw [hrow];exact qU _ [] hil
  have hlt:(X.h.ev.take i).length =i:=by rw [List.length_take];omega
  have leaf:okSt (HEC1 (jobE sh th nd tr m ln f g) X X.h.ev) (fun x'=>Hint.ok (HEC1 (jobE sh th nd tr m ln f g) X X.h.ev) x'∧Hint.mu (HEC1 (jobE sh th nd tr m ln f g) X X.h.ev) x'<Hint.mu (HEC1 (jobE sh th nd tr m ln f g) X X.h.ev) i) ([.O,.O,.ptr 0 0,.O,.O,.ptr 1 0,.O,.tslice 2 0 ((X.h.ev.take i).length +1) 7]++List.replicate 42 .O ++ [.tslice 3 0 X.h.ev.length 7,.int .i64 (X.h.ev.length:Int),.int .i64 (W ((i:Int)+1))]++List.replicate 132 .O) [jobE sh th nd tr m ln f g,some (.abs (.engine X) []),some (.tab pZ (X.h.ev.take i++ [GS (X.h.ev.getD i [])])),some (.tab pZ X.h.ev)]:=by
   rw [Wi (x:=(i:Int)+1) ⟨by omega,by omega⟩]
   refine aP (H:=HEC1 (jobE sh th nd tr m ln f g) X X.h.ev) (i+1:Nat) ?_ ⟨⟨hil⟩,by show X.h.ev.length - (i+1)<X.h.ev.length - i;omega⟩
   simp only [HEC1];rw [htk,List.length_append];rfl
  refine⟨⟨by omega,a1⟩,hil,aT (fun q=>absurd (d0 q) (by show¬(thE _<0);omega)) (fun _=>aT (fun q=>absurd (d0 q) (by show¬(7<thE _);omega)) (fun _=>aT (fun q=>?_) (fun q=>?_)))⟩
  ·have he:endE (X.h.ev.getD i [])=false:=by have q:(!endE (X.h.ev.getD i []))=true:=q;simpa using q
   rw [he]at b3;refine⟨⟨rfl,by omega⟩,aT (fun p=>absurd (b3.trans p) Bool.false_ne_true) (fun _=>aT (fun p=>absurd (he.symm.trans p) Bool.false_ne_true) (fun _=>⟨⟨rfl,rfl,by omega⟩,leaf⟩))⟩
  ·have he:endE (X.h.ev.getD i [])=true:=by have q:(!endE (X.h.ev.getD i []))=false:=q;simpa using q
   rw [he]at b3;refine aT (fun _=>⟨⟨rfl,by omega⟩,aT (fun p=>?_) (fun _=>⟨⟨rfl,rfl,by omega⟩,leaf⟩)⟩) (fun p=>absurd (he.symm.trans p).symm Bool.false_ne_true)
   have p:(!pdF (X.h.ev.take i) (thE (X.h.ev.getD i [])))=true:=p;rw [←b3]at p;exact absurd p Bool.false_ne_true
 have a1:=eD a1;have hi:i=X.h.ev.length:=by omega
 subst hi;rw [List.take_length,←hCe];refine⟨⟨rfl,hev⟩,aP (H:=k9 (jobE sh th nd tr m ln f g) X C th) (0:Nat) rfl ⟨by show((0:Nat):Int)≤th;omega⟩,?_⟩
 rintro u ⟨hu⟩;simp only [Int.toNat_natCast,Nat.zero_add,Nat.mul_one];refine aT (fun a2=>?_) (fun a2=>⟨trivial,?_⟩)
 rotate_left
 ·have a2:=eD a2;have hul:u=X.ws.length:=by omega
  have hSu:sumU X u=X.k:=by
   rw [←hS,hul];unfold sumU;congr 1;refine List.map_congr_left fun i hi=>?_;have:=List.mem_range.1 hi;rw [(hF i (by omega)).e]
  have:ieq (sumU X u) X.8=true:=by rw [hSu];exact dQ _
  rw [this];exact hK
 have a2:=d0 a2;have F:=hF u a2;have hm':u<m→ilt (u:Int) (m:Int)=true:=fun h=>by rw [aV,dT'];omega
 refine⟨aP (H:=jT (jobE sh th nd tr m ln f g) X C (u:Int)) (0:Nat) (by simp only [jT,Int.toNat_natCast]<;>rfl) ⟨Nat.zero_le _⟩,?_⟩
 rintro k ⟨hkl⟩;have hB:cntB C (u:Int) k≤C.length:=Nat.le_trans (List.length_filter_le _ _) (by rw [List.length_take];omega)
 have hE:cntE C (u:Int) k≤C.length:=Nat.le_trans (List.length_filter_le _ _) (by rw [List.length_take];omega)
 refine aT (fun a3=>?_) (fun a3=>?_)
 ·have a3:=d0 a3;have hk':k<C.length:=by omega
  have cB:=XO (fun c=>ieq (List.headD c 0) (u:Int)) C [] hk';have cE:=XO (fun c=>ieq (List.headD c 0) (u:Int)&&ile 0 (List.headD (List.tail (List.tail c)) 0)) C [] hk';have cB:cntB C (u:Int) (k+1)=cntB C (u:Int) k+(bif ieq (List.headD (C.getD k []) 0) (u:Int)then 1 else 0):=cB;have cE:cntE C (u:Int) (k+1)=cntE C (u:Int) k+(bif ieq (List.headD (C.getD k []) 0) (u:Int)&&ile 0 (List.headD (List.tail (List.tail (C.getD k []))) 0)then 1 else 0):=cE;rw [Wi (x:=(k:Int)+1) ⟨by omega,by omega⟩]
  refine⟨⟨by omega,a3⟩,hk',aT (fun q=>?_) (fun q=>?_)⟩
  ·have q:ieq (List.headD (C.getD k []) 0) (u:Int)=false:=by simpa using q
   rw [q]at cB cE;refine aP (H:=jT (jobE sh th nd tr m ln f g) X C (u:Int)) (k+1:Nat) ?_ ⟨⟨hk'⟩,by show C.length - (k+1)<C.length - k;omega⟩
   simp only [jT,Int.toNat_natCast];rw [cB,cE];rfl
  ·have q:ieq (List.headD (C.getD k []) 0) (u:Int)=true:=by simpa using q
   obtain⟨hum,hcl,hop⟩:=F.c k hk' (fV q);rw [q]at cB cE;have o1:List.headD (List.tail (List.tail (List.tail (C.getD k [])))) 0=f u (cntB C (u:Int) k):=(List.cons.inj hop).1;have o2:List.headD (List.tail (List.tail (List.tail (List.tail (C.getD k []))))) 0=g u (cntB C (u:Int) k):=(List.cons.inj (List.cons.inj hop).2).1;refine aT (fun r=>absurd r (by rw [cC,dT'];omega)) (fun _=>⟨⟨by omega,by omega⟩,aT (fun r=>absurd r (by rw [cC,dT'];omega)) (fun _=>⟨⟨by omega,by omega⟩,⟨by omega,by omega⟩,aT (fun r=>?_) (fun _=>?_)⟩)⟩)
   ·rw [o1,o2,dQ,dQ]at r;exact absurd r Bool.false_ne_true
   ·rw [Wi (x:=(cntB C (u:Int) k:Int)+1) ⟨by omega,by omega⟩,Wi (x:=(cntE C (u:Int) k:Int)+1) ⟨by omega,by omega⟩]
    refine aT (fun r=>?_) (fun r=>?_)
    ·rw [r]at cE;refine aP (H:=jT (jobE sh th nd tr m ln f g) X C (u:Int)) (k+1:Nat) ?_ ⟨⟨hk'⟩,by show C.length - (k+1)<C.length - k;omega⟩
     simp only [jT,Int.toNat_natCast];rw [cB,cE];rfl
    ·rw [r]at cE;refine aP (H:=jT (jobE sh th nd tr m ln f g) X C (u:Int)) (k+1:Nat) ?_ ⟨⟨hk'⟩,by show C.length - (k+1)<C.length - k;omega⟩
     simp only [jT,Int.toNat_natCast];rw [cB,cE];rfl
 have a3:=eD a3;have hkl:k=C.length:=by omega
 subst hkl;have Fa:=F.a;refine⟨hfit,aT (fun r=>?_) (fun _=>aT (fun r=>⟨trivial,⟨by omega,d0 r⟩,aT (fun r2=>?_) (fun _=>aT (fun r2=>?_) (fun _=>?_))⟩) (fun r=>aT (fun _=>⟨trivial,aT (fun r2=>?_) (fun _=>?_)⟩) (fun r2=>?_)))⟩
 ·rw [Fa,dQ]at r;exact absurd r Bool.false_ne_true
 ·have r:=d0 r;rw [F.b (by omega),dQ]at r2
  exact absurd r2 Bool.false_ne_true
 ·have r:=d0 r;rw [cC,dT']at r2;omega
 rotate_left
 ·have r:=eD r;rw [F.b0 (by omega)]at r2
  exact absurd r2 Bool.false_ne_true
 rotate_left
 ·have r:=eD r;rw [cC,dF']at r2;omega
 all_goals
  refine⟨aP (H:=gC (jobE sh th nd tr m ln f g) X C (u:Int)) (0:Nat) (by simp only [gC,Int.toNat_natCast,aCb]<;>rfl) ⟨Nat.zero_le _⟩,?_⟩
  rintro q ⟨hq⟩;have hlq:=F.l;refine aT (fun a4=>?_) (fun a4=>?_)
  ·have a4:=d0 a4;have hq':q<(bM (u:Int) X).length :=by omega
   have hv:=F.d ((bM (u:Int) X).getD q 0) (by rw [gD',gE' hq'];exact List.getElem_mem hq')
   have hsw:=aCc (by omega) hF u (q+1) a2
   rw [←aCe X u q hq',hsw,Wi (x:=(q:Int)+1) ⟨by omega,by omega⟩]
   refine⟨⟨by omega,a4⟩,hq',aT (fun r=>absurd (d0 r) (by omega)) (fun _=>?_)⟩
   refine aP (H:=gC (jobE sh th nd tr m ln f g) X C (u:Int)) (q+1:Nat) ?_ ⟨⟨hq'⟩,by show(bM (u:Int) X).length - (q+1)<(bM (u:Int) X).length - q;omega⟩
   simp only [gC,Int.toNat_natCast];rfl
  ·have a4:=eD a4;have hq':q=(bM (u:Int) X).length :=by omega
   subst hq';rw [aCd,Wi (x:=(u:Int)+1) ⟨by omega,by omega⟩]
   exact aP (H:=k9 (jobE sh th nd tr m ln f g) X C th) (u+1:Nat) rfl ⟨⟨by show((u+1:Nat):Int)≤th;omega⟩,by show(th - ((u+1:Nat):Int)).toNat <(th - (u:Int)).toNat;omega⟩
end Go.Sh
