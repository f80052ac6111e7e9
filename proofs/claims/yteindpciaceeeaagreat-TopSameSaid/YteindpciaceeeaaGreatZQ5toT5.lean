import Derived.Test.YteindpciaceeeaaGreatZSh35toSh36
set_option linter.all false
set_option maxHeartbeats 8000000
namespace Go.Sh
open Go Go.Proofs
variable [Con]
def aCg:bH Ob:=fun args h=>match args,h with
 | [.ptr 0 0,.int .i64 th],[some (.abs (.engine x) [])]=>some (True,.I (dW th x))
 | _,_=>none
theorem WV:sT' 33 aCg.spec:=by
 intro args h o ho K hK;unfold bH.spec at ho;split at ho
 case h_2=>cases ho
 rename_i hv;unfold aCg at hv;split at hv
 case h_2=>cases hv
 simp only [sI',pI']at hv;obtain⟨rfl,rfl⟩:=hv;simp only [sI']at ho;subst ho;exact PS _ _ _ rfl K hK
def aAQ:bH Ob:=fun args h=>match args,h with
 | [.ptr 0 0],[some (.abs (.engine x) [])]=>some (True,.I x.k)
 | _,_=>none
theorem TR:sT' 34 aAQ.spec:=by
 intro args h o ho K hK;unfold bH.spec at ho;split at ho
 case h_2=>cases ho
 rename_i hv;unfold aAQ at hv;split at hv
 case h_2=>cases hv
 simp only [sI',pI']at hv;obtain⟨rfl,rfl⟩:=hv;simp only [sI']at ho;subst ho;exact NG _ _ _ rfl K hK
def aAF:bH Ob:=fun args h=>match args,h with
 | [.ptr 0 0],[some (.abs (.engine x) [])]=>some (True,.agg [.I x.s.t,.I x.s.n])
 | _,_=>none
theorem TJ:sT' 38 aAF.spec:=by
 intro args h o ho K hK;unfold bH.spec at ho;split at ho
 case h_2=>cases ho
 rename_i hv;unfold aAF at hv;split at hv
 case h_2=>cases hv
 simp only [sI',pI']at hv;obtain⟨rfl,rfl⟩:=hv;simp only [sI']at ho;subst ho;exact NA _ _ _ rfl K hK
def aAP:bH Ob:=fun args h=>match args,h with
 | [.ptr 0 0,.int .i64 a],[some (.abs (.engine x) [])]=>some (True,.int .u64 (aE x.s.xs a))
 | _,_=>none
theorem TP:sT' 37 aAP.spec:=by
 intro args h o ho K hK;unfold bH.spec at ho;split at ho
 case h_2=>cases ho
 rename_i hv;unfold aAP at hv;split at hv
 case h_2=>cases hv
 simp only [sI',pI']at hv;obtain⟨rfl,rfl⟩:=hv;simp only [sI']at ho;subst ho;exact NE _ _ _ rfl K hK
def aCj:dA Ob:=fun args h=>match args,h with
 | [.ptr 0 0,.int .i64 th],[some (.abs (.engine x) [])]=>some (gV x,.slice 1 0 (gP th x).length 1,[.ints (some .i64) (gP th x)])
 | _,_=>none
theorem WZ:sT' 32 aCj.spec:=by
 intro args h o ho K hK;unfold dA.spec at ho;split at ho
 case h_2=>cases ho
 rename_i hv;unfold aCj at hv;split at hv
 case h_2=>cases hv
 simp only [sI',pI']at hv;obtain⟨rfl,rfl,rfl⟩:=hv;simp only [sI']at ho;subst ho;exact PX _ _ _ rfl K hK
def aCi:dA Ob:=fun args h=>match args,h with
 | [.ptr 0 0,.int .i64 th],[some (.abs (.engine x) [])]=>some (gV x,.slice 1 0 (gM th x).length 1,[.ints (some .i64) (gM th x)])
 | _,_=>none
theorem WY:sT' 35 aCi.spec:=by
 intro args h o ho K hK;unfold dA.spec at ho;split at ho
 case h_2=>cases ho
 rename_i hv;unfold aCi at hv;split at hv
 case h_2=>cases hv
 simp only [sI',pI']at hv;obtain⟨rfl,rfl,rfl⟩:=hv;simp only [sI']at ho;subst ho;exact PW _ _ _ rfl K hK
def aCf:dA Ob:=fun args h=>match args,h with
 | [.ptr 0 0,.int .i64 th],[some (.abs (.engine x) [])]=>some (gV x,.slice 1 0 (gD th x).length 1,[.ints (some .i64) (gD th x)])
 | _,_=>none
theorem WT:sT' 69 aCf.spec:=by
 intro args h o ho K hK;unfold dA.spec at ho;split at ho
 case h_2=>cases ho
 rename_i hv;unfold aCf at hv;split at hv
 case h_2=>cases hv
 simp only [sI',pI']at hv;obtain⟨rfl,rfl,rfl⟩:=hv;simp only [sI']at ho;subst ho;exact PQ _ _ _ rfl K hK
def aAD:dA Ob:=fun args h=>match args,h with
 | [.ptr 0 0],[some (.abs (.engine x) [])]=>some (x.h.ev.length≤4294967296∧x.h.cl.length≤4294967296,.ptr 1 0,[.abs (.hist x.h) []])
 | _,_=>none
theorem TH:sT' 28 aAD.spec:=by
 intro args h o ho K hK;unfold dA.spec at ho;split at ho
 case h_2=>cases ho
 rename_i hv;unfold aAD at hv;split at hv
 case h_2=>cases hv
 simp only [sI',pI']at hv;obtain⟨rfl,rfl,rfl⟩:=hv;simp only [sI']at ho;subst ho;exact MX _ _ _ rfl K hK
def aAE:dA Ob:=fun args h=>match args,h with
 | [.ptr 0 0],[some (.abs (.engine x) [])]=>some (0≤x.s.n∧x.s.n≤100000,.slice 1 0 (dX x).length 1,[.ints (some .i64) (dX x)])
 | _,_=>none
theorem TI:sT' 55 aAE.spec:=by
 intro args h o ho K hK;unfold dA.spec at ho;split at ho
 case h_2=>cases ho
 rename_i hv;unfold aAE at hv;split at hv
 case h_2=>cases hv
 simp only [sI',pI']at hv;obtain⟨rfl,rfl,rfl⟩:=hv;simp only [sI']at ho;subst ho;exact MZ _ _ _ rfl K hK
noncomputable def EUe0:=((((((((((EUd.addR 33 aCg WV).addR 34 aAQ TR).addR 38 aAF TJ).addR 37 aAP TP)).addN 32 aCj WZ).addN 35 aCi WY).addN 69 aCf WT).addN 28 aAD TH).addN 55 aAE TI)
noncomputable def EUe:oM Ob Tryz.prog:= {EUe0 with fld:=FE tbl Tryz.prog,fldOk:=fun t l off h v hk V hR w b k hi hV=>J5 t l off h v hk V hR w b k hi hV}
theorem AO{t n:Int}{x:EGS}(h:egW t n x):gV x:=by
 have hk:=h.k;refine⟨by have:=h.l;have:=h.ht;omega,fun i hi=>?_,fun i hi=>?_,fun i hi=>?_⟩
 ·have h1:=(h.ws i hi).tl;have:=(h.ws i hi).e1;have:=(h.ws i hi).tk;cases hb:(bF x.ws i).b with
  | true=>
    rw [hb]at h1;have h1:((bF x.ws i).tl.length :Int)=(bF x.ws i).en +1:=h1;omega
  | false=>
    rw [hb]at h1;have h1:((bF x.ws i).tl.length :Int)=(bF x.ws i).en +0:=h1;omega
 ·have:=(h.ws i hi).sl;have:=(h.ws i hi).e1;have:=(h.ws i hi).tk;omega
 ·have:=(h.ws i hi).st.3;omega
theorem uC{t n:Int}{x:EGS}(h:egW t n x):x.h.ev.length≤4294967296∧x.h.cl.length≤4294967296:=by
 have:=h.h.he;have:=h.h.hc;have hk:=h.k;exact⟨by omega,by omega⟩
end Go.Sh
namespace Go.Sh
open Go Go.Proofs
theorem kE{b:Bool}{x y:aC Mc}(hx:cP x=true)(hy:cP y=true):cP (bif b then x else y)=true:=by cases b<;>assumption
theorem wU{A:Type}(ws:List (Option A)): ∀k,aHo (rowC k ws)=true:=by
 induction ws with
 | nil=>intro k;rfl
 | cons w ws ih=>
   intro k;cases w with
   | none=>exact ih (k+1)
   | some t=>exact ih (k+1)
theorem OW(v:AVal)(hv:v.noV=true)(l:List AVal): ∀i,aHo l=true→aHo (l.set i v)=true:=by
 induction l with
 | nil=>intro i h;exact h
 | cons a l ih=>
   intro i h;obtain⟨h1,h2⟩:=Bool.and_eq_true_iff.1 h;cases i with
   | zero=>exact Bool.and_eq_true_iff.2 ⟨hv,h2⟩
   | succ i=>exact Bool.and_eq_true_iff.2 ⟨h1,ih i h2⟩
theorem CJ{A:Type}(ws:List (Option A)):cP (PV ws)=true:=by
 induction ws with
 | nil=>rfl
 | cons w ws ih=>cases w<;>exact ih
theorem WA{A:Type}(h:aC A): ∀i,cP h=true→cP (h.set i none)=true:=by
 induction h with
 | nil=>intro i hh;exact hh
 | cons e h ih=>
   intro i hh;unfold cP at hh⊢;rw [List.all_cons,Bool.and_eq_true]at hh;cases i with
   | zero=>rw [List.set_cons_zero,List.all_cons,Bool.and_eq_true];exact⟨rfl,hh.2⟩
   | succ i=>rw [List.set_cons_succ,List.all_cons,Bool.and_eq_true];exact⟨hh.1,ih i hh.2⟩
theorem yS(t:Mc):cP (tbl t).2=true:=by
 cases t with
 | sweep t n y=>show cP (K1 t n y)=true;unfold K1;split<;>rfl
 | ensure t n e=>show cP (DA t n e)=true;unfold DA;split<;>rfl
 | find t n x=>show cP (uI t n x)=true;unfold uI;exact kE rfl rfl
 | fast t n x=>show cP (mX t n x)=true;unfold mX;exact kE rfl (kE rfl (kE rfl rfl))
 | help t n x=>show cP (kA t n x)=true;unfold kA;exact kE rfl (kE rfl (kE rfl (kE rfl (kE rfl rfl))))
 | doer t n x=>
   show cP (eB t n x)=true;unfold eB
   repeat' (first | apply kE | rfl)
 | worker w=>show cP (wkG w)=true;unfold wkG;exact kE rfl rfl
 | wrow ws=>
   show cP (rowE (ws.map fun w=>some (Mc.worker w)))=true;unfold rowE cP;rw [List.all_cons,Bool.and_eq_true];exact⟨wU _ 1,CJ _⟩
 | whole ws i=>
   show cP (kQ (ws.map fun w=>some (Mc.worker w)) i)=true;unfold kQ cP;rw [List.all_cons,List.all_cons,Bool.and_eq_true,Bool.and_eq_true];exact⟨OW _ rfl _ i (wU _ 2),rfl,WA _ i (CJ _)⟩
 | _=>rfl
variable [c:Con]
def row2(a b c d:Int)(i:Nat):List AVal:=[.I (bif Nat.beq i 0 then a else c),.I (bif Nat.beq i 0 then b else d)]
def runLS:aH Ob:=fun args h=>match args,h with
 | [.ptr 0 0,.slice 1 0 n 2],[some (.abs (.engine x) []),some (.cells [.int .i64 p,.int .i64 q,.int .i64 r,.int .i64 s])]=>some (.pre (n=2∧sW x) (.ret (.I (runP x 0 (cU 2 (row2 p q r s))).2) [some (.abs (.engine (runP x 0 (cU 2 (row2 p q r s))).1) []),cE' [.I p,.I q,.I r,.I s]]))
 | _,_=>none
def X7(i:Nat):Bool:= !(Nat.beq i 1)
theorem W4:sT' 27 runLS:=by
 intro args h o ho K hK;unfold runLS at ho;split at ho<;>cases ho
 rename_i n x p q r s;obtain⟨⟨rfl,hx⟩,hK⟩:=hK;have hK:K (.I (runP x 0 (cU 2 (row2 p q r s))).2) [some (.abs (.engine (runP x 0 (cU 2 (row2 p q r s))).1) []),cE' [.I p,.I q,.I r,.I s]]:=hK;refine aHC (args2:=[.ptr 0 0,.view 2 2 (row2 p q r s)]) yS X7 ?_ ?_
 ·intro c' hc V l hm hr;obtain⟨v0,l0,rfl,r0,v1,l1,rfl,r1,r2⟩:=hr;refine⟨v0,_,rfl,Rep.con hc _ _ r0,v1,_,rfl,?_,r2⟩;obtain⟨pp,p1,p2⟩:=hm 1 _ rfl rfl;refine qV (Rep.con hc _ _ r1) p1 p2 ?_ (Nat.le_refl _);intro i hi;refine⟨rfl,fun rs h=>?_⟩
  match i,hi with
  | 0,_=>exact h
  | 1,_=>exact h
  | i+2,hi=>omega
 ·intro c';have h1:=@u7 c' [.ptr 0 0,.view 2 2 (row2 p q r s)] [some (.abs (.engine x) [])] _ rfl (fun v g=>v=.I (runP x 0 (cU 2 (row2 p q r s))).2∧g=[some (.abs (.engine (runP x 0 (cU 2 (row2 p q r s))).1) [])]) ⟨⟨hx,by decide,⟨_,_,rfl⟩⟩,⟨rfl,rfl⟩⟩
  refine aHv h1 [0] rfl (by decide) (fun l hl=>by rw [nR,List.mem_singleton.1 hl];exact Nat.zero_lt_succ _) ?_ rfl ?_
  ·intro i l hi
   match i,hi with
   | 0,hi=>cases hi;rfl
   | i+1,hi=>simp at hi
  ·rintro v g ⟨rfl,rfl⟩ _;refine⟨rfl,rfl,?_,hK⟩;intro l hl hS
   match l,hl with
   | 0,_=>cases hS
   | 1,_=>rfl
   | l+2,hl=>simp at hl;omega
def DC(a c:Int)(i:Nat):Int:=bif Nat.beq i 0 then a else c
def newLS:aH Ob:=fun args h=>match args,h with
 | [.agg [.int .i64 sh,.int .i64 th,.int .i64 nd,.int .i64 tr],.slice 0 0 n 1],[some (.cells [.slice 1 0 n1 2,.slice 2 0 n2 2]),some (.cells [.int .i64 p,.int .i64 q]),some (.cells [.int .i64 r,.int .i64 s])]=>some (.pre ((n=2∧n1=1∧n2=1)∧gnC sh th nd tr 2 (fun _=>1) (fun i _=>DC p r i) (fun i _=>DC q s i)=0)
    (.ret (.tup [.ptr 3 0,.I 0]) [cE' [.slice 1 0 1 2,.slice 2 0 1 2],cE' [.I p,.I q],cE' [.I r,.I s],some (.abs (.engine (i9 sh th nd tr 2 (fun _=>1) (fun i _=>DC p r i) (fun i _=>DC q s i))) [])]))
 | _,_=>none
def vr2(p q r s:Int)(i:Nat):List AVal:=[.view 1 2 (fun _=>[.I (DC p r i),.I (DC q s i)])]
theorem x8:sT' 25 newLS:=by
 intro args h o ho K hK;unfold newLS at ho;split at ho<;>cases ho
 rename_i sh th nd tr n n1 n2 p q r s;obtain⟨⟨⟨rfl,rfl,rfl⟩,hg⟩,hK⟩:=hK;have hK:K (.tup [.ptr 3 0,.I 0]) [cE' [.slice 1 0 1 2,.slice 2 0 1 2],cE' [.I p,.I q],cE' [.I r,.I s],some (.abs (.engine (i9 sh th nd tr 2 (fun _=>1) (fun i _=>DC p r i) (fun i _=>DC q s i))) [])]:=hK;refine aHC (args2:=[.agg [.I sh,.I th,.I nd,.I tr],.view 2 1 (vr2 p q r s)]) yS (fun _=>false) ?_ ?_
 ·intro c' hc V l hm hr;obtain⟨v0,l0,rfl,r0,v1,l1,rfl,r1,r2⟩:=hr;refine⟨v0,_,rfl,Rep.con hc _ _ r0,v1,_,rfl,?_,r2⟩;obtain⟨p0,a1,a2⟩:=hm 0 _ rfl rfl;obtain⟨p1,b1,b2⟩:=hm 1 _ rfl rfl;obtain⟨p2,d1,d2⟩:=hm 2 _ rfl rfl;refine qV (Rep.con hc _ _ r1) a1 a2 ?_ (Nat.le_refl _);intro i hi;refine⟨rfl,fun rs h=>?_⟩
  match i,hi with
  | 0,_=>
    obtain⟨y,ys,rfl,y1,y2⟩:=h;refine⟨y,ys,rfl,?_,y2⟩
    have y3: @Rep c' V (.view 1 2 (fun _=>[.I p,.I q])) y:=qV y1 b1 b2 (fun j hj=>⟨rfl,fun rs h=>by
     match j,hj with
     | 0,_=>exact h
     | j+1,hj=>omega⟩) (Nat.le_refl _)
    exact y3
  | 1,_=>
    obtain⟨y,ys,rfl,y1,y2⟩:=h;refine⟨y,ys,rfl,?_,y2⟩
    have y3: @Rep c' V (.view 1 2 (fun _=>[.I r,.I s])) y:=qV y1 d1 d2 (fun j hj=>⟨rfl,fun rs h=>by
     match j,hj with
     | 0,_=>exact h
     | j+1,hj=>omega⟩) (Nat.le_refl _)
    exact y3
  | i+2,hi=>omega
 ·intro c'
  have h1:=@wQ c' [.agg [.I sh,.I th,.I nd,.I tr],.view 2 1 (vr2 p q r s)] [] _ rfl (fun v g=>v=.tup [.ptr 0 0,.I 0]∧g=[some (.abs (.engine (i9 sh th nd tr 2 (fun _=>1) (fun i _=>DC p r i) (fun i _=>DC q s i))) [])]) ⟨⟨by decide,⟨rfl⟩⟩,by
   show(mG sh th nd tr 2 (fun _=>1) (fun i _=>DC p r i) (fun i _=>DC q s i)).run _;unfold mG;rw [hg];exact⟨rfl,rfl⟩⟩
  refine aHv h1 [] rfl (by decide) (fun l hl=>by cases hl) ?_ rfl ?_
  ·intro i l hi;simp at hi
  ·rintro v g ⟨rfl,rfl⟩ _;refine⟨rfl,rfl,?_,hK⟩;intro l hl hS
   match l,hl with
   | 0,_=>rfl
   | 1,_=>rfl
   | 2,_=>rfl
   | l+3,hl=>simp at hl;omega
end Go.Sh
namespace Go.Sh
open Go Go.Proofs
variable [Con]
def GZ(m n:Nat)(ln:Nat→Nat):Bool:=bif ilt 10 (m:Int)then true else bif ilt 60 (n:Int)then true else(List.range m).any (fun i=>ilt 50 (ln i:Int))
structure gr1 (m:Nat) (ln:Nat→Nat) (x:Nat):Prop where
 hi:x≤m
 hl: ∀j,j<x→ilt 50 (ln j:Int)=false
def RO(m:Nat)(ln:Nat→Nat)(f g:Nat→Nat→Int):Hint Ob:= {X:=Nat,st:=fun x=>(List.replicate 17 .O ++ [opsV m ln f g,.I (m:Int),.I (x:Int)]++List.replicate 7 .O,[]),ok:=gr1 m ln,mu:=fun x=>m - x,keep:=[17,18,19] }
def LGR(m:Nat)(ln:Nat→Nat)(f g:Nat→Nat→Int):FuncId→Nat→Option (oN Ob):=fun _ k=>match k with
 | 4=>some (.states (RO m ln f g))
 | _=>none
def UP(sh th nd tr:Int)(m:Nat)(ln:Nat→Nat)(f g:Nat→Nat→Int)(n:Nat)(row:Nat→List AVal)(K:AVal→aC Ob→Prop):Prop:=bif ilt 10 (↑m:Int)then K (.bool true) []else bif ilt 60 (↑n:Int)then K (.bool true) []else cT (RO m ln f g) (Hint.ok (RO m ln f g)) (tO' 17 [(.view m 1 fun i=>[.view (ln i) 2 fun j=>[.I (f i j),.I (g i j)]]),.I (↑m:Int),.I 0,.O,.O,.O,.O,.O,.O,.O]) []∧ ∀(x:Nat),gr1 m ln x→bif ilt (↑x:Int) (↑m:Int)then((0:Int)≤(↑x:Int)∧(↑x:Int)<(↑m:Int))∧bif ilt 50 (↑(ln (Int.toNat (↑x:Int))):Int)then K (.bool true) []else cT (RO m ln f g) (fun x'=>Hint.ok (RO m ln f g) x'∧Hint.mu (RO m ln f g) x'<Hint.mu (RO m ln f g) x) (tO' 17 [(.view m 1 fun i=>[.view (ln i) 2 fun j=>[.I (f i j),.I (g i j)]]),.I (↑m:Int),.I (W ((↑x:Int)+1)),.O,.O,.O,.O,.O,.O,.O]) []else K (.bool false) []
theorem NW(sh th nd tr:Int)(m:Nat)(ln:Nat→Nat)(f g:Nat→Nat→Int)(n:Nat)(row:Nat→List AVal)(K:AVal→aC Ob→Prop)(h:UP sh th nd tr m ln f g n row K):cT' 23 [.agg [.I sh,.I th,.I nd,.I tr,opsV m ln f g],.view n 2 row] [] (fV 0 K):=by
 exact aD (E:=EUe) Tryz.checked.mixed (L:=LGR m ln f g) (n:=10) (aK (by kernel_rfl) h)
abbrev aDU:List Code1:=[some .i64,none,some .i64,some .i64,some .i64,none,some .i64]
structure sm1 (ev:List (List Int)) (x:Nat):Prop where
 hi:x≤ev.length
def RS(y:HST)(ev:List (List Int)):Hint Ob:= {X:=Nat,st:=fun x=>([.ptr 0 0,.ptr 1 0,.O,.O,.O,.tslice 2 0 ev.length 7,.tslice 3 0 ev.length 7]++List.replicate 11 .O ++ [.I (ev.length:Int),.I (x:Int)]++List.replicate 12 .O,[some (.abs (.hist y) []),some (.abs (.hist y) []),some (.tab aDU ev),some (.tab aDU ev)]),ok:=sm1 ev,mu:=fun x=>ev.length - x,keep:=[0,1,5,6,18,19] }
def LSM(y:HST)(ev:List (List Int)):FuncId→Nat→Option (oN Ob):=fun _ k=>match k with
 | 5=>some (.states (RS y ev))
 | _=>none
abbrev w5a(x:HST):Option (aJ Ob):=some (.abs (.hist x) [])
def W6(x:HST)(K:AVal→aC Ob→Prop):Prop:=x.1.length≤(4294967296:Nat)∧x.1.length≤(4294967296:Nat)∧bif !ieq (↑x.1.length:Int) (↑x.1.length:Int)then K (.bool false) [w5a x,w5a x]else cT (RS x (HST.ev x)) (Hint.ok (RS x (HST.ev x))) [.ptr 0 0,.ptr 1 0,.O,.O,.O,.tslice 2 0 x.1.length 7,.tslice 3 0 x.1.length 7,.O,.O,.O,.O,.O,.O,.O,.O,.O,.O,.O,.I (↑x.1.length:Int),.I 0,.O,.O,.O,.O,.O,.O,.O,.O,.O,.O,.O,.O] [w5a x,w5a x,some (.tab cK7 x.1),some (.tab cK7 x.1)]∧ ∀(x_1:Nat),sm1 x.1 x_1→bif ilt (↑x_1:Int) (↑x.1.length:Int)then((0:Int)≤(↑x_1:Int)∧(↑x_1:Int)<(↑x.1.length:Int))∧0+Int.toNat (↑x_1:Int)<x.1.length∧((0:Int)≤(↑x_1:Int)∧(↑x_1:Int)<(↑x.1.length:Int))∧0+Int.toNat (↑x_1:Int)<x.1.length∧bif !bif ieq (List.headD (List.getD x.1 (0+Int.toNat (↑x_1:Int)) []) 0) (List.headD (List.getD x.1 (0+Int.toNat (↑x_1:Int)) []) 0)then bif bif !ieq (List.headD (List.tail (List.getD x.1 (0+Int.toNat (↑x_1:Int)) [])) 0) 0 then !ieq (List.headD (List.tail (List.getD x.1 (0+Int.toNat (↑x_1:Int)) [])) 0) 0 else !!ieq (List.headD (List.tail (List.getD x.1 (0+Int.toNat (↑x_1:Int)) [])) 0) 0 then bif bif ieq (List.headD (List.tail (List.tail (List.getD x.1 (0+Int.toNat (↑x_1:Int)) []))) 0) (List.headD (List.tail (List.tail (List.getD x.1 (0+Int.toNat (↑x_1:Int)) []))) 0)then bif ieq (List.headD (List.tail (List.tail (List.tail (List.getD x.1 (0+Int.toNat (↑x_1:Int)) [])))) 0) (List.headD (List.tail (List.tail (List.tail (List.getD x.1 (0+Int.toNat (↑x_1:Int)) [])))) 0)then true else false else false then bif bif ieq (List.headD (List.tail (List.tail (List.tail (List.tail (List.getD x.1 (0+Int.toNat (↑x_1:Int)) []))))) 0) (List.headD (List.tail (List.tail (List.tail (List.tail (List.getD x.1 (0+Int.toNat (↑x_1:Int)) []))))) 0)then bif bif !ieq (List.headD (List.tail (List.tail (List.tail (List.tail (List.tail (List.getD x.1 (0+Int.toNat (↑x_1:Int)) [])))))) 0) 0 then !ieq (List.headD (List.tail (List.tail (List.tail (List.tail (List.tail (List.getD x.1 (0+Int.toNat (↑x_1:Int)) [])))))) 0) 0 else !!ieq (List.headD (List.tail (List.tail (List.tail (List.tail (List.tail (List.getD x.1 (0+Int.toNat (↑x_1:Int)) [])))))) 0) 0 then bif ieq (List.headD (List.tail (List.tail (List.tail (List.tail (List.tail (List.tail (List.getD x.1 (0+Int.toNat (↑x_1:Int)) []))))))) 0) (List.headD (List.tail (List.tail (List.tail (List.tail (List.tail (List.tail (List.getD x.1 (0+Int.toNat (↑x_1:Int)) []))))))) 0)then true else false else false else false then true else false else false else false else false then K (.bool false) [w5a x,w5a x]else cT (RS x (HST.ev x)) (fun x'=>Hint.ok (RS x (HST.ev x)) x'∧Hint.mu (RS x (HST.ev x)) x'<Hint.mu (RS x (HST.ev x)) x_1) [.ptr 0 0,.ptr 1 0,.O,.O,.O,.tslice 2 0 x.1.length 7,.tslice 3 0 x.1.length 7,.O,.O,.O,.O,.O,.O,.O,.O,.O,.O,.O,.I (↑x.1.length:Int),.I (W ((↑x_1:Int)+1)),.O,.O,.O,.O,.O,.O,.O,.O,.O,.O,.O,.O] [w5a x,w5a x,some (.tab cK7 x.1),some (.tab cK7 x.1)]else K (.bool true) [w5a x,w5a x]
theorem P5(x:HST)(K:AVal→aC Ob→Prop)(h:W6 x K):cT' 99 [.ptr 0 0,.ptr 1 0] [some (.abs (.hist x) []),some (.abs (.hist x) [])] (fV 2 K):=by
 exact aD (E:=EUe) Tryz.checked.mixed (L:=LSM x x.ev) (n:=10) (aK (by kernel_rfl) h)
theorem aBm{m n:Nat}{ln:Nat→Nat}(h:ilt 10 (m:Int)=true):GZ m n ln=true:=by unfold GZ;rw [h];rfl
theorem aBo{m n:Nat}{ln:Nat→Nat}(h:ilt 10 (m:Int)=false)(h2:ilt 60 (n:Int)=true):GZ m n ln=true:=by unfold GZ;rw [h,h2];rfl
theorem aBn{m n:Nat}{ln:Nat→Nat}(h:ilt 10 (m:Int)=false)(h2:ilt 60 (n:Int)=false){i:Nat}(hi:i<m)(h3:ilt 50 (ln i:Int)=true):GZ m n ln=true:=by
 unfold GZ;rw [h,h2];exact List.any_eq_true.2 ⟨i,List.mem_range.2 hi,h3⟩
theorem aBp{m n:Nat}{ln:Nat→Nat}(h:ilt 10 (m:Int)=false)(h2:ilt 60 (n:Int)=false)(h3: ∀i,i<m→ilt 50 (ln i:Int)=false):GZ m n ln=false:=by
 unfold GZ;rw [h,h2];show(List.range m).any _=false;rw [List.any_eq_false];intro i hi;rw [h3 i (List.mem_range.1 hi)];simp
theorem aEe{m n:Nat}{ln:Nat→Nat}(h:GZ m n ln=false):m≤10∧n≤60:=by
 unfold GZ at h;cases h1:ilt 10 (m:Int)with
 | true=>rw [h1]at h;cases h
 | false=>
   cases h2:ilt 60 (n:Int)with
   | true=>rw [h1,h2]at h;cases h
   | false=>have:=gW h1;have:=gW h2;omega
theorem aEg(sh th nd tr:Int)(m:Nat)(ln:Nat→Nat)(f g:Nat→Nat→Int)(n:Nat)(row:Nat→List AVal)(K:AVal→aC Ob→Prop)(hK:K (.bool (GZ m n ln)) []):UP sh th nd tr m ln f g n row K:=by
 have key: ∀c,GZ m n ln=c→K (.bool c) []:=fun c e=>by rw [←e];exact hK
 unfold UP;refine bJ (fun e1=>key true (aBm e1)) (fun e1=>?_);refine bJ (fun e2=>key true (aBo e1 e2)) (fun e2=>?_);have m10:=gW e1;refine⟨aP (H:=RO m ln f g) (0:Nat) rfl ⟨Nat.zero_le _,fun j hj=>absurd hj (Nat.not_lt_zero _)⟩,?_⟩;rintro x ⟨hx,hxl⟩;refine bJ (fun a1=>?_) (fun a1=>?_)
 ·have a1:=f7 a1;have hxm:x<m:=by omega
  rw [Int.toNat_natCast];refine⟨⟨by omega,by omega⟩,bJ (fun a2=>key true (aBn e1 e2 hxm a2)) (fun a2=>?_)⟩
  rw [W1 hxm (by omega)]
  refine aP (H:=RO m ln f g) (x+1:Nat) rfl ⟨⟨hxm,fun j hj=>?_⟩,by show m - (x+1)<m - x;omega⟩
  by_cases e:j=x
  ·subst e;exact a2
  ·exact hxl j (by omega)
 ·have a1:=gW a1;exact key false (aBp e1 e2 (fun i hi=>hxl i (by omega)))
def grS:aH Ob:=fun args h=>match args,h with
 | [.agg [.int .i64 sh,.int .i64 th,.int .i64 nd,.int .i64 tr,.view m 1 vr],.view n 2 row],[]=>some (.pre (gF vr) (.ret (.bool (GZ m n (vL vr))) []))
 | _,_=>none
theorem aEf:sT' 23 grS:=by
 intro args h o ho K hK;unfold grS at ho;split at ho<;>cases ho
 rename_i sh th nd tr m vr n row;obtain⟨⟨hr⟩,hK⟩:=hK;rw [hr];exact aGU (NW sh th nd tr m (vL vr) (vK vr) (vY vr) n row K (aEg sh th nd tr m (vL vr) (vK vr) (vY vr) n row K hK))
theorem G7(a:Int):ieq a a=true:=by rw [cL];exact decide_eq_true rfl
theorem W2{i:Nat}{m:Nat}(hi:i<m)(hm:m≤4294967296):W ((i:Int)+1)=((i+1:Nat):Int):=by
 have:=cW (x:=(i:Int)+1) ⟨by omega,by omega⟩
 exact this.trans (by omega)
theorem Z0(b:Bool):(bif b then b else !b)=true:=by cases b<;>rfl
theorem aES(x:HST)(K:AVal→aC Ob→Prop)(hl:x.ev.length≤4294967296)(hK:K (.bool true) [some (.abs (.hist x) []),some (.abs (.hist x) [])]):W6 x K:=by
 unfold W6;refine⟨hl,hl,?_⟩;rw [G7];refine⟨aP (H:=RS x x.ev) (0:Nat) rfl ⟨Nat.zero_le _⟩,?_⟩;rintro i ⟨hi⟩;refine bJ (fun a1=>?_) (fun a1=>hK);have a1:=f7 a1;have hil:i<x.ev.length:=by omega
 refine⟨⟨by omega,a1⟩,by show 0+Int.toNat ((i:Nat):Int)<_;rw [Int.toNat_natCast];omega,⟨by omega,a1⟩,by show 0+Int.toNat ((i:Nat):Int)<_;rw [Int.toNat_natCast];omega,?_⟩
 simp only [G7,Z0,cond_true,Bool.not_true,cond_false];rw [W2 hil hl];exact aP (H:=RS x x.ev) (i+1:Nat) rfl ⟨⟨hil⟩,by show x.ev.length - (i+1)<x.ev.length - i;omega⟩
def smR:bH Ob:=fun args h=>match args,h with
 | [.ptr 0 0,.ptr 1 0],[some (.abs (.hist x) []),some (.abs (.hist y) [])]=>some (x=y∧x.ev.length≤4294967296,.bool true)
 | _,_=>none
theorem aCn:sT' 99 smR.spec:=by
 intro args h o ho K hK;unfold bH.spec at ho;split at ho
 case h_2=>cases ho
 rename_i p v hv;unfold smR at hv;split at hv
 case h_2=>cases hv
 rename_i x y;simp only [sI',pI']at hv;obtain⟨rfl,rfl⟩:=hv;simp only [sI']at ho;subst ho;obtain⟨⟨rfl,hl⟩,hK⟩:=hK;exact aGU (P5 x K (aES x K hl hK))
noncomputable def EUf:=(EUe.addS 23 grS aEf).addR 99 smR aCn
structure on1 (x:EGS) (u:Nat):Prop where
 hi:(u:Int)≤x.s.t
structure on2 (x:EGS) (a:Nat):Prop where
 hi:(a:Int)≤2*x.s.n+5*x.s.t+6
def RQ(x:EGS):Hint Ob:= {X:=Nat,st:=fun u=>([.ptr 0 0,.ptr 1 0,.O,.O,.O,.ptr 2 0,.I (u:Int)]++List.replicate 97 .O,[some (.abs (.engine x) []),some (.abs (.engine x) []),cE' [.I x.s.t,.I x.s.n]]),ok:=on1 x,mu:=fun u=>(x.s.t - (u:Int)).toNat,keep:=[0,1,5,6] }
def RR(x:EGS):Hint Ob:= {X:=Nat,st:=fun a=>([.ptr 0 0,.ptr 1 0,.O,.O,.O,.ptr 2 0,.O,.I (a:Int)]++List.replicate 96 .O,[some (.abs (.engine x) []),some (.abs (.engine x) []),cE' [.I x.s.t,.I x.s.n]]),ok:=on2 x,mu:=fun a=>(2*x.s.n+5*x.s.t+6 - (a:Int)).toNat,keep:=[0,1,5,7] }
def LON(x:EGS):FuncId→Nat→Option (oN Ob):=fun _ k=>match k with
 | 5=>some (.states (RQ x))
 | 10=>some (.states (RR x))
 | _=>none
abbrev w5b(x:EGS):Option (aJ Ob):=some (.abs (.engine x) [])
abbrev w5c(x:EGS):List AVal:=[.I (EGS.s x).1,.I (EGS.s x).2]
def WD(x:EGS)(K:AVal→aC Ob→Prop):Prop:=True∧True∧bif !bif ieq (EGS.s x).1 (EGS.s x).1 then bif ieq (EGS.s x).2 (EGS.s x).2 then true else false else false then K (.bool false) [w5b x,w5b x]else bif !bif ieq x.1 x.1 then bif ieq x.2 x.2 then bif ieq x.3 x.3 then bif ieq x.4 x.4 then true else false else false else false else false then K (.bool false) [w5b x,w5b x]else True∧True∧bif !ieq x.8 x.8 then K (.bool false) [w5b x,w5b x]else(List.length (EGS.h x).1≤(4294967296:Nat)∧List.length (EGS.h x).2≤(4294967296:Nat))∧(List.length (EGS.h x).1≤(4294967296:Nat)∧List.length (EGS.h x).2≤(4294967296:Nat))∧(x.6=x.6∧List.length (EGS.h x).1≤(4294967296:Nat))∧((0:Int)≤(EGS.s x).2∧(EGS.s x).2≤(100000:Int))∧((0:Int)≤(EGS.s x).2∧(EGS.s x).2≤(100000:Int))∧((lE' (dX x)∧lE' (dX x))∧List.length (dX x)≤(4294967296:Nat))∧bif !nP (dX x) (dX x)then K (.bool false) [w5b x,w5b x]else cT (RQ x) (Hint.ok (RQ x)) (.ptr 0 0::.ptr 1 0::.O::.O::.O::.ptr 2 0::.I 0::(tO' 97 [])) [w5b x,w5b x,cE' (w5c x)]∧ ∀(x_1:Nat),on1 x x_1→bif ilt (↑x_1:Int) (EGS.s x).1 then True∧True∧bif !ieq (dW (↑x_1:Int) x) (dW (↑x_1:Int) x)then K (.bool false) [w5b x,w5b x]else gV x∧gV x∧((lE' (gP (↑x_1:Int) x)∧lE' (gP (↑x_1:Int) x))∧List.length (gP (↑x_1:Int) x)≤(4294967296:Nat))∧bif !nP (gP (↑x_1:Int) x) (gP (↑x_1:Int) x)then K (.bool false) [w5b x,w5b x]else gV x∧gV x∧((lE' (gM (↑x_1:Int) x)∧lE' (gM (↑x_1:Int) x))∧List.length (gM (↑x_1:Int) x)≤(4294967296:Nat))∧bif !nP (gM (↑x_1:Int) x) (gM (↑x_1:Int) x)then K (.bool false) [w5b x,w5b x]else gV x∧gV x∧((lE' (gD (↑x_1:Int) x)∧lE' (gD (↑x_1:Int) x))∧List.length (gD (↑x_1:Int) x)≤(4294967296:Nat))∧bif !nP (gD (↑x_1:Int) x) (gD (↑x_1:Int) x)then K (.bool false) [w5b x,w5b x]else cT (RQ x) (fun x'=>Hint.ok (RQ x) x'∧Hint.mu (RQ x) x'<Hint.mu (RQ x) x_1) (.ptr 0 0::.ptr 1 0::.O::.O::.O::.ptr 2 0::.I (W ((↑x_1:Int)+1))::(tO' 97 [])) [w5b x,w5b x,cE' (w5c x)]else cT (RR x) (Hint.ok (RR x)) (.ptr 0 0::.ptr 1 0::.O::.O::.O::.ptr 2 0::.O::.I 0::(tO' 96 [])) [w5b x,w5b x,cE' (w5c x)]∧ ∀(x_2:Nat),on2 x x_2→(((0:Int)≤(EGS.s x).1∧(EGS.s x).1≤(100000:Int))∧(0:Int)≤(EGS.s x).2∧(EGS.s x).2≤(100000:Int))∧bif ilt (↑x_2:Int) (2*(EGS.s x).2+5*(EGS.s x).1+6)then True∧True∧bif !ieq (aE (EGS.s x).3 (↑x_2:Int)) (aE (EGS.s x).3 (↑x_2:Int))then K (.bool false) [w5b x,w5b x]else cT (RR x) (fun x'=>Hint.ok (RR x) x'∧Hint.mu (RR x) x'<Hint.mu (RR x) x_2) (.ptr 0 0::.ptr 1 0::.O::.O::.O::.ptr 2 0::.O::.I (W ((↑x_2:Int)+1))::(tO' 96 [])) [w5b x,w5b x,cE' (w5c x)]else K (.bool true) [w5b x,w5b x]
theorem O0(x:EGS)(K:AVal→aC Ob→Prop)(h:WD x K):cT' 42 [.ptr 0 0,.ptr 1 0] [some (.abs (.engine x) []),some (.abs (.engine x) [])] (fV 2 K):=by
 exact aD (E:=EUf) Tryz.checked.mixed (L:=LON x) (n:=10) (aK (by kernel_rfl) h)
noncomputable def EUg:=(EUf.addS 25 (aH.or newLS gnS) (aHi x8 wQ)).addS 27 (aH.or runLS runS) (aHi W4 u7)
theorem W5(xs:List Int):nP xs xs=true:=F4.2 rfl
structure O1 (x:EGS):Prop where
 w: ∃t n:Int,egW t n x
theorem JP(sp:Int)(xs:List Int):(lM sp xs).length ≤xs.length+1:=by
 unfold lM;cases ieq sp 0 with
 | true=>exact Nat.le_succ _
 | false=>exact Nat.le_refl _
theorem K7{x:EGS}(h:gV x)(u:Int):(gP u x).length ≤4294967296:=by
 unfold gP;cases ilt u 0 with
 | true=>exact Nat.zero_le _
 | false=>
   rw [cond_false];cases e:ile (x.ws.length:Int) u with
   | true=>exact Nat.zero_le _
   | false=>
     rw [cC]at e;have e:=of_decide_eq_false e;have h0:=h.h0
     by_cases hu:u.toNat<x.ws.length
     ·exact Nat.le_trans (h.ht _ hu) (by omega)
     ·omega
theorem KY{x:EGS}(h:gV x)(u:Int):(gM u x).length ≤4294967296:=by
 unfold gM;cases ilt u 0 with
 | true=>exact Nat.zero_le _
 | false=>
   rw [cond_false];cases e:ile (x.ws.length:Int) u with
   | true=>exact Nat.zero_le _
   | false=>
     rw [cC]at e;have e:=of_decide_eq_false e;have h0:=h.h0
     by_cases hu:u.toNat<x.ws.length
     ·exact Nat.le_trans (h.hs _ hu) (by omega)
     ·omega
theorem JO{x:EGS}(h:gV x)(u:Int):(gD u x).length ≤4294967296:=by
 unfold gD;cases ilt u 0 with
 | true=>exact Nat.zero_le _
 | false=>
   rw [cond_false];cases e:ile (x.ws.length:Int) u with
   | true=>exact Nat.zero_le _
   | false=>
     rw [cC]at e;have e:=of_decide_eq_false e;have h0:=h.h0
     by_cases hu:u.toNat<x.ws.length
     ·have:=h.hr _ hu;exact Nat.le_trans (JP _ _) (by omega)
     ·omega
theorem EL{x:EGS}(h:0≤x.s.n∧x.s.n≤100000):(dX x).length ≤4294967296:=by
 have l0:=iM x.s.xs x.s.n 0;have l1:=iM x.s.xs x.s.n 1;have l2:=iM x.s.xs x.s.n 2;have l3:=iM x.s.xs x.s.n 3;have hn:x.s.n.toNat≤100000:=by omega
 unfold dX;cases ieq x.sh 3 with
 | true=>rw [cond_true];omega
 | false=>
   rw [cond_false];cases ieq x.sh 4 with
   | true=>rw [cond_true];omega
   | false=>rw [cond_false,oH,List.length_append,List.length_append,List.length_append];omega
set_option maxRecDepth 10000 in
theorem aEM(x:EGS)(K:AVal→aC Ob→Prop)(hx:O1 x)(hK:K (.bool true) [some (.abs (.engine x) []),some (.abs (.engine x) [])]):WD x K:=by
 obtain⟨⟨t,n,hw⟩⟩:=hx;have hf:=AO hw;have hl:=uC hw;have ht:=hw.ht;have hn:=hw.hn;have st:=hw.st;have sn:=hw.sn;have hn0:0≤x.s.n∧x.s.n≤100000:=by omega
 have ht0:0≤x.s.t∧x.s.t≤100000:=by omega
 unfold WD;simp only [G7,W5,cond_true,Bool.not_true,cond_false];refine⟨trivial,trivial,trivial,trivial,hl,hl,⟨trivial,hl.1⟩,hn0,hn0,⟨⟨trivial,trivial⟩,EL hn0⟩,aP (H:=RQ x) (0:Nat) rfl ⟨by show((0:Nat):Int)≤x.s.t;omega⟩,?_⟩
 rintro u ⟨hu⟩;refine bJ (fun a1=>?_) (fun a1=>?_)
 ·have a1:=f7 a1;refine⟨trivial,trivial,hf,hf,⟨⟨trivial,trivial⟩,K7 hf _⟩,hf,hf,⟨⟨trivial,trivial⟩,KY hf _⟩,hf,hf,⟨⟨trivial,trivial⟩,JO hf _⟩,?_⟩;have e:W ((u:Int)+1)=((u+1:Nat):Int):=(cW (x:=(u:Int)+1) ⟨by omega,by omega⟩).trans (by omega)
  rw [e];exact aP (H:=RQ x) (u+1:Nat) rfl ⟨⟨by show((u+1:Nat):Int)≤x.s.t;omega⟩,by show(x.s.t - ((u+1:Nat):Int)).toNat <(x.s.t - (u:Int)).toNat;omega⟩
 ·refine⟨aP (H:=RR x) (0:Nat) rfl ⟨by show((0:Nat):Int)≤2*x.s.n+5*x.s.t+6;omega⟩,?_⟩
  rintro a ⟨ha⟩;refine⟨⟨ht0,hn0⟩,bJ (fun b1=>?_) (fun b1=>hK)⟩;have b1:=f7 b1;have e:W ((a:Int)+1)=((a+1:Nat):Int):=(cW (x:=(a:Int)+1) ⟨by omega,by omega⟩).trans (by omega)
  rw [e];exact⟨trivial,trivial,aP (H:=RR x) (a+1:Nat) rfl ⟨⟨by show((a+1:Nat):Int)≤2*x.s.n+5*x.s.t+6;omega⟩,by show(2*x.s.n+5*x.s.t+6 - ((a+1:Nat):Int)).toNat <(2*x.s.n+5*x.s.t+6 - (a:Int)).toNat;omega⟩⟩
def onS:aH Ob:=fun args h=>match args,h with
 | [.ptr 0 0,.ptr 1 0],[some (.abs (.engine x) []),some (.abs (.engine y) [])]=>some (.pre (x=y∧O1 x) (.ret (.bool true) [some (.abs (.engine x) []),some (.abs (.engine y) [])]))
 | _,_=>none
theorem aEL:sT' 42 onS:=by
 intro args h o ho K hK;unfold onS at ho;split at ho<;>cases ho
 rename_i x y;obtain⟨⟨rfl,hx⟩,hK⟩:=hK;exact aGU (O0 x K (aEM x K hx hK))
def aDo(sh th nd tr:Int)(m:Nat)(vr:Nat→List AVal)(K:AVal→aC Ob→Prop):Prop:=K (.agg [.I sh,.I th,.I nd,.I tr]) []
theorem L7(sh th nd tr:Int)(m:Nat)(vr:Nat→List AVal)(K:AVal→aC Ob→Prop)(h:aDo sh th nd tr m vr K):cT' 26 [.agg [.I sh,.I th,.I nd,.I tr,.view m 1 vr]] [] (fV 0 K):=by
 exact cM' (E:=EUg) (by kernel_rfl) h
def cfR:bH Ob:=fun args h=>match args,h with
 | [.agg [.int .i64 sh,.int .i64 th,.int .i64 nd,.int .i64 tr,.view m 1 vr]],[]=>some (True,.agg [.I sh,.I th,.I nd,.I tr])
 | _,_=>none
theorem Z4:sT' 26 cfR.spec:=by
 intro args h o ho K hK;unfold bH.spec at ho;split at ho
 case h_2=>cases ho
 rename_i p v hv;unfold cfR at hv;split at hv
 case h_2=>cases hv
 rename_i sh th nd tr m vr;simp only [sI',pI']at hv;obtain⟨rfl,rfl⟩:=hv;simp only [sI']at ho;subst ho;obtain⟨_,hK⟩:=hK;exact aGU (L7 sh th nd tr m vr K hK)
def gn1S:aH Ob:=fun args h=>match args,h with
 | [.agg [.int .i64 sh,.int .i64 th,.int .i64 nd,.int .i64 tr],.view m 1 vr],[]=>some (.pre ((m≤1000000∧gF vr)∧gnC sh th nd tr m (vL vr) (vK vr) (vY vr)=0) (.ret (.tup [.ptr 0 0,.I 0]) (egH (i9 sh th nd tr m (vL vr) (vK vr) (vY vr)))))
 | _,_=>none
theorem aBh:sT' 25 gn1S:=by
 intro args h o ho K hK;unfold gn1S at ho;split at ho<;>cases ho
 rename_i sh th nd tr m vr;obtain⟨⟨h1,h2⟩,hK⟩:=hK;have hS:gnS [.agg [.I sh,.I th,.I nd,.I tr],.view m 1 vr] []=some (.pre (m≤1000000∧gF vr) (mG sh th nd tr m (vL vr) (vK vr) (vY vr))):=rfl;refine wQ _ _ _ hS K ⟨h1,?_⟩;show(mG sh th nd tr m (vL vr) (vK vr) (vY vr)).run K;unfold mG;rw [h2];exact hK
abbrev pkW(pt pm:Nat→Int)(i:Nat):List AVal:=[.I (pt i),.I (pm i)]
end Go.Sh
namespace Go.Sh
open Go Go.Proofs
theorem aB.args [Con]{A:Type}{I:Itp A}{P:Program}{f:FuncId}{args args2:List AVal}{h:aC A}{K:AVal→aC A→Prop}(ha: ∀(V:Val) (l:List Value),aG V args l→aG V args2 l)(h0:aB I P f args2 h K):aB I P f args h K:=
 fun V hR w args' hi hf hr=>h0 V hR w args' hi hf (ha V _ hr)
variable [Con]
def C6:Nat→Int→Int→EGS→EGS
 | 0,_,_,x=>x
 | k+1,l,t,x=>bif ieq (dW t x) l then(bif (pkF t x).1 then C6 k l t (pkF t x).2 else(pkF t x).2)else x
def nU(l t:Int)(x:EGS):EGS:=C6 (60001 - x.k).toNat l t x
def aZ(t:Int)(x:EGS):EGS:=nU (dW t x) t x
structure aEY (t:Int) (x y:EGS):Prop where
 w: ∃a b:Int,egW a b y
 h:nU (dW t x) t y=nU (dW t x) t x
def RT(t:Int)(x:EGS):Hint Ob:= {X:=EGS,st:=fun y=>([.ptr 0 0,.int .i64 t,.O,.O,.int .i64 (dW t x)]++List.replicate 12 .O,[some (.abs (.engine y) [])]),ok:=aEY t x,mu:=fun y=>(60000 - y.k).toNat,keep:=[0,1,4] }
def LTU(t:Int)(x:EGS):FuncId→Nat→Option (oN Ob):=fun _ k=>match k with
 | 1=>some (.states (RT t x))
 | _=>none
abbrev w5d(t:Int)(x:EGS):List AVal:=[.ptr 0 0,.int .i64 t,.O,.O,.int .i64 (dW t x),.O,.O,.O,.O,.O,.O,.O,.O,.O,.O,.O,.O]
def aCC(t:Int)(x:EGS)(K:AVal→aC Ob→Prop):Prop:=True∧cT (RT t x) (Hint.ok (RT t x)) (w5d t x) [some (.abs (.engine x) [])]∧ ∀(x_1:EGS),aEY t x x_1→True∧bif ieq (dW t x_1) (dW t x)then O4 t x_1∧bif !(pkF t x_1).1 then K (.tup []) [some (.abs (.engine (pkF t x_1).2) [])]else cT (RT t x) (fun x'=>Hint.ok (RT t x) x'∧Hint.mu (RT t x) x'<Hint.mu (RT t x) x_1) (w5d t x) [some (.abs (.engine (pkF t x_1).2) [])]else K (.tup []) [some (.abs (.engine x_1) [])]
theorem QO(t:Int)(x:EGS)(K:AVal→aC Ob→Prop)(h:aCC t x K):cT' 76 [.ptr 0 0,.int .i64 t] [some (.abs (.engine x) [])] (fV 1 K):=by
 exact aD (E:=EUg) Tryz.checked.mixed (L:=LTU t x) (n:=10) (aK (by kernel_rfl) h)
end Go.Sh
namespace Go.Sh
open Go Go.Proofs
variable [Con]
theorem K9{l t:Int}{y:EGS}(hk:y.k≤60000)(h:ieq (dW t y) l=false):nU l t y=y:=by
 obtain⟨m,hm⟩: ∃m,(60001 - y.k).toNat =m+1:=⟨(60000 - y.k).toNat,by omega⟩
 unfold nU;rw [hm];show(bif ieq (dW t y) l then _ else y)=y;rw [h];rfl
theorem QQ{l t:Int}{y:EGS}(hk:y.k≤60000)(h:ieq (dW t y) l=true)(h2:(pkF t y).1=false):nU l t y=(pkF t y).2:=by
 obtain⟨m,hm⟩: ∃m,(60001 - y.k).toNat =m+1:=⟨(60000 - y.k).toNat,by omega⟩
 unfold nU;rw [hm];show(bif ieq (dW t y) l then(bif (pkF t y).1 then _ else(pkF t y).2)else y)=_;rw [h,h2];rfl
theorem QP{l t:Int}{y:EGS}(hk:y.k≤60000)(h:ieq (dW t y) l=true)(h2:(pkF t y).1=true)(h3:(pkF t y).2.k =y.k+1):nU l t y=nU l t (pkF t y).2:=by
 have hm:(60001 - y.k).toNat =(60001 - (pkF t y).2.k).toNat +1:=by omega
 unfold nU;rw [hm];show(bif ieq (dW t y) l then(bif (pkF t y).1 then C6 (60001 - (pkF t y).2.k).toNat l t (pkF t y).2 else(pkF t y).2)else y)=_;rw [h,h2];rfl
theorem aE0(t:Int)(x:EGS)(K:AVal→aC Ob→Prop)(hx: ∃a b:Int,egW a b x)(hK:K (.tup []) [some (.abs (.engine (aZ t x)) [])]):aCC t x K:=by
 refine⟨trivial,aP (H:=RT t x) x rfl ⟨hx,rfl⟩,?_⟩;rintro y ⟨⟨a,b,hy⟩,hh⟩;have hk:=hy.k
 have key: ∀z,nU (dW t x) t y=z→K (.tup []) [some (.abs (.engine z) [])]:=by
  intro z hz;have e:z=aZ t x:=hz.symm.trans hh;rw [e];exact hK
 refine⟨trivial,bJ (fun e1=>⟨O5 t hy,bJ (fun e2=>?_) (fun e2=>?_)⟩) (fun e1=>?_)⟩
 ·exact key _ (QQ hk.2 e1 (by simpa using e2))
 ·have e2:(pkF t y).1=true:=by simpa using e2
  obtain⟨h1,h2,_,_⟩:=(yE t hy).yes e2;refine aP (H:=RT t x) (pkF t y).2 rfl ⟨⟨⟨a,b,h1⟩,(QP hk.2 e1 e2 h2).symm.trans hh⟩,?_⟩;have:=h1.k;show(60000 - (pkF t y).2.k).toNat <(60000 - y.k).toNat;omega
 ·exact key _ (K9 hk.2 e1)
theorem XN{a b:Int}(l t:Int): ∀(k:Nat) (x:EGS),egW a b x→egW a b (C6 k l t x):=by
 intro k
 induction k with
 | zero=>intro x hx;exact hx
 | succ k ih=>
   intro x hx;show egW a b (bif ieq (dW t x) l then(bif (pkF t x).1 then C6 k l t (pkF t x).2 else(pkF t x).2)else x);cases ieq (dW t x) l with
   | false=>exact hx
   | true=>
     cases (pkF t x).1 with
     | false=>exact(yE t hx).w
     | true=>exact ih _ (yE t hx).w
theorem QR{a b:Int}(t:Int){x:EGS}(hx:egW a b x):egW a b (aZ t x):=XN _ _ _ _ hx
def tuS:aH Ob:=fun args h=>match args,h with
 | [.ptr 0 0,.int .i64 t],[some (.abs (.engine x) [])]=>some (.pre (sW x) (.ret (.tup []) [some (.abs (.engine (aZ t x)) [])]))
 | _,_=>none
theorem aEZ:sT' 76 tuS:=by
 intro args h o ho K hK;unfold tuS at ho;split at ho<;>cases ho
 rename_i t x;obtain⟨⟨hx⟩,hK⟩:=hK;exact aGU (QO t x K (aE0 t x K hx hK))
abbrev aEE(sh th nd tr:Int):EGS:=i9 sh th nd tr 0 (fun _=>0) (fun _ _=>0) (fun _ _=>0)
def newNS:aH Ob:=fun args h=>match args,h with
 | [.agg [.int .i64 sh,.int .i64 th,.int .i64 nd,.int .i64 tr],.raw (.slice none 0 0)],[]=>some (.pre (gnC sh th nd tr 0 (fun _=>0) (fun _ _=>0) (fun _ _=>0)=0) (.ret (.tup [.ptr 0 0,.int .i64 0]) (egH (aEE sh th nd tr))))
 | _,_=>none
theorem HE:sT' 25 newNS:=by
 intro args h o ho K hK;unfold newNS at ho;split at ho<;>cases ho
 rename_i sh th nd tr;obtain⟨h1,hK⟩:=hK;refine aB.args (args2:=[.agg [.int .i64 sh,.int .i64 th,.int .i64 nd,.int .i64 tr],.view 0 1 (fun _=>[.view 0 2 (fun _=>[.int .i64 0,.int .i64 0])])]) ?_ ?_
 ·rintro V l ⟨v0,l0,rfl,r0,v1,l1,rfl,r1,r2⟩;have r1:v1=.slice none 0 0:=r1;exact⟨v0,_,rfl,r0,v1,_,rfl,⟨none,0,r1,Nat.le_refl _,.inr rfl⟩,r2⟩
 ·have hS:gnS [.agg [.int .i64 sh,.int .i64 th,.int .i64 nd,.int .i64 tr],.view 0 1 (fun _=>[.view 0 2 (fun _=>[.int .i64 0,.int .i64 0])])] []=some (.pre (0≤1000000∧gF (fun _=>[.view 0 2 (fun _=>[.int .i64 0,.int .i64 0])])) (mG sh th nd tr 0 (fun _=>0) (fun _ _=>0) (fun _ _=>0))):=rfl;refine wQ _ _ _ hS K ⟨⟨Nat.zero_le _,⟨rfl⟩⟩,?_⟩;show(mG sh th nd tr 0 (fun _=>0) (fun _ _=>0) (fun _ _=>0)).run K;unfold mG;rw [h1];exact hK
noncomputable def EUs:=(EUg.addS 76 tuS aEZ).addS 25 (aH.or newNS (aH.or newLS gnS)) (aHi HE (aHi x8 wQ))
abbrev PP:List Code1:=[some .i64,none,some .i64]
def QF(r:List Int):List Int:=[List.headD (List.tail (List.tail (List.tail (List.tail (List.tail (List.tail r)))))) 0,bif !ieq (List.headD (List.tail (List.tail (List.tail (List.tail (List.tail (List.tail (List.tail r))))))) 0) 0 then 1 else 0,List.headD (List.tail (List.tail (List.tail (List.tail (List.tail (List.tail (List.tail (List.tail r)))))))) 0]
def eC(cl:List (List Int)):List (List Int):=(cl.filter fun r=>!ilt (List.headD (List.tail r) 0) 0).map QF
def x24:EGS:=i9 3 2 6 0 2 (fun _=>1) (fun i _=>DC 4 5 i) (fun i _=>DC 5 0 i)
structure tc1 (cl:List (List Int)) (j:Nat):Prop where
 hi:j≤cl.length
def zB(g:aJ Ob)(x:EGS)(cl:List (List Int)):Hint Ob:= {X:=Nat,st:=fun j=>(List.replicate 7 .O ++ [.ptr 1 0,.O,.O,.O,.tslice 2 0 (eC (cl.take j)).length 3]++List.replicate 24 .O ++ [.tslice 3 0 cl.length 9,.int .i64 (cl.length:Int),.int .i64 (j:Int)]++List.replicate 15 .O,[some g,some (.abs (.engine x) []),some (.tab PP (eC (cl.take j))),some (.tab clK cl)]),ok:=tc1 cl,mu:=fun j=>cl.length - j,keep:=[7,11,36,37,38],casts:=[(.slot 11,.tab PP)] }
abbrev y9:aJ Ob:=.cells [.int .i64 0,.int .i64 4,.int .i64 5,.int .i64 1,.int .i64 5,.int .i64 0]
def new24S:aH Ob:=fun args h=>match args,h with
 | [.agg [.int .i64 sh,.int .i64 th,.int .i64 nd,.int .i64 tr],.slice 0 0 n 1],[some (.cells [.slice 1 0 n1 2,.slice 2 0 n2 2]),some (.cells [.int .i64 p,.int .i64 q]),some (.cells [.int .i64 r,.int .i64 s])]=>some (.pre ((n=2∧n1=1∧n2=1)∧(sh=3∧th=2∧nd=6∧tr=0)∧p=4∧q=5∧r=5∧s=0)
    (.ret (.tup [.ptr 3 0,.int .i64 0]) [some (.cells [.slice 1 0 1 2,.slice 2 0 1 2]),some (.cells [.int .i64 4,.int .i64 5]),some (.cells [.int .i64 5,.int .i64 0]),some (.abs (.engine x24) [])]))
 | _,_=>none
theorem OU:sT' 25 new24S:=by
 intro args h o ho K hK;unfold new24S at ho;split at ho<;>cases ho
 rename_i sh th nd tr n n1 n2 p q r s;obtain⟨⟨⟨rfl,rfl,rfl⟩,⟨rfl,rfl,rfl,rfl⟩,rfl,rfl,rfl,rfl⟩,hK⟩:=hK;have hS:newLS [.agg [.int .i64 3,.int .i64 2,.int .i64 6,.int .i64 0],.slice 0 0 2 1] [some (.cells [.slice 1 0 1 2,.slice 2 0 1 2]),some (.cells [.int .i64 4,.int .i64 5]),some (.cells [.int .i64 5,.int .i64 0])]=some (.pre ((2=2∧1=1∧1=1)∧gnC 3 2 6 0 2 (fun _=>1) (fun i _=>DC 4 5 i) (fun i _=>DC 5 0 i)=0) (.ret (.tup [.ptr 3 0,.int .i64 0]) [some (.cells [.slice 1 0 1 2,.slice 2 0 1 2]),some (.cells [.int .i64 4,.int .i64 5]),some (.cells [.int .i64 5,.int .i64 0]),some (.abs (.engine x24) [])])):=rfl;exact x8 _ _ _ hS K ⟨⟨⟨rfl,rfl,rfl⟩,by kernel_rfl⟩,hK⟩
noncomputable def EUt:=EUs.addS 25 (aH.or newNS new24S) (aHi HE OU)
def LRN(x:EGS):FuncId→Nat→Option (oN Ob):=fun _ k=>match k with
 | 6=>some (.rounds 3)
 | 5=>some (.rounds 3)
 | 11=>some (.states (zB y9 x x.h.cl))
 | _=>none
abbrev w5e:Option (aJ Ob):=some (.cells [.int .i64 0,.int .i64 4,.int .i64 5,.int .i64 1,.int .i64 5,.int .i64 0])
def HP(K:AVal→aC Ob→Prop):Prop:=(gnC 3 2 6 0 0 (fun x=>(0:Nat)) (fun x x_1=>(0:Int)) fun x x_1=>(0:Int))=(0:Int)∧(((0:Int)≤(2:Int)∧(2:Int)=(2:Int)∧(2:Int)≤(4294967296:Int))∧1=1)∧((0:Int)≤(0:Int)∧(0:Int)<(↑2:Int))∧((0:Int)≤(0:Int)∧(0:Int)<(↑(Int.toNat 2):Int))∧(1:Nat)≤(4294967296:Nat)∧((0:Int)≤(0:Int)∧(0:Int)<(↑(Int.toNat 2):Int))∧((0:Int)≤W (0+1)∧W (0+1)<(↑2:Int))∧((0:Int)≤(1:Int)∧(1:Int)<(↑(Int.toNat 2):Int))∧(1:Nat)≤(4294967296:Nat)∧((0:Int)≤(1:Int)∧(1:Int)<(↑(Int.toNat 2):Int))∧((2=2∧1=1∧1=1)∧((3:Int)=(3:Int)∧(2:Int)=(2:Int)∧(6:Int)=(6:Int)∧(0:Int)=(0:Int))∧(4:Int)=(4:Int)∧(5:Int)=(5:Int)∧(5:Int)=(5:Int)∧(0:Int)=(0:Int))∧((0:Int)≤(0:Int)∧(0:Int)<(↑2:Int))∧sW x24∧((0:Int)≤W (0+1)∧W (0+1)<(↑2:Int))∧sW (aZ 0 x24)∧(List.length (EGS.h (aZ 1 (aZ 0 x24))).1≤(4294967296:Nat)∧List.length (EGS.h (aZ 1 (aZ 0 x24))).2≤(4294967296:Nat))∧List.length (EGS.h (aZ 1 (aZ 0 x24))).2≤(4294967296:Nat)∧cT (zB y9 (aZ 1 (aZ 0 x24)) (HST.cl (EGS.h (aZ 1 (aZ 0 x24))))) (Hint.ok (zB y9 (aZ 1 (aZ 0 x24)) (HST.cl (EGS.h (aZ 1 (aZ 0 x24)))))) (.O::.O::.O::.O::.O::.O::.O::.ptr 1 0::.O::.O::.O::.tslice 2 0 0 3::(tO' 24 (.tslice 3 0 (List.length (EGS.h (aZ 1 (aZ 0 x24))).2) 9::.int .i64 (↑(List.length (EGS.h (aZ 1 (aZ 0 x24))).2):Int)::.int .i64 0::(tO' 15 [])))) [w5e,some (.abs (.engine (aZ 1 (aZ 0 x24))) []),some (.tab [some .i64,none,some .i64] []),some (.tab cK9 (EGS.h (aZ 1 (aZ 0 x24))).2)]∧ ∀(x:Nat),tc1 (EGS.h (aZ 1 (aZ 0 x24))).2 x→bif ilt (↑x:Int) (↑(List.length (EGS.h (aZ 1 (aZ 0 x24))).2):Int)then((0:Int)≤(↑x:Int)∧(↑x:Int)<(↑(List.length (EGS.h (aZ 1 (aZ 0 x24))).2):Int))∧0+Int.toNat (↑x:Int)<List.length (EGS.h (aZ 1 (aZ 0 x24))).2∧bif !ilt (List.headD (List.tail (List.getD (EGS.h (aZ 1 (aZ 0 x24))).2 (0+Int.toNat (↑x:Int)) [])) 0) 0 then(0=0∧lE' (eC (List.take x (EGS.h (aZ 1 (aZ 0 x24))).2))∧List.length (eC (List.take x (EGS.h (aZ 1 (aZ 0 x24))).2))+(1:Nat)≤(4294967296:Nat))∧cT (zB y9 (aZ 1 (aZ 0 x24)) (HST.cl (EGS.h (aZ 1 (aZ 0 x24))))) (fun x'=>Hint.ok (zB y9 (aZ 1 (aZ 0 x24)) (HST.cl (EGS.h (aZ 1 (aZ 0 x24))))) x'∧Hint.mu (zB y9 (aZ 1 (aZ 0 x24)) (HST.cl (EGS.h (aZ 1 (aZ 0 x24))))) x'<Hint.mu (zB y9 (aZ 1 (aZ 0 x24)) (HST.cl (EGS.h (aZ 1 (aZ 0 x24))))) x) (.O::.O::.O::.O::.O::.O::.O::.ptr 1 0::.O::.O::.O::.tslice 2 0 (List.length (eC (List.take x (EGS.h (aZ 1 (aZ 0 x24))).2))+1) 3::(tO' 24 (.tslice 3 0 (List.length (EGS.h (aZ 1 (aZ 0 x24))).2) 9::.int .i64 (↑(List.length (EGS.h (aZ 1 (aZ 0 x24))).2):Int)::.int .i64 (W ((↑x:Int)+1))::(tO' 15 [])))) [w5e,some (.abs (.engine (aZ 1 (aZ 0 x24))) []),some (.tab [some .i64,none,some .i64] (eC (List.take x (EGS.h (aZ 1 (aZ 0 x24))).2)++ [[List.headD (List.tail (List.tail (List.tail (List.tail (List.tail (List.tail (List.getD (EGS.h (aZ 1 (aZ 0 x24))).2 (0+Int.toNat (↑x:Int)) []))))))) 0,bif !ieq (List.headD (List.tail (List.tail (List.tail (List.tail (List.tail (List.tail (List.tail (List.getD (EGS.h (aZ 1 (aZ 0 x24))).2 (0+Int.toNat (↑x:Int)) [])))))))) 0) 0 then 1 else 0,List.headD (List.tail (List.tail (List.tail (List.tail (List.tail (List.tail (List.tail (List.tail (List.getD (EGS.h (aZ 1 (aZ 0 x24))).2 (0+Int.toNat (↑x:Int)) []))))))))) 0]])),some (.tab cK9 (EGS.h (aZ 1 (aZ 0 x24))).2)]else cT (zB y9 (aZ 1 (aZ 0 x24)) (HST.cl (EGS.h (aZ 1 (aZ 0 x24))))) (fun x'=>Hint.ok (zB y9 (aZ 1 (aZ 0 x24)) (HST.cl (EGS.h (aZ 1 (aZ 0 x24))))) x'∧Hint.mu (zB y9 (aZ 1 (aZ 0 x24)) (HST.cl (EGS.h (aZ 1 (aZ 0 x24))))) x'<Hint.mu (zB y9 (aZ 1 (aZ 0 x24)) (HST.cl (EGS.h (aZ 1 (aZ 0 x24))))) x) (.O::.O::.O::.O::.O::.O::.O::.ptr 1 0::.O::.O::.O::.tslice 2 0 (List.length (eC (List.take x (EGS.h (aZ 1 (aZ 0 x24))).2))) 3::(tO' 24 (.tslice 3 0 (List.length (EGS.h (aZ 1 (aZ 0 x24))).2) 9::.int .i64 (↑(List.length (EGS.h (aZ 1 (aZ 0 x24))).2):Int)::.int .i64 (W ((↑x:Int)+1))::(tO' 15 [])))) [w5e,some (.abs (.engine (aZ 1 (aZ 0 x24))) []),some (.tab [some .i64,none,some .i64] (eC (List.take x (EGS.h (aZ 1 (aZ 0 x24))).2))),some (.tab cK9 (EGS.h (aZ 1 (aZ 0 x24))).2)]else K (.tup [.ptr 1 0,.tslice 2 0 (List.length (eC (List.take x (EGS.h (aZ 1 (aZ 0 x24))).2))) 3,.int .i64 0]) [w5e,some (.abs (.engine (aZ 1 (aZ 0 x24))) []),some (.tab [some .i64,none,some .i64] (eC (List.take x (EGS.h (aZ 1 (aZ 0 x24))).2)))]
theorem KX(K:AVal→aC Ob→Prop)(h:HP K):cT' 20 [.agg [.int .i64 3,.int .i64 2,.int .i64 6,.int .i64 0],.slice 0 0 2 3] [some y9] (fV 1 K):=by
 exact aD (E:=EUt) Tryz.checked.mixed (L:=LRN (aZ 1 (aZ 0 x24))) (n:=10) (aK (by kernel_rfl) h)
theorem HQ(cl:List (List Int))(j:Nat)(hj:j<cl.length):eC (cl.take (j+1))=eC (cl.take j)++(bif !ilt (List.headD (List.tail (cl.getD j [])) 0) 0 then [QF (cl.getD j [])]else []):=by
 have e:cl.take (j+1)=cl.take j++ [cl.getD j []]:=by
  rw [List.take_succ_eq_append_getElem hj,gD',gE' hj];rfl
 unfold eC;rw [e,List.filter_append,List.map_append,List.filter_cons];cases (!ilt (List.headD (List.tail (cl.getD j [])) 0) 0)<;>rfl
theorem K6(cl:List (List Int)):(eC cl).length ≤cl.length:=by
 unfold eC;rw [List.length_map];exact List.length_filter_le _ _
theorem XI{cl:List (List Int)}{j:Nat}(hj:j<cl.length)(h:(!ilt (List.headD (List.tail (cl.getD j [])) 0) 0)=true):eC (cl.take (j+1))=eC (cl.take j)++ [QF (cl.getD j [])]:=by
 rw [HQ cl j hj,h];rfl
theorem XJ{cl:List (List Int)}{j:Nat}(hj:j<cl.length)(h:(!ilt (List.headD (List.tail (cl.getD j [])) 0) 0)=false):eC (cl.take (j+1))=eC (cl.take j):=by
 rw [HQ cl j hj,h];exact List.append_nil _
theorem aCl(K:AVal→aC Ob→Prop)(hK:K (.tup [.ptr 1 0,.tslice 2 0 (eC (aZ 1 (aZ 0 x24)).h.cl).length 3,.int .i64 0]) [some y9,some (.abs (.engine (aZ 1 (aZ 0 x24))) []),some (.tab PP (eC (aZ 1 (aZ 0 x24)).h.cl))]):HP K:=by
 have w0:egW 2 6 x24:=GM (by kernel_rfl)
 have w1:=QR 0 w0;have w2:=QR 1 w1;have hl:=uC w2;unfold HP;generalize aZ 1 (aZ 0 x24)=X at hl hK⊢;obtain⟨cl,hcl⟩: ∃cl,cl=X.h.cl:=⟨_,rfl⟩;have hl2:cl.length≤4294967296:=by rw [hcl];exact hl.2
 rw [←hcl]at hK;refine⟨by kernel_rfl,⟨⟨by decide,rfl,by decide⟩,rfl⟩,by decide,by decide,by decide,by decide,by decide,by decide,by decide,by decide,⟨⟨rfl,rfl,rfl⟩,⟨rfl,rfl,rfl,rfl⟩,rfl,rfl,rfl,rfl⟩,by decide,⟨⟨_,_,w0⟩⟩,by decide,⟨⟨_,_,w1⟩⟩,hl,hl.2,aP (H:=zB y9 X X.h.cl) (0:Nat) (by simp only [zB,List.take_zero]<;>rfl) ⟨Nat.zero_le _⟩,?_⟩
 rintro j ⟨hj⟩;have hj:j≤cl.length:=by rw [hcl];exact hj
 show bif ilt (j:Int) (X.h.cl.length:Int)then _ else _;rw [←hcl];refine bJ (fun a1=>?_) (fun a1=>?_)
 ·have a1:=f7 a1;have hjl:j<cl.length:=by omega
  have hle:(eC (cl.take j)).length ≤j:=Nat.le_trans (K6 _) (by rw [List.length_take];omega)
  refine⟨⟨by omega,a1⟩,by rw [Int.toNat_natCast,Nat.zero_add];exact hjl,?_⟩
  rw [Int.toNat_natCast,Nat.zero_add,W2 hjl hl2];refine bJ (fun b1=>⟨⟨rfl,rfl,by show(eC (cl.take j)).length +1≤_;omega⟩,?_⟩) (fun b1=>?_)
  ·have et:=XI hjl b1;refine aP (H:=zB y9 X cl) (j+1:Nat) ?_ ⟨⟨hjl⟩,by show cl.length - (j+1)<cl.length - j;omega⟩
   simp only [zB];rw [et,List.length_append];rfl
  ·have et:=XJ hjl b1;refine aP (H:=zB y9 X cl) (j+1:Nat) ?_ ⟨⟨hjl⟩,by show cl.length - (j+1)<cl.length - j;omega⟩
   simp only [zB];rw [et];rfl
 ·have a1:=gW a1;have hjl:j=cl.length:=by omega
  subst hjl;rw [List.take_length];exact hK
def y24:EGS:=aZ 1 (aZ 0 x24)
def s24S:aH Ob:=fun args h=>match args,h with
 | [.agg [.int .i64 sh,.int .i64 th,.int .i64 nd,.int .i64 tr],.slice 0 0 n 3],[some (.cells [.int .i64 a,.int .i64 b,.int .i64 c,.int .i64 d,.int .i64 e,.int .i64 f])]=>some (.pre ((sh=3∧th=2∧nd=6∧tr=0)∧n=2∧(a=0∧b=4∧c=5)∧d=1∧e=5∧f=0)
    (.ret (.tup [.ptr 1 0,.tslice 2 0 2 3,.int .i64 0]) [some y9,some (.abs (.engine y24) []),some (.tab PP [[0,1,0],[0,1,5]])]))
 | _,_=>none
theorem aCk:sT' 20 s24S:=by
 intro args h o ho K hK;unfold s24S at ho;split at ho<;>cases ho
 rename_i sh th nd tr n a b c d e f;obtain⟨⟨⟨rfl,rfl,rfl,rfl⟩,rfl,⟨rfl,rfl,rfl⟩,rfl,rfl,rfl⟩,hK⟩:=hK;have hK:K (.tup [.ptr 1 0,.tslice 2 0 2 3,.int .i64 0]) [some y9,some (.abs (.engine y24) []),some (.tab PP [[0,1,0],[0,1,5]])]:=hK;refine aGU (KX K (aCl K ?_));have e1:eC (aZ 1 (aZ 0 x24)).h.cl =[[0,1,0],[0,1,5]]:=by kernel_rfl
 rw [e1];exact hK
noncomputable def EUw:=EUt.addS 20 s24S aCk
def aDh(K:AVal→aC Ob→Prop):Prop:=(((3:Int)=(3:Int)∧(2:Int)=(2:Int)∧(6:Int)=(6:Int)∧(0:Int)=(0:Int))∧2=2∧((0:Int)=(0:Int)∧(4:Int)=(4:Int)∧(5:Int)=(5:Int))∧(1:Int)=(1:Int)∧(5:Int)=(5:Int)∧(0:Int)=(0:Int))∧((0:Int)≤(1:Int)∧(1:Int)<(↑2:Int))∧0+Int.toNat (1:Int)<List.length [[0,1,0],[0,1,5]]∧K (.bool false) []
theorem LZ(K:AVal→aC Ob→Prop)(h:aDh K):cT' 66 [] [] (fV 0 K):=by
 exact cM' (E:=EUw) (by kernel_rfl) h
def asS:aH Ob:=fun args h=>match args,h with
 | [],[]=>some (.ret (.bool false) [])
 | _,_=>none
theorem aDi:sT' 66 asS:=by
 intro args h o ho K hK;unfold asS at ho;split at ho
 case h_2=>cases ho
 simp only [sI']at ho;subst ho;exact aGU (LZ K ⟨⟨⟨rfl,rfl,rfl,rfl⟩,rfl,⟨rfl,rfl,rfl⟩,rfl,rfl,rfl⟩,by decide,by decide,hK⟩)
noncomputable def EUx:=((EUg.addS 42 onS aEL).addR 26 cfR Z4).addS 25 gn1S aBh
def aDm(sh th nd tr:Int)(m:Nat)(ln:Nat→Nat)(f g:Nat→Nat→Int)(K:AVal→aC Ob→Prop):Prop:=True∧(((m≤(1000000:Nat)∧gF fun i=>[.view (ln i) 2 fun j=>[.int .i64 (f i j),.int .i64 (g i j)]])∧gnC sh th nd tr m (vL fun i=>[.view (ln i) 2 fun j=>[.int .i64 (f i j),.int .i64 (g i j)]]) (vK fun i=>[.view (ln i) 2 fun j=>[.int .i64 (f i j),.int .i64 (g i j)]]) (vY fun i=>[.view (ln i) 2 fun j=>[.int .i64 (f i j),.int .i64 (g i j)]])=(0:Int))∧True)∧K (.ptr 0 0) [some (.abs (.engine (i9 sh th nd tr m (vL fun i=>[.view (ln i) 2 fun j=>[.int .i64 (f i j),.int .i64 (g i j)]]) (vK fun i=>[.view (ln i) 2 fun j=>[.int .i64 (f i j),.int .i64 (g i j)]]) (vY fun i=>[.view (ln i) 2 fun j=>[.int .i64 (f i j),.int .i64 (g i j)]]))) [])]
theorem L3(sh th nd tr:Int)(m:Nat)(ln:Nat→Nat)(f g:Nat→Nat→Int)(K:AVal→aC Ob→Prop)(h:aDm sh th nd tr m ln f g K):cT' 68 [.agg [.int .i64 sh,.int .i64 th,.int .i64 nd,.int .i64 tr,opsV m ln f g]] [] (fV 0 K):=by
 exact cM' (E:=EUx) (by kernel_rfl) h
def bgS:aH Ob:=fun args h=>match args,h with
 | [.agg [.int .i64 sh,.int .i64 th,.int .i64 nd,.int .i64 tr,.view m 1 vr]],[]=>some (.pre ((m≤1000000∧gF vr)∧gnC sh th nd tr m (vL vr) (vK vr) (vY vr)=0) (.ret (.ptr 0 0) (egH (i9 sh th nd tr m (vL vr) (vK vr) (vY vr)))))
 | _,_=>none
theorem aDn:sT' 68 bgS:=by
 intro args h o ho K hK;unfold bgS at ho;split at ho<;>cases ho
 rename_i sh th nd tr m vr;obtain⟨⟨⟨h1,⟨hr⟩⟩,h2⟩,hK⟩:=hK;have key:cT' 68 [.agg [.int .i64 sh,.int .i64 th,.int .i64 nd,.int .i64 tr,opsV m (vL vr) (vK vr) (vY vr)]] [] (fV 0 K):=L3 sh th nd tr m (vL vr) (vK vr) (vY vr) K ⟨trivial,⟨⟨⟨h1,⟨rfl⟩⟩,h2⟩,trivial⟩,hK⟩;have e:(AVal.view m 1 vr)=opsV m (vL vr) (vK vr) (vY vr):=congrArg (AVal.view m 1) hr;rw [e];exact aGU key
def row1(a b:Int)(_:Nat):List AVal:=[.int .i64 a,.int .i64 b]
def run1S:aH Ob:=fun args h=>match args,h with
 | [.ptr 0 0,.slice 1 0 n 2],[some (.abs (.engine x) []),some (.cells [.int .i64 p,.int .i64 q])]=>some (.pre (n=1∧sW x) (.ret (.int .i64 (runP x 0 (cU 1 (row1 p q))).2) [some (.abs (.engine (runP x 0 (cU 1 (row1 p q))).1) []),some (.cells [.int .i64 p,.int .i64 q])]))
 | _,_=>none
theorem W3 [c:Con]:sT' 27 run1S:=by
 intro args h o ho K hK;unfold run1S at ho;split at ho<;>cases ho
 rename_i n x p q;obtain⟨⟨rfl,hx⟩,hK⟩:=hK;have hK:K (.int .i64 (runP x 0 (cU 1 (row1 p q))).2) [some (.abs (.engine (runP x 0 (cU 1 (row1 p q))).1) []),some (.cells [.int .i64 p,.int .i64 q])]:=hK;refine aHC (args2:=[.ptr 0 0,.view 1 2 (row1 p q)]) yS X7 ?_ ?_
 ·intro c' hc V l hm hr;obtain⟨v0,l0,rfl,r0,v1,l1,rfl,r1,r2⟩:=hr;refine⟨v0,_,rfl,Rep.con hc _ _ r0,v1,_,rfl,?_,r2⟩;obtain⟨pp,p1,p2⟩:=hm 1 _ rfl rfl;refine qV (Rep.con hc _ _ r1) p1 p2 ?_ (Nat.le_refl _);intro i hi;refine⟨rfl,fun rs h=>?_⟩
  match i,hi with
  | 0,_=>exact h
  | i+1,hi=>omega
 ·intro c';have h1:=@u7 c' [.ptr 0 0,.view 1 2 (row1 p q)] [some (.abs (.engine x) [])] _ rfl (fun v g=>v=.int .i64 (runP x 0 (cU 1 (row1 p q))).2∧g=[some (.abs (.engine (runP x 0 (cU 1 (row1 p q))).1) [])]) ⟨⟨hx,by decide,⟨_,_,rfl⟩⟩,⟨rfl,rfl⟩⟩
  refine aHv h1 [0] rfl (by decide) (fun l hl=>by rw [nR,List.mem_singleton.1 hl];exact Nat.zero_lt_succ _) ?_ rfl ?_
  ·intro i l hi
   match i,hi with
   | 0,hi=>cases hi;rfl
   | i+1,hi=>simp at hi
  ·rintro v g ⟨rfl,rfl⟩ _;refine⟨rfl,rfl,?_,hK⟩;intro l hl hS
   match l,hl with
   | 0,_=>cases hS
   | 1,_=>rfl
   | l+2,hl=>simp at hl;omega
noncomputable def EUy:=(((EUx.addS 68 bgS aDn).addS 66 asS aDi).addS 27 (aH.or run1S runS) (aHi W3 u7))
def tsQ(x:EGS)(pt pm:Nat→Int):Nat→EGS
 | 0=>x
 | i+1=>(runP (tsQ x pt pm i) 0 (cU 1 (row1 (pt i) (pm i)))).1
def sZ(x:EGS)(pt pm:Nat→Int)(i:Nat):EGS:=tsQ x pt pm i
structure ts1 (n:Nat) (i:Nat):Prop where
 hi:i≤n
def GC(x:EGS)(n:Nat)(pt pm:Nat→Int)(ls:List Int):Hint Ob:= {X:=Nat,st:=fun i=>([.O,.O,.iview (some .u8) ls,.O,.O,.O,.O,.ptr 0 0,.ptr 1 0]++List.replicate 22 .O ++ [.view n 2 (pkW pt pm),.int .i64 (n:Int),.int .i64 (i:Int)]++List.replicate 47 .O,[some (.abs (.engine (sZ x pt pm i)) []),some (.abs (.engine (sZ x pt pm i)) [])]),ok:=ts1 n,mu:=fun i=>n - i,keep:=[2,7,8,31,32,33] }
def LTS(x:EGS)(n:Nat)(pt pm:Nat→Int)(ls:List Int):FuncId→Nat→Option (oN Ob):=fun _ k=>match k with
 | 9=>some (.states (GC x n pt pm ls))
 | _=>none
def XM(sh th nd tr:Int)(m:Nat)(ln:Nat→Nat)(f g:Nat→Nat→Int)(n:Nat)(pt pm:Nat→Int)(ls:List Int)(x:EGS)(K:AVal→aC Ob→Prop):Prop:=(gF fun i=>[.view (ln i) 2 fun j=>[.int .i64 (f i j),.int .i64 (g i j)]])∧bif GZ m n (vL fun i=>[.view (ln i) 2 fun j=>[.int .i64 (f i j),.int .i64 (g i j)]])then K (.bool true) []else(m≤(1000000:Nat)∧gF fun i=>[.view (ln i) 2 fun j=>[.int .i64 (f i j),.int .i64 (g i j)]])∧bif !ieq (gnC sh th nd tr m (vL fun i=>[.view (ln i) 2 fun j=>[.int .i64 (f i j),.int .i64 (g i j)]]) (vK fun i=>[.view (ln i) 2 fun j=>[.int .i64 (f i j),.int .i64 (g i j)]]) (vY fun i=>[.view (ln i) 2 fun j=>[.int .i64 (f i j),.int .i64 (g i j)]])) 0 then K (.bool true) []else bif ilt 60 (↑ls.length:Int)then K (.bool true) []else(((m≤(1000000:Nat)∧gF fun i=>[.view (ln i) 2 fun j=>[.int .i64 (f i j),.int .i64 (g i j)]])∧gnC sh th nd tr m (vL fun i=>[.view (ln i) 2 fun j=>[.int .i64 (f i j),.int .i64 (g i j)]]) (vK fun i=>[.view (ln i) 2 fun j=>[.int .i64 (f i j),.int .i64 (g i j)]]) (vY fun i=>[.view (ln i) 2 fun j=>[.int .i64 (f i j),.int .i64 (g i j)]])=(0:Int))∧True)∧(((m≤(1000000:Nat)∧gF fun i=>[.view (ln i) 2 fun j=>[.int .i64 (f i j),.int .i64 (g i j)]])∧gnC sh th nd tr m (vL fun i=>[.view (ln i) 2 fun j=>[.int .i64 (f i j),.int .i64 (g i j)]]) (vK fun i=>[.view (ln i) 2 fun j=>[.int .i64 (f i j),.int .i64 (g i j)]]) (vY fun i=>[.view (ln i) 2 fun j=>[.int .i64 (f i j),.int .i64 (g i j)]])=(0:Int))∧True)∧cT (GC x n pt pm ls) (Hint.ok (GC x n pt pm ls)) (.O::.O::.iview (some .u8) ls::.O::.O::.O::.O::.ptr 0 0::.ptr 1 0::(tO' 22 (.view n 2 (pkW pt pm)::.int .i64 (↑n:Int)::.int .i64 0::(tO' 47 [])))) [some (.abs (.engine (i9 sh th nd tr m (vL fun i=>[.view (ln i) 2 fun j=>[.int .i64 (f i j),.int .i64 (g i j)]]) (vK fun i=>[.view (ln i) 2 fun j=>[.int .i64 (f i j),.int .i64 (g i j)]]) (vY fun i=>[.view (ln i) 2 fun j=>[.int .i64 (f i j),.int .i64 (g i j)]]))) []),some (.abs (.engine (i9 sh th nd tr m (vL fun i=>[.view (ln i) 2 fun j=>[.int .i64 (f i j),.int .i64 (g i j)]]) (vK fun i=>[.view (ln i) 2 fun j=>[.int .i64 (f i j),.int .i64 (g i j)]]) (vY fun i=>[.view (ln i) 2 fun j=>[.int .i64 (f i j),.int .i64 (g i j)]]))) [])]∧ ∀(x_1:Nat),ts1 n x_1→bif ilt (↑x_1:Int) (↑n:Int)then((0:Int)≤(↑x_1:Int)∧(↑x_1:Int)<(↑n:Int))∧bif ilt (↑x_1:Int) (↑ls.length:Int)then((0:Int)≤(↑x_1:Int)∧(↑x_1:Int)<(↑ls.length:Int))∧(8:Int)≠(0:Int)∧((0:Int)≤(EGS.s (sZ x pt pm x_1)).2∧(EGS.s (sZ x pt pm x_1)).2≤(100000:Int))∧gV (sZ x pt pm x_1)∧gV (sZ x pt pm x_1)∧(List.length (EGS.h (sZ x pt pm x_1)).1≤(4294967296:Nat)∧List.length (EGS.h (sZ x pt pm x_1)).2≤(4294967296:Nat))∧hbOk (Int.tmod (W (List.getD ls (Int.toNat (↑x_1:Int)) 0)) 8) (sZ x pt pm x_1).6 1 0∧((0:Int)≤(↑x_1:Int)∧(↑x_1:Int)<(↑ls.length:Int))∧True∧((1=1∧sW (sZ x pt pm x_1))∧True)∧((1=1∧sW (sZ x pt pm x_1))∧True)∧bif !ieq (runP (sZ x pt pm x_1) 0 (cU 1 (row1 (pt (Int.toNat (↑x_1:Int))) (pm (Int.toNat (↑x_1:Int)))))).2 (runP (sZ x pt pm x_1) 0 (cU 1 (row1 (pt (Int.toNat (↑x_1:Int))) (pm (Int.toNat (↑x_1:Int)))))).2 then K (.bool false) []else cT (GC x n pt pm ls) (fun x'=>Hint.ok (GC x n pt pm ls) x'∧Hint.mu (GC x n pt pm ls) x'<Hint.mu (GC x n pt pm ls) x_1) (.O::.O::.iview (some .u8) ls::.O::.O::.O::.O::.ptr 0 0::.ptr 1 0::(tO' 22 (.view n 2 (pkW pt pm)::.int .i64 (↑n:Int)::.int .i64 (W ((↑x_1:Int)+1))::(tO' 47 [])))) [some (.abs (.engine (runP (sZ x pt pm x_1) 0 (cU 1 (row1 (pt (Int.toNat (↑x_1:Int))) (pm (Int.toNat (↑x_1:Int)))))).1) []),some (.abs (.engine (runP (sZ x pt pm x_1) 0 (cU 1 (row1 (pt (Int.toNat (↑x_1:Int))) (pm (Int.toNat (↑x_1:Int)))))).1) [])]else((1=1∧sW (sZ x pt pm x_1))∧True)∧((1=1∧sW (sZ x pt pm x_1))∧True)∧bif !ieq (runP (sZ x pt pm x_1) 0 (cU 1 (row1 (pt (Int.toNat (↑x_1:Int))) (pm (Int.toNat (↑x_1:Int)))))).2 (runP (sZ x pt pm x_1) 0 (cU 1 (row1 (pt (Int.toNat (↑x_1:Int))) (pm (Int.toNat (↑x_1:Int)))))).2 then K (.bool false) []else cT (GC x n pt pm ls) (fun x'=>Hint.ok (GC x n pt pm ls) x'∧Hint.mu (GC x n pt pm ls) x'<Hint.mu (GC x n pt pm ls) x_1) (.O::.O::.iview (some .u8) ls::.O::.O::.O::.O::.ptr 0 0::.ptr 1 0::(tO' 22 (.view n 2 (pkW pt pm)::.int .i64 (↑n:Int)::.int .i64 (W ((↑x_1:Int)+1))::(tO' 47 [])))) [some (.abs (.engine (runP (sZ x pt pm x_1) 0 (cU 1 (row1 (pt (Int.toNat (↑x_1:Int))) (pm (Int.toNat (↑x_1:Int)))))).1) []),some (.abs (.engine (runP (sZ x pt pm x_1) 0 (cU 1 (row1 (pt (Int.toNat (↑x_1:Int))) (pm (Int.toNat (↑x_1:Int)))))).1) [])]else(sZ x pt pm x_1=sZ x pt pm x_1∧O1 (sZ x pt pm x_1))∧K (.bool true) []
theorem QN(sh th nd tr:Int)(m:Nat)(ln:Nat→Nat)(f g:Nat→Nat→Int)(n:Nat)(pt pm:Nat→Int)(ls:List Int)(x:EGS)(K:AVal→aC Ob→Prop)(h:XM sh th nd tr m ln f g n pt pm ls x K):cT' 13 [.agg [.int .i64 sh,.int .i64 th,.int .i64 nd,.int .i64 tr,opsV m ln f g],.view n 2 (pkW pt pm),.iview (some .u8) ls] [] (fV 0 K):=by
 exact aD (E:=EUy) Tryz.checked.mixed (L:=LTS x n pt pm ls) (n:=10) (aK (by kernel_rfl) h)
theorem aEW{t n:Int}{x:EGS}(pt pm:Nat→Int)(hx:egW t n x): ∀i,egW t n (sZ x pt pm i):=by
 intro i
 induction i with
 | zero=>exact hx
 | succ i ih=>exact PZ _ _ 0 ih
theorem aCE{v:Int}(h:0≤v∧v<256):0≤Int.tmod (W v) 8∧Int.tmod (W v) 8<8:=by
 have e:W v=v:=cW ⟨by omega,by omega⟩
 rw [e,Int.tmod_eq_emod_of_nonneg h.1];omega
set_option maxRecDepth 10000 in
theorem aEX(sh th nd tr:Int)(m:Nat)(ln:Nat→Nat)(f g:Nat→Nat→Int)(n:Nat)(pt pm:Nat→Int)(ls:List Int)(K:AVal→aC Ob→Prop)(hls: ∀i,i<ls.length→0≤ls.getD i 0∧ls.getD i 0<256)(hK:K (.bool true) []):XM sh th nd tr m ln f g n pt pm ls (i9 sh th nd tr m ln f g) K:=by
 have e1:(vL fun i=>[.view (ln i) 2 fun j=>[.int .i64 (f i j),.int .i64 (g i j)]])=ln:=rfl;have e2:(vK fun i=>[.view (ln i) 2 fun j=>[.int .i64 (f i j),.int .i64 (g i j)]])=f:=rfl;have e3:(vY fun i=>[.view (ln i) 2 fun j=>[.int .i64 (f i j),.int .i64 (g i j)]])=g:=rfl;unfold XM;rw [e1,e2,e3];refine⟨⟨rfl⟩,bJ (fun _=>hK) (fun hg=>?_)⟩;obtain⟨hm,hnn⟩:=aEe hg;refine⟨⟨by omega,⟨rfl⟩⟩,bJ (fun _=>hK) (fun hc=>bJ (fun _=>hK) (fun _=>?_))⟩
 have hc0:gnC sh th nd tr m ln f g=0:=by
  rw [cL]at hc
  simpa using hc
 have hx:=GM hc0;generalize i9 sh th nd tr m ln f g=x at hx⊢;refine⟨⟨⟨⟨by omega,⟨rfl⟩⟩,hc0⟩,trivial⟩,⟨⟨⟨by omega,⟨rfl⟩⟩,hc0⟩,trivial⟩,aP (H:=GC x n pt pm ls) (0:Nat) rfl ⟨Nat.zero_le _⟩,?_⟩
 rintro i ⟨hi⟩;have hw:=aEW pt pm hx i;have hf:=AO hw;have ht:=hw.ht;have hn:=hw.hn;have sn:=hw.sn;have hk:=hw.k;rw [G7];refine bJ (fun a1=>?_) (fun a1=>⟨⟨rfl,⟨⟨_,_,hw⟩⟩⟩,hK⟩);have a1:=f7 a1;have hin:i<n:=by omega
 rw [Int.toNat_natCast,W2 hin (by omega)]
 refine⟨⟨by omega,a1⟩,bJ (fun b1=>?_) (fun b1=>?_)⟩
 ·have b1:=f7 b1;have hh:=YJ (th:=Int.tmod (W (List.getD ls i 0)) 8) 1 0 hw.h (by omega) (by omega) (aCE (hls i (by omega)))
  refine⟨⟨by omega,b1⟩,by decide,by omega,hf,hf,uC hw,aHa hh,⟨by omega,b1⟩,trivial,⟨⟨rfl,⟨⟨_,_,hw⟩⟩⟩,trivial⟩,⟨⟨rfl,⟨⟨_,_,hw⟩⟩⟩,trivial⟩,?_⟩
  exact aP (H:=GC x n pt pm ls) (i+1:Nat) rfl ⟨⟨hin⟩,by show n - (i+1)<n - i;omega⟩
 ·refine⟨⟨⟨rfl,⟨⟨_,_,hw⟩⟩⟩,trivial⟩,⟨⟨rfl,⟨⟨_,_,hw⟩⟩⟩,trivial⟩,?_⟩;exact aP (H:=GC x n pt pm ls) (i+1:Nat) rfl ⟨⟨hin⟩,by show n - (i+1)<n - i;omega⟩
theorem aE1{v:Int}(h:rF (some .u8) v):0≤v∧v<256:=by
 have h:(Lit.int .u8 v).wf =true:=h;have h1:IntKind.u8.min=0:=rfl;have h2:IntKind.u8.max=255:=rfl;simp only [Lit.wf,Bool.and_eq_true,dT',h1,h2]at h;omega
theorem aCD{l:List Int}(h: ∀x:Int,List.Mem x l→rF (some .u8) x): ∀i,i<l.length→0≤l.getD i 0∧l.getD i 0<256:=by
 intro i hi;refine aE1 (h _ ?_);rw [gD',gE' hi];exact List.getElem_mem hi
end Go.Sh
