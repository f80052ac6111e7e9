import Derived.Test.YteindpciaceeeaaGreatZSh35toSh36
set_option linter.all false
set_option maxHeartbeats 8000000
namespace Go.Sh
open Go Go.Proofs
variable [Con]
def aCJ:bH Ob:=fun args h=>match args,h with
 | [.ptr 0 0,.int .i64 th],[some (.abs (.engine x) [])]=>some (True,.I (dW th x))
 | _,_=>none
theorem XQ:sT' 33 aCJ.spec:=by
 intro args h o ho K hK;unfold bH.spec at ho;split at ho
 case h_2=>cases ho
 rename_i hv;unfold aCJ at hv;split at hv
 case h_2=>cases hv
 simp only [sI',pI']at hv;obtain⟨rfl,rfl⟩:=hv;simp only [sI']at ho;subst ho;exact QH _ _ _ rfl K hK
def aBj:bH Ob:=fun args h=>match args,h with
 | [.ptr 0 0],[some (.abs (.engine x) [])]=>some (True,.I x.k)
 | _,_=>none
theorem UQ:sT' 34 aBj.spec:=by
 intro args h o ho K hK;unfold bH.spec at ho;split at ho
 case h_2=>cases ho
 rename_i hv;unfold aBj at hv;split at hv
 case h_2=>cases hv
 simp only [sI',pI']at hv;obtain⟨rfl,rfl⟩:=hv;simp only [sI']at ho;subst ho;exact OA _ _ _ rfl K hK
def aA8:bH Ob:=fun args h=>match args,h with
 | [.ptr 0 0],[some (.abs (.engine x) [])]=>some (True,.agg [.I x.s.t,.I x.s.n])
 | _,_=>none
theorem UI:sT' 38 aA8.spec:=by
 intro args h o ho K hK;unfold bH.spec at ho;split at ho
 case h_2=>cases ho
 rename_i hv;unfold aA8 at hv;split at hv
 case h_2=>cases hv
 simp only [sI',pI']at hv;obtain⟨rfl,rfl⟩:=hv;simp only [sI']at ho;subst ho;exact NU _ _ _ rfl K hK
def aBi:bH Ob:=fun args h=>match args,h with
 | [.ptr 0 0,.int .i64 a],[some (.abs (.engine x) [])]=>some (True,.int .u64 (aF x.s.xs a))
 | _,_=>none
theorem UO:sT' 37 aBi.spec:=by
 intro args h o ho K hK;unfold bH.spec at ho;split at ho
 case h_2=>cases ho
 rename_i hv;unfold aBi at hv;split at hv
 case h_2=>cases hv
 simp only [sI',pI']at hv;obtain⟨rfl,rfl⟩:=hv;simp only [sI']at ho;subst ho;exact NY _ _ _ rfl K hK
def aCM:dB Ob:=fun args h=>match args,h with
 | [.ptr 0 0,.int .i64 th],[some (.abs (.engine x) [])]=>some (jA x,.slice 1 0 (gT th x).length 1,[.ints (some .i64) (gT th x)])
 | _,_=>none
theorem XU:sT' 32 aCM.spec:=by
 intro args h o ho K hK;unfold dB.spec at ho;split at ho
 case h_2=>cases ho
 rename_i hv;unfold aCM at hv;split at hv
 case h_2=>cases hv
 simp only [sI',pI']at hv;obtain⟨rfl,rfl,rfl⟩:=hv;simp only [sI']at ho;subst ho;exact QM _ _ _ rfl K hK
def aCL:dB Ob:=fun args h=>match args,h with
 | [.ptr 0 0,.int .i64 th],[some (.abs (.engine x) [])]=>some (jA x,.slice 1 0 (gQ th x).length 1,[.ints (some .i64) (gQ th x)])
 | _,_=>none
theorem XT:sT' 35 aCL.spec:=by
 intro args h o ho K hK;unfold dB.spec at ho;split at ho
 case h_2=>cases ho
 rename_i hv;unfold aCL at hv;split at hv
 case h_2=>cases hv
 simp only [sI',pI']at hv;obtain⟨rfl,rfl,rfl⟩:=hv;simp only [sI']at ho;subst ho;exact QL _ _ _ rfl K hK
def aCI:dB Ob:=fun args h=>match args,h with
 | [.ptr 0 0,.int .i64 th],[some (.abs (.engine x) [])]=>some (jA x,.slice 1 0 (gI th x).length 1,[.ints (some .i64) (gI th x)])
 | _,_=>none
theorem XP:sT' 69 aCI.spec:=by
 intro args h o ho K hK;unfold dB.spec at ho;split at ho
 case h_2=>cases ho
 rename_i hv;unfold aCI at hv;split at hv
 case h_2=>cases hv
 simp only [sI',pI']at hv;obtain⟨rfl,rfl,rfl⟩:=hv;simp only [sI']at ho;subst ho;exact QF _ _ _ rfl K hK
def aA6:dB Ob:=fun args h=>match args,h with
 | [.ptr 0 0],[some (.abs (.engine x) [])]=>some (x.h.ev.length≤4294967296∧x.h.cl.length≤4294967296,.ptr 1 0,[.abs (.hist x.h) []])
 | _,_=>none
theorem UF:sT' 28 aA6.spec:=by
 intro args h o ho K hK;unfold dB.spec at ho;split at ho
 case h_2=>cases ho
 rename_i hv;unfold aA6 at hv;split at hv
 case h_2=>cases hv
 simp only [sI',pI']at hv;obtain⟨rfl,rfl,rfl⟩:=hv;simp only [sI']at ho;subst ho;exact NP _ _ _ rfl K hK
def aA7:dB Ob:=fun args h=>match args,h with
 | [.ptr 0 0],[some (.abs (.engine x) [])]=>some (0≤x.s.n∧x.s.n≤100000,.slice 1 0 (dX x).length 1,[.ints (some .i64) (dX x)])
 | _,_=>none
theorem UG:sT' 55 aA7.spec:=by
 intro args h o ho K hK;unfold dB.spec at ho;split at ho
 case h_2=>cases ho
 rename_i hv;unfold aA7 at hv;split at hv
 case h_2=>cases hv
 simp only [sI',pI']at hv;obtain⟨rfl,rfl,rfl⟩:=hv;simp only [sI']at ho;subst ho;exact NR _ _ _ rfl K hK
noncomputable def EUe0:=((((((((((EUd.addR 33 aCJ XQ).addR 34 aBj UQ).addR 38 aA8 UI).addR 37 aBi UO)).addN 32 aCM XU).addN 35 aCL XT).addN 69 aCI XP).addN 28 aA6 UF).addN 55 aA7 UG)
noncomputable def EUe:oO Ob Tryz.prog:= {EUe0 with fld:=FT tbl Tryz.prog,fldOk:=fun t l off h v hk V hR w b k hi hV=>KK t l off h v hk V hR w b k hi hV}
theorem NO{t n:Int}{x:EGS}(h:egW t n x):jA x:=by
 have hk:=h.k;refine⟨by have:=h.l;have:=h.ht;omega,fun i hi=>?_,fun i hi=>?_,fun i hi=>?_⟩
 ·have h1:=(h.ws i hi).tl;have:=(h.ws i hi).e1;have:=(h.ws i hi).tk;cases hb:(bB x.ws i).b with
  | true=>
    rw [hb]at h1;have h1:((bB x.ws i).tl.length :Int)=(bB x.ws i).en +1:=h1;omega
  | false=>
    rw [hb]at h1;have h1:((bB x.ws i).tl.length :Int)=(bB x.ws i).en +0:=h1;omega
 ·have:=(h.ws i hi).sl;have:=(h.ws i hi).e1;have:=(h.ws i hi).tk;omega
 ·have:=(h.ws i hi).st.3;omega
theorem qE{t n:Int}{x:EGS}(h:egW t n x):x.h.ev.length≤4294967296∧x.h.cl.length≤4294967296:=by
 have:=h.h.he;have:=h.h.hc;have hk:=h.k;exact⟨by omega,by omega⟩
end Go.Sh
namespace Go.Sh
open Go Go.Proofs
theorem kG{b:Bool}{x y:aC Mc}(hx:cQ x=true)(hy:cQ y=true):cQ (bif b then x else y)=true:=by cases b<;>assumption
theorem wZ{A:Type}(ws:List (Option A)): ∀k,aHT (rowC k ws)=true:=by
 induction ws with
 | nil=>intro k;rfl
 | cons w ws ih=>
   intro k;cases w with
   | none=>exact ih (k+1)
   | some t=>exact ih (k+1)
theorem PG(v:AVal)(hv:v.noV=true)(l:List AVal): ∀i,aHT l=true→aHT (l.set i v)=true:=by
 induction l with
 | nil=>intro i h;exact h
 | cons a l ih=>
   intro i h;obtain⟨h1,h2⟩:=Bool.and_eq_true_iff.1 h;cases i with
   | zero=>exact Bool.and_eq_true_iff.2 ⟨hv,h2⟩
   | succ i=>exact Bool.and_eq_true_iff.2 ⟨h1,ih i h2⟩
theorem CU{A:Type}(ws:List (Option A)):cQ (QK ws)=true:=by
 induction ws with
 | nil=>rfl
 | cons w ws ih=>cases w<;>exact ih
theorem W7{A:Type}(h:aC A): ∀i,cQ h=true→cQ (h.set i none)=true:=by
 induction h with
 | nil=>intro i hh;exact hh
 | cons e h ih=>
   intro i hh;unfold cQ at hh⊢;rw [List.all_cons,Bool.and_eq_true]at hh;cases i with
   | zero=>rw [List.set_cons_zero,List.all_cons,Bool.and_eq_true];exact⟨rfl,hh.2⟩
   | succ i=>rw [List.set_cons_succ,List.all_cons,Bool.and_eq_true];exact⟨hh.1,ih i hh.2⟩
theorem y9(t:Mc):cQ (tbl t).2=true:=by
 cases t with
 | sweep t n y=>show cQ (LH t n y)=true;unfold LH;split<;>rfl
 | ensure t n e=>show cQ (DN t n e)=true;unfold DN;split<;>rfl
 | find t n x=>show cQ (uL t n x)=true;unfold uL;exact kG rfl rfl
 | fast t n x=>show cQ (mZ t n x)=true;unfold mZ;exact kG rfl (kG rfl (kG rfl rfl))
 | help t n x=>show cQ (kC t n x)=true;unfold kC;exact kG rfl (kG rfl (kG rfl (kG rfl (kG rfl rfl))))
 | doer t n x=>
   show cQ (eB t n x)=true;unfold eB
   repeat' (first | apply kG | rfl)
 | worker w=>show cQ (wkG w)=true;unfold wkG;exact kG rfl rfl
 | wrow ws=>
   show cQ (rowE (ws.map fun w=>some (Mc.worker w)))=true;unfold rowE cQ;rw [List.all_cons,Bool.and_eq_true];exact⟨wZ _ 1,CU _⟩
 | whole ws i=>
   show cQ (kU (ws.map fun w=>some (Mc.worker w)) i)=true;unfold kU cQ;rw [List.all_cons,List.all_cons,Bool.and_eq_true,Bool.and_eq_true];exact⟨PG _ rfl _ i (wZ _ 2),rfl,W7 _ i (CU _)⟩
 | _=>rfl
variable [c:Con]
def row2(a b c d:Int)(i:Nat):List AVal:=[.I (bif Nat.beq i 0 then a else c),.I (bif Nat.beq i 0 then b else d)]
def runLS:aH Ob:=fun args h=>match args,h with
 | [.ptr 0 0,.slice 1 0 n 2],[some (.abs (.engine x) []),some (.cells [.int .i64 p,.int .i64 q,.int .i64 r,.int .i64 s])]=>some (.pre (n=2∧uF x) (.ret (.I (runP x 0 (bT 2 (row2 p q r s))).2) [some (.abs (.engine (runP x 0 (bT 2 (row2 p q r s))).1) []),cE' [.I p,.I q,.I r,.I s]]))
 | _,_=>none
def Y0(i:Nat):Bool:= !(Nat.beq i 1)
theorem XW:sT' 27 runLS:=by
 intro args h o ho K hK;unfold runLS at ho;split at ho<;>cases ho
 rename_i n x p q r s;obtain⟨⟨rfl,hx⟩,hK⟩:=hK;have hK:K (.I (runP x 0 (bT 2 (row2 p q r s))).2) [some (.abs (.engine (runP x 0 (bT 2 (row2 p q r s))).1) []),cE' [.I p,.I q,.I r,.I s]]:=hK;refine aH7 (args2:=[.ptr 0 0,.view 2 2 (row2 p q r s)]) y9 Y0 ?_ ?_
 ·intro c' hc V l hm hr;obtain⟨v0,l0,rfl,r0,v1,l1,rfl,r1,r2⟩:=hr;refine⟨v0,_,rfl,Rep.con hc _ _ r0,v1,_,rfl,?_,r2⟩;obtain⟨pp,p1,p2⟩:=hm 1 _ rfl rfl;refine qY (Rep.con hc _ _ r1) p1 p2 ?_ (Nat.le_refl _);intro i hi;refine⟨rfl,fun rs h=>?_⟩
  match i,hi with
  | 0,_=>exact h
  | 1,_=>exact h
  | i+2,hi=>omega
 ·intro c';have h1:=@vC c' [.ptr 0 0,.view 2 2 (row2 p q r s)] [some (.abs (.engine x) [])] _ rfl (fun v g=>v=.I (runP x 0 (bT 2 (row2 p q r s))).2∧g=[some (.abs (.engine (runP x 0 (bT 2 (row2 p q r s))).1) [])]) ⟨⟨hx,by decide,⟨_,_,rfl⟩⟩,⟨rfl,rfl⟩⟩
  refine aH0 h1 [0] rfl (by decide) (fun l hl=>by rw [nT,List.mem_singleton.1 hl];exact Nat.zero_lt_succ _) ?_ rfl ?_
  ·intro i l hi
   match i,hi with
   | 0,hi=>cases hi;rfl
   | i+1,hi=>simp at hi
  ·rintro v g ⟨rfl,rfl⟩ _;refine⟨rfl,rfl,?_,hK⟩;intro l hl hS
   match l,hl with
   | 0,_=>cases hS
   | 1,_=>rfl
   | l+2,hl=>simp at hl;omega
def DP(a c:Int)(i:Nat):Int:=bif Nat.beq i 0 then a else c
def newLS:aH Ob:=fun args h=>match args,h with
 | [.agg [.int .i64 sh,.int .i64 th,.int .i64 nd,.int .i64 tr],.slice 0 0 n 1],[some (.cells [.slice 1 0 n1 2,.slice 2 0 n2 2]),some (.cells [.int .i64 p,.int .i64 q]),some (.cells [.int .i64 r,.int .i64 s])]=>some (.pre ((n=2∧n1=1∧n2=1)∧gnC sh th nd tr 2 (fun _=>1) (fun i _=>DP p r i) (fun i _=>DP q s i)=0)
    (.ret (.tup [.ptr 3 0,.I 0]) [cE' [.slice 1 0 1 2,.slice 2 0 1 2],cE' [.I p,.I q],cE' [.I r,.I s],some (.abs (.engine (kP sh th nd tr 2 (fun _=>1) (fun i _=>DP p r i) (fun i _=>DP q s i))) [])]))
 | _,_=>none
def vr2(p q r s:Int)(i:Nat):List AVal:=[.view 1 2 (fun _=>[.I (DP p r i),.I (DP q s i)])]
theorem yI:sT' 25 newLS:=by
 intro args h o ho K hK;unfold newLS at ho;split at ho<;>cases ho
 rename_i sh th nd tr n n1 n2 p q r s;obtain⟨⟨⟨rfl,rfl,rfl⟩,hg⟩,hK⟩:=hK;have hK:K (.tup [.ptr 3 0,.I 0]) [cE' [.slice 1 0 1 2,.slice 2 0 1 2],cE' [.I p,.I q],cE' [.I r,.I s],some (.abs (.engine (kP sh th nd tr 2 (fun _=>1) (fun i _=>DP p r i) (fun i _=>DP q s i))) [])]:=hK;refine aH7 (args2:=[.agg [.I sh,.I th,.I nd,.I tr],.view 2 1 (vr2 p q r s)]) y9 (fun _=>false) ?_ ?_
 ·intro c' hc V l hm hr;obtain⟨v0,l0,rfl,r0,v1,l1,rfl,r1,r2⟩:=hr;refine⟨v0,_,rfl,Rep.con hc _ _ r0,v1,_,rfl,?_,r2⟩;obtain⟨p0,a1,a2⟩:=hm 0 _ rfl rfl;obtain⟨p1,b1,b2⟩:=hm 1 _ rfl rfl;obtain⟨p2,d1,d2⟩:=hm 2 _ rfl rfl;refine qY (Rep.con hc _ _ r1) a1 a2 ?_ (Nat.le_refl _);intro i hi;refine⟨rfl,fun rs h=>?_⟩
  match i,hi with
  | 0,_=>
    obtain⟨y,ys,rfl,y1,y2⟩:=h;refine⟨y,ys,rfl,?_,y2⟩
    have y3: @Rep c' V (.view 1 2 (fun _=>[.I p,.I q])) y:=qY y1 b1 b2 (fun j hj=>⟨rfl,fun rs h=>by
     match j,hj with
     | 0,_=>exact h
     | j+1,hj=>omega⟩) (Nat.le_refl _)
    exact y3
  | 1,_=>
    obtain⟨y,ys,rfl,y1,y2⟩:=h;refine⟨y,ys,rfl,?_,y2⟩
    have y3: @Rep c' V (.view 1 2 (fun _=>[.I r,.I s])) y:=qY y1 d1 d2 (fun j hj=>⟨rfl,fun rs h=>by
     match j,hj with
     | 0,_=>exact h
     | j+1,hj=>omega⟩) (Nat.le_refl _)
    exact y3
  | i+2,hi=>omega
 ·intro c'
  have h1:=@wV c' [.agg [.I sh,.I th,.I nd,.I tr],.view 2 1 (vr2 p q r s)] [] _ rfl (fun v g=>v=.tup [.ptr 0 0,.I 0]∧g=[some (.abs (.engine (kP sh th nd tr 2 (fun _=>1) (fun i _=>DP p r i) (fun i _=>DP q s i))) [])]) ⟨⟨by decide,⟨rfl⟩⟩,by
   show(mK sh th nd tr 2 (fun _=>1) (fun i _=>DP p r i) (fun i _=>DP q s i)).run _;unfold mK;rw [hg];exact⟨rfl,rfl⟩⟩
  refine aH0 h1 [] rfl (by decide) (fun l hl=>by cases hl) ?_ rfl ?_
  ·intro i l hi;simp at hi
  ·rintro v g ⟨rfl,rfl⟩ _;refine⟨rfl,rfl,?_,hK⟩;intro l hl hS
   match l,hl with
   | 0,_=>rfl
   | 1,_=>rfl
   | 2,_=>rfl
   | l+3,hl=>simp at hl;omega
end Go.Sh
namespace Go.Sh
open Go Go.Proofs
variable [Con]
def HG(m n:Nat)(ln:Nat→Nat):Bool:=bif ilt 10 (m:Int)then true else bif ilt 60 (n:Int)then true else(List.range m).any (fun i=>ilt 50 (ln i:Int))
structure gr1 (m:Nat) (ln:Nat→Nat) (x:Nat):Prop where
 hi:x≤m
 hl: ∀j,j<x→ilt 50 (ln j:Int)=false
def SE(m:Nat)(ln:Nat→Nat)(f g:Nat→Nat→Int):Hint Ob:= {X:=Nat,st:=fun x=>(List.replicate 17 .O ++ [opsV m ln f g,.I (m:Int),.I (x:Int)]++List.replicate 7 .O,[]),ok:=gr1 m ln,mu:=fun x=>m - x,keep:=[17,18,19] }
def LGR(m:Nat)(ln:Nat→Nat)(f g:Nat→Nat→Int):FuncId→Nat→Option (oP Ob):=fun _ k=>match k with
 | 4=>some (.states (SE m ln f g))
 | _=>none
def VG(sh th nd tr:Int)(m:Nat)(ln:Nat→Nat)(f g:Nat→Nat→Int)(n:Nat)(row:Nat→List AVal)(K:AVal→aC Ob→Prop):Prop:=bif ilt 10 (↑m:Int)then K (.bool true) []else bif ilt 60 (↑n:Int)then K (.bool true) []else cW (SE m ln f g) (Hint.ok (SE m ln f g)) (tO' 17 [(.view m 1 fun i=>[.view (ln i) 2 fun j=>[.I (f i j),.I (g i j)]]),.I (↑m:Int),.I 0,.O,.O,.O,.O,.O,.O,.O]) []∧ ∀(x:Nat),gr1 m ln x→bif ilt (↑x:Int) (↑m:Int)then((0:Int)≤(↑x:Int)∧(↑x:Int)<(↑m:Int))∧bif ilt 50 (↑(ln (Int.toNat (↑x:Int))):Int)then K (.bool true) []else cW (SE m ln f g) (fun x'=>Hint.ok (SE m ln f g) x'∧Hint.mu (SE m ln f g) x'<Hint.mu (SE m ln f g) x) (tO' 17 [(.view m 1 fun i=>[.view (ln i) 2 fun j=>[.I (f i j),.I (g i j)]]),.I (↑m:Int),.I (W ((↑x:Int)+1)),.O,.O,.O,.O,.O,.O,.O]) []else K (.bool false) []
theorem OQ(sh th nd tr:Int)(m:Nat)(ln:Nat→Nat)(f g:Nat→Nat→Int)(n:Nat)(row:Nat→List AVal)(K:AVal→aC Ob→Prop)(h:VG sh th nd tr m ln f g n row K):cT' 23 [.agg [.I sh,.I th,.I nd,.I tr,opsV m ln f g],.view n 2 row] [] (fZ 0 K):=by
 exact aD (E:=EUe) Tryz.checked.mixed (L:=LGR m ln f g) (n:=10) (aK (by kernel_rfl) h)
abbrev US:List Code1:=[some .i64,none,some .i64,some .i64,some .i64,none,some .i64]
structure sm1 (ev:List (List Int)) (x:Nat):Prop where
 hi:x≤ev.length
def SI(y:HST)(ev:List (List Int)):Hint Ob:= {X:=Nat,st:=fun x=>([.ptr 0 0,.ptr 1 0,.O,.O,.O,.tslice 2 0 ev.length 7,.tslice 3 0 ev.length 7]++List.replicate 11 .O ++ [.I (ev.length:Int),.I (x:Int)]++List.replicate 12 .O,[some (.abs (.hist y) []),some (.abs (.hist y) []),some (.tab US ev),some (.tab US ev)]),ok:=sm1 ev,mu:=fun x=>ev.length - x,keep:=[0,1,5,6,18,19] }
def LSM(y:HST)(ev:List (List Int)):FuncId→Nat→Option (oP Ob):=fun _ k=>match k with
 | 5=>some (.states (SI y ev))
 | _=>none
abbrev w5a(x:HST):Option (aJ Ob):=some (.abs (.hist x) [])
def XY(x:HST)(K:AVal→aC Ob→Prop):Prop:=x.1.length≤(4294967296:Nat)∧x.1.length≤(4294967296:Nat)∧bif !ieq (↑x.1.length:Int) (↑x.1.length:Int)then K (.bool false) [w5a x,w5a x]else cW (SI x (HST.ev x)) (Hint.ok (SI x (HST.ev x))) [.ptr 0 0,.ptr 1 0,.O,.O,.O,.tslice 2 0 x.1.length 7,.tslice 3 0 x.1.length 7,.O,.O,.O,.O,.O,.O,.O,.O,.O,.O,.O,.I (↑x.1.length:Int),.I 0,.O,.O,.O,.O,.O,.O,.O,.O,.O,.O,.O,.O] [w5a x,w5a x,some (.tab cK7 x.1),some (.tab cK7 x.1)]∧ ∀(x_1:Nat),sm1 x.1 x_1→bif ilt (↑x_1:Int) (↑x.1.length:Int)then((0:Int)≤(↑x_1:Int)∧(↑x_1:Int)<(↑x.1.length:Int))∧0+Int.toNat (↑x_1:Int)<x.1.length∧((0:Int)≤(↑x_1:Int)∧(↑x_1:Int)<(↑x.1.length:Int))∧0+Int.toNat (↑x_1:Int)<x.1.length∧bif !bif ieq (List.headD (List.getD x.1 (0+Int.toNat (↑x_1:Int)) []) 0) (List.headD (List.getD x.1 (0+Int.toNat (↑x_1:Int)) []) 0)then bif bif !ieq (List.headD (List.tail (List.getD x.1 (0+Int.toNat (↑x_1:Int)) [])) 0) 0 then !ieq (List.headD (List.tail (List.getD x.1 (0+Int.toNat (↑x_1:Int)) [])) 0) 0 else !!ieq (List.headD (List.tail (List.getD x.1 (0+Int.toNat (↑x_1:Int)) [])) 0) 0 then bif bif ieq (List.headD (List.tail (List.tail (List.getD x.1 (0+Int.toNat (↑x_1:Int)) []))) 0) (List.headD (List.tail (List.tail (List.getD x.1 (0+Int.toNat (↑x_1:Int)) []))) 0)then bif ieq (List.headD (List.tail (List.tail (List.tail (List.getD x.1 (0+Int.toNat (↑x_1:Int)) [])))) 0) (List.headD (List.tail (List.tail (List.tail (List.getD x.1 (0+Int.toNat (↑x_1:Int)) [])))) 0)then true else false else false then bif bif ieq (List.headD (List.tail (List.tail (List.tail (List.tail (List.getD x.1 (0+Int.toNat (↑x_1:Int)) []))))) 0) (List.headD (List.tail (List.tail (List.tail (List.tail (List.getD x.1 (0+Int.toNat (↑x_1:Int)) []))))) 0)then bif bif !ieq (List.headD (List.tail (List.tail (List.tail (List.tail (List.tail (List.getD x.1 (0+Int.toNat (↑x_1:Int)) [])))))) 0) 0 then !ieq (List.headD (List.tail (List.tail (List.tail (List.tail (List.tail (List.getD x.1 (0+Int.toNat (↑x_1:Int)) [])))))) 0) 0 else !!ieq (List.headD (List.tail (List.tail (List.tail (List.tail (List.tail (List.getD x.1 (0+Int.toNat (↑x_1:Int)) [])))))) 0) 0 then bif ieq (List.headD (List.tail (List.tail (List.tail (List.tail (List.tail (List.tail (List.getD x.1 (0+Int.toNat (↑x_1:Int)) []))))))) 0) (List.headD (List.tail (List.tail (List.tail (List.tail (List.tail (List.tail (List.getD x.1 (0+Int.toNat (↑x_1:Int)) []))))))) 0)then true else false else false else false then true else false else false else false else false then K (.bool false) [w5a x,w5a x]else cW (SI x (HST.ev x)) (fun x'=>Hint.ok (SI x (HST.ev x)) x'∧Hint.mu (SI x (HST.ev x)) x'<Hint.mu (SI x (HST.ev x)) x_1) [.ptr 0 0,.ptr 1 0,.O,.O,.O,.tslice 2 0 x.1.length 7,.tslice 3 0 x.1.length 7,.O,.O,.O,.O,.O,.O,.O,.O,.O,.O,.O,.I (↑x.1.length:Int),.I (W ((↑x_1:Int)+1)),.O,.O,.O,.O,.O,.O,.O,.O,.O,.O,.O,.O] [w5a x,w5a x,some (.tab cK7 x.1),some (.tab cK7 x.1)]else K (.bool true) [w5a x,w5a x]
theorem QS(x:HST)(K:AVal→aC Ob→Prop)(h:XY x K):cT' 99 [.ptr 0 0,.ptr 1 0] [some (.abs (.hist x) []),some (.abs (.hist x) [])] (fZ 2 K):=by
 exact aD (E:=EUe) Tryz.checked.mixed (L:=LSM x x.ev) (n:=10) (aK (by kernel_rfl) h)
theorem aBP{m n:Nat}{ln:Nat→Nat}(h:ilt 10 (m:Int)=true):HG m n ln=true:=by unfold HG;rw [h];rfl
theorem aBR{m n:Nat}{ln:Nat→Nat}(h:ilt 10 (m:Int)=false)(h2:ilt 60 (n:Int)=true):HG m n ln=true:=by unfold HG;rw [h,h2];rfl
theorem aBQ{m n:Nat}{ln:Nat→Nat}(h:ilt 10 (m:Int)=false)(h2:ilt 60 (n:Int)=false){i:Nat}(hi:i<m)(h3:ilt 50 (ln i:Int)=true):HG m n ln=true:=by
 unfold HG;rw [h,h2];exact List.any_eq_true.2 ⟨i,List.mem_range.2 hi,h3⟩
theorem aBS{m n:Nat}{ln:Nat→Nat}(h:ilt 10 (m:Int)=false)(h2:ilt 60 (n:Int)=false)(h3: ∀i,i<m→ilt 50 (ln i:Int)=false):HG m n ln=false:=by
 unfold HG;rw [h,h2];show(List.range m).any _=false;rw [List.any_eq_false];intro i hi;rw [h3 i (List.mem_range.1 hi)];simp
theorem aEE{m n:Nat}{ln:Nat→Nat}(h:HG m n ln=false):m≤10∧n≤60:=by
 unfold HG at h;cases h1:ilt 10 (m:Int)with
 | true=>rw [h1]at h;cases h
 | false=>
   cases h2:ilt 60 (n:Int)with
   | true=>rw [h1,h2]at h;cases h
   | false=>have:=gA h1;have:=gA h2;omega
theorem aEG(sh th nd tr:Int)(m:Nat)(ln:Nat→Nat)(f g:Nat→Nat→Int)(n:Nat)(row:Nat→List AVal)(K:AVal→aC Ob→Prop)(hK:K (.bool (HG m n ln)) []):VG sh th nd tr m ln f g n row K:=by
 have key: ∀c,HG m n ln=c→K (.bool c) []:=fun c e=>by rw [←e];exact hK
 unfold VG;refine bJ (fun e1=>key true (aBP e1)) (fun e1=>?_);refine bJ (fun e2=>key true (aBR e1 e2)) (fun e2=>?_);have m10:=gA e1;refine⟨aQ (H:=SE m ln f g) (0:Nat) rfl ⟨Nat.zero_le _,fun j hj=>absurd hj (Nat.not_lt_zero _)⟩,?_⟩;rintro x ⟨hx,hxl⟩;refine bJ (fun a1=>?_) (fun a1=>?_)
 ·have a1:=fV a1;have hxm:x<m:=by omega
  rw [Int.toNat_natCast];refine⟨⟨by omega,by omega⟩,bJ (fun a2=>key true (aBQ e1 e2 hxm a2)) (fun a2=>?_)⟩
  rw [W1 hxm (by omega)]
  refine aQ (H:=SE m ln f g) (x+1:Nat) rfl ⟨⟨hxm,fun j hj=>?_⟩,by show m - (x+1)<m - x;omega⟩
  by_cases e:j=x
  ·subst e;exact a2
  ·exact hxl j (by omega)
 ·have a1:=gA a1;exact key false (aBS e1 e2 (fun i hi=>hxl i (by omega)))
def grS:aH Ob:=fun args h=>match args,h with
 | [.agg [.int .i64 sh,.int .i64 th,.int .i64 nd,.int .i64 tr,.view m 1 vr],.view n 2 row],[]=>some (.pre (eX vr) (.ret (.bool (HG m n (vL vr))) []))
 | _,_=>none
theorem aEF:sT' 23 grS:=by
 intro args h o ho K hK;unfold grS at ho;split at ho<;>cases ho
 rename_i sh th nd tr m vr n row;obtain⟨⟨hr⟩,hK⟩:=hK;rw [hr];exact aHp (OQ sh th nd tr m (vL vr) (vK vr) (vY vr) n row K (aEG sh th nd tr m (vL vr) (vK vr) (vY vr) n row K hK))
theorem HP(a:Int):ieq a a=true:=by rw [cN];exact decide_eq_true rfl
theorem W2{i:Nat}{m:Nat}(hi:i<m)(hm:m≤4294967296):W ((i:Int)+1)=((i+1:Nat):Int):=by
 have:=cV (x:=(i:Int)+1) ⟨by omega,by omega⟩
 exact this.trans (by omega)
theorem MM(b:Bool):(bif b then b else !b)=true:=by cases b<;>rfl
theorem aFo(x:HST)(K:AVal→aC Ob→Prop)(hl:x.ev.length≤4294967296)(hK:K (.bool true) [some (.abs (.hist x) []),some (.abs (.hist x) [])]):XY x K:=by
 unfold XY;refine⟨hl,hl,?_⟩;rw [HP];refine⟨aQ (H:=SI x x.ev) (0:Nat) rfl ⟨Nat.zero_le _⟩,?_⟩;rintro i ⟨hi⟩;refine bJ (fun a1=>?_) (fun a1=>hK);have a1:=fV a1;have hil:i<x.ev.length:=by omega
 refine⟨⟨by omega,a1⟩,by show 0+Int.toNat ((i:Nat):Int)<_;rw [Int.toNat_natCast];omega,⟨by omega,a1⟩,by show 0+Int.toNat ((i:Nat):Int)<_;rw [Int.toNat_natCast];omega,?_⟩
 simp only [HP,MM,cond_true,Bool.not_true,cond_false];rw [W2 hil hl];exact aQ (H:=SI x x.ev) (i+1:Nat) rfl ⟨⟨hil⟩,by show x.ev.length - (i+1)<x.ev.length - i;omega⟩
def smR:bH Ob:=fun args h=>match args,h with
 | [.ptr 0 0,.ptr 1 0],[some (.abs (.hist x) []),some (.abs (.hist y) [])]=>some (x=y∧x.ev.length≤4294967296,.bool true)
 | _,_=>none
theorem aCR:sT' 99 smR.spec:=by
 intro args h o ho K hK;unfold bH.spec at ho;split at ho
 case h_2=>cases ho
 rename_i p v hv;unfold smR at hv;split at hv
 case h_2=>cases hv
 rename_i x y;simp only [sI',pI']at hv;obtain⟨rfl,rfl⟩:=hv;simp only [sI']at ho;subst ho;obtain⟨⟨rfl,hl⟩,hK⟩:=hK;exact aHp (QS x K (aFo x K hl hK))
noncomputable def EUf:=(EUe.addS 23 grS aEF).addR 99 smR aCR
structure on1 (x:EGS) (u:Nat):Prop where
 hi:(u:Int)≤x.s.t
structure on2 (x:EGS) (a:Nat):Prop where
 hi:(a:Int)≤2*x.s.n+5*x.s.t+6
def SG(x:EGS):Hint Ob:= {X:=Nat,st:=fun u=>([.ptr 0 0,.ptr 1 0,.O,.O,.O,.ptr 2 0,.I (u:Int)]++List.replicate 97 .O,[some (.abs (.engine x) []),some (.abs (.engine x) []),cE' [.I x.s.t,.I x.s.n]]),ok:=on1 x,mu:=fun u=>(x.s.t - (u:Int)).toNat,keep:=[0,1,5,6] }
def SH(x:EGS):Hint Ob:= {X:=Nat,st:=fun a=>([.ptr 0 0,.ptr 1 0,.O,.O,.O,.ptr 2 0,.O,.I (a:Int)]++List.replicate 96 .O,[some (.abs (.engine x) []),some (.abs (.engine x) []),cE' [.I x.s.t,.I x.s.n]]),ok:=on2 x,mu:=fun a=>(2*x.s.n+5*x.s.t+6 - (a:Int)).toNat,keep:=[0,1,5,7] }
def LON(x:EGS):FuncId→Nat→Option (oP Ob):=fun _ k=>match k with
 | 5=>some (.states (SG x))
 | 10=>some (.states (SH x))
 | _=>none
abbrev w5b(x:EGS):Option (aJ Ob):=some (.abs (.engine x) [])
abbrev w5c(x:EGS):List AVal:=[.I (EGS.s x).1,.I (EGS.s x).2]
def XA(x:EGS)(K:AVal→aC Ob→Prop):Prop:=True∧True∧bif !bif ieq (EGS.s x).1 (EGS.s x).1 then bif ieq (EGS.s x).2 (EGS.s x).2 then true else false else false then K (.bool false) [w5b x,w5b x]else bif !bif ieq x.1 x.1 then bif ieq x.2 x.2 then bif ieq x.3 x.3 then bif ieq x.4 x.4 then true else false else false else false else false then K (.bool false) [w5b x,w5b x]else True∧True∧bif !ieq x.8 x.8 then K (.bool false) [w5b x,w5b x]else(List.length (EGS.h x).1≤(4294967296:Nat)∧List.length (EGS.h x).2≤(4294967296:Nat))∧(List.length (EGS.h x).1≤(4294967296:Nat)∧List.length (EGS.h x).2≤(4294967296:Nat))∧(x.6=x.6∧List.length (EGS.h x).1≤(4294967296:Nat))∧((0:Int)≤(EGS.s x).2∧(EGS.s x).2≤(100000:Int))∧((0:Int)≤(EGS.s x).2∧(EGS.s x).2≤(100000:Int))∧((lE' (dX x)∧lE' (dX x))∧List.length (dX x)≤(4294967296:Nat))∧bif !nR (dX x) (dX x)then K (.bool false) [w5b x,w5b x]else cW (SG x) (Hint.ok (SG x)) (.ptr 0 0::.ptr 1 0::.O::.O::.O::.ptr 2 0::.I 0::(tO' 97 [])) [w5b x,w5b x,cE' (w5c x)]∧ ∀(x_1:Nat),on1 x x_1→bif ilt (↑x_1:Int) (EGS.s x).1 then True∧True∧bif !ieq (dW (↑x_1:Int) x) (dW (↑x_1:Int) x)then K (.bool false) [w5b x,w5b x]else jA x∧jA x∧((lE' (gT (↑x_1:Int) x)∧lE' (gT (↑x_1:Int) x))∧List.length (gT (↑x_1:Int) x)≤(4294967296:Nat))∧bif !nR (gT (↑x_1:Int) x) (gT (↑x_1:Int) x)then K (.bool false) [w5b x,w5b x]else jA x∧jA x∧((lE' (gQ (↑x_1:Int) x)∧lE' (gQ (↑x_1:Int) x))∧List.length (gQ (↑x_1:Int) x)≤(4294967296:Nat))∧bif !nR (gQ (↑x_1:Int) x) (gQ (↑x_1:Int) x)then K (.bool false) [w5b x,w5b x]else jA x∧jA x∧((lE' (gI (↑x_1:Int) x)∧lE' (gI (↑x_1:Int) x))∧List.length (gI (↑x_1:Int) x)≤(4294967296:Nat))∧bif !nR (gI (↑x_1:Int) x) (gI (↑x_1:Int) x)then K (.bool false) [w5b x,w5b x]else cW (SG x) (fun x'=>Hint.ok (SG x) x'∧Hint.mu (SG x) x'<Hint.mu (SG x) x_1) (.ptr 0 0::.ptr 1 0::.O::.O::.O::.ptr 2 0::.I (W ((↑x_1:Int)+1))::(tO' 97 [])) [w5b x,w5b x,cE' (w5c x)]else cW (SH x) (Hint.ok (SH x)) (.ptr 0 0::.ptr 1 0::.O::.O::.O::.ptr 2 0::.O::.I 0::(tO' 96 [])) [w5b x,w5b x,cE' (w5c x)]∧ ∀(x_2:Nat),on2 x x_2→(((0:Int)≤(EGS.s x).1∧(EGS.s x).1≤(100000:Int))∧(0:Int)≤(EGS.s x).2∧(EGS.s x).2≤(100000:Int))∧bif ilt (↑x_2:Int) (2*(EGS.s x).2+5*(EGS.s x).1+6)then True∧True∧bif !ieq (aF (EGS.s x).3 (↑x_2:Int)) (aF (EGS.s x).3 (↑x_2:Int))then K (.bool false) [w5b x,w5b x]else cW (SH x) (fun x'=>Hint.ok (SH x) x'∧Hint.mu (SH x) x'<Hint.mu (SH x) x_2) (.ptr 0 0::.ptr 1 0::.O::.O::.O::.ptr 2 0::.O::.I (W ((↑x_2:Int)+1))::(tO' 96 [])) [w5b x,w5b x,cE' (w5c x)]else K (.bool true) [w5b x,w5b x]
theorem PL(x:EGS)(K:AVal→aC Ob→Prop)(h:XA x K):cT' 42 [.ptr 0 0,.ptr 1 0] [some (.abs (.engine x) []),some (.abs (.engine x) [])] (fZ 2 K):=by
 exact aD (E:=EUf) Tryz.checked.mixed (L:=LON x) (n:=10) (aK (by kernel_rfl) h)
noncomputable def EUg:=(EUf.addS 25 (aH.or newLS gnS) (aHM yI wV)).addS 27 (aH.or runLS runS) (aHM XW vC)
theorem XX(xs:List Int):nR xs xs=true:=GO.2 rfl
structure PM (x:EGS):Prop where
 w: ∃t n:Int,egW t n x
theorem J4(sp:Int)(xs:List Int):(lQ sp xs).length ≤xs.length+1:=by
 unfold lQ;cases ieq sp 0 with
 | true=>exact Nat.le_succ _
 | false=>exact Nat.le_refl _
theorem LP{x:EGS}(h:jA x)(u:Int):(gT u x).length ≤4294967296:=by
 unfold gT;cases ilt u 0 with
 | true=>exact Nat.zero_le _
 | false=>
   rw [cond_false];cases e:ile (x.ws.length:Int) u with
   | true=>exact Nat.zero_le _
   | false=>
     rw [cC]at e;have e:=of_decide_eq_false e;have h0:=h.h0
     by_cases hu:u.toNat<x.ws.length
     ·exact Nat.le_trans (h.ht _ hu) (by omega)
     ·omega
theorem LF{x:EGS}(h:jA x)(u:Int):(gQ u x).length ≤4294967296:=by
 unfold gQ;cases ilt u 0 with
 | true=>exact Nat.zero_le _
 | false=>
   rw [cond_false];cases e:ile (x.ws.length:Int) u with
   | true=>exact Nat.zero_le _
   | false=>
     rw [cC]at e;have e:=of_decide_eq_false e;have h0:=h.h0
     by_cases hu:u.toNat<x.ws.length
     ·exact Nat.le_trans (h.hs _ hu) (by omega)
     ·omega
theorem J3{x:EGS}(h:jA x)(u:Int):(gI u x).length ≤4294967296:=by
 unfold gI;cases ilt u 0 with
 | true=>exact Nat.zero_le _
 | false=>
   rw [cond_false];cases e:ile (x.ws.length:Int) u with
   | true=>exact Nat.zero_le _
   | false=>
     rw [cC]at e;have e:=of_decide_eq_false e;have h0:=h.h0
     by_cases hu:u.toNat<x.ws.length
     ·have:=h.hr _ hu;exact Nat.le_trans (J4 _ _) (by omega)
     ·omega
theorem FE{x:EGS}(h:0≤x.s.n∧x.s.n≤100000):(dX x).length ≤4294967296:=by
 have l0:=iN x.s.xs x.s.n 0;have l1:=iN x.s.xs x.s.n 1;have l2:=iN x.s.xs x.s.n 2;have l3:=iN x.s.xs x.s.n 3;have hn:x.s.n.toNat≤100000:=by omega
 unfold dX;cases ieq x.sh 3 with
 | true=>rw [cond_true];omega
 | false=>
   rw [cond_false];cases ieq x.sh 4 with
   | true=>rw [cond_true];omega
   | false=>rw [cond_false,oJ,List.length_append,List.length_append,List.length_append];omega
set_option maxRecDepth 10000 in
theorem aFg(x:EGS)(K:AVal→aC Ob→Prop)(hx:PM x)(hK:K (.bool true) [some (.abs (.engine x) []),some (.abs (.engine x) [])]):XA x K:=by
 obtain⟨⟨t,n,hw⟩⟩:=hx;have hf:=NO hw;have hl:=qE hw;have ht:=hw.ht;have hn:=hw.hn;have st:=hw.st;have sn:=hw.sn;have hn0:0≤x.s.n∧x.s.n≤100000:=by omega
 have ht0:0≤x.s.t∧x.s.t≤100000:=by omega
 unfold XA;simp only [HP,XX,cond_true,Bool.not_true,cond_false];refine⟨trivial,trivial,trivial,trivial,hl,hl,⟨trivial,hl.1⟩,hn0,hn0,⟨⟨trivial,trivial⟩,FE hn0⟩,aQ (H:=SG x) (0:Nat) rfl ⟨by show((0:Nat):Int)≤x.s.t;omega⟩,?_⟩
 rintro u ⟨hu⟩;refine bJ (fun a1=>?_) (fun a1=>?_)
 ·have a1:=fV a1;refine⟨trivial,trivial,hf,hf,⟨⟨trivial,trivial⟩,LP hf _⟩,hf,hf,⟨⟨trivial,trivial⟩,LF hf _⟩,hf,hf,⟨⟨trivial,trivial⟩,J3 hf _⟩,?_⟩;have e:W ((u:Int)+1)=((u+1:Nat):Int):=(cV (x:=(u:Int)+1) ⟨by omega,by omega⟩).trans (by omega)
  rw [e];exact aQ (H:=SG x) (u+1:Nat) rfl ⟨⟨by show((u+1:Nat):Int)≤x.s.t;omega⟩,by show(x.s.t - ((u+1:Nat):Int)).toNat <(x.s.t - (u:Int)).toNat;omega⟩
 ·refine⟨aQ (H:=SH x) (0:Nat) rfl ⟨by show((0:Nat):Int)≤2*x.s.n+5*x.s.t+6;omega⟩,?_⟩
  rintro a ⟨ha⟩;refine⟨⟨ht0,hn0⟩,bJ (fun b1=>?_) (fun b1=>hK)⟩;have b1:=fV b1;have e:W ((a:Int)+1)=((a+1:Nat):Int):=(cV (x:=(a:Int)+1) ⟨by omega,by omega⟩).trans (by omega)
  rw [e];exact⟨trivial,trivial,aQ (H:=SH x) (a+1:Nat) rfl ⟨⟨by show((a+1:Nat):Int)≤2*x.s.n+5*x.s.t+6;omega⟩,by show(2*x.s.n+5*x.s.t+6 - ((a+1:Nat):Int)).toNat <(2*x.s.n+5*x.s.t+6 - (a:Int)).toNat;omega⟩⟩
def onS:aH Ob:=fun args h=>match args,h with
 | [.ptr 0 0,.ptr 1 0],[some (.abs (.engine x) []),some (.abs (.engine y) [])]=>some (.pre (x=y∧PM x) (.ret (.bool true) [some (.abs (.engine x) []),some (.abs (.engine y) [])]))
 | _,_=>none
theorem aFf:sT' 42 onS:=by
 intro args h o ho K hK;unfold onS at ho;split at ho<;>cases ho
 rename_i x y;obtain⟨⟨rfl,hx⟩,hK⟩:=hK;exact aHp (PL x K (aFg x K hx hK))
def aDP(sh th nd tr:Int)(m:Nat)(vr:Nat→List AVal)(K:AVal→aC Ob→Prop):Prop:=K (.agg [.I sh,.I th,.I nd,.I tr]) []
theorem MR(sh th nd tr:Int)(m:Nat)(vr:Nat→List AVal)(K:AVal→aC Ob→Prop)(h:aDP sh th nd tr m vr K):cT' 26 [.agg [.I sh,.I th,.I nd,.I tr,.view m 1 vr]] [] (fZ 0 K):=by
 exact cM' (E:=EUg) (by kernel_rfl) h
def cfR:bH Ob:=fun args h=>match args,h with
 | [.agg [.int .i64 sh,.int .i64 th,.int .i64 nd,.int .i64 tr,.view m 1 vr]],[]=>some (True,.agg [.I sh,.I th,.I nd,.I tr])
 | _,_=>none
theorem aAx:sT' 26 cfR.spec:=by
 intro args h o ho K hK;unfold bH.spec at ho;split at ho
 case h_2=>cases ho
 rename_i p v hv;unfold cfR at hv;split at hv
 case h_2=>cases hv
 rename_i sh th nd tr m vr;simp only [sI',pI']at hv;obtain⟨rfl,rfl⟩:=hv;simp only [sI']at ho;subst ho;obtain⟨_,hK⟩:=hK;exact aHp (MR sh th nd tr m vr K hK)
def gn1S:aH Ob:=fun args h=>match args,h with
 | [.agg [.int .i64 sh,.int .i64 th,.int .i64 nd,.int .i64 tr],.view m 1 vr],[]=>some (.pre ((m≤1000000∧eX vr)∧gnC sh th nd tr m (vL vr) (vK vr) (vY vr)=0) (.ret (.tup [.ptr 0 0,.I 0]) (egH (kP sh th nd tr m (vL vr) (vK vr) (vY vr)))))
 | _,_=>none
theorem aBK:sT' 25 gn1S:=by
 intro args h o ho K hK;unfold gn1S at ho;split at ho<;>cases ho
 rename_i sh th nd tr m vr;obtain⟨⟨h1,h2⟩,hK⟩:=hK;have hS:gnS [.agg [.I sh,.I th,.I nd,.I tr],.view m 1 vr] []=some (.pre (m≤1000000∧eX vr) (mK sh th nd tr m (vL vr) (vK vr) (vY vr))):=rfl;refine wV _ _ _ hS K ⟨h1,?_⟩;show(mK sh th nd tr m (vL vr) (vK vr) (vY vr)).run K;unfold mK;rw [h2];exact hK
abbrev pkW(pt pm:Nat→Int)(i:Nat):List AVal:=[.I (pt i),.I (pm i)]
end Go.Sh
namespace Go.Sh
open Go Go.Proofs
theorem aB.args [Con]{A:Type}{I:Itp A}{P:Program}{f:FuncId}{args args2:List AVal}{h:aC A}{K:AVal→aC A→Prop}(ha: ∀(V:Val) (l:List Value),aG V args l→aG V args2 l)(h0:aB I P f args2 h K):aB I P f args h K:=
 fun V hR w args' hi hf hr=>h0 V hR w args' hi hf (ha V _ hr)
variable [Con]
def DJ:Nat→Int→Int→EGS→EGS
 | 0,_,_,x=>x
 | k+1,l,t,x=>bif ieq (dW t x) l then(bif (pkF t x).1 then DJ k l t (pkF t x).2 else(pkF t x).2)else x
def nW(l t:Int)(x:EGS):EGS:=DJ (60001 - x.k).toNat l t x
def aZ(t:Int)(x:EGS):EGS:=nW (dW t x) t x
structure aFt (t:Int) (x y:EGS):Prop where
 w: ∃a b:Int,egW a b y
 h:nW (dW t x) t y=nW (dW t x) t x
def SJ(t:Int)(x:EGS):Hint Ob:= {X:=EGS,st:=fun y=>([.ptr 0 0,.int .i64 t,.O,.O,.int .i64 (dW t x)]++List.replicate 12 .O,[some (.abs (.engine y) [])]),ok:=aFt t x,mu:=fun y=>(60000 - y.k).toNat,keep:=[0,1,4] }
def LTU(t:Int)(x:EGS):FuncId→Nat→Option (oP Ob):=fun _ k=>match k with
 | 1=>some (.states (SJ t x))
 | _=>none
abbrev w5d(t:Int)(x:EGS):List AVal:=[.ptr 0 0,.int .i64 t,.O,.O,.int .i64 (dW t x),.O,.O,.O,.O,.O,.O,.O,.O,.O,.O,.O,.O]
def aC6(t:Int)(x:EGS)(K:AVal→aC Ob→Prop):Prop:=True∧cW (SJ t x) (Hint.ok (SJ t x)) (w5d t x) [some (.abs (.engine x) [])]∧ ∀(x_1:EGS),aFt t x x_1→True∧bif ieq (dW t x_1) (dW t x)then PP t x_1∧bif !(pkF t x_1).1 then K (.tup []) [some (.abs (.engine (pkF t x_1).2) [])]else cW (SJ t x) (fun x'=>Hint.ok (SJ t x) x'∧Hint.mu (SJ t x) x'<Hint.mu (SJ t x) x_1) (w5d t x) [some (.abs (.engine (pkF t x_1).2) [])]else K (.tup []) [some (.abs (.engine x_1) [])]
theorem RJ(t:Int)(x:EGS)(K:AVal→aC Ob→Prop)(h:aC6 t x K):cT' 76 [.ptr 0 0,.int .i64 t] [some (.abs (.engine x) [])] (fZ 1 K):=by
 exact aD (E:=EUg) Tryz.checked.mixed (L:=LTU t x) (n:=10) (aK (by kernel_rfl) h)
end Go.Sh
namespace Go.Sh
open Go Go.Proofs
variable [Con]
theorem LR{l t:Int}{y:EGS}(hk:y.k≤60000)(h:ieq (dW t y) l=false):nW l t y=y:=by
 obtain⟨m,hm⟩: ∃m,(60001 - y.k).toNat =m+1:=⟨(60000 - y.k).toNat,by omega⟩
 unfold nW;rw [hm];show(bif ieq (dW t y) l then _ else y)=y;rw [h];rfl
theorem RL{l t:Int}{y:EGS}(hk:y.k≤60000)(h:ieq (dW t y) l=true)(h2:(pkF t y).1=false):nW l t y=(pkF t y).2:=by
 obtain⟨m,hm⟩: ∃m,(60001 - y.k).toNat =m+1:=⟨(60000 - y.k).toNat,by omega⟩
 unfold nW;rw [hm];show(bif ieq (dW t y) l then(bif (pkF t y).1 then _ else(pkF t y).2)else y)=_;rw [h,h2];rfl
theorem RK{l t:Int}{y:EGS}(hk:y.k≤60000)(h:ieq (dW t y) l=true)(h2:(pkF t y).1=true)(h3:(pkF t y).2.k =y.k+1):nW l t y=nW l t (pkF t y).2:=by
 have hm:(60001 - y.k).toNat =(60001 - (pkF t y).2.k).toNat +1:=by omega
 unfold nW;rw [hm];show(bif ieq (dW t y) l then(bif (pkF t y).1 then DJ (60001 - (pkF t y).2.k).toNat l t (pkF t y).2 else(pkF t y).2)else y)=_;rw [h,h2];rfl
theorem aFv(t:Int)(x:EGS)(K:AVal→aC Ob→Prop)(hx: ∃a b:Int,egW a b x)(hK:K (.tup []) [some (.abs (.engine (aZ t x)) [])]):aC6 t x K:=by
 refine⟨trivial,aQ (H:=SJ t x) x rfl ⟨hx,rfl⟩,?_⟩;rintro y ⟨⟨a,b,hy⟩,hh⟩;have hk:=hy.k
 have key: ∀z,nW (dW t x) t y=z→K (.tup []) [some (.abs (.engine z) [])]:=by
  intro z hz;have e:z=aZ t x:=hz.symm.trans hh;rw [e];exact hK
 refine⟨trivial,bJ (fun e1=>⟨PS t hy,bJ (fun e2=>?_) (fun e2=>?_)⟩) (fun e1=>?_)⟩
 ·exact key _ (RL hk.2 e1 (by simpa using e2))
 ·have e2:(pkF t y).1=true:=by simpa using e2
  obtain⟨h1,h2,_,_⟩:=(rS t hy).yes e2;refine aQ (H:=SJ t x) (pkF t y).2 rfl ⟨⟨⟨a,b,h1⟩,(RK hk.2 e1 e2 h2).symm.trans hh⟩,?_⟩;have:=h1.k;show(60000 - (pkF t y).2.k).toNat <(60000 - y.k).toNat;omega
 ·exact key _ (LR hk.2 e1)
theorem YF{a b:Int}(l t:Int): ∀(k:Nat) (x:EGS),egW a b x→egW a b (DJ k l t x):=by
 intro k
 induction k with
 | zero=>intro x hx;exact hx
 | succ k ih=>
   intro x hx;show egW a b (bif ieq (dW t x) l then(bif (pkF t x).1 then DJ k l t (pkF t x).2 else(pkF t x).2)else x);cases ieq (dW t x) l with
   | false=>exact hx
   | true=>
     cases (pkF t x).1 with
     | false=>exact(rS t hx).w
     | true=>exact ih _ (rS t hx).w
theorem RM{a b:Int}(t:Int){x:EGS}(hx:egW a b x):egW a b (aZ t x):=YF _ _ _ _ hx
def tuS:aH Ob:=fun args h=>match args,h with
 | [.ptr 0 0,.int .i64 t],[some (.abs (.engine x) [])]=>some (.pre (uF x) (.ret (.tup []) [some (.abs (.engine (aZ t x)) [])]))
 | _,_=>none
theorem aFu:sT' 76 tuS:=by
 intro args h o ho K hK;unfold tuS at ho;split at ho<;>cases ho
 rename_i t x;obtain⟨⟨hx⟩,hK⟩:=hK;exact aHp (RJ t x K (aFv t x K hx hK))
abbrev aE8(sh th nd tr:Int):EGS:=kP sh th nd tr 0 (fun _=>0) (fun _ _=>0) (fun _ _=>0)
def newNS:aH Ob:=fun args h=>match args,h with
 | [.agg [.int .i64 sh,.int .i64 th,.int .i64 nd,.int .i64 tr],.raw (.slice none 0 0)],[]=>some (.pre (gnC sh th nd tr 0 (fun _=>0) (fun _ _=>0) (fun _ _=>0)=0) (.ret (.tup [.ptr 0 0,.int .i64 0]) (egH (aE8 sh th nd tr))))
 | _,_=>none
theorem HV:sT' 25 newNS:=by
 intro args h o ho K hK;unfold newNS at ho;split at ho<;>cases ho
 rename_i sh th nd tr;obtain⟨h1,hK⟩:=hK;refine aB.args (args2:=[.agg [.int .i64 sh,.int .i64 th,.int .i64 nd,.int .i64 tr],.view 0 1 (fun _=>[.view 0 2 (fun _=>[.int .i64 0,.int .i64 0])])]) ?_ ?_
 ·rintro V l ⟨v0,l0,rfl,r0,v1,l1,rfl,r1,r2⟩;have r1:v1=.slice none 0 0:=r1;exact⟨v0,_,rfl,r0,v1,_,rfl,⟨none,0,r1,Nat.le_refl _,.inr rfl⟩,r2⟩
 ·have hS:gnS [.agg [.int .i64 sh,.int .i64 th,.int .i64 nd,.int .i64 tr],.view 0 1 (fun _=>[.view 0 2 (fun _=>[.int .i64 0,.int .i64 0])])] []=some (.pre (0≤1000000∧eX (fun _=>[.view 0 2 (fun _=>[.int .i64 0,.int .i64 0])])) (mK sh th nd tr 0 (fun _=>0) (fun _ _=>0) (fun _ _=>0))):=rfl;refine wV _ _ _ hS K ⟨⟨Nat.zero_le _,⟨rfl⟩⟩,?_⟩;show(mK sh th nd tr 0 (fun _=>0) (fun _ _=>0) (fun _ _=>0)).run K;unfold mK;rw [h1];exact hK
noncomputable def EUs:=(EUg.addS 76 tuS aFu).addS 25 (aH.or newNS (aH.or newLS gnS)) (aHM HV (aHM yI wV))
abbrev QE:List Code1:=[some .i64,none,some .i64]
def RB(r:List Int):List Int:=[List.headD (List.tail (List.tail (List.tail (List.tail (List.tail (List.tail r)))))) 0,bif !ieq (List.headD (List.tail (List.tail (List.tail (List.tail (List.tail (List.tail (List.tail r))))))) 0) 0 then 1 else 0,List.headD (List.tail (List.tail (List.tail (List.tail (List.tail (List.tail (List.tail (List.tail r)))))))) 0]
def eC(cl:List (List Int)):List (List Int):=(cl.filter fun r=>!ilt (List.headD (List.tail r) 0) 0).map RB
def x24:EGS:=kP 3 2 6 0 2 (fun _=>1) (fun i _=>DP 4 5 i) (fun i _=>DP 5 0 i)
structure tc1 (cl:List (List Int)) (j:Nat):Prop where
 hi:j≤cl.length
def zK(g:aJ Ob)(x:EGS)(cl:List (List Int)):Hint Ob:= {X:=Nat,st:=fun j=>(List.replicate 7 .O ++ [.ptr 1 0,.O,.O,.O,.tslice 2 0 (eC (cl.take j)).length 3]++List.replicate 24 .O ++ [.tslice 3 0 cl.length 9,.int .i64 (cl.length:Int),.int .i64 (j:Int)]++List.replicate 15 .O,[some g,some (.abs (.engine x) []),some (.tab QE (eC (cl.take j))),some (.tab clK cl)]),ok:=tc1 cl,mu:=fun j=>cl.length - j,keep:=[7,11,36,37,38],casts:=[(.slot 11,.tab QE)] }
abbrev zI:aJ Ob:=.cells [.int .i64 0,.int .i64 4,.int .i64 5,.int .i64 1,.int .i64 5,.int .i64 0]
def new24S:aH Ob:=fun args h=>match args,h with
 | [.agg [.int .i64 sh,.int .i64 th,.int .i64 nd,.int .i64 tr],.slice 0 0 n 1],[some (.cells [.slice 1 0 n1 2,.slice 2 0 n2 2]),some (.cells [.int .i64 p,.int .i64 q]),some (.cells [.int .i64 r,.int .i64 s])]=>some (.pre ((n=2∧n1=1∧n2=1)∧(sh=3∧th=2∧nd=6∧tr=0)∧p=4∧q=5∧r=5∧s=0)
    (.ret (.tup [.ptr 3 0,.int .i64 0]) [some (.cells [.slice 1 0 1 2,.slice 2 0 1 2]),some (.cells [.int .i64 4,.int .i64 5]),some (.cells [.int .i64 5,.int .i64 0]),some (.abs (.engine x24) [])]))
 | _,_=>none
theorem PE:sT' 25 new24S:=by
 intro args h o ho K hK;unfold new24S at ho;split at ho<;>cases ho
 rename_i sh th nd tr n n1 n2 p q r s;obtain⟨⟨⟨rfl,rfl,rfl⟩,⟨rfl,rfl,rfl,rfl⟩,rfl,rfl,rfl,rfl⟩,hK⟩:=hK;have hS:newLS [.agg [.int .i64 3,.int .i64 2,.int .i64 6,.int .i64 0],.slice 0 0 2 1] [some (.cells [.slice 1 0 1 2,.slice 2 0 1 2]),some (.cells [.int .i64 4,.int .i64 5]),some (.cells [.int .i64 5,.int .i64 0])]=some (.pre ((2=2∧1=1∧1=1)∧gnC 3 2 6 0 2 (fun _=>1) (fun i _=>DP 4 5 i) (fun i _=>DP 5 0 i)=0) (.ret (.tup [.ptr 3 0,.int .i64 0]) [some (.cells [.slice 1 0 1 2,.slice 2 0 1 2]),some (.cells [.int .i64 4,.int .i64 5]),some (.cells [.int .i64 5,.int .i64 0]),some (.abs (.engine x24) [])])):=rfl;exact yI _ _ _ hS K ⟨⟨⟨rfl,rfl,rfl⟩,by kernel_rfl⟩,hK⟩
noncomputable def EUt:=EUs.addS 25 (aH.or newNS new24S) (aHM HV PE)
def LRN(x:EGS):FuncId→Nat→Option (oP Ob):=fun _ k=>match k with
 | 6=>some (.rounds 3)
 | 5=>some (.rounds 3)
 | 11=>some (.states (zK zI x x.h.cl))
 | _=>none
abbrev w5e:Option (aJ Ob):=some (.cells [.int .i64 0,.int .i64 4,.int .i64 5,.int .i64 1,.int .i64 5,.int .i64 0])
def H5(K:AVal→aC Ob→Prop):Prop:=(gnC 3 2 6 0 0 (fun x=>(0:Nat)) (fun x x_1=>(0:Int)) fun x x_1=>(0:Int))=(0:Int)∧(((0:Int)≤(2:Int)∧(2:Int)=(2:Int)∧(2:Int)≤(4294967296:Int))∧1=1)∧((0:Int)≤(0:Int)∧(0:Int)<(↑2:Int))∧((0:Int)≤(0:Int)∧(0:Int)<(↑(Int.toNat 2):Int))∧(1:Nat)≤(4294967296:Nat)∧((0:Int)≤(0:Int)∧(0:Int)<(↑(Int.toNat 2):Int))∧((0:Int)≤W (0+1)∧W (0+1)<(↑2:Int))∧((0:Int)≤(1:Int)∧(1:Int)<(↑(Int.toNat 2):Int))∧(1:Nat)≤(4294967296:Nat)∧((0:Int)≤(1:Int)∧(1:Int)<(↑(Int.toNat 2):Int))∧((2=2∧1=1∧1=1)∧((3:Int)=(3:Int)∧(2:Int)=(2:Int)∧(6:Int)=(6:Int)∧(0:Int)=(0:Int))∧(4:Int)=(4:Int)∧(5:Int)=(5:Int)∧(5:Int)=(5:Int)∧(0:Int)=(0:Int))∧((0:Int)≤(0:Int)∧(0:Int)<(↑2:Int))∧uF x24∧((0:Int)≤W (0+1)∧W (0+1)<(↑2:Int))∧uF (aZ 0 x24)∧(List.length (EGS.h (aZ 1 (aZ 0 x24))).1≤(4294967296:Nat)∧List.length (EGS.h (aZ 1 (aZ 0 x24))).2≤(4294967296:Nat))∧List.length (EGS.h (aZ 1 (aZ 0 x24))).2≤(4294967296:Nat)∧cW (zK zI (aZ 1 (aZ 0 x24)) (HST.cl (EGS.h (aZ 1 (aZ 0 x24))))) (Hint.ok (zK zI (aZ 1 (aZ 0 x24)) (HST.cl (EGS.h (aZ 1 (aZ 0 x24)))))) (.O::.O::.O::.O::.O::.O::.O::.ptr 1 0::.O::.O::.O::.tslice 2 0 0 3::(tO' 24 (.tslice 3 0 (List.length (EGS.h (aZ 1 (aZ 0 x24))).2) 9::.int .i64 (↑(List.length (EGS.h (aZ 1 (aZ 0 x24))).2):Int)::.int .i64 0::(tO' 15 [])))) [w5e,some (.abs (.engine (aZ 1 (aZ 0 x24))) []),some (.tab [some .i64,none,some .i64] []),some (.tab cK9 (EGS.h (aZ 1 (aZ 0 x24))).2)]∧ ∀(x:Nat),tc1 (EGS.h (aZ 1 (aZ 0 x24))).2 x→bif ilt (↑x:Int) (↑(List.length (EGS.h (aZ 1 (aZ 0 x24))).2):Int)then((0:Int)≤(↑x:Int)∧(↑x:Int)<(↑(List.length (EGS.h (aZ 1 (aZ 0 x24))).2):Int))∧0+Int.toNat (↑x:Int)<List.length (EGS.h (aZ 1 (aZ 0 x24))).2∧bif !ilt (List.headD (List.tail (List.getD (EGS.h (aZ 1 (aZ 0 x24))).2 (0+Int.toNat (↑x:Int)) [])) 0) 0 then(0=0∧lE' (eC (List.take x (EGS.h (aZ 1 (aZ 0 x24))).2))∧List.length (eC (List.take x (EGS.h (aZ 1 (aZ 0 x24))).2))+(1:Nat)≤(4294967296:Nat))∧cW (zK zI (aZ 1 (aZ 0 x24)) (HST.cl (EGS.h (aZ 1 (aZ 0 x24))))) (fun x'=>Hint.ok (zK zI (aZ 1 (aZ 0 x24)) (HST.cl (EGS.h (aZ 1 (aZ 0 x24))))) x'∧Hint.mu (zK zI (aZ 1 (aZ 0 x24)) (HST.cl (EGS.h (aZ 1 (aZ 0 x24))))) x'<Hint.mu (zK zI (aZ 1 (aZ 0 x24)) (HST.cl (EGS.h (aZ 1 (aZ 0 x24))))) x) (.O::.O::.O::.O::.O::.O::.O::.ptr 1 0::.O::.O::.O::.tslice 2 0 (List.length (eC (List.take x (EGS.h (aZ 1 (aZ 0 x24))).2))+1) 3::(tO' 24 (.tslice 3 0 (List.length (EGS.h (aZ 1 (aZ 0 x24))).2) 9::.int .i64 (↑(List.length (EGS.h (aZ 1 (aZ 0 x24))).2):Int)::.int .i64 (W ((↑x:Int)+1))::(tO' 15 [])))) [w5e,some (.abs (.engine (aZ 1 (aZ 0 x24))) []),some (.tab [some .i64,none,some .i64] (eC (List.take x (EGS.h (aZ 1 (aZ 0 x24))).2)++ [[List.headD (List.tail (List.tail (List.tail (List.tail (List.tail (List.tail (List.getD (EGS.h (aZ 1 (aZ 0 x24))).2 (0+Int.toNat (↑x:Int)) []))))))) 0,bif !ieq (List.headD (List.tail (List.tail (List.tail (List.tail (List.tail (List.tail (List.tail (List.getD (EGS.h (aZ 1 (aZ 0 x24))).2 (0+Int.toNat (↑x:Int)) [])))))))) 0) 0 then 1 else 0,List.headD (List.tail (List.tail (List.tail (List.tail (List.tail (List.tail (List.tail (List.tail (List.getD (EGS.h (aZ 1 (aZ 0 x24))).2 (0+Int.toNat (↑x:Int)) []))))))))) 0]])),some (.tab cK9 (EGS.h (aZ 1 (aZ 0 x24))).2)]else cW (zK zI (aZ 1 (aZ 0 x24)) (HST.cl (EGS.h (aZ 1 (aZ 0 x24))))) (fun x'=>Hint.ok (zK zI (aZ 1 (aZ 0 x24)) (HST.cl (EGS.h (aZ 1 (aZ 0 x24))))) x'∧Hint.mu (zK zI (aZ 1 (aZ 0 x24)) (HST.cl (EGS.h (aZ 1 (aZ 0 x24))))) x'<Hint.mu (zK zI (aZ 1 (aZ 0 x24)) (HST.cl (EGS.h (aZ 1 (aZ 0 x24))))) x) (.O::.O::.O::.O::.O::.O::.O::.ptr 1 0::.O::.O::.O::.tslice 2 0 (List.length (eC (List.take x (EGS.h (aZ 1 (aZ 0 x24))).2))) 3::(tO' 24 (.tslice 3 0 (List.length (EGS.h (aZ 1 (aZ 0 x24))).2) 9::.int .i64 (↑(List.length (EGS.h (aZ 1 (aZ 0 x24))).2):Int)::.int .i64 (W ((↑x:Int)+1))::(tO' 15 [])))) [w5e,some (.abs (.engine (aZ 1 (aZ 0 x24))) []),some (.tab [some .i64,none,some .i64] (eC (List.take x (EGS.h (aZ 1 (aZ 0 x24))).2))),some (.tab cK9 (EGS.h (aZ 1 (aZ 0 x24))).2)]else K (.tup [.ptr 1 0,.tslice 2 0 (List.length (eC (List.take x (EGS.h (aZ 1 (aZ 0 x24))).2))) 3,.int .i64 0]) [w5e,some (.abs (.engine (aZ 1 (aZ 0 x24))) []),some (.tab [some .i64,none,some .i64] (eC (List.take x (EGS.h (aZ 1 (aZ 0 x24))).2)))]
theorem LE(K:AVal→aC Ob→Prop)(h:H5 K):cT' 20 [.agg [.int .i64 3,.int .i64 2,.int .i64 6,.int .i64 0],.slice 0 0 2 3] [some zI] (fZ 1 K):=by
 exact aD (E:=EUt) Tryz.checked.mixed (L:=LRN (aZ 1 (aZ 0 x24))) (n:=10) (aK (by kernel_rfl) h)
theorem H6(cl:List (List Int))(j:Nat)(hj:j<cl.length):eC (cl.take (j+1))=eC (cl.take j)++(bif !ilt (List.headD (List.tail (cl.getD j [])) 0) 0 then [RB (cl.getD j [])]else []):=by
 have e:cl.take (j+1)=cl.take j++ [cl.getD j []]:=by
  rw [List.take_succ_eq_append_getElem hj,gD',gE' hj];rfl
 unfold eC;rw [e,List.filter_append,List.map_append,List.filter_cons];cases (!ilt (List.headD (List.tail (cl.getD j [])) 0) 0)<;>rfl
theorem LO(cl:List (List Int)):(eC cl).length ≤cl.length:=by
 unfold eC;rw [List.length_map];exact List.length_filter_le _ _
theorem YB{cl:List (List Int)}{j:Nat}(hj:j<cl.length)(h:(!ilt (List.headD (List.tail (cl.getD j [])) 0) 0)=true):eC (cl.take (j+1))=eC (cl.take j)++ [RB (cl.getD j [])]:=by
 rw [H6 cl j hj,h];rfl
theorem YC{cl:List (List Int)}{j:Nat}(hj:j<cl.length)(h:(!ilt (List.headD (List.tail (cl.getD j [])) 0) 0)=false):eC (cl.take (j+1))=eC (cl.take j):=by
 rw [H6 cl j hj,h];exact List.append_nil _
theorem aCP(K:AVal→aC Ob→Prop)(hK:K (.tup [.ptr 1 0,.tslice 2 0 (eC (aZ 1 (aZ 0 x24)).h.cl).length 3,.int .i64 0]) [some zI,some (.abs (.engine (aZ 1 (aZ 0 x24))) []),some (.tab QE (eC (aZ 1 (aZ 0 x24)).h.cl))]):H5 K:=by
 have w0:egW 2 6 x24:=G6 (by kernel_rfl)
 have w1:=RM 0 w0;have w2:=RM 1 w1;have hl:=qE w2;unfold H5;generalize aZ 1 (aZ 0 x24)=X at hl hK⊢;obtain⟨cl,hcl⟩: ∃cl,cl=X.h.cl:=⟨_,rfl⟩;have hl2:cl.length≤4294967296:=by rw [hcl];exact hl.2
 rw [←hcl]at hK;refine⟨by kernel_rfl,⟨⟨by decide,rfl,by decide⟩,rfl⟩,by decide,by decide,by decide,by decide,by decide,by decide,by decide,by decide,⟨⟨rfl,rfl,rfl⟩,⟨rfl,rfl,rfl,rfl⟩,rfl,rfl,rfl,rfl⟩,by decide,⟨⟨_,_,w0⟩⟩,by decide,⟨⟨_,_,w1⟩⟩,hl,hl.2,aQ (H:=zK zI X X.h.cl) (0:Nat) (by simp only [zK,List.take_zero]<;>rfl) ⟨Nat.zero_le _⟩,?_⟩
 rintro j ⟨hj⟩;have hj:j≤cl.length:=by rw [hcl];exact hj
 show bif ilt (j:Int) (X.h.cl.length:Int)then _ else _;rw [←hcl];refine bJ (fun a1=>?_) (fun a1=>?_)
 ·have a1:=fV a1;have hjl:j<cl.length:=by omega
  have hle:(eC (cl.take j)).length ≤j:=Nat.le_trans (LO _) (by rw [List.length_take];omega)
  refine⟨⟨by omega,a1⟩,by rw [Int.toNat_natCast,Nat.zero_add];exact hjl,?_⟩
  rw [Int.toNat_natCast,Nat.zero_add,W2 hjl hl2];refine bJ (fun b1=>⟨⟨rfl,rfl,by show(eC (cl.take j)).length +1≤_;omega⟩,?_⟩) (fun b1=>?_)
  ·have et:=YB hjl b1;refine aQ (H:=zK zI X cl) (j+1:Nat) ?_ ⟨⟨hjl⟩,by show cl.length - (j+1)<cl.length - j;omega⟩
   simp only [zK];rw [et,List.length_append];rfl
  ·have et:=YC hjl b1;refine aQ (H:=zK zI X cl) (j+1:Nat) ?_ ⟨⟨hjl⟩,by show cl.length - (j+1)<cl.length - j;omega⟩
   simp only [zK];rw [et];rfl
 ·have a1:=gA a1;have hjl:j=cl.length:=by omega
  subst hjl;rw [List.take_length];exact hK
def y24:EGS:=aZ 1 (aZ 0 x24)
def s24S:aH Ob:=fun args h=>match args,h with
 | [.agg [.int .i64 sh,.int .i64 th,.int .i64 nd,.int .i64 tr],.slice 0 0 n 3],[some (.cells [.int .i64 a,.int .i64 b,.int .i64 c,.int .i64 d,.int .i64 e,.int .i64 f])]=>some (.pre ((sh=3∧th=2∧nd=6∧tr=0)∧n=2∧(a=0∧b=4∧c=5)∧d=1∧e=5∧f=0)
    (.ret (.tup [.ptr 1 0,.tslice 2 0 2 3,.int .i64 0]) [some zI,some (.abs (.engine y24) []),some (.tab QE [[0,1,0],[0,1,5]])]))
 | _,_=>none
theorem aCO:sT' 20 s24S:=by
 intro args h o ho K hK;unfold s24S at ho;split at ho<;>cases ho
 rename_i sh th nd tr n a b c d e f;obtain⟨⟨⟨rfl,rfl,rfl,rfl⟩,rfl,⟨rfl,rfl,rfl⟩,rfl,rfl,rfl⟩,hK⟩:=hK;have hK:K (.tup [.ptr 1 0,.tslice 2 0 2 3,.int .i64 0]) [some zI,some (.abs (.engine y24) []),some (.tab QE [[0,1,0],[0,1,5]])]:=hK;refine aHp (LE K (aCP K ?_));have e1:eC (aZ 1 (aZ 0 x24)).h.cl =[[0,1,0],[0,1,5]]:=by kernel_rfl
 rw [e1];exact hK
noncomputable def EUw:=EUt.addS 20 s24S aCO
def aDJ(K:AVal→aC Ob→Prop):Prop:=(((3:Int)=(3:Int)∧(2:Int)=(2:Int)∧(6:Int)=(6:Int)∧(0:Int)=(0:Int))∧2=2∧((0:Int)=(0:Int)∧(4:Int)=(4:Int)∧(5:Int)=(5:Int))∧(1:Int)=(1:Int)∧(5:Int)=(5:Int)∧(0:Int)=(0:Int))∧((0:Int)≤(1:Int)∧(1:Int)<(↑2:Int))∧0+Int.toNat (1:Int)<List.length [[0,1,0],[0,1,5]]∧K (.bool false) []
theorem MH(K:AVal→aC Ob→Prop)(h:aDJ K):cT' 66 [] [] (fZ 0 K):=by
 exact cM' (E:=EUw) (by kernel_rfl) h
def asS:aH Ob:=fun args h=>match args,h with
 | [],[]=>some (.ret (.bool false) [])
 | _,_=>none
theorem aDK:sT' 66 asS:=by
 intro args h o ho K hK;unfold asS at ho;split at ho
 case h_2=>cases ho
 simp only [sI']at ho;subst ho;exact aHp (MH K ⟨⟨⟨rfl,rfl,rfl,rfl⟩,rfl,⟨rfl,rfl,rfl⟩,rfl,rfl,rfl⟩,by decide,by decide,hK⟩)
noncomputable def EUx:=((EUg.addS 42 onS aFf).addR 26 cfR aAx).addS 25 gn1S aBK
def aDO(sh th nd tr:Int)(m:Nat)(ln:Nat→Nat)(f g:Nat→Nat→Int)(K:AVal→aC Ob→Prop):Prop:=True∧(((m≤(1000000:Nat)∧eX fun i=>[.view (ln i) 2 fun j=>[.int .i64 (f i j),.int .i64 (g i j)]])∧gnC sh th nd tr m (vL fun i=>[.view (ln i) 2 fun j=>[.int .i64 (f i j),.int .i64 (g i j)]]) (vK fun i=>[.view (ln i) 2 fun j=>[.int .i64 (f i j),.int .i64 (g i j)]]) (vY fun i=>[.view (ln i) 2 fun j=>[.int .i64 (f i j),.int .i64 (g i j)]])=(0:Int))∧True)∧K (.ptr 0 0) [some (.abs (.engine (kP sh th nd tr m (vL fun i=>[.view (ln i) 2 fun j=>[.int .i64 (f i j),.int .i64 (g i j)]]) (vK fun i=>[.view (ln i) 2 fun j=>[.int .i64 (f i j),.int .i64 (g i j)]]) (vY fun i=>[.view (ln i) 2 fun j=>[.int .i64 (f i j),.int .i64 (g i j)]]))) [])]
theorem MN(sh th nd tr:Int)(m:Nat)(ln:Nat→Nat)(f g:Nat→Nat→Int)(K:AVal→aC Ob→Prop)(h:aDO sh th nd tr m ln f g K):cT' 68 [.agg [.int .i64 sh,.int .i64 th,.int .i64 nd,.int .i64 tr,opsV m ln f g]] [] (fZ 0 K):=by
 exact cM' (E:=EUx) (by kernel_rfl) h
def bgS:aH Ob:=fun args h=>match args,h with
 | [.agg [.int .i64 sh,.int .i64 th,.int .i64 nd,.int .i64 tr,.view m 1 vr]],[]=>some (.pre ((m≤1000000∧eX vr)∧gnC sh th nd tr m (vL vr) (vK vr) (vY vr)=0) (.ret (.ptr 0 0) (egH (kP sh th nd tr m (vL vr) (vK vr) (vY vr)))))
 | _,_=>none
theorem YX:sT' 68 bgS:=by
 intro args h o ho K hK;unfold bgS at ho;split at ho<;>cases ho
 rename_i sh th nd tr m vr;obtain⟨⟨⟨h1,⟨hr⟩⟩,h2⟩,hK⟩:=hK;have key:cT' 68 [.agg [.int .i64 sh,.int .i64 th,.int .i64 nd,.int .i64 tr,opsV m (vL vr) (vK vr) (vY vr)]] [] (fZ 0 K):=MN sh th nd tr m (vL vr) (vK vr) (vY vr) K ⟨trivial,⟨⟨⟨h1,⟨rfl⟩⟩,h2⟩,trivial⟩,hK⟩;have e:(AVal.view m 1 vr)=opsV m (vL vr) (vK vr) (vY vr):=congrArg (AVal.view m 1) hr;rw [e];exact aHp key
def row1(a b:Int)(_:Nat):List AVal:=[.int .i64 a,.int .i64 b]
def run1S:aH Ob:=fun args h=>match args,h with
 | [.ptr 0 0,.slice 1 0 n 2],[some (.abs (.engine x) []),some (.cells [.int .i64 p,.int .i64 q])]=>some (.pre (n=1∧uF x) (.ret (.int .i64 (runP x 0 (bT 1 (row1 p q))).2) [some (.abs (.engine (runP x 0 (bT 1 (row1 p q))).1) []),some (.cells [.int .i64 p,.int .i64 q])]))
 | _,_=>none
theorem XV [c:Con]:sT' 27 run1S:=by
 intro args h o ho K hK;unfold run1S at ho;split at ho<;>cases ho
 rename_i n x p q;obtain⟨⟨rfl,hx⟩,hK⟩:=hK;have hK:K (.int .i64 (runP x 0 (bT 1 (row1 p q))).2) [some (.abs (.engine (runP x 0 (bT 1 (row1 p q))).1) []),some (.cells [.int .i64 p,.int .i64 q])]:=hK;refine aH7 (args2:=[.ptr 0 0,.view 1 2 (row1 p q)]) y9 Y0 ?_ ?_
 ·intro c' hc V l hm hr;obtain⟨v0,l0,rfl,r0,v1,l1,rfl,r1,r2⟩:=hr;refine⟨v0,_,rfl,Rep.con hc _ _ r0,v1,_,rfl,?_,r2⟩;obtain⟨pp,p1,p2⟩:=hm 1 _ rfl rfl;refine qY (Rep.con hc _ _ r1) p1 p2 ?_ (Nat.le_refl _);intro i hi;refine⟨rfl,fun rs h=>?_⟩
  match i,hi with
  | 0,_=>exact h
  | i+1,hi=>omega
 ·intro c';have h1:=@vC c' [.ptr 0 0,.view 1 2 (row1 p q)] [some (.abs (.engine x) [])] _ rfl (fun v g=>v=.int .i64 (runP x 0 (bT 1 (row1 p q))).2∧g=[some (.abs (.engine (runP x 0 (bT 1 (row1 p q))).1) [])]) ⟨⟨hx,by decide,⟨_,_,rfl⟩⟩,⟨rfl,rfl⟩⟩
  refine aH0 h1 [0] rfl (by decide) (fun l hl=>by rw [nT,List.mem_singleton.1 hl];exact Nat.zero_lt_succ _) ?_ rfl ?_
  ·intro i l hi
   match i,hi with
   | 0,hi=>cases hi;rfl
   | i+1,hi=>simp at hi
  ·rintro v g ⟨rfl,rfl⟩ _;refine⟨rfl,rfl,?_,hK⟩;intro l hl hS
   match l,hl with
   | 0,_=>cases hS
   | 1,_=>rfl
   | l+2,hl=>simp at hl;omega
noncomputable def EUy:=(((EUx.addS 68 bgS YX).addS 66 asS aDK).addS 27 (aH.or run1S runS) (aHM XV vC))
def x9(n:Nat)(row:Nat→List AVal)(K:List AVal→aC Ob→Prop):Prop:=K [.func (Fn.func 115) [] [],.view n 2 row,.ptr 1 0,.raw (Value.tuple {toList:=[] }),.int .i64 0,.ptr 2 0,.raw (Value.tuple {toList:=[] }),.view n 2 row,.func (Fn.func 114) [] [.ptr 3 0],.raw (Value.tuple {toList:=[] }),.raw (Value.tuple {toList:=[] }),.raw (Value.tuple {toList:=[] }),.raw (Value.tuple {toList:=[] }),.raw (Value.tuple {toList:=[] }),.raw (Value.tuple {toList:=[] }),.raw (Value.tuple {toList:=[] })] [none,some (.cells [.func (Fn.func 115) [] []]),some (.cells [.int .i64 0]),some (.cells [.view n 2 row])]
theorem EN(n:Nat)(row:Nat→List AVal)(K:List AVal→aC Ob→Prop)(h:x9 n row K):Ev (cF EU9 (gH EU9 LL 9) 16 NI ([.func (.func 115) [] [],.view n 2 row]++List.replicate 14 (.raw undef)) [none] K):=aK (q:=x9 n row K) (by kernel_rfl) h
def EP(n:Nat)(row:Nat→List AVal)(c u:Int)(K:aC Ob→Prop):Prop:=K [none,some (.cells [.func (Fn.func 115) [] []]),some (.cells [.int .i64 (W (c+1))])]
theorem ES(n:Nat)(row:Nat→List AVal)(c u:Int)(K:aC Ob→Prop)(h:EP n row c u K):Ev (cF EU9 (gH EU9 LL 9) 16 (rH j9) (List.set (([.func (.func 115) [] [],.view n 2 row,.ptr 1 0,.raw undef,.int .i64 0,.ptr 2 0,.raw undef,.view n 2 row,.O]:List AVal)++List.replicate 7 (.raw undef)) 9 (.int .i64 u)) [none,some (.cells [.func (.func 115) [] []]),some (.cells [.int .i64 c])] (fun tm1 h1=>cF EU9 (gH EU9 LL 9) 16 (uA j9) tm1 h1 (fun _ h2=>K h2))):=aK (q:=EP n row c u K) (by kernel_rfl) h
def EU(n:Nat)(row:Nat→List AVal)(c:Int)(K:List AVal→aC Ob→Prop):Prop:=K [.func (Fn.func 115) [] [],.view n 2 row,.ptr 1 0,.raw (Value.tuple {toList:=[] }),.int .i64 c,.ptr 2 0,.raw (Value.tuple {toList:=[] }),.view n 2 row,.O,.raw (Value.tuple {toList:=[] }),.raw (Value.tuple {toList:=[] }),.raw (Value.tuple {toList:=[] }),.raw (Value.tuple {toList:=[] }),.raw (Value.tuple {toList:=[] }),.raw (Value.tuple {toList:=[] }),.int .i64 c] [none,some (.cells [.func (Fn.func 115) [] []]),some (.cells [.int .i64 c])]
theorem EV(n:Nat)(row:Nat→List AVal)(c:Int)(K:List AVal→aC Ob→Prop)(h:EU n row c K):Ev (cF EU9 (gH EU9 LL 9) 16 AZ ([.func (.func 115) [] [],.view n 2 row,.ptr 1 0,.raw undef,.int .i64 0,.ptr 2 0,.raw undef,.view n 2 row,.O]++List.replicate 7 (.raw undef)) [none,some (.cells [.func (.func 115) [] []]),some (.cells [.int .i64 c])] K):=aK (q:=EU n row c K) (by kernel_rfl) h
abbrev lenV:AVal:=.func (.func 115) [] []
abbrev lenH(c:Int):aC Ob:=[none,some (.cells [lenV]),some (.cells [.int .i64 c])]
abbrev lenT(n:Nat)(row:Nat→List AVal):List AVal:=[lenV,.view n 2 row,.ptr 1 0,.raw undef,.int .i64 0,.ptr 2 0,.raw undef,.view n 2 row,.O]++List.replicate 7 (.raw undef)
abbrev aE2(n:Nat)(th tm:Nat→Int):List AVal:=[lenV,.view n 2 (fun i=>[.int .i64 (th i),.int .i64 (tm i)]),.ptr 1 0,.raw undef,.int .i64 0,.ptr 2 0,.raw undef,.view n 2 (fun i=>[.int .i64 (th i),.int .i64 (tm i)]),.func (.func 114) [] [.ptr 3 0]]++List.replicate 7 (.raw undef)
structure ZK (n:Nat) (th tm:Nat→Int) (t:List AVal) (h:aC Ob):Prop where
 ht:t=aE2 n th tm
 hh:h=lenH 0++ [some (.cells [PQ n th tm])]
theorem WZ(n:Nat)(th tm:Nat→Int):x9 n (fun i=>[.int .i64 (th i),.int .i64 (tm i)]) (ZK n th tm):=by
 unfold x9;exact⟨rfl,rfl⟩
theorem W3(n:Nat)(row:Nat→List AVal)(c u:Int):Ev (cF EU9 (gH EU9 LL 9) 16 (rH j9) (List.set (lenT n row) 9 (.int .i64 u)) (lenH c) (fun tm1 h1=>cF EU9 (gH EU9 LL 9) 16 (uA j9) tm1 h1 (fun _ h2=>aE (obI tbl) 3 (.bool true) h2 (.bool true) (lenH (W (c+1)))))):=by
 refine ES n row c u (fun h2=>aE (obI tbl) 3 (.bool true) h2 (.bool true) (lenH (W (c+1)))) ?_;unfold EP;exact aHA _ _ _
structure ZL (c:Int) (t:List AVal) (h:aC Ob):Prop where
 ht:t.getD 4 .O =.int .i64 c
 hl:t.length=16
 hh:h=lenH c
theorem W4(n:Nat)(row:Nat→List AVal)(c:Int):Ev (cF EU9 (gH EU9 LL 9) 16 AZ (lenT n row) (lenH c) (ZL c)):=by
 refine EV n row c (ZL c) ?_;unfold EU;exact⟨rfl,rfl,rfl⟩
theorem LN:toF ([none]:aC Ob)=toF []:=by
 funext l;show([none]:aC Ob).getD l none=([]:aC Ob).getD l none;cases l with
 | zero=>rfl
 | succ l=>rfl
def elenS:aH Ob:=fun args h=>match args,h with
 | [.func (.func g) [] [],.view n 2 row],[]=>cond (Nat.beq g 115) (some (.pre (n≤4294967296∧rowOk row) (.ret (.int .i64 ((bT n row).length :Int)) []))) none
 | _,_=>none
theorem MD(th tm:Nat→Int): ∀(c i:Nat) (left:Int),(allF th tm c i left).length ≤left.toNat:=by
 intro c
 induction c with
 | zero=>intro i left;exact Nat.zero_le _
 | succ c ih=>
   intro i left;show(List.replicate (min (tm i) left).toNat (th i)++allF th tm c (i+1) (left - ((min (tm i) left).toNat :Int))).length ≤left.toNat;rw [List.length_append,List.length_replicate];have:=ih (i+1) (left - ((min (tm i) left).toNat :Int));omega
theorem SM(th tm:Nat→Int)(n:Nat):(allF th tm n 0 60000).length ≤60000:=MD th tm n 0 60000
theorem UH:sT' 85 elenS:=by
 intro args h o ho K hK;unfold elenS at ho;split at ho
 case h_2=>cases ho
 rename_i g n row;cases hg:Nat.beq g 115 with
 | false=>rw [hg]at ho;cases ho
 | true=>
 have hg:=Nat.eq_of_beq_eq_true hg;subst hg;simp only [Nat.beq_refl,cond_true,sI']at ho;subst ho;obtain⟨⟨hn,⟨th,tm,rfl⟩⟩,hK⟩:=hK;obtain⟨xs,hxs⟩: ∃xs,xs=allF th tm n 0 60000:=⟨_,rfl⟩;have hpl:bT n (fun i=>[.int .i64 (th i),.int .i64 (tm i)])=xs:=by rw [hxs];rfl
 rw [hpl]at hK;have hK:K (.int .i64 (xs.length:Int)) []:=hK;have hxl:xs.length≤60000:=by rw [hxs];exact SM th tm n
 intro V hR w args' hi hf hr;have hi1:Inv (obI tbl) V (toF ([none]:aC Ob)) hR w:=by rw [LN];exact hi
 have hf1:bW V ([none]:aC Ob).length :=fun l hl=>hf l (Nat.zero_le _);obtain⟨a0,l0,e0,r0,a1,l1,e1,r1,e2⟩:=hr;have e2:l1=[]:=e2;subst e2;have hargs:args'= #[a0,a1]:=by apply Array.ext';rw [e0,e1]
 subst hargs;have hinl:=kQ (E:=EU9) Tryz.checked.mixed LL 9;refine callsIn_wide.1 (callsIn_of_wp_marks (F:=Fence.wide) (n:=0) Tryz.func85 wQ trivial ?_)
 have ht0:aG V ([lenV,.view n 2 (fun i=>[.int .i64 (th i),.int .i64 (tm i)])]++List.replicate 14 (.raw undef)) (#[a0,a1]++Array.replicate (Tryz.f85.ntmps - (#[a0,a1]:Array Value).size) undef).toList :=
  ⟨_,_,rfl,r0,_,_,rfl,r1,_,_,rfl,rfl,_,_,rfl,rfl,_,_,rfl,rfl,_,_,rfl,rfl,_,_,rfl,rfl,_,_,rfl,rfl,_,_,rfl,rfl,_,_,rfl,rfl,_,_,rfl,rfl,_,_,rfl,rfl,_,_,rfl,rfl,_,_,rfl,rfl,_,_,rfl,rfl,_,_,rfl,rfl,rfl⟩
 refine xP hinl (ro:=none) (ds:=[]) AX (EN n (fun i=>[.int .i64 (th i),.int .i64 (tm i)]) (ZK n th tm) (WZ n th tm)) hi1 hf1 ht0 rfl ?_;rintro q3 w3 ⟨tm3,V3,g3,⟨e3,e4⟩,y2,y3,y4,y5,y6,y7,y8⟩;subst e3;subst e4;refine wpIn_block ?_;have hcl:=fB y2 (.tmp 8);obtain⟨fs,cs,c1,c2,c3⟩: ∃fs cs,q3.eval (.tmp 8)=.func (.func 114) fs cs∧aG V3 [] fs.toList∧aG V3 [.ptr 3 0] cs.toList:=hcl;obtain⟨v0,vs,c4,⟨blk,k,c5,rfl⟩,c6⟩:=c3;have c6:vs=[]:=c6;subst c6;have c2:fs= #[]:=by apply Array.ext';exact c2
 have c4:cs= #[.pointer (some ⟨blk,0,none⟩)]:=by apply Array.ext';rw [c4]
 subst c2;subst c4
 have htT:aG V3 (lenT n (fun i=>[.int .i64 (th i),.int .i64 (tm i)])) q3.tmps.toList:=by
  have hlen:=aG.length y2;obtain⟨z,hz,_⟩:=aG.get y2 8 _ rfl;have:=aG.set y2 8 .O z trivial;rw [DC hz]at this;exact this
 refine(u9 (E:=EU9) hinl (fA:=114) (view:=PQ n th tm) (xs:=xs) (by rw [hxs];exact zQ th tm hn) (nt:=16) (m:=3) (tm:=lenT n (fun i=>[.int .i64 (th i),.int .i64 (tm i)])) (S:=fun j=>lenH (min j xs.length:Nat)) (fun j=>rfl) rfl rfl ?_ y6 y4 c5 htT rfl y8 c1 (by kernel_rfl) ?_)
 ·intro j u hu;have hj:j<xs.length:=(List.getElem?_eq_some_iff.1 hu).1;have e1:min j xs.length=j:=by omega
  have e2:min (j+1) xs.length=j+1:=by omega
  have:=W3 n (fun i=>[.int .i64 (th i),.int .i64 (tm i)]) (j:Int) u;rw [W2 hj (by omega)]at this
  show Ev (cF EU9 (gH EU9 LL 9) 16 (rH j9) (List.set _ 9 (.int .i64 u)) (lenH (min j xs.length:Nat)) _);rw [e1,e2];exact this
 ·intro w4 D V4 hv4 hf4 hRD hDw hI4 hg4;rw [show min xs.length xs.length=xs.length from Nat.min_self _]at hI4
  have htT4:aG V4 (lenT n (fun i=>[.int .i64 (th i),.int .i64 (tm i)])) q3.tmps.toList:=xD htT rfl hv4;refine xO hinl (ro:=none) (ds:=[{target:=.collected D,args:= #[] }]) (W4 n (fun i=>[.int .i64 (th i),.int .i64 (tm i)]) (xs.length:Int)) hI4 hf4 htT4 rfl ?_;rintro q5 w5 ⟨tm5,V5,g5,⟨p1,p2,p3⟩,p4,p5,p6,p7,p8,p9,p10⟩;subst p3;refine wpIn_ret ?_;show LeavesInM Fence.wide 0 Tryz.prog Tryz.f85 q5.tmps _ q5.defers .returning w5;rw [p10]
  have hD5:w5.heap[D]? =some (.deferred (some [])):=by
   obtain⟨_,_,_,_,_,_,s6,_⟩:=p8;exact s6 D _ (if_pos rfl)
  refine⟨by simp,.inl ⟨D,_,rfl,run_takeDeferred hD5,?_⟩⟩
  refine⟨_,results_tmp rfl _ _ _,?_⟩
  have conD:Con.con D=none:=by
   cases e:Con.con D with
   | none=>rfl
   | some o=>
     obtain⟨_,_,_,_,_,_,_,s7⟩:=hi;rw [s7 D o e]at hRD;cases hRD
  obtain⟨V6,t1,t2,t3,t4,t5⟩:=aE.pick (I:=obI tbl) (n:=0) (v:=.bool true) (g:=lenH (xs.length:Int)) [] (by kernel_rfl) V5 _ w5 (.bool true) p8 p6 (by show 0≤3;decide) rfl
  have htr:gC [] (lenH (xs.length:Int))=[]:=by kernel_rfl
  rw [htr]at t2 t3 t5
  have hvle:V.le V6:=by
   intro i z e;rw [hf i (Nat.zero_le _)]at e;cases e
  have hres:q5.tmps.getD 4 undef=.int .i64 (xs.length:Int):=by
   have hlt:4<tm5.length:=by rw [p2];decide
   have h4:tm5[4]? =some (.int .i64 (xs.length:Int)):=by
    rw [gE' hlt];rw [gD',gE' hlt]at p1;exact congrArg some p1
   obtain⟨z,z1,z2⟩:=aG.get p4 4 _ h4;have z2:z=.int .i64 (xs.length:Int):=z2;subst z2;rw [Array.getElem?_toList]at z1;rw [Array.getD_eq_getD_getElem?,z1];rfl
  refine⟨.int .i64 (xs.length:Int),_,V6,_,hK,rfl,hres,hvle,t2,Nat.le_refl _,?_,(y7.trans hg4).trans (p9.trans (aIv hD5))⟩;refine Inv.shrink (hX:=fun b=>if b=D then some (.deferred none)else hR b) (Inv.put (o:=.deferred (some [])) t5 (if_pos rfl) (if_pos rfl) ?_ conD) ?_ ?_
  ·intro b hb;show(if b=D then _ else _)=(if b=D then _ else _)
   rw [if_neg hb,if_neg hb]
  ·intro b o e;show(if b=D then _ else _)=_
   rw [if_neg (fun e2=>by subst e2;rw [hRD]at e;cases e)]
   exact e
  ·obtain⟨_,_,_,_,_,_,_,s7⟩:=hi;exact s7
def FX(x:EGS)(i:Nat):WK1:=wbF x.tr (bB x.ws i)
def pkO(x:EGS)(i:Nat):WkO:=wsF (FX x i) x.s
def KT(th:Int)(x:EGS)(i:Nat):HST:=bif (bB x.ws i).b then x.h else(hbF th x.h (FX x i).d.kd (FX x i).d.ky).2
def pkH(th:Int)(x:EGS)(i:Nat):HST:=bif (pkO x i).d then(heF th (KT th x i) (pkO x i).code (pkO x i).okk (pkO x i).val).2 else KT th x i
def aFh(th:Int)(x:EGS)(i:Nat):EGS:= {sh:=x.sh,th:=x.th,nd:=x.nd,tr:=x.tr,s:=(pkO x i).s,h:=pkH th x i,ws:=cU x.ws i (pkO x i).x,k:=W (x.k+1) }
structure aFi (t n:Int) (th:Int) (x:EGS):Prop where
 h0:0≤th∧th<t
 hi:th.toNat<x.ws.length
 hk:x.k<60000
 he:(bB x.ws th.toNat).en <((bB x.ws th.toNat).tk.length :Int)
 hv:pkF th x=(true,aFh th x th.toNat)
theorem PR{t n:Int}{x:EGS}(th:Int)(hx:egW t n x):pkF th x=(false,x)∨aFi t n th x:=by
 cases hb:(pkF th x).1 with
 | false=>left;exact Prod.ext hb ((rS th hx).no hb)
 | true=>
   right
   have e0:pkF th x=bif ilt th 0 then(false,x)else bif ile (x.ws.length:Int) th then(false,x)else bif ieq (W (((bB x.ws (0+Int.toNat th*1)).tk.length :Int) - (bB x.ws (0+Int.toNat th*1)).en)) 0 then(false,{sh:=x.sh,th:=x.th,nd:=x.nd,tr:=x.tr,s:=x.s,h:=x.h,ws:=cU x.ws (0+Int.toNat th*1) (bB x.ws (0+Int.toNat th*1)),k:=x.k})else bif ile 60000 x.k then(false,{sh:=x.sh,th:=x.th,nd:=x.nd,tr:=x.tr,s:=x.s,h:=x.h,ws:=cU x.ws (0+Int.toNat th*1) (bB x.ws (0+Int.toNat th*1)),k:=x.k})else
    bif !(bB x.ws (0+Int.toNat th*1)).b then
     (bif (pkO x (0+Int.toNat th*1)).d then(true,{sh:=x.sh,th:=x.th,nd:=x.nd,tr:=x.tr,s:=(pkO x (0+Int.toNat th*1)).s,h:=(heF th (hbF th x.h (FX x (0+Int.toNat th*1)).d.kd (FX x (0+Int.toNat th*1)).d.ky).2 (pkO x (0+Int.toNat th*1)).code (pkO x (0+Int.toNat th*1)).okk (pkO x (0+Int.toNat th*1)).val).2,ws:=cU x.ws (0+Int.toNat th*1) (pkO x (0+Int.toNat th*1)).x,k:=W (x.k+1) })
       else(true,{sh:=x.sh,th:=x.th,nd:=x.nd,tr:=x.tr,s:=(pkO x (0+Int.toNat th*1)).s,h:=(hbF th x.h (FX x (0+Int.toNat th*1)).d.kd (FX x (0+Int.toNat th*1)).d.ky).2,ws:=cU x.ws (0+Int.toNat th*1) (pkO x (0+Int.toNat th*1)).x,k:=W (x.k+1) }))
    else(bif (pkO x (0+Int.toNat th*1)).d then(true,{sh:=x.sh,th:=x.th,nd:=x.nd,tr:=x.tr,s:=(pkO x (0+Int.toNat th*1)).s,h:=(heF th x.h (pkO x (0+Int.toNat th*1)).code (pkO x (0+Int.toNat th*1)).okk (pkO x (0+Int.toNat th*1)).val).2,ws:=cU x.ws (0+Int.toNat th*1) (pkO x (0+Int.toNat th*1)).x,k:=W (x.k+1) })
     else(true,{sh:=x.sh,th:=x.th,nd:=x.nd,tr:=x.tr,s:=(pkO x (0+Int.toNat th*1)).s,h:=x.h,ws:=cU x.ws (0+Int.toNat th*1) (pkO x (0+Int.toNat th*1)).x,k:=W (x.k+1) })):=rfl
   rw [Nat.zero_add,Nat.mul_one]at e0;cases c1:ilt th 0 with
   | true=>rw [e0,c1]at hb;exact Bool.noConfusion hb
   | false=>
   cases c2:ile (x.ws.length:Int) th with
   | true=>rw [e0,c1,c2]at hb;exact Bool.noConfusion hb
   | false=>
   cases c3:ieq (W (((bB x.ws th.toNat).tk.length :Int) - (bB x.ws th.toNat).en)) 0 with
   | true=>rw [e0,c1,c2,c3]at hb;exact Bool.noConfusion hb
   | false=>
   cases c4:ile 60000 x.k with
   | true=>rw [e0,c1,c2,c3,c4]at hb;exact Bool.noConfusion hb
   | false=>
   rw [c1,c2,c3,c4]at e0;have c2':=c2;have c1':=c1;rw [cC,dF']at c2;rw [aU,dF']at c1;rw [cC,dF']at c4;have hl:=hx.l;have hi:th.toNat<x.ws.length:=by omega
   have hw:=hx.ws _ hi;refine⟨⟨by omega,by omega⟩,hi,by omega,?_,?_⟩
   ·have h0:=hw.e0;have h1:=hw.e1;have h2:=hw.tk;have h3:=eJ c3;have hW:=cV (x:=((bB x.ws th.toNat).tk.length :Int) - (bB x.ws th.toNat).en) ⟨by omega,by omega⟩
    have h4:W (((bB x.ws th.toNat).tk.length :Int) - (bB x.ws th.toNat).en)≠0:=h3;have hW:W (((bB x.ws th.toNat).tk.length :Int) - (bB x.ws th.toNat).en)=((bB x.ws th.toNat).tk.length :Int) - (bB x.ws th.toNat).en :=hW;rw [hW]at h4;omega
   ·rw [e0];unfold aFh pkH KT;cases (bB x.ws th.toNat).b <;>cases (pkO x th.toNat).d <;>rfl
theorem th8{th:Int}(h:0≤th∧th<8):th=0∨th=1∨th=2∨th=3∨th=4∨th=5∨th=6∨th=7:=by omega
theorem OE{c:Bool}{a b:Int×HST}{x:HST}(ha: ∃t,a.2.ev=x.ev++t)(hb: ∃t,b.2.ev=x.ev++t): ∃t,(bif c then a else b).2.ev =x.ev++t:=by cases c<;>assumption
theorem aEH{th:Int}(x:HST)(kd ky:Int)(h:0≤th∧th<8): ∃t,(hbF th x kd ky).2.ev =x.ev++t:=by
 rcases th8 h with rfl | rfl | rfl | rfl | rfl | rfl | rfl | rfl<;>exact OE ⟨[],(List.append_nil _).symm⟩ ⟨_,rfl⟩
theorem aEQ{th:Int}(x:HST)(code:Int)(okk:Bool)(val:Int)(h:0≤th∧th<8): ∃t,(heF th x code okk val).2.ev =x.ev++t:=by
 rcases th8 h with rfl | rfl | rfl | rfl | rfl | rfl | rfl | rfl<;>exact OE ⟨[],(List.append_nil _).symm⟩ ⟨_,rfl⟩
theorem aFj{t n:Int}{x:EGS}(th:Int)(hx:egW t n x): ∃l,(pkF th x).2.h.ev =x.h.ev++l:=by
 rcases PR th hx with h | ⟨h0,hi,hk,he,hv⟩
 ·rw [h];exact⟨[],(List.append_nil _).symm⟩
 ·rw [hv];have ht:=hx.ht;have h8:0≤th∧th<8:=by omega
  have h1: ∃l,(KT th x th.toNat).ev =x.h.ev++l:=by
   unfold KT;cases (bB x.ws th.toNat).b with
   | true=>exact⟨[],(List.append_nil _).symm⟩
   | false=>exact aEH _ _ _ h8
  obtain⟨l,hl⟩:=h1;show∃l,(pkH th x th.toNat).ev =x.h.ev++l;unfold pkH;cases (pkO x th.toNat).d with
  | false=>exact⟨l,hl⟩
  | true=>
    obtain⟨l2,hl2⟩:=aEQ (KT th x th.toNat) (pkO x th.toNat).code (pkO x th.toNat).okk (pkO x th.toNat).val h8;exact⟨l++l2,by rw [←List.append_assoc,←hl];exact hl2⟩
theorem aCN{t n:Int}(us:List Int): ∀(x:EGS) (c:Int),egW t n x→ ∃l,(runP x c us).1.h.ev =x.h.ev++l:=by
 induction us with
 | nil=>intro x c _;exact⟨[],(List.append_nil _).symm⟩
 | cons u us ih=>
   intro x c hx;obtain⟨l1,h1⟩:=aFj u hx;obtain⟨l2,h2⟩:=ih (pkF u x).2 (bif (pkF u x).1 then W (c+1)else c) (rS u hx).w;exact⟨l1++l2,by rw [←List.append_assoc,←h1];exact h2⟩
def egV(sh th nd tr:Int)(m:Nat)(vr:Nat→List AVal):EGS:=kP sh th nd tr m (vL vr) (vK vr) (vY vr)
def bg2S:aH Ob:=fun args h=>match args,h with
 | [.agg [.int .i64 sh,.int .i64 th,.int .i64 nd,.int .i64 tr,.view m 1 vr]],[]=>some (.pre ((m≤1000000∧eX vr)∧gnC sh th nd tr m (vL vr) (vK vr) (vY vr)=0) (.ret (.ptr 0 0) (egH (egV sh th nd tr m vr))))
 | _,_=>none
theorem aAt:sT' 68 bg2S:=by
 intro args h o ho K hK;unfold bg2S at ho;split at ho<;>cases ho
 rename_i sh th nd tr m vr;have hS:bgS [.agg [.int .i64 sh,.int .i64 th,.int .i64 nd,.int .i64 tr,.view m 1 vr]] []=some (.pre ((m≤1000000∧eX vr)∧gnC sh th nd tr m (vL vr) (vK vr) (vY vr)=0) (.ret (.ptr 0 0) (egH (kP sh th nd tr m (vL vr) (vK vr) (vY vr))))):=rfl;exact YX _ _ _ hS K hK
noncomputable def EUtc:=(EUy.addS 68 bg2S aAt).addS 85 (aH.or eachS elenS) (aHM G5 UH)
structure tc2 (ws:List (List Int)) (i:Nat):Prop where
 hi:i≤ws.length
def xR(xa xb:EGS)(vs ws:List (List Int))(n:Nat)(pt pm:Nat→Int)(k:Int):Hint Ob:= {X:=Nat,st:=fun i=>([.O,.view n 2 (pkW pt pm),.O,.O,.O,.O,.O,.ptr 0 0,.ptr 1 0,.int .i64 k,.tslice 2 0 vs.length 7,.tslice 3 0 ws.length 7]++List.replicate 45 .O ++ [.int .i64 (ws.length:Int),.int .i64 (i:Int)]++List.replicate 20 .O,[some (.abs (.engine xa) []),some (.abs (.engine xb) []),some (.tab US vs),some (.tab US ws)]),ok:=tc2 ws,mu:=fun i=>ws.length - i,keep:=[1,7,8,9,10,11,57,58] }
def aFY(xa xb:EGS)(vs ws:List (List Int))(n:Nat)(pt pm:Nat→Int)(k:Int):FuncId→Nat→Option (oP Ob):=fun _ j=>match j with
 | 15=>some (.states (xR xa xb vs ws n pt pm k))
 | _=>none
def X7(sh th nd tr:Int)(m:Nat)(vr:Nat→List AVal)(n:Nat)(pt pm:Nat→Int)(at':Int)(xa xb:EGS)(vs ws:List (List Int))(k:Int)(K:AVal→aC Ob→Prop):Prop:=eX vr∧bif HG m n (vL vr)then K (.bool true) []else(m≤(1000000:Nat)∧eX vr)∧bif !ieq (gnC sh th nd tr m (vL vr) (vK vr) (vY vr)) 0 then K (.bool true) []else(n≤(4294967296:Nat)∧rowOk (pkW pt pm))∧bif ilt 50000 (↑(List.length (bT n (pkW pt pm))):Int)then K (.bool true) []else(((m≤(1000000:Nat)∧eX vr)∧gnC sh th nd tr m (vL vr) (vK vr) (vY vr)=(0:Int))∧True)∧(((m≤(1000000:Nat)∧eX vr)∧gnC sh th nd tr m (vL vr) (vK vr) (vY vr)=(0:Int))∧True)∧(uF (egV sh th nd tr m vr)∧n≤(4294967296:Nat)∧rowOk (pkW pt pm))∧(((0:Int)≤bif ilt (↑n:Int) (W at')then(↑n:Int)else W at')∧Int.toNat (bif ilt (↑n:Int) (W at')then(↑n:Int)else W at')≤n)∧(uF (egV sh th nd tr m vr)∧Int.toNat (bif ilt (↑n:Int) (W at')then(↑n:Int)else W at')≤(4294967296:Nat)∧rowOk (pkW pt pm))∧(List.length (EGS.h (runP (egV sh th nd tr m vr) 0 (bT n (pkW pt pm))).1).1≤(4294967296:Nat)∧List.length (EGS.h (runP (egV sh th nd tr m vr) 0 (bT n (pkW pt pm))).1).2≤(4294967296:Nat))∧List.length (EGS.h (runP (egV sh th nd tr m vr) 0 (bT n (pkW pt pm))).1).1≤(4294967296:Nat)∧(List.length (EGS.h (runP (egV sh th nd tr m vr) 0 (bT (Int.toNat (bif ilt (↑n:Int) (W at')then(↑n:Int)else W at')) (pkW pt pm))).1).1≤(4294967296:Nat)∧List.length (EGS.h (runP (egV sh th nd tr m vr) 0 (bT (Int.toNat (bif ilt (↑n:Int) (W at')then(↑n:Int)else W at')) (pkW pt pm))).1).2≤(4294967296:Nat))∧List.length (EGS.h (runP (egV sh th nd tr m vr) 0 (bT (Int.toNat (bif ilt (↑n:Int) (W at')then(↑n:Int)else W at')) (pkW pt pm))).1).1≤(4294967296:Nat)∧bif ilt (↑(List.length (EGS.h (runP (egV sh th nd tr m vr) 0 (bT n (pkW pt pm))).1).1):Int) (↑(List.length (EGS.h (runP (egV sh th nd tr m vr) 0 (bT (Int.toNat (bif ilt (↑n:Int) (W at')then(↑n:Int)else W at')) (pkW pt pm))).1).1):Int)then K (.bool false) []else cW (xR xa xb vs ws n pt pm k) (Hint.ok (xR xa xb vs ws n pt pm k)) (.O::.view n 2 (pkW pt pm)::.O::.O::.O::.O::.O::.ptr 0 0::.ptr 1 0::.int .i64 (bif ilt (↑n:Int) (W at')then(↑n:Int)else W at')::.tslice 2 0 (List.length (EGS.h (runP (egV sh th nd tr m vr) 0 (bT n (pkW pt pm))).1).1) 7::.tslice 3 0 (List.length (EGS.h (runP (egV sh th nd tr m vr) 0 (bT (Int.toNat (bif ilt (↑n:Int) (W at')then(↑n:Int)else W at')) (pkW pt pm))).1).1) 7::(tO' 45 (.int .i64 (↑(List.length (EGS.h (runP (egV sh th nd tr m vr) 0 (bT (Int.toNat (bif ilt (↑n:Int) (W at')then(↑n:Int)else W at')) (pkW pt pm))).1).1):Int)::.int .i64 0::(tO' 20 [])))) [some (.abs (.engine (runP (egV sh th nd tr m vr) 0 (bT n (pkW pt pm))).1) []),some (.abs (.engine (runP (egV sh th nd tr m vr) 0 (bT (Int.toNat (bif ilt (↑n:Int) (W at')then(↑n:Int)else W at')) (pkW pt pm))).1) []),some (.tab cK7 (EGS.h (runP (egV sh th nd tr m vr) 0 (bT n (pkW pt pm))).1).1),some (.tab cK7 (EGS.h (runP (egV sh th nd tr m vr) 0 (bT (Int.toNat (bif ilt (↑n:Int) (W at')then(↑n:Int)else W at')) (pkW pt pm))).1).1)]∧ ∀(x:Nat),tc2 ws x→bif ilt (↑x:Int) (↑ws.length:Int)then((0:Int)≤(↑x:Int)∧(↑x:Int)<(↑ws.length:Int))∧0+Int.toNat (↑x:Int)<ws.length∧((0:Int)≤(↑x:Int)∧(↑x:Int)<(↑vs.length:Int))∧0+Int.toNat (↑x:Int)<vs.length∧bif !bif ieq (List.headD (List.getD ws (0+Int.toNat (↑x:Int)) []) 0) (List.headD (List.getD vs (0+Int.toNat (↑x:Int)) []) 0)then bif bif !ieq (List.headD (List.tail (List.getD ws (0+Int.toNat (↑x:Int)) [])) 0) 0 then !ieq (List.headD (List.tail (List.getD vs (0+Int.toNat (↑x:Int)) [])) 0) 0 else !!ieq (List.headD (List.tail (List.getD vs (0+Int.toNat (↑x:Int)) [])) 0) 0 then bif bif ieq (List.headD (List.tail (List.tail (List.getD ws (0+Int.toNat (↑x:Int)) []))) 0) (List.headD (List.tail (List.tail (List.getD vs (0+Int.toNat (↑x:Int)) []))) 0)then bif ieq (List.headD (List.tail (List.tail (List.tail (List.getD ws (0+Int.toNat (↑x:Int)) [])))) 0) (List.headD (List.tail (List.tail (List.tail (List.getD vs (0+Int.toNat (↑x:Int)) [])))) 0)then true else false else false then bif bif ieq (List.headD (List.tail (List.tail (List.tail (List.tail (List.getD ws (0+Int.toNat (↑x:Int)) []))))) 0) (List.headD (List.tail (List.tail (List.tail (List.tail (List.getD vs (0+Int.toNat (↑x:Int)) []))))) 0)then bif bif !ieq (List.headD (List.tail (List.tail (List.tail (List.tail (List.tail (List.getD ws (0+Int.toNat (↑x:Int)) [])))))) 0) 0 then !ieq (List.headD (List.tail (List.tail (List.tail (List.tail (List.tail (List.getD vs (0+Int.toNat (↑x:Int)) [])))))) 0) 0 else !!ieq (List.headD (List.tail (List.tail (List.tail (List.tail (List.tail (List.getD vs (0+Int.toNat (↑x:Int)) [])))))) 0) 0 then bif ieq (List.headD (List.tail (List.tail (List.tail (List.tail (List.tail (List.tail (List.getD ws (0+Int.toNat (↑x:Int)) []))))))) 0) (List.headD (List.tail (List.tail (List.tail (List.tail (List.tail (List.tail (List.getD vs (0+Int.toNat (↑x:Int)) []))))))) 0)then true else false else false else false then true else false else false else false else false then K (.bool false) []else cW (xR xa xb vs ws n pt pm k) (fun x'=>Hint.ok (xR xa xb vs ws n pt pm k) x'∧Hint.mu (xR xa xb vs ws n pt pm k) x'<Hint.mu (xR xa xb vs ws n pt pm k) x) (.O::.view n 2 (pkW pt pm)::.O::.O::.O::.O::.O::.ptr 0 0::.ptr 1 0::.int .i64 k::.tslice 2 0 vs.length 7::.tslice 3 0 ws.length 7::(tO' 45 (.int .i64 (↑ws.length:Int)::.int .i64 (W ((↑x:Int)+1))::(tO' 20 [])))) [some (.abs (.engine xa) []),some (.abs (.engine xb) []),some (.tab cK7 vs),some (.tab cK7 ws)]else((0:Int)≤k∧Int.toNat k≤n)∧(uF xb∧n - Int.toNat k≤(4294967296:Nat)∧rowOk fun i=>pkW pt pm (Int.toNat k+i))∧(xa=(runP xb 0 (bT (n - Int.toNat k) fun i=>pkW pt pm (Int.toNat k+i))).1∧PM xa)∧K (.bool true) []
theorem RA(sh th nd tr:Int)(m:Nat)(vr:Nat→List AVal)(n:Nat)(pt pm:Nat→Int)(at':Int)(xa xb:EGS)(vs ws:List (List Int))(k:Int)(K:AVal→aC Ob→Prop)(h:X7 sh th nd tr m vr n pt pm at' xa xb vs ws k K):cT' 14 [.agg [.int .i64 sh,.int .i64 th,.int .i64 nd,.int .i64 tr,.view m 1 vr],.view n 2 (pkW pt pm),.int .u8 at'] [] (fZ 0 K):=by
 exact aD (E:=EUtc) Tryz.checked.mixed (L:=aFY xa xb vs ws n pt pm k) (n:=10) (aK (by kernel_rfl) h)
theorem aFw{v:Int}(h:uC (some .u8) v):0≤v∧v<256:=by
 have h:(Lit.int .u8 v).wf =true:=h;have h1:IntKind.u8.min=0:=rfl;have h2:IntKind.u8.max=255:=rfl;simp only [Lit.wf,Bool.and_eq_true,dT',h1,h2]at h;omega
theorem MC(th tm:Nat→Int)(b:Nat): ∀(a i:Nat) (left:Int),allF th tm (a+b) i left=allF th tm a i left++allF th tm b (i+a) (left - ((allF th tm a i left).length :Int)):=by
 intro a
 induction a with
 | zero=>intro i left;show allF th tm (0+b) i left=[]++allF th tm b i (left - ((0:Nat):Int));rw [Nat.zero_add,List.nil_append];congr 1;omega
 | succ a ih=>
   intro i left;rw [show a+1+b=(a+b)+1 from by omega]
   show List.replicate (min (tm i) left).toNat (th i)++allF th tm (a+b) (i+1) (left - ((min (tm i) left).toNat :Int))=(List.replicate (min (tm i) left).toNat (th i)++allF th tm a (i+1) (left - ((min (tm i) left).toNat :Int)))++allF th tm b (i+(a+1)) (left - ((List.replicate (min (tm i) left).toNat (th i)++allF th tm a (i+1) (left - ((min (tm i) left).toNat :Int))).length :Int));rw [ih,List.append_assoc,List.length_append,List.length_replicate,show i+(a+1)=i+1+a from by omega]
   congr 2;congr 1;omega
theorem SN(th tm:Nat→Int)(k:Nat): ∀(n i:Nat) (left:Int),allF (fun j=>th (k+j)) (fun j=>tm (k+j)) n i left=allF th tm n (k+i) left:=by
 intro n
 induction n with
 | zero=>intro i left;rfl
 | succ n ih=>
   intro i left;show List.replicate (min (tm (k+i)) left).toNat (th (k+i))++allF (fun j=>th (k+j)) (fun j=>tm (k+j)) n (i+1) (left - ((min (tm (k+i)) left).toNat :Int))=List.replicate (min (tm (k+i)) left).toNat (th (k+i))++allF th tm n (k+i+1) (left - ((min (tm (k+i)) left).toNat :Int));rw [ih];rfl
theorem SP(th tm:Nat→Int): ∀(n i:Nat) (l1 l2:Int),((allF th tm n i l1).length :Int)<l1→l1≤l2→allF th tm n i l1=allF th tm n i l2:=by
 intro n
 induction n with
 | zero=>intro i l1 l2 _ _;rfl
 | succ n ih=>
   intro i l1 l2 h1 h2;have h1:(((List.replicate (min (tm i) l1).toNat (th i)++allF th tm n (i+1) (l1 - ((min (tm i) l1).toNat :Int))).length :Nat):Int)<l1:=h1;rw [List.length_append,List.length_replicate]at h1;have e:(min (tm i) l1).toNat =(min (tm i) l2).toNat :=by omega
   show List.replicate (min (tm i) l1).toNat (th i)++allF th tm n (i+1) (l1 - ((min (tm i) l1).toNat :Int))=List.replicate (min (tm i) l2).toNat (th i)++allF th tm n (i+1) (l2 - ((min (tm i) l2).toNat :Int));rw [ih (i+1) (l1 - ((min (tm i) l1).toNat :Int)) (l2 - ((min (tm i) l2).toNat :Int)) (by omega) (by omega),e]
theorem KS(pt pm:Nat→Int){n k:Nat}(hk:k≤n)(hl:(bT n (pkW pt pm)).length ≤50000):bT n (pkW pt pm)=bT k (pkW pt pm)++bT (n - k) (fun i=>pkW pt pm (k+i)):=by
 have e:n=k+(n - k):=by omega
 have hl:(allF pt pm n 0 60000).length ≤50000:=hl;have h1:=MC pt pm (n - k) k 0 60000;rw [←e]at h1;rw [h1,List.length_append]at hl;show allF pt pm n 0 60000=allF pt pm k 0 60000++allF (fun j=>pt (k+j)) (fun j=>pm (k+j)) (n - k) 0 60000;rw [h1,SN];congr 1;rw [Nat.zero_add,Nat.add_zero];refine SP pt pm (n - k) k _ 60000 ?_ (by omega)
 rw [Nat.zero_add]at hl;omega
theorem QN(us:List Int): ∀(x:EGS) (c d:Int),(runP x c us).1=(runP x d us).1:=by
 induction us with
 | nil=>intro x c d;rfl
 | cons u us ih=>intro x c d;exact ih _ _ _
set_option maxRecDepth 10000 in
theorem aFr(sh th nd tr:Int)(m:Nat)(vr:Nat→List AVal)(n:Nat)(pt pm:Nat→Int)(at':Int)(k:Nat)(K:AVal→aC Ob→Prop)(hvr:eX vr)(hat:0≤at'∧at'<256)(hkk:k=min at'.toNat n)(hK:K (.bool true) []):X7 sh th nd tr m vr n pt pm at' (runP (egV sh th nd tr m vr) 0 (bT n (pkW pt pm))).1 (runP (egV sh th nd tr m vr) 0 (bT k (pkW pt pm))).1 (runP (egV sh th nd tr m vr) 0 (bT n (pkW pt pm))).1.h.ev (runP (egV sh th nd tr m vr) 0 (bT k (pkW pt pm))).1.h.ev (k:Int) K:=by
 have hkn:k≤n:=by omega
 have eW:W at'=at':=cV ⟨by omega,by omega⟩
 have ek:(bif ilt (n:Int) (W at')then(n:Int)else W at')=(k:Int):=by
  rw [eW];cases e:ilt (n:Int) at' with
  | true=>have:=fV e;show(n:Int)=k;omega
  | false=>have:=gA e;show at'=k;omega
 unfold X7;rw [ek,Int.toNat_natCast];refine⟨hvr,bJ (fun _=>hK) (fun hg=>?_)⟩;obtain⟨hm,hnn⟩:=aEE hg;refine⟨⟨by omega,hvr⟩,bJ (fun _=>hK) (fun hc=>⟨⟨by omega,⟨_,_,rfl⟩⟩,bJ (fun _=>hK) (fun hl=>?_)⟩)⟩
 have hc0:gnC sh th nd tr m (vL vr) (vK vr) (vY vr)=0:=by
  rw [cN]at hc
  simpa using hc
 have hx:egW th nd (egV sh th nd tr m vr):=G6 hc0;have hl:=gA hl;have hpk:=KS pt pm hkn (by omega)
 generalize egV sh th nd tr m vr=x at hx⊢;have ha:=GN (bT n (pkW pt pm)) x 0 hx;have hb:=GN (bT k (pkW pt pm)) x 0 hx
 have hrun:(runP x 0 (bT n (pkW pt pm))).1=(runP (runP x 0 (bT k (pkW pt pm))).1 0 (bT (n - k) (fun i=>pkW pt pm (k+i)))).1:=by
  rw [hpk,DB];exact QN _ _ _ 0
 obtain⟨l,hev⟩:=aCN (bT (n - k) (fun i=>pkW pt pm (k+i))) (runP x 0 (bT k (pkW pt pm))).1 0 hb;rw [←hrun]at hev;generalize hA:(runP x 0 (bT n (pkW pt pm))).1=A at*;generalize hB:(runP x 0 (bT k (pkW pt pm))).1=B at*;have la:=qE ha;have lb:=qE hb;obtain⟨vs,hvs⟩: ∃vs,vs=A.h.ev:=⟨_,rfl⟩;obtain⟨ws,hws⟩: ∃ws,ws=B.h.ev:=⟨_,rfl⟩;rw [←hvs,←hws]at hev;have hle:ws.length≤vs.length:=by rw [hev,List.length_append];omega
 refine⟨⟨⟨⟨by omega,hvr⟩,hc0⟩,trivial⟩,⟨⟨⟨by omega,hvr⟩,hc0⟩,trivial⟩,⟨⟨⟨_,_,hx⟩⟩,by omega,⟨_,_,rfl⟩⟩,⟨by omega,hkn⟩,⟨⟨⟨_,_,hx⟩⟩,by omega,⟨_,_,rfl⟩⟩,la,la.1,lb,lb.1,bJ (fun e=>?_) (fun _=>?_)⟩
 ·have e:=fV e;have e:((A.h.ev.length:Nat):Int)<(B.h.ev.length:Nat):=e;rw [←hvs,←hws]at e;omega
 refine⟨aQ (H:=xR A B A.h.ev B.h.ev n pt pm (k:Int)) (0:Nat) rfl ⟨Nat.zero_le _⟩,?_⟩;rw [←hvs,←hws];rw [←hvs]at la;rw [←hws]at lb;rintro i ⟨hi⟩;refine bJ (fun a1=>?_) (fun a1=>?_)
 ·have a1:=fV a1;have hil:i<ws.length:=by omega
  have er:List.getD vs i []=List.getD ws i []:=by
   rw [hev,gD',List.getElem?_append_left hil,←gD']
  rw [Int.toNat_natCast,Nat.zero_add,er];refine⟨⟨by omega,a1⟩,hil,⟨by omega,by omega⟩,by omega,?_⟩
  simp only [HP,MM,cond_true,Bool.not_true,cond_false];rw [W2 hil lb.1];exact aQ (H:=xR A B vs ws n pt pm (k:Int)) (i+1:Nat) rfl ⟨⟨hil⟩,by show ws.length - (i+1)<ws.length - i;omega⟩
 ·exact⟨⟨by omega,hkn⟩,⟨⟨⟨_,_,hb⟩⟩,by omega,⟨_,_,rfl⟩⟩,⟨hrun,⟨⟨_,_,ha⟩⟩⟩,hK⟩
end Go.Sh
