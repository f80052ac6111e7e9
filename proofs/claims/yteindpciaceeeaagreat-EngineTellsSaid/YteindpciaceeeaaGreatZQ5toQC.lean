import Derived.Test.YteindpciaceeeaaGreatZSh35toSh36
set_option linter.all false
set_option maxHeartbeats 8000000
namespace Go.Sh
open Go Go.Proofs
variable [Con]
def aCb:bG Ob:=fun args h=>match args,h with
 | [.ptr 0 0,.int .i64 th],[some (.abs (.engine x) [])]=>some (True,.I (lW th x))
 | _,_=>none
theorem WP:sT' 33 aCb.spec:=by
 intro args h o ho K hK;unfold bG.spec at ho;split at ho
 case h_2=>cases ho
 rename_i hv;unfold aCb at hv;split at hv
 case h_2=>cases hv
 simp only [sI',pI']at hv;obtain⟨rfl,rfl⟩:=hv;simp only [sI']at ho;subst ho;exact PZ _ _ _ rfl K hK
def aAI:bG Ob:=fun args h=>match args,h with
 | [.ptr 0 0],[some (.abs (.engine x) [])]=>some (True,.I x.k)
 | _,_=>none
theorem TT:sT' 34 aAI.spec:=by
 intro args h o ho K hK;unfold bG.spec at ho;split at ho
 case h_2=>cases ho
 rename_i hv;unfold aAI at hv;split at hv
 case h_2=>cases hv
 simp only [sI',pI']at hv;obtain⟨rfl,rfl⟩:=hv;simp only [sI']at ho;subst ho;exact NO _ _ _ rfl K hK
def aAx:bG Ob:=fun args h=>match args,h with
 | [.ptr 0 0],[some (.abs (.engine x) [])]=>some (True,.agg [.I x.s.t,.I x.s.n])
 | _,_=>none
theorem TK:sT' 38 aAx.spec:=by
 intro args h o ho K hK;unfold bG.spec at ho;split at ho
 case h_2=>cases ho
 rename_i hv;unfold aAx at hv;split at hv
 case h_2=>cases hv
 simp only [sI',pI']at hv;obtain⟨rfl,rfl⟩:=hv;simp only [sI']at ho;subst ho;exact NI _ _ _ rfl K hK
def aAH:bG Ob:=fun args h=>match args,h with
 | [.ptr 0 0,.int .i64 a],[some (.abs (.engine x) [])]=>some (True,.int .u64 (aE x.s.xs a))
 | _,_=>none
theorem TQ:sT' 37 aAH.spec:=by
 intro args h o ho K hK;unfold bG.spec at ho;split at ho
 case h_2=>cases ho
 rename_i hv;unfold aAH at hv;split at hv
 case h_2=>cases hv
 simp only [sI',pI']at hv;obtain⟨rfl,rfl⟩:=hv;simp only [sI']at ho;subst ho;exact NM _ _ _ rfl K hK
def aAw:bG Ob:=fun args h=>match args,h with
 | [.ptr 0 0],[some (.abs (.engine x) [])]=>some (True,.agg [.I x.s.k,.I x.s.a,.int .u64 x.s.o,.int .u64 x.s.w,.bool x.s.ok])
 | _,_=>none
theorem TJ:sT' 45 aAw.spec:=by
 intro args h o ho K hK;unfold bG.spec at ho;split at ho
 case h_2=>cases ho
 rename_i hv;unfold aAw at hv;split at hv
 case h_2=>cases hv
 simp only [sI',pI']at hv;obtain⟨rfl,rfl⟩:=hv;simp only [sI']at ho;subst ho;exact NH _ _ _ rfl K hK
def aCe:c9 Ob:=fun args h=>match args,h with
 | [.ptr 0 0,.int .i64 th],[some (.abs (.engine x) [])]=>some (jF x,.slice 1 0 (gR th x).length 1,[.ints (some .i64) (gR th x)])
 | _,_=>none
theorem WT:sT' 32 aCe.spec:=by
 intro args h o ho K hK;unfold c9.spec at ho;split at ho
 case h_2=>cases ho
 rename_i hv;unfold aCe at hv;split at hv
 case h_2=>cases hv
 simp only [sI',pI']at hv;obtain⟨rfl,rfl,rfl⟩:=hv;simp only [sI']at ho;subst ho;exact P4 _ _ _ rfl K hK
def aCd:c9 Ob:=fun args h=>match args,h with
 | [.ptr 0 0,.int .i64 th],[some (.abs (.engine x) [])]=>some (jF x,.slice 1 0 (gO th x).length 1,[.ints (some .i64) (gO th x)])
 | _,_=>none
theorem WS:sT' 35 aCd.spec:=by
 intro args h o ho K hK;unfold c9.spec at ho;split at ho
 case h_2=>cases ho
 rename_i hv;unfold aCd at hv;split at hv
 case h_2=>cases hv
 simp only [sI',pI']at hv;obtain⟨rfl,rfl,rfl⟩:=hv;simp only [sI']at ho;subst ho;exact P3 _ _ _ rfl K hK
def aCa:c9 Ob:=fun args h=>match args,h with
 | [.ptr 0 0,.int .i64 th],[some (.abs (.engine x) [])]=>some (jF x,.slice 1 0 (gG th x).length 1,[.ints (some .i64) (gG th x)])
 | _,_=>none
theorem WO:sT' 69 aCa.spec:=by
 intro args h o ho K hK;unfold c9.spec at ho;split at ho
 case h_2=>cases ho
 rename_i hv;unfold aCa at hv;split at hv
 case h_2=>cases hv
 simp only [sI',pI']at hv;obtain⟨rfl,rfl,rfl⟩:=hv;simp only [sI']at ho;subst ho;exact PX _ _ _ rfl K hK
def aAu:c9 Ob:=fun args h=>match args,h with
 | [.ptr 0 0],[some (.abs (.engine x) [])]=>some (x.h.ev.length≤4294967296∧x.h.cl.length≤4294967296,.ptr 1 0,[.abs (.hist x.h) []])
 | _,_=>none
theorem TH:sT' 28 aAu.spec:=by
 intro args h o ho K hK;unfold c9.spec at ho;split at ho
 case h_2=>cases ho
 rename_i hv;unfold aAu at hv;split at hv
 case h_2=>cases hv
 simp only [sI',pI']at hv;obtain⟨rfl,rfl,rfl⟩:=hv;simp only [sI']at ho;subst ho;exact ND _ _ _ rfl K hK
def aAv:c9 Ob:=fun args h=>match args,h with
 | [.ptr 0 0],[some (.abs (.engine x) [])]=>some (0≤x.s.n∧x.s.n≤100000,.slice 1 0 (dO x).length 1,[.ints (some .i64) (dO x)])
 | _,_=>none
theorem TI:sT' 55 aAv.spec:=by
 intro args h o ho K hK;unfold c9.spec at ho;split at ho
 case h_2=>cases ho
 rename_i hv;unfold aAv at hv;split at hv
 case h_2=>cases hv
 simp only [sI',pI']at hv;obtain⟨rfl,rfl,rfl⟩:=hv;simp only [sI']at ho;subst ho;exact NF _ _ _ rfl K hK
noncomputable def EUe0:=((((((((((EUd.addR 33 aCb WP).addR 34 aAI TT).addR 38 aAx TK).addR 37 aAH TQ).addR 45 aAw TJ).addN 32 aCe WT).addN 35 aCd WS).addN 69 aCa WO).addN 28 aAu TH).addN 55 aAv TI)
noncomputable def EUe:oR Ob Tryz.prog:= {EUe0 with fld:=FG tbl Tryz.prog,fldOk:=fun t l off h v hk V hR w b k hi hV=>KA t l off h v hk V hR w b k hi hV}
theorem L0(th tm:Nat→Int): ∀(c i:Nat) (left:Int),allT ((List.range' i c).map fun i=>[th i,tm i]) left=zH th tm c i left
 | 0,_,_=>rfl
 | c+1,i,left=>by
   show List.replicate (min (tm i) left).toNat (th i)++allT ((List.range' (i+1) c).map fun i=>[th i,tm i]) (left - ((min (tm i) left).toNat :Int))=_;rw [L0 th tm c (i+1)];rfl
def CO(row:Nat→List AVal)(n:Nat):List (List Int):=(List.range n).map fun i=>[thR row i,tmR row i]
theorem DO(row:Nat→List AVal)(n:Nat):allT (CO row n) 60000=cC n row:=by
 unfold CO cC;rw [List.range_eq_range'];exact L0 (thR row) (tmR row) n 0 60000
theorem NC{t n:Int}{x:EGS}(h:egW t n x):jF x:=by
 have hk:=h.k;refine⟨by have:=h.l;have:=h.ht;omega,fun i hi=>?_,fun i hi=>?_,fun i hi=>?_⟩
 ·have h1:=(h.ws i hi).tl;have:=(h.ws i hi).e1;have:=(h.ws i hi).tk;cases hb:(bE x.ws i).b with
  | true=>
    rw [hb]at h1;have h1:((bE x.ws i).tl.length :Int)=(bE x.ws i).en +1:=h1;omega
  | false=>
    rw [hb]at h1;have h1:((bE x.ws i).tl.length :Int)=(bE x.ws i).en +0:=h1;omega
 ·have:=(h.ws i hi).sl;have:=(h.ws i hi).e1;have:=(h.ws i hi).tk;omega
 ·have:=(h.ws i hi).st.3;omega
theorem AQ{t n:Int}{x:EGS}(h:egW t n x):x.h.ev.length≤4294967296∧x.h.cl.length≤4294967296:=by
 have:=h.h.he;have:=h.h.hc;have hk:=h.k;exact⟨by omega,by omega⟩
end Go.Sh
namespace Go.Sh
open Go Go.Proofs
theorem kK{b:Bool}{x y:aC Mc}(hx:cS x=true)(hy:cS y=true):cS (bif b then x else y)=true:=by cases b<;>assumption
theorem wW{A:Type}(ws:List (Option A)): ∀k,aG3 (rowC k ws)=true:=by
 induction ws with
 | nil=>intro k;rfl
 | cons w ws ih=>
   intro k;cases w with
   | none=>exact ih (k+1)
   | some t=>exact ih (k+1)
theorem O3(v:AVal)(hv:v.noV=true)(l:List AVal): ∀i,aG3 l=true→aG3 (l.set i v)=true:=by
 induction l with
 | nil=>intro i h;exact h
 | cons a l ih=>
   intro i h;obtain⟨h1,h2⟩:=Bool.and_eq_true_iff.1 h;cases i with
   | zero=>exact Bool.and_eq_true_iff.2 ⟨hv,h2⟩
   | succ i=>exact Bool.and_eq_true_iff.2 ⟨h1,ih i h2⟩
theorem CK{A:Type}(ws:List (Option A)):cS (P2 ws)=true:=by
 induction ws with
 | nil=>rfl
 | cons w ws ih=>cases w<;>exact ih
theorem VW{A:Type}(h:aC A): ∀i,cS h=true→cS (h.set i none)=true:=by
 induction h with
 | nil=>intro i hh;exact hh
 | cons e h ih=>
   intro i hh;unfold cS at hh⊢;rw [List.all_cons,Bool.and_eq_true]at hh;cases i with
   | zero=>rw [List.set_cons_zero,List.all_cons,Bool.and_eq_true];exact⟨rfl,hh.2⟩
   | succ i=>rw [List.set_cons_succ,List.all_cons,Bool.and_eq_true];exact⟨hh.1,ih i hh.2⟩
theorem HU(t:Mc):cS (tbl t).2=true:=by
 cases t with
 | sweep t n y=>show cS (K7 t n y)=true;unfold K7;split<;>rfl
 | ensure t n e=>show cS (DD t n e)=true;unfold DD;split<;>rfl
 | find t n x=>show cS (uK t n x)=true;unfold uK;exact kK rfl rfl
 | fast t n x=>show cS (nD t n x)=true;unfold nD;exact kK rfl (kK rfl (kK rfl rfl))
 | help t n x=>show cS (kG t n x)=true;unfold kG;exact kK rfl (kK rfl (kK rfl (kK rfl (kK rfl rfl))))
 | doer t n x=>
   show cS (eC t n x)=true;unfold eC
   repeat' (first | apply kK | rfl)
 | worker w=>show cS (wkG w)=true;unfold wkG;exact kK rfl rfl
 | wrow ws=>
   show cS (rowE (ws.map fun w=>some (Mc.worker w)))=true;unfold rowE cS;rw [List.all_cons,Bool.and_eq_true];exact⟨wW _ 1,CK _⟩
 | whole ws i=>
   show cS (kX (ws.map fun w=>some (Mc.worker w)) i)=true;unfold kX cS;rw [List.all_cons,List.all_cons,Bool.and_eq_true,Bool.and_eq_true];exact⟨O3 _ rfl _ i (wW _ 2),rfl,VW _ i (CK _)⟩
 | _=>rfl
variable [c:Con]
def row2(a b c d:Int)(i:Nat):List AVal:=[.I (bif Nat.beq i 0 then a else c),.I (bif Nat.beq i 0 then b else d)]
def runLS:aH Ob:=fun args h=>match args,h with
 | [.ptr 0 0,.slice 1 0 n 2],[some (.abs (.engine x) []),some (.cells [.int .i64 p,.int .i64 q,.int .i64 r,.int .i64 s])]=>some (.pre (n=2∧IU x) (.ret (.I (runP x 0 (cC 2 (row2 p q r s))).2) [some (.abs (.engine (runP x 0 (cC 2 (row2 p q r s))).1) []),cE' [.I p,.I q,.I r,.I s]]))
 | _,_=>none
def aDf(i:Nat):Bool:= !(Nat.beq i 1)
theorem WV:sT' 27 runLS:=by
 intro args h o ho K hK;unfold runLS at ho;split at ho<;>cases ho
 rename_i n x p q r s;obtain⟨⟨rfl,hx⟩,hK⟩:=hK;have hK:K (.I (runP x 0 (cC 2 (row2 p q r s))).2) [some (.abs (.engine (runP x 0 (cC 2 (row2 p q r s))).1) []),cE' [.I p,.I q,.I r,.I s]]:=hK;refine aHv (args2:=[.ptr 0 0,.view 2 2 (row2 p q r s)]) HU aDf ?_ ?_
 ·intro c' hc V l hm hr;obtain⟨v0,l0,rfl,r0,v1,l1,rfl,r1,r2⟩:=hr;refine⟨v0,_,rfl,Rep.con hc _ _ r0,v1,_,rfl,?_,r2⟩;obtain⟨pp,p1,p2⟩:=hm 1 _ rfl rfl;refine tP (Rep.con hc _ _ r1) p1 p2 ?_ (Nat.le_refl _);intro i hi;refine⟨rfl,fun rs h=>?_⟩
  match i,hi with
  | 0,_=>exact h
  | 1,_=>exact h
  | i+2,hi=>omega
 ·intro c';have h1:=@F7 c' [.ptr 0 0,.view 2 2 (row2 p q r s)] [some (.abs (.engine x) [])] _ rfl (fun v g=>v=.I (runP x 0 (cC 2 (row2 p q r s))).2∧g=[some (.abs (.engine (runP x 0 (cC 2 (row2 p q r s))).1) [])]) ⟨⟨hx,by decide,⟨_,_,rfl⟩⟩,⟨rfl,rfl⟩⟩
  refine aHb h1 [0] rfl (by decide) (fun l hl=>by rw [qZ,List.mem_singleton.1 hl];exact Nat.zero_lt_succ _) ?_ rfl ?_
  ·intro i l hi
   match i,hi with
   | 0,hi=>cases hi;rfl
   | i+1,hi=>simp at hi
  ·rintro v g ⟨rfl,rfl⟩ _;refine⟨rfl,rfl,?_,hK⟩;intro l hl hS
   match l,hl with
   | 0,_=>cases hS
   | 1,_=>rfl
   | l+2,hl=>simp at hl;omega
def gA(a c:Int)(i:Nat):Int:=bif Nat.beq i 0 then a else c
def newLS:aH Ob:=fun args h=>match args,h with
 | [.agg [.int .i64 sh,.int .i64 th,.int .i64 nd,.int .i64 tr],.slice 0 0 n 1],[some (.cells [.slice 1 0 n1 2,.slice 2 0 n2 2]),some (.cells [.int .i64 p,.int .i64 q]),some (.cells [.int .i64 r,.int .i64 s])]=>some (.pre ((n=2∧n1=1∧n2=1)∧gnC sh th nd tr 2 (fun _=>1) (fun i _=>gA p r i) (fun i _=>gA q s i)=0)
    (.ret (.tup [.ptr 3 0,.I 0]) [cE' [.slice 1 0 1 2,.slice 2 0 1 2],cE' [.I p,.I q],cE' [.I r,.I s],some (.abs (.engine (dJ sh th nd tr 2 (fun _=>1) (fun i _=>gA p r i) (fun i _=>gA q s i))) [])]))
 | _,_=>none
def vr2(p q r s:Int)(i:Nat):List AVal:=[.view 1 2 (fun _=>[.I (gA p r i),.I (gA q s i)])]
theorem VU:sT' 25 newLS:=by
 intro args h o ho K hK;unfold newLS at ho;split at ho<;>cases ho
 rename_i sh th nd tr n n1 n2 p q r s;obtain⟨⟨⟨rfl,rfl,rfl⟩,hg⟩,hK⟩:=hK;have hK:K (.tup [.ptr 3 0,.I 0]) [cE' [.slice 1 0 1 2,.slice 2 0 1 2],cE' [.I p,.I q],cE' [.I r,.I s],some (.abs (.engine (dJ sh th nd tr 2 (fun _=>1) (fun i _=>gA p r i) (fun i _=>gA q s i))) [])]:=hK;refine aHv (args2:=[.agg [.I sh,.I th,.I nd,.I tr],.view 2 1 (vr2 p q r s)]) HU (fun _=>false) ?_ ?_
 ·intro c' hc V l hm hr;obtain⟨v0,l0,rfl,r0,v1,l1,rfl,r1,r2⟩:=hr;refine⟨v0,_,rfl,Rep.con hc _ _ r0,v1,_,rfl,?_,r2⟩;obtain⟨p0,a1,a2⟩:=hm 0 _ rfl rfl;obtain⟨p1,b1,b2⟩:=hm 1 _ rfl rfl;obtain⟨p2,d1,d2⟩:=hm 2 _ rfl rfl;refine tP (Rep.con hc _ _ r1) a1 a2 ?_ (Nat.le_refl _);intro i hi;refine⟨rfl,fun rs h=>?_⟩
  match i,hi with
  | 0,_=>
    obtain⟨y,ys,rfl,y1,y2⟩:=h;refine⟨y,ys,rfl,?_,y2⟩
    have y3: @Rep c' V (.view 1 2 (fun _=>[.I p,.I q])) y:=tP y1 b1 b2 (fun j hj=>⟨rfl,fun rs h=>by
     match j,hj with
     | 0,_=>exact h
     | j+1,hj=>omega⟩) (Nat.le_refl _)
    exact y3
  | 1,_=>
    obtain⟨y,ys,rfl,y1,y2⟩:=h;refine⟨y,ys,rfl,?_,y2⟩
    have y3: @Rep c' V (.view 1 2 (fun _=>[.I r,.I s])) y:=tP y1 d1 d2 (fun j hj=>⟨rfl,fun rs h=>by
     match j,hj with
     | 0,_=>exact h
     | j+1,hj=>omega⟩) (Nat.le_refl _)
    exact y3
  | i+2,hi=>omega
 ·intro c'
  have h1:=@G5 c' [.agg [.I sh,.I th,.I nd,.I tr],.view 2 1 (vr2 p q r s)] [] _ rfl (fun v g=>v=.tup [.ptr 0 0,.I 0]∧g=[some (.abs (.engine (dJ sh th nd tr 2 (fun _=>1) (fun i _=>gA p r i) (fun i _=>gA q s i))) [])]) ⟨⟨by decide,⟨rfl⟩⟩,by
   show(qJ sh th nd tr 2 (fun _=>1) (fun i _=>gA p r i) (fun i _=>gA q s i)).run _;unfold qJ;rw [hg];exact⟨rfl,rfl⟩⟩
  refine aHb h1 [] rfl (by decide) (fun l hl=>by cases hl) ?_ rfl ?_
  ·intro i l hi;simp at hi
  ·rintro v g ⟨rfl,rfl⟩ _;refine⟨rfl,rfl,?_,hK⟩;intro l hl hS
   match l,hl with
   | 0,_=>rfl
   | 1,_=>rfl
   | 2,_=>rfl
   | l+3,hl=>simp at hl;omega
end Go.Sh
namespace Go.Sh
open Go Go.Proofs
variable [Con]
def G6(m n:Nat)(ln:Nat→Nat):Bool:=bif ilt 10 (m:Int)then true else bif ilt 60 (n:Int)then true else(List.range m).any (fun i=>ilt 50 (ln i:Int))
structure gr1 (m:Nat) (ln:Nat→Nat) (x:Nat):Prop where
 hi:x≤m
 hl: ∀j,j<x→ilt 50 (ln j:Int)=false
def RR(m:Nat)(ln:Nat→Nat)(f g:Nat→Nat→Int):Hint Ob:= {X:=Nat,st:=fun x=>(List.replicate 17 .O ++ [FI m ln f g,.I (m:Int),.I (x:Int)]++List.replicate 7 .O,[]),ok:=gr1 m ln,mu:=fun x=>m - x,keep:=[17,18,19] }
def LGR(m:Nat)(ln:Nat→Nat)(f g:Nat→Nat→Int):FuncId→Nat→Option (pD Ob):=fun _ k=>match k with
 | 4=>some (.states (RR m ln f g))
 | _=>none
def UJ(sh th nd tr:Int)(m:Nat)(ln:Nat→Nat)(f g:Nat→Nat→Int)(n:Nat)(row:Nat→List AVal)(K:AVal→aC Ob→Prop):Prop:=bif ilt 10 (↑m:Int)then K (.bool true) []else bif ilt 60 (↑n:Int)then K (.bool true) []else cV (RR m ln f g) (Hint.ok (RR m ln f g)) (tO' 17 [(.view m 1 fun i=>[.view (ln i) 2 fun j=>[.I (f i j),.I (g i j)]]),.I (↑m:Int),.I 0,.O,.O,.O,.O,.O,.O,.O]) []∧ ∀(x:Nat),gr1 m ln x→bif ilt (↑x:Int) (↑m:Int)then((0:Int)≤(↑x:Int)∧(↑x:Int)<(↑m:Int))∧bif ilt 50 (↑(ln (Int.toNat (↑x:Int))):Int)then K (.bool true) []else cV (RR m ln f g) (fun x'=>Hint.ok (RR m ln f g) x'∧Hint.mu (RR m ln f g) x'<Hint.mu (RR m ln f g) x) (tO' 17 [(.view m 1 fun i=>[.view (ln i) 2 fun j=>[.I (f i j),.I (g i j)]]),.I (↑m:Int),.I (W ((↑x:Int)+1)),.O,.O,.O,.O,.O,.O,.O]) []else K (.bool false) []
theorem OE(sh th nd tr:Int)(m:Nat)(ln:Nat→Nat)(f g:Nat→Nat→Int)(n:Nat)(row:Nat→List AVal)(K:AVal→aC Ob→Prop)(h:UJ sh th nd tr m ln f g n row K):cT' 23 [.agg [.I sh,.I th,.I nd,.I tr,FI m ln f g],.view n 2 row] [] (gC 0 K):=by
 exact aD (E:=EUe) Tryz.checked.mixed (L:=LGR m ln f g) (n:=10) (aK (by kernel_rfl) h)
abbrev aDJ:List Code1:=[some .i64,none,some .i64,some .i64,some .i64,none,some .i64]
structure sm1 (ev:List (List Int)) (x:Nat):Prop where
 hi:x≤ev.length
def RV(y:HST)(ev:List (List Int)):Hint Ob:= {X:=Nat,st:=fun x=>([.ptr 0 0,.ptr 1 0,.O,.O,.O,.tslice 2 0 ev.length 7,.tslice 3 0 ev.length 7]++List.replicate 11 .O ++ [.I (ev.length:Int),.I (x:Int)]++List.replicate 12 .O,[some (.abs (.hist y) []),some (.abs (.hist y) []),some (.tab aDJ ev),some (.tab aDJ ev)]),ok:=sm1 ev,mu:=fun x=>ev.length - x,keep:=[0,1,5,6,18,19] }
def LSM(y:HST)(ev:List (List Int)):FuncId→Nat→Option (pD Ob):=fun _ k=>match k with
 | 5=>some (.states (RV y ev))
 | _=>none
abbrev w5b(x:HST):Option (aJ Ob):=some (.abs (.hist x) [])
def WX(x:HST)(K:AVal→aC Ob→Prop):Prop:=x.1.length≤(4294967296:Nat)∧x.1.length≤(4294967296:Nat)∧bif !ieq (↑x.1.length:Int) (↑x.1.length:Int)then K (.bool false) [w5b x,w5b x]else cV (RV x (HST.ev x)) (Hint.ok (RV x (HST.ev x))) [.ptr 0 0,.ptr 1 0,.O,.O,.O,.tslice 2 0 x.1.length 7,.tslice 3 0 x.1.length 7,.O,.O,.O,.O,.O,.O,.O,.O,.O,.O,.O,.I (↑x.1.length:Int),.I 0,.O,.O,.O,.O,.O,.O,.O,.O,.O,.O,.O,.O] [w5b x,w5b x,some (.tab cK7 x.1),some (.tab cK7 x.1)]∧ ∀(x_1:Nat),sm1 x.1 x_1→bif ilt (↑x_1:Int) (↑x.1.length:Int)then((0:Int)≤(↑x_1:Int)∧(↑x_1:Int)<(↑x.1.length:Int))∧0+Int.toNat (↑x_1:Int)<x.1.length∧((0:Int)≤(↑x_1:Int)∧(↑x_1:Int)<(↑x.1.length:Int))∧0+Int.toNat (↑x_1:Int)<x.1.length∧bif !bif ieq (List.headD (List.getD x.1 (0+Int.toNat (↑x_1:Int)) []) 0) (List.headD (List.getD x.1 (0+Int.toNat (↑x_1:Int)) []) 0)then bif bif !ieq (List.headD (List.tail (List.getD x.1 (0+Int.toNat (↑x_1:Int)) [])) 0) 0 then !ieq (List.headD (List.tail (List.getD x.1 (0+Int.toNat (↑x_1:Int)) [])) 0) 0 else !!ieq (List.headD (List.tail (List.getD x.1 (0+Int.toNat (↑x_1:Int)) [])) 0) 0 then bif bif ieq (List.headD (List.tail (List.tail (List.getD x.1 (0+Int.toNat (↑x_1:Int)) []))) 0) (List.headD (List.tail (List.tail (List.getD x.1 (0+Int.toNat (↑x_1:Int)) []))) 0)then bif ieq (List.headD (List.tail (List.tail (List.tail (List.getD x.1 (0+Int.toNat (↑x_1:Int)) [])))) 0) (List.headD (List.tail (List.tail (List.tail (List.getD x.1 (0+Int.toNat (↑x_1:Int)) [])))) 0)then true else false else false then bif bif ieq (List.headD (List.tail (List.tail (List.tail (List.tail (List.getD x.1 (0+Int.toNat (↑x_1:Int)) []))))) 0) (List.headD (List.tail (List.tail (List.tail (List.tail (List.getD x.1 (0+Int.toNat (↑x_1:Int)) []))))) 0)then bif bif !ieq (List.headD (List.tail (List.tail (List.tail (List.tail (List.tail (List.getD x.1 (0+Int.toNat (↑x_1:Int)) [])))))) 0) 0 then !ieq (List.headD (List.tail (List.tail (List.tail (List.tail (List.tail (List.getD x.1 (0+Int.toNat (↑x_1:Int)) [])))))) 0) 0 else !!ieq (List.headD (List.tail (List.tail (List.tail (List.tail (List.tail (List.getD x.1 (0+Int.toNat (↑x_1:Int)) [])))))) 0) 0 then bif ieq (List.headD (List.tail (List.tail (List.tail (List.tail (List.tail (List.tail (List.getD x.1 (0+Int.toNat (↑x_1:Int)) []))))))) 0) (List.headD (List.tail (List.tail (List.tail (List.tail (List.tail (List.tail (List.getD x.1 (0+Int.toNat (↑x_1:Int)) []))))))) 0)then true else false else false else false then true else false else false else false else false then K (.bool false) [w5b x,w5b x]else cV (RV x (HST.ev x)) (fun x'=>Hint.ok (RV x (HST.ev x)) x'∧Hint.mu (RV x (HST.ev x)) x'<Hint.mu (RV x (HST.ev x)) x_1) [.ptr 0 0,.ptr 1 0,.O,.O,.O,.tslice 2 0 x.1.length 7,.tslice 3 0 x.1.length 7,.O,.O,.O,.O,.O,.O,.O,.O,.O,.O,.O,.I (↑x.1.length:Int),.I (W ((↑x_1:Int)+1)),.O,.O,.O,.O,.O,.O,.O,.O,.O,.O,.O,.O] [w5b x,w5b x,some (.tab cK7 x.1),some (.tab cK7 x.1)]else K (.bool true) [w5b x,w5b x]
theorem QE(x:HST)(K:AVal→aC Ob→Prop)(h:WX x K):cT' 99 [.ptr 0 0,.ptr 1 0] [some (.abs (.hist x) []),some (.abs (.hist x) [])] (gC 2 K):=by
 exact aD (E:=EUe) Tryz.checked.mixed (L:=LSM x x.ev) (n:=10) (aK (by kernel_rfl) h)
theorem aBg{m n:Nat}{ln:Nat→Nat}(h:ilt 10 (m:Int)=true):G6 m n ln=true:=by unfold G6;rw [h];rfl
theorem aBi{m n:Nat}{ln:Nat→Nat}(h:ilt 10 (m:Int)=false)(h2:ilt 60 (n:Int)=true):G6 m n ln=true:=by unfold G6;rw [h,h2];rfl
theorem aBh{m n:Nat}{ln:Nat→Nat}(h:ilt 10 (m:Int)=false)(h2:ilt 60 (n:Int)=false){i:Nat}(hi:i<m)(h3:ilt 50 (ln i:Int)=true):G6 m n ln=true:=by
 unfold G6;rw [h,h2];exact List.any_eq_true.2 ⟨i,List.mem_range.2 hi,h3⟩
theorem aBj{m n:Nat}{ln:Nat→Nat}(h:ilt 10 (m:Int)=false)(h2:ilt 60 (n:Int)=false)(h3: ∀i,i<m→ilt 50 (ln i:Int)=false):G6 m n ln=false:=by
 unfold G6;rw [h,h2];show(List.range m).any _=false;rw [List.any_eq_false];intro i hi;rw [h3 i (List.mem_range.1 hi)];simp
theorem aD2{m n:Nat}{ln:Nat→Nat}(h:G6 m n ln=false):m≤10∧n≤60:=by
 unfold G6 at h;cases h1:ilt 10 (m:Int)with
 | true=>rw [h1]at h;cases h
 | false=>
   cases h2:ilt 60 (n:Int)with
   | true=>rw [h1,h2]at h;cases h
   | false=>have:=f5 h1;have:=f5 h2;omega
theorem aD4(sh th nd tr:Int)(m:Nat)(ln:Nat→Nat)(f g:Nat→Nat→Int)(n:Nat)(row:Nat→List AVal)(K:AVal→aC Ob→Prop)(hK:K (.bool (G6 m n ln)) []):UJ sh th nd tr m ln f g n row K:=by
 have key: ∀c,G6 m n ln=c→K (.bool c) []:=fun c e=>by rw [←e];exact hK
 unfold UJ;refine bI (fun e1=>key true (aBg e1)) (fun e1=>?_);refine bI (fun e2=>key true (aBi e1 e2)) (fun e2=>?_);have m10:=f5 e1;refine⟨aQ (H:=RR m ln f g) (0:Nat) rfl ⟨Nat.zero_le _,fun j hj=>absurd hj (Nat.not_lt_zero _)⟩,?_⟩;rintro x ⟨hx,hxl⟩;refine bI (fun a1=>?_) (fun a1=>?_)
 ·have a1:=f7 a1;have hxm:x<m:=by omega
  rw [Int.toNat_natCast];refine⟨⟨by omega,by omega⟩,bI (fun a2=>key true (aBh e1 e2 hxm a2)) (fun a2=>?_)⟩
  rw [W1 hxm (by omega)]
  refine aQ (H:=RR m ln f g) (x+1:Nat) rfl ⟨⟨hxm,fun j hj=>?_⟩,by show m - (x+1)<m - x;omega⟩
  by_cases e:j=x
  ·subst e;exact a2
  ·exact hxl j (by omega)
 ·have a1:=f5 a1;exact key false (aBj e1 e2 (fun i hi=>hxl i (by omega)))
def grS:aH Ob:=fun args h=>match args,h with
 | [.agg [.int .i64 sh,.int .i64 th,.int .i64 nd,.int .i64 tr,.view m 1 vr],.view n 2 row],[]=>some (.pre (kL vr) (.ret (.bool (G6 m n (vL vr))) []))
 | _,_=>none
theorem aD3:sT' 23 grS:=by
 intro args h o ho K hK;unfold grS at ho;split at ho<;>cases ho
 rename_i sh th nd tr m vr n row;obtain⟨⟨hr⟩,hK⟩:=hK;rw [hr];exact aGz (OE sh th nd tr m (vL vr) (vK vr) (vY vr) n row K (aD4 sh th nd tr m (vL vr) (vK vr) (vY vr) n row K hK))
theorem CC(a:Int):ieq a a=true:=by rw [cO];exact decide_eq_true rfl
theorem W2{i:Nat}{m:Nat}(hi:i<m)(hm:m≤4294967296):W ((i:Int)+1)=((i+1:Nat):Int):=by
 have:=cX (x:=(i:Int)+1) ⟨by omega,by omega⟩
 exact this.trans (by omega)
theorem ZR(b:Bool):(bif b then b else !b)=true:=by cases b<;>rfl
theorem aEF(x:HST)(K:AVal→aC Ob→Prop)(hl:x.ev.length≤4294967296)(hK:K (.bool true) [some (.abs (.hist x) []),some (.abs (.hist x) [])]):WX x K:=by
 unfold WX;refine⟨hl,hl,?_⟩;rw [CC];refine⟨aQ (H:=RV x x.ev) (0:Nat) rfl ⟨Nat.zero_le _⟩,?_⟩;rintro i ⟨hi⟩;refine bI (fun a1=>?_) (fun a1=>hK);have a1:=f7 a1;have hil:i<x.ev.length:=by omega
 refine⟨⟨by omega,a1⟩,by show 0+Int.toNat ((i:Nat):Int)<_;rw [Int.toNat_natCast];omega,⟨by omega,a1⟩,by show 0+Int.toNat ((i:Nat):Int)<_;rw [Int.toNat_natCast];omega,?_⟩
 simp only [CC,ZR,cond_true,Bool.not_true,cond_false];rw [W2 hil hl];exact aQ (H:=RV x x.ev) (i+1:Nat) rfl ⟨⟨hil⟩,by show x.ev.length - (i+1)<x.ev.length - i;omega⟩
def smR:bG Ob:=fun args h=>match args,h with
 | [.ptr 0 0,.ptr 1 0],[some (.abs (.hist x) []),some (.abs (.hist y) [])]=>some (x=y∧x.ev.length≤4294967296,.bool true)
 | _,_=>none
theorem aCg:sT' 99 smR.spec:=by
 intro args h o ho K hK;unfold bG.spec at ho;split at ho
 case h_2=>cases ho
 rename_i p v hv;unfold smR at hv;split at hv
 case h_2=>cases hv
 rename_i x y;simp only [sI',pI']at hv;obtain⟨rfl,rfl⟩:=hv;simp only [sI']at ho;subst ho;obtain⟨⟨rfl,hl⟩,hK⟩:=hK;exact aGz (QE x K (aEF x K hl hK))
noncomputable def EUf:=(EUe.addS 23 grS aD3).addR 99 smR aCg
structure on1 (x:EGS) (u:Nat):Prop where
 hi:(u:Int)≤x.s.t
structure on2 (x:EGS) (a:Nat):Prop where
 hi:(a:Int)≤2*x.s.n+5*x.s.t+6
def RT(x:EGS):Hint Ob:= {X:=Nat,st:=fun u=>([.ptr 0 0,.ptr 1 0,.O,.O,.O,.ptr 2 0,.I (u:Int)]++List.replicate 97 .O,[some (.abs (.engine x) []),some (.abs (.engine x) []),cE' [.I x.s.t,.I x.s.n]]),ok:=on1 x,mu:=fun u=>(x.s.t - (u:Int)).toNat,keep:=[0,1,5,6] }
def RU(x:EGS):Hint Ob:= {X:=Nat,st:=fun a=>([.ptr 0 0,.ptr 1 0,.O,.O,.O,.ptr 2 0,.O,.I (a:Int)]++List.replicate 96 .O,[some (.abs (.engine x) []),some (.abs (.engine x) []),cE' [.I x.s.t,.I x.s.n]]),ok:=on2 x,mu:=fun a=>(2*x.s.n+5*x.s.t+6 - (a:Int)).toNat,keep:=[0,1,5,7] }
def LON(x:EGS):FuncId→Nat→Option (pD Ob):=fun _ k=>match k with
 | 5=>some (.states (RT x))
 | 10=>some (.states (RU x))
 | _=>none
abbrev w5c(x:EGS):Option (aJ Ob):=some (.abs (.engine x) [])
abbrev w5d(x:EGS):List AVal:=[.I (EGS.s x).1,.I (EGS.s x).2]
def VZ(x:EGS)(K:AVal→aC Ob→Prop):Prop:=True∧True∧bif !bif ieq (EGS.s x).1 (EGS.s x).1 then bif ieq (EGS.s x).2 (EGS.s x).2 then true else false else false then K (.bool false) [w5c x,w5c x]else bif !bif ieq x.1 x.1 then bif ieq x.2 x.2 then bif ieq x.3 x.3 then bif ieq x.4 x.4 then true else false else false else false else false then K (.bool false) [w5c x,w5c x]else True∧True∧bif !ieq x.8 x.8 then K (.bool false) [w5c x,w5c x]else(List.length (EGS.h x).1≤(4294967296:Nat)∧List.length (EGS.h x).2≤(4294967296:Nat))∧(List.length (EGS.h x).1≤(4294967296:Nat)∧List.length (EGS.h x).2≤(4294967296:Nat))∧(x.6=x.6∧List.length (EGS.h x).1≤(4294967296:Nat))∧((0:Int)≤(EGS.s x).2∧(EGS.s x).2≤(100000:Int))∧((0:Int)≤(EGS.s x).2∧(EGS.s x).2≤(100000:Int))∧((lE' (dO x)∧lE' (dO x))∧List.length (dO x)≤(4294967296:Nat))∧bif !nW (dO x) (dO x)then K (.bool false) [w5c x,w5c x]else cV (RT x) (Hint.ok (RT x)) (.ptr 0 0::.ptr 1 0::.O::.O::.O::.ptr 2 0::.I 0::(tO' 97 [])) [w5c x,w5c x,cE' (w5d x)]∧ ∀(x_1:Nat),on1 x x_1→bif ilt (↑x_1:Int) (EGS.s x).1 then True∧True∧bif !ieq (lW (↑x_1:Int) x) (lW (↑x_1:Int) x)then K (.bool false) [w5c x,w5c x]else jF x∧jF x∧((lE' (gR (↑x_1:Int) x)∧lE' (gR (↑x_1:Int) x))∧List.length (gR (↑x_1:Int) x)≤(4294967296:Nat))∧bif !nW (gR (↑x_1:Int) x) (gR (↑x_1:Int) x)then K (.bool false) [w5c x,w5c x]else jF x∧jF x∧((lE' (gO (↑x_1:Int) x)∧lE' (gO (↑x_1:Int) x))∧List.length (gO (↑x_1:Int) x)≤(4294967296:Nat))∧bif !nW (gO (↑x_1:Int) x) (gO (↑x_1:Int) x)then K (.bool false) [w5c x,w5c x]else jF x∧jF x∧((lE' (gG (↑x_1:Int) x)∧lE' (gG (↑x_1:Int) x))∧List.length (gG (↑x_1:Int) x)≤(4294967296:Nat))∧bif !nW (gG (↑x_1:Int) x) (gG (↑x_1:Int) x)then K (.bool false) [w5c x,w5c x]else cV (RT x) (fun x'=>Hint.ok (RT x) x'∧Hint.mu (RT x) x'<Hint.mu (RT x) x_1) (.ptr 0 0::.ptr 1 0::.O::.O::.O::.ptr 2 0::.I (W ((↑x_1:Int)+1))::(tO' 97 [])) [w5c x,w5c x,cE' (w5d x)]else cV (RU x) (Hint.ok (RU x)) (.ptr 0 0::.ptr 1 0::.O::.O::.O::.ptr 2 0::.O::.I 0::(tO' 96 [])) [w5c x,w5c x,cE' (w5d x)]∧ ∀(x_2:Nat),on2 x x_2→(((0:Int)≤(EGS.s x).1∧(EGS.s x).1≤(100000:Int))∧(0:Int)≤(EGS.s x).2∧(EGS.s x).2≤(100000:Int))∧bif ilt (↑x_2:Int) (2*(EGS.s x).2+5*(EGS.s x).1+6)then True∧True∧bif !ieq (aE (EGS.s x).3 (↑x_2:Int)) (aE (EGS.s x).3 (↑x_2:Int))then K (.bool false) [w5c x,w5c x]else cV (RU x) (fun x'=>Hint.ok (RU x) x'∧Hint.mu (RU x) x'<Hint.mu (RU x) x_2) (.ptr 0 0::.ptr 1 0::.O::.O::.O::.ptr 2 0::.O::.I (W ((↑x_2:Int)+1))::(tO' 96 [])) [w5c x,w5c x,cE' (w5d x)]else K (.bool true) [w5c x,w5c x]
theorem O6(x:EGS)(K:AVal→aC Ob→Prop)(h:VZ x K):cT' 42 [.ptr 0 0,.ptr 1 0] [some (.abs (.engine x) []),some (.abs (.engine x) [])] (gC 2 K):=by
 exact aD (E:=EUf) Tryz.checked.mixed (L:=LON x) (n:=10) (aK (by kernel_rfl) h)
noncomputable def EUg:=(EUf.addS 25 (aH.or newLS gnS) (aGZ VU G5)).addS 27 (aH.or runLS runS) (aGZ WV F7)
def SD(K:AVal→aC Ob→Prop):Prop:=((2=2∧1=1∧1=1)∧(gnC 4 2 5 1 2 (fun x=>(1:Nat)) (fun i x=>gA 4 5 i) fun i x=>gA 3 0 i)=(0:Int))∧(2=2∧IU (dJ 4 2 5 1 2 (fun x=>(1:Nat)) (fun i x=>gA 4 5 i) fun i x=>gA 3 0 i))∧(List.length (EGS.h (runP (dJ 4 2 5 1 2 (fun x=>(1:Nat)) (fun i x=>gA 4 5 i) fun i x=>gA 3 0 i) 0 (cC 2 (row2 0 99 1 99))).1).1≤(4294967296:Nat)∧List.length (EGS.h (runP (dJ 4 2 5 1 2 (fun x=>(1:Nat)) (fun i x=>gA 4 5 i) fun i x=>gA 3 0 i) 0 (cC 2 (row2 0 99 1 99))).1).2≤(4294967296:Nat))∧List.length (EGS.h (runP (dJ 4 2 5 1 2 (fun x=>(1:Nat)) (fun i x=>gA 4 5 i) fun i x=>gA 3 0 i) 0 (cC 2 (row2 0 99 1 99))).1).2≤(4294967296:Nat)∧True∧bif ieq (runP (dJ 4 2 5 1 2 (fun x=>(1:Nat)) (fun i x=>gA 4 5 i) fun i x=>gA 3 0 i) 0 (cC 2 (row2 0 99 1 99))).2 (Prod.fst (runP (dJ 4 2 5 1 2 (fun x=>(1:Nat)) (fun i x=>gA 4 5 i) fun i x=>gA 3 0 i) 0 (cC 2 (row2 0 99 1 99)))).8 then bif ieq (↑(List.length (EGS.h (runP (dJ 4 2 5 1 2 (fun x=>(1:Nat)) (fun i x=>gA 4 5 i) fun i x=>gA 3 0 i) 0 (cC 2 (row2 0 99 1 99))).1).2):Int) 2 then((0:Int)≤(1:Int)∧(1:Int)<(↑(List.length (EGS.h (runP (dJ 4 2 5 1 2 (fun x=>(1:Nat)) (fun i x=>gA 4 5 i) fun i x=>gA 3 0 i) 0 (cC 2 (row2 0 99 1 99))).1).2):Int))∧0+Int.toNat (1:Int)<List.length (EGS.h (runP (dJ 4 2 5 1 2 (fun x=>(1:Nat)) (fun i x=>gA 4 5 i) fun i x=>gA 3 0 i) 0 (cC 2 (row2 0 99 1 99))).1).2∧bif bif ieq (List.headD (List.tail (List.tail (List.tail (List.tail (List.tail (List.tail (List.getD (EGS.h (runP (dJ 4 2 5 1 2 (fun x=>(1:Nat)) (fun i x=>gA 4 5 i) fun i x=>gA 3 0 i) 0 (cC 2 (row2 0 99 1 99))).1).2 (0+Int.toNat 1) []))))))) 0) 0 then bif bif !ieq (List.headD (List.tail (List.tail (List.tail (List.tail (List.tail (List.tail (List.tail (List.getD (EGS.h (runP (dJ 4 2 5 1 2 (fun x=>(1:Nat)) (fun i x=>gA 4 5 i) fun i x=>gA 3 0 i) 0 (cC 2 (row2 0 99 1 99))).1).2 (0+Int.toNat 1) [])))))))) 0) 0 then true else false then bif ieq (List.headD (List.tail (List.tail (List.tail (List.tail (List.tail (List.tail (List.tail (List.tail (List.getD (EGS.h (runP (dJ 4 2 5 1 2 (fun x=>(1:Nat)) (fun i x=>gA 4 5 i) fun i x=>gA 3 0 i) 0 (cC 2 (row2 0 99 1 99))).1).2 (0+Int.toNat 1) []))))))))) 0) 3 then true else false else false else false then True∧bif ieq (lW 0 (runP (dJ 4 2 5 1 2 (fun x=>(1:Nat)) (fun i x=>gA 4 5 i) fun i x=>gA 3 0 i) 0 (cC 2 (row2 0 99 1 99))).1) 0 then((0:Int)≤(EGS.s (runP (dJ 4 2 5 1 2 (fun x=>(1:Nat)) (fun i x=>gA 4 5 i) fun i x=>gA 3 0 i) 0 (cC 2 (row2 0 99 1 99))).1).2∧(EGS.s (runP (dJ 4 2 5 1 2 (fun x=>(1:Nat)) (fun i x=>gA 4 5 i) fun i x=>gA 3 0 i) 0 (cC 2 (row2 0 99 1 99))).1).2≤(100000:Int))∧K (.bool (ieq (↑(List.length (dO (runP (dJ 4 2 5 1 2 (fun x=>(1:Nat)) (fun i x=>gA 4 5 i) fun i x=>gA 3 0 i) 0 (cC 2 (row2 0 99 1 99))).1)):Int) 0)) []else K (.bool false) []else K (.bool false) []else K (.bool false) []else K (.bool false) []
theorem L8(K:AVal→aC Ob→Prop)(h:SD K):cT' 22 [] [] (gC 0 K):=by
 exact cM' (E:=EUg) (by kernel_rfl) h
theorem WW(xs:List Int):nW xs xs=true:=F8.2 rfl
structure O7 (x:EGS):Prop where
 w: ∃t n:Int,egW t n x
theorem JU(sp:Int)(xs:List Int):(lU sp xs).length ≤xs.length+1:=by
 unfold lU;cases ieq sp 0 with
 | true=>exact Nat.le_succ _
 | false=>exact Nat.le_refl _
theorem LC{x:EGS}(h:jF x)(u:Int):(gR u x).length ≤4294967296:=by
 unfold gR;cases ilt u 0 with
 | true=>exact Nat.zero_le _
 | false=>
   rw [cond_false];cases e:ile (x.ws.length:Int) u with
   | true=>exact Nat.zero_le _
   | false=>
     rw [cE]at e;have e:=of_decide_eq_false e;have h0:=h.h0
     by_cases hu:u.toNat<x.ws.length
     ·exact Nat.le_trans (h.ht _ hu) (by omega)
     ·omega
theorem K5{x:EGS}(h:jF x)(u:Int):(gO u x).length ≤4294967296:=by
 unfold gO;cases ilt u 0 with
 | true=>exact Nat.zero_le _
 | false=>
   rw [cond_false];cases e:ile (x.ws.length:Int) u with
   | true=>exact Nat.zero_le _
   | false=>
     rw [cE]at e;have e:=of_decide_eq_false e;have h0:=h.h0
     by_cases hu:u.toNat<x.ws.length
     ·exact Nat.le_trans (h.hs _ hu) (by omega)
     ·omega
theorem JT{x:EGS}(h:jF x)(u:Int):(gG u x).length ≤4294967296:=by
 unfold gG;cases ilt u 0 with
 | true=>exact Nat.zero_le _
 | false=>
   rw [cond_false];cases e:ile (x.ws.length:Int) u with
   | true=>exact Nat.zero_le _
   | false=>
     rw [cE]at e;have e:=of_decide_eq_false e;have h0:=h.h0
     by_cases hu:u.toNat<x.ws.length
     ·have:=h.hr _ hu;exact Nat.le_trans (JU _ _) (by omega)
     ·omega
theorem EN{x:EGS}(h:0≤x.s.n∧x.s.n≤100000):(dO x).length ≤4294967296:=by
 have l0:=iS x.s.xs x.s.n 0;have l1:=iS x.s.xs x.s.n 1;have l2:=iS x.s.xs x.s.n 2;have l3:=iS x.s.xs x.s.n 3;have hn:x.s.n.toNat≤100000:=by omega
 unfold dO;cases ieq x.sh 3 with
 | true=>rw [cond_true];omega
 | false=>
   rw [cond_false];cases ieq x.sh 4 with
   | true=>rw [cond_true];omega
   | false=>rw [cond_false,oM,List.length_append,List.length_append,List.length_append];omega
set_option maxRecDepth 10000 in
theorem aEA(x:EGS)(K:AVal→aC Ob→Prop)(hx:O7 x)(hK:K (.bool true) [some (.abs (.engine x) []),some (.abs (.engine x) [])]):VZ x K:=by
 obtain⟨⟨t,n,hw⟩⟩:=hx;have hf:=NC hw;have hl:=AQ hw;have ht:=hw.ht;have hn:=hw.hn;have st:=hw.st;have sn:=hw.sn;have hn0:0≤x.s.n∧x.s.n≤100000:=by omega
 have ht0:0≤x.s.t∧x.s.t≤100000:=by omega
 unfold VZ;simp only [CC,WW,cond_true,Bool.not_true,cond_false];refine⟨trivial,trivial,trivial,trivial,hl,hl,⟨trivial,hl.1⟩,hn0,hn0,⟨⟨trivial,trivial⟩,EN hn0⟩,aQ (H:=RT x) (0:Nat) rfl ⟨by show((0:Nat):Int)≤x.s.t;omega⟩,?_⟩
 rintro u ⟨hu⟩;refine bI (fun a1=>?_) (fun a1=>?_)
 ·have a1:=f7 a1;refine⟨trivial,trivial,hf,hf,⟨⟨trivial,trivial⟩,LC hf _⟩,hf,hf,⟨⟨trivial,trivial⟩,K5 hf _⟩,hf,hf,⟨⟨trivial,trivial⟩,JT hf _⟩,?_⟩;have e:W ((u:Int)+1)=((u+1:Nat):Int):=(cX (x:=(u:Int)+1) ⟨by omega,by omega⟩).trans (by omega)
  rw [e];exact aQ (H:=RT x) (u+1:Nat) rfl ⟨⟨by show((u+1:Nat):Int)≤x.s.t;omega⟩,by show(x.s.t - ((u+1:Nat):Int)).toNat <(x.s.t - (u:Int)).toNat;omega⟩
 ·refine⟨aQ (H:=RU x) (0:Nat) rfl ⟨by show((0:Nat):Int)≤2*x.s.n+5*x.s.t+6;omega⟩,?_⟩
  rintro a ⟨ha⟩;refine⟨⟨ht0,hn0⟩,bI (fun b1=>?_) (fun b1=>hK)⟩;have b1:=f7 b1;have e:W ((a:Int)+1)=((a+1:Nat):Int):=(cX (x:=(a:Int)+1) ⟨by omega,by omega⟩).trans (by omega)
  rw [e];exact⟨trivial,trivial,aQ (H:=RU x) (a+1:Nat) rfl ⟨⟨by show((a+1:Nat):Int)≤2*x.s.n+5*x.s.t+6;omega⟩,by show(2*x.s.n+5*x.s.t+6 - ((a+1:Nat):Int)).toNat <(2*x.s.n+5*x.s.t+6 - (a:Int)).toNat;omega⟩⟩
def onS:aH Ob:=fun args h=>match args,h with
 | [.ptr 0 0,.ptr 1 0],[some (.abs (.engine x) []),some (.abs (.engine y) [])]=>some (.pre (x=y∧O7 x) (.ret (.bool true) [some (.abs (.engine x) []),some (.abs (.engine y) [])]))
 | _,_=>none
theorem aEz:sT' 42 onS:=by
 intro args h o ho K hK;unfold onS at ho;split at ho<;>cases ho
 rename_i x y;obtain⟨⟨rfl,hx⟩,hK⟩:=hK;exact aGz (O6 x K (aEA x K hx hK))
theorem P5{t n:Int}(us:List Int): ∀(x:EGS) (c:Int),egW t n x→0≤c→c≤x.k→(runP x c us).2=c+((runP x c us).1.k - x.k):=by
 induction us with
 | nil=>
   intro x c hx h0 hc;show c=c+(x.k - x.k);omega
 | cons u us ih=>
   intro x c hx h0 hc;have hp:=PC u hx;have hk:=hx.k;show(runP (pkF u x).2 (bif (pkF u x).1 then W (c+1)else c) us).2=c+((runP (pkF u x).2 (bif (pkF u x).1 then W (c+1)else c) us).1.k - x.k);cases e:(pkF u x).1 with
   | true=>
     have hy:=hp.yes e;have hk':=hy.1.k;have e5:W (c+1)=c+1:=cX ⟨by omega,by omega⟩
     rw [cond_true,e5,ih _ (c+1) hp.w (by omega) (by omega)]
     omega
   | false=>
     rw [cond_false,hp.no e];exact ih x c hx h0 hc
theorem xW{b:Bool}{p q:Prop}(h:b=true)(hp:p):bif b then p else q:=by rw [h];exact hp
theorem aAK(K:AVal→aC Ob→Prop)(hK:K (.bool true) []):SD K:=by
 have h0:gnC 4 2 5 1 2 (fun x=>(1:Nat)) (fun i x=>gA 4 5 i) (fun i x=>gA 3 0 i)=0:=by kernel_rfl
 have hw:=GU h0;have e1:(runP (dJ 4 2 5 1 2 (fun x=>(1:Nat)) (fun i x=>gA 4 5 i) (fun i x=>gA 3 0 i)) 0 (cC 2 (row2 0 99 1 99))).2=19:=by kernel_rfl
 have e2:(runP (dJ 4 2 5 1 2 (fun x=>(1:Nat)) (fun i x=>gA 4 5 i) (fun i x=>gA 3 0 i)) 0 (cC 2 (row2 0 99 1 99))).1.k =19:=by kernel_rfl
 have e3:(runP (dJ 4 2 5 1 2 (fun x=>(1:Nat)) (fun i x=>gA 4 5 i) (fun i x=>gA 3 0 i)) 0 (cC 2 (row2 0 99 1 99))).1.h.cl =[[0,1,0,0,4,3,0,1,0],[2,3,1,1,5,0,0,1,3]]:=by kernel_rfl
 have e4:lW 0 (runP (dJ 4 2 5 1 2 (fun x=>(1:Nat)) (fun i x=>gA 4 5 i) (fun i x=>gA 3 0 i)) 0 (cC 2 (row2 0 99 1 99))).1=0:=by kernel_rfl
 have e5:(dO (runP (dJ 4 2 5 1 2 (fun x=>(1:Nat)) (fun i x=>gA 4 5 i) (fun i x=>gA 3 0 i)) 0 (cC 2 (row2 0 99 1 99))).1).length =0:=by kernel_rfl
 have hr:=yP (cC 2 (row2 0 99 1 99)) _ 0 hw;unfold SD;generalize hR:runP (dJ 4 2 5 1 2 (fun x=>(1:Nat)) (fun i x=>gA 4 5 i) (fun i x=>gA 3 0 i)) 0 (cC 2 (row2 0 99 1 99))=R at e1 e2 e3 e4 e5 hr⊢;have hn:=hr.sn;have hl:=AQ hr;refine⟨⟨⟨rfl,rfl,rfl⟩,h0⟩,⟨rfl,⟨⟨_,_,hw⟩⟩⟩,hl,hl.2,trivial,?_⟩;rw [e1,e2,e3,e4,e5];refine xW (by kernel_rfl) (xW (by kernel_rfl) ⟨⟨by decide,by decide⟩,by decide,xW (by kernel_rfl) ⟨trivial,xW (by kernel_rfl) ⟨by omega,?_⟩⟩⟩)
 exact hK
def ewkS:aH Ob:=fun args h=>match args,h with
 | [],[]=>some (.ret (.bool true) [])
 | _,_=>none
theorem aAJ:sT' 22 ewkS:=by
 intro args h o ho K hK;unfold ewkS at ho;split at ho
 case h_2=>cases ho
 simp only [sI']at ho;subst ho;exact aGz (L8 K (aAK K hK))
def aDc(sh th nd tr:Int)(m:Nat)(vr:Nat→List AVal)(K:AVal→aC Ob→Prop):Prop:=K (.agg [.I sh,.I th,.I nd,.I tr]) []
theorem MD(sh th nd tr:Int)(m:Nat)(vr:Nat→List AVal)(K:AVal→aC Ob→Prop)(h:aDc sh th nd tr m vr K):cT' 26 [.agg [.I sh,.I th,.I nd,.I tr,.view m 1 vr]] [] (gC 0 K):=by
 exact cM' (E:=EUg) (by kernel_rfl) h
def cfR:bG Ob:=fun args h=>match args,h with
 | [.agg [.int .i64 sh,.int .i64 th,.int .i64 nd,.int .i64 tr,.view m 1 vr]],[]=>some (True,.agg [.I sh,.I th,.I nd,.I tr])
 | _,_=>none
theorem ZV:sT' 26 cfR.spec:=by
 intro args h o ho K hK;unfold bG.spec at ho;split at ho
 case h_2=>cases ho
 rename_i p v hv;unfold cfR at hv;split at hv
 case h_2=>cases hv
 rename_i sh th nd tr m vr;simp only [sI',pI']at hv;obtain⟨rfl,rfl⟩:=hv;simp only [sI']at ho;subst ho;obtain⟨_,hK⟩:=hK;exact aGz (MD sh th nd tr m vr K hK)
def gn1S:aH Ob:=fun args h=>match args,h with
 | [.agg [.int .i64 sh,.int .i64 th,.int .i64 nd,.int .i64 tr],.view m 1 vr],[]=>some (.pre ((m≤1000000∧kL vr)∧gnC sh th nd tr m (vL vr) (vK vr) (vY vr)=0) (.ret (.tup [.ptr 0 0,.I 0]) (egH (dJ sh th nd tr m (vL vr) (vK vr) (vY vr)))))
 | _,_=>none
theorem aBb:sT' 25 gn1S:=by
 intro args h o ho K hK;unfold gn1S at ho;split at ho<;>cases ho
 rename_i sh th nd tr m vr;obtain⟨⟨h1,h2⟩,hK⟩:=hK;have hS:gnS [.agg [.I sh,.I th,.I nd,.I tr],.view m 1 vr] []=some (.pre (m≤1000000∧kL vr) (qJ sh th nd tr m (vL vr) (vK vr) (vY vr))):=rfl;refine G5 _ _ _ hS K ⟨h1,?_⟩;show(qJ sh th nd tr m (vL vr) (vK vr) (vY vr)).run K;unfold qJ;rw [h2];exact hK
noncomputable def EUh:=(((EUg.addS 42 onS aEz).addS 22 ewkS aAJ).addR 26 cfR ZV).addS 25 gn1S aBb
abbrev pkW(pt pm:Nat→Int)(i:Nat):List AVal:=[.I (pt i),.I (pm i)]
def d3(pt pm:Nat→Int)(n:Nat):List (List Int):=(List.range n).map fun i=>[pt i,pm i]
structure et1 (n:Nat) (i:Nat):Prop where
 hi:i≤n
structure et2 (us:List Int) (i:Nat):Prop where
 hi:i≤us.length
def RH(x:EGS)(n:Nat)(pt pm:Nat→Int):Hint Ob:= {X:=Nat,st:=fun i=>([.O,.view n 2 (pkW pt pm),.O,.O,.O,.ptr 0 0,.O,.ptr 1 0,.O,.tslice 2 0 (d3 pt pm i).length 2]++List.replicate 45 .O ++ [.view n 2 (pkW pt pm),.I (n:Int),.I (i:Int)]++List.replicate 41 .O,[some (.abs (.engine x) []),some (.abs (.engine x) []),some (.tab pkK (d3 pt pm i))]),ok:=et1 n,mu:=fun i=>n - i,keep:=[1,5,7,9,55,56,57],casts:=[(.slot 9,.tab pkK)] }
def zC(x:EGS)(n:Nat)(pt pm:Nat→Int)(us:List Int):Hint Ob:= {X:=Nat,st:=fun i=>([.O,.view n 2 (pkW pt pm),.O,.O,.O,.ptr 0 0,.O,.ptr 1 0,.O,.O,.O,.O,.I (runP x 0 (us.take i)).2]++List.replicate 58 .O ++ [.slice 2 0 us.length 1,.I (us.length:Int),.I (i:Int)]++List.replicate 25 .O,[some (.abs (.engine x) []),some (.abs (.engine (runP x 0 (us.take i)).1) []),iI' us]),ok:=et2 us,mu:=fun i=>us.length - i,keep:=[1,5,7,12,71,72,73] }
def LET(x:EGS)(n:Nat)(pt pm:Nat→Int)(us:List Int):FuncId→Nat→Option (pD Ob):=fun _ k=>match k with
 | 11=>some (.states (RH x n pt pm))
 | 17=>some (.states (zC x n pt pm us))
 | _=>none
abbrev w5e(x:EGS):Option (aJ Ob):=some (.abs (.engine x) [])
def TU(sh th nd tr:Int)(m:Nat)(ln:Nat→Nat)(f g:Nat→Nat→Int)(n:Nat)(pt pm:Nat→Int)(x:EGS)(us:List Int)(K:AVal→aC Ob→Prop):Prop:=(kL fun i=>[.view (ln i) 2 fun j=>[.I (f i j),.I (g i j)]])∧bif G6 m n (vL fun i=>[.view (ln i) 2 fun j=>[.I (f i j),.I (g i j)]])then K (.bool true) []else(m≤(1000000:Nat)∧kL fun i=>[.view (ln i) 2 fun j=>[.I (f i j),.I (g i j)]])∧bif !ieq (gnC sh th nd tr m (vL fun i=>[.view (ln i) 2 fun j=>[.I (f i j),.I (g i j)]]) (vK fun i=>[.view (ln i) 2 fun j=>[.I (f i j),.I (g i j)]]) (vY fun i=>[.view (ln i) 2 fun j=>[.I (f i j),.I (g i j)]])) 0 then K (.bool true) []else True∧(((m≤(1000000:Nat)∧kL fun i=>[.view (ln i) 2 fun j=>[.I (f i j),.I (g i j)]])∧gnC sh th nd tr m (vL fun i=>[.view (ln i) 2 fun j=>[.I (f i j),.I (g i j)]]) (vK fun i=>[.view (ln i) 2 fun j=>[.I (f i j),.I (g i j)]]) (vY fun i=>[.view (ln i) 2 fun j=>[.I (f i j),.I (g i j)]])=(0:Int))∧True)∧True∧(((m≤(1000000:Nat)∧kL fun i=>[.view (ln i) 2 fun j=>[.I (f i j),.I (g i j)]])∧gnC sh th nd tr m (vL fun i=>[.view (ln i) 2 fun j=>[.I (f i j),.I (g i j)]]) (vK fun i=>[.view (ln i) 2 fun j=>[.I (f i j),.I (g i j)]]) (vY fun i=>[.view (ln i) 2 fun j=>[.I (f i j),.I (g i j)]])=(0:Int))∧True)∧cV (RH x n pt pm) (Hint.ok (RH x n pt pm)) (.O::.view n 2 (pkW pt pm)::.O::.O::.O::.ptr 0 0::.O::.ptr 1 0::.O::.tslice 2 0 0 2::(tO' 45 (.view n 2 (pkW pt pm)::.I (↑n:Int)::.I 0::(tO' 41 [])))) [some (.abs (.engine (dJ sh th nd tr m (vL fun i=>[.view (ln i) 2 fun j=>[.I (f i j),.I (g i j)]]) (vK fun i=>[.view (ln i) 2 fun j=>[.I (f i j),.I (g i j)]]) (vY fun i=>[.view (ln i) 2 fun j=>[.I (f i j),.I (g i j)]]))) []),some (.abs (.engine (dJ sh th nd tr m (vL fun i=>[.view (ln i) 2 fun j=>[.I (f i j),.I (g i j)]]) (vK fun i=>[.view (ln i) 2 fun j=>[.I (f i j),.I (g i j)]]) (vY fun i=>[.view (ln i) 2 fun j=>[.I (f i j),.I (g i j)]]))) []),some (.tab [some .i64,some .i64] [])]∧ ∀(x_1:Nat),et1 n x_1→bif ilt (↑x_1:Int) (↑n:Int)then((0:Int)≤(↑x_1:Int)∧(↑x_1:Int)<(↑n:Int))∧(0=0∧lE' (d3 pt pm x_1)∧List.length (d3 pt pm x_1)+(1:Nat)≤(4294967296:Nat))∧cV (RH x n pt pm) (fun x'=>Hint.ok (RH x n pt pm) x'∧Hint.mu (RH x n pt pm) x'<Hint.mu (RH x n pt pm) x_1) (.O::.view n 2 (pkW pt pm)::.O::.O::.O::.ptr 0 0::.O::.ptr 1 0::.O::.tslice 2 0 (List.length (d3 pt pm x_1)+1) 2::(tO' 45 (.view n 2 (pkW pt pm)::.I (↑n:Int)::.I (W ((↑x_1:Int)+1))::(tO' 41 [])))) [w5e x,w5e x,some (.tab [some .i64,some .i64] (d3 pt pm x_1++ [[pt (Int.toNat (↑x_1:Int)),pm (Int.toNat (↑x_1:Int))]]))]else(lE' (d3 pt pm x_1)∧List.length (d3 pt pm x_1)≤(4294967296:Nat))∧cV (zC x n pt pm us) (Hint.ok (zC x n pt pm us)) (.O::.view n 2 (pkW pt pm)::.O::.O::.O::.ptr 0 0::.O::.ptr 1 0::.O::.O::.O::.O::.I 0::(tO' 58 (.slice 2 0 (List.length (allT (d3 pt pm x_1) 60000)) 1::.I (↑(List.length (allT (d3 pt pm x_1) 60000)):Int)::.I 0::(tO' 25 [])))) [w5e x,w5e x,iI' (allT (d3 pt pm x_1) 60000)]∧ ∀(x_2:Nat),et2 us x_2→bif ilt (↑x_2:Int) (↑us.length:Int)then((0:Int)≤(↑x_2:Int)∧(↑x_2:Int)<(↑us.length:Int))∧0+Int.toNat (↑x_2:Int)*(1:Nat)<us.length∧PA (List.getD us (0+Int.toNat (↑x_2:Int)*1) 0) (runP x 0 (List.take x_2 us)).1∧bif (pkF (List.getD us (0+Int.toNat (↑x_2:Int)*1) 0) (runP x 0 (List.take x_2 us)).1).1 then cV (zC x n pt pm us) (fun x'=>Hint.ok (zC x n pt pm us) x'∧Hint.mu (zC x n pt pm us) x'<Hint.mu (zC x n pt pm us) x_2) (.O::.view n 2 (pkW pt pm)::.O::.O::.O::.ptr 0 0::.O::.ptr 1 0::.O::.O::.O::.O::.I (W ((runP x 0 (List.take x_2 us)).2+1))::(tO' 58 (.slice 2 0 us.length 1::.I (↑us.length:Int)::.I (W ((↑x_2:Int)+1))::(tO' 25 [])))) [w5e x,some (.abs (.engine (pkF (List.getD us (0+Int.toNat (↑x_2:Int)*1) 0) (runP x 0 (List.take x_2 us)).1).2) []),iI' us]else cV (zC x n pt pm us) (fun x'=>Hint.ok (zC x n pt pm us) x'∧Hint.mu (zC x n pt pm us) x'<Hint.mu (zC x n pt pm us) x_2) (.O::.view n 2 (pkW pt pm)::.O::.O::.O::.ptr 0 0::.O::.ptr 1 0::.O::.O::.O::.O::.I (runP x 0 (List.take x_2 us)).2::(tO' 58 (.slice 2 0 us.length 1::.I (↑us.length:Int)::.I (W ((↑x_2:Int)+1))::(tO' 25 [])))) [w5e x,some (.abs (.engine (pkF (List.getD us (0+Int.toNat (↑x_2:Int)*1) 0) (runP x 0 (List.take x_2 us)).1).2) []),iI' us]else(IU x∧n≤(4294967296:Nat)∧rowOk (pkW pt pm))∧bif ieq (runP x 0 (cC n (pkW pt pm))).2 (runP x 0 (List.take x_2 us)).2 then True∧bif ieq (Prod.fst (runP x 0 (cC n (pkW pt pm)))).8 (runP x 0 (List.take x_2 us)).2 then((runP x 0 (cC n (pkW pt pm))).1=(runP x 0 (List.take x_2 us)).1∧O7 (Prod.fst (runP x 0 (cC n (pkW pt pm)))))∧K (.bool true) []else K (.bool false) []else K (.bool false) []
theorem NP(sh th nd tr:Int)(m:Nat)(ln:Nat→Nat)(f g:Nat→Nat→Int)(n:Nat)(pt pm:Nat→Int)(x:EGS)(us:List Int)(K:AVal→aC Ob→Prop)(h:TU sh th nd tr m ln f g n pt pm x us K):cT' 6 [.agg [.I sh,.I th,.I nd,.I tr,FI m ln f g],.view n 2 (pkW pt pm)] [] (gC 0 K):=by
 exact aD (E:=EUh) Tryz.checked.mixed (L:=LET x n pt pm us) (n:=10) (aK (by kernel_rfl) h)
theorem CP(pt pm:Nat→Int)(i:Nat):d3 pt pm i++ [[pt i,pm i]]=d3 pt pm (i+1):=by
 unfold d3;rw [List.range_succ,List.map_append];rfl
theorem pR(pt pm:Nat→Int)(i:Nat):(d3 pt pm i).length =i:=by
 unfold d3;rw [List.length_map,List.length_range]
theorem L1(rows:List (List Int)): ∀left:Int,0≤left→(allT rows left).length ≤left.toNat:=by
 induction rows with
 | nil=>intro left _;exact Nat.zero_le _
 | cons r rs ih=>
   intro left h;show(List.replicate (min (r.tail.headD 0) left).toNat (r.headD 0)++allT rs (left - ((min (r.tail.headD 0) left).toNat :Int))).length ≤left.toNat;rw [List.length_append,List.length_replicate];have:=ih (left - ((min (r.tail.headD 0) left).toNat :Int)) (by omega)
   omega
theorem K3(x:EGS)(us:List Int)(k:Nat)(hk:k<us.length):runP x 0 (us.take (k+1))=((pkF (us.getD k 0) (runP x 0 (us.take k)).1).2,bif (pkF (us.getD k 0) (runP x 0 (us.take k)).1).1 then W ((runP x 0 (us.take k)).2+1)else(runP x 0 (us.take k)).2):=by
 have e:us.take (k+1)=us.take k++ [us.getD k 0]:=by
  rw [List.take_succ_eq_append_getElem hk,gD',gE' hk];rfl
 rw [e,C3];rfl
set_option maxRecDepth 10000 in
theorem aDI(sh th nd tr:Int)(m:Nat)(ln:Nat→Nat)(f g:Nat→Nat→Int)(n:Nat)(pt pm:Nat→Int)(K:AVal→aC Ob→Prop)(hK:K (.bool true) []):TU sh th nd tr m ln f g n pt pm (dJ sh th nd tr m ln f g) (allT (d3 pt pm n) 60000) K:=by
 have e1:(vL fun i=>[.view (ln i) 2 fun j=>[.I (f i j),.I (g i j)]])=ln:=rfl;have e2:(vK fun i=>[.view (ln i) 2 fun j=>[.I (f i j),.I (g i j)]])=f:=rfl;have e3:(vY fun i=>[.view (ln i) 2 fun j=>[.I (f i j),.I (g i j)]])=g:=rfl;unfold TU;rw [e1,e2,e3];refine⟨⟨rfl⟩,bI (fun _=>hK) (fun hg=>?_)⟩;obtain⟨hm,hnn⟩:=aD2 hg;refine⟨⟨by omega,⟨rfl⟩⟩,bI (fun _=>hK) (fun hc=>?_)⟩
 have hc0:gnC sh th nd tr m ln f g=0:=by
  rw [cO]at hc
  simpa using hc
 have hx:=GU hc0;obtain⟨x,hxe⟩: ∃x,x=dJ sh th nd tr m ln f g:=⟨_,rfl⟩;have hxk:x.k=0:=by rw [hxe];rfl
 obtain⟨us,hus⟩: ∃us,us=allT (d3 pt pm n) 60000:=⟨_,rfl⟩;rw [←hxe,←hus];rw [←hxe]at hx;have hcnt:=P5 us x 0 hx (Int.le_refl 0) (by omega)
 have hp:cC n (pkW pt pm)=us:=by rw [hus];exact(DO (pkW pt pm) n).symm
 refine⟨trivial,⟨⟨⟨by omega,⟨rfl⟩⟩,hc0⟩,trivial⟩,trivial,⟨⟨⟨by omega,⟨rfl⟩⟩,hc0⟩,trivial⟩,aQ (H:=RH x n pt pm) (0:Nat) rfl ⟨Nat.zero_le _⟩,?_⟩
 rintro i ⟨hi⟩;refine bI (fun a1=>?_) (fun a1=>?_)
 ·have a1:=f7 a1;have hin:i<n:=by omega
  rw [Int.toNat_natCast,CP,W2 hin (by omega)]
  have hl:=pR pt pm i;have hl2:=pR pt pm (i+1);refine⟨⟨by omega,a1⟩,⟨rfl,rfl,by omega⟩,aQ (H:=RH x n pt pm) (i+1:Nat) (by simp only [RH];rw [hl,hl2];rfl) ⟨⟨hin⟩,by show n - (i+1)<n - i;omega⟩⟩
 ·have a1:=f5 a1;have hin:i=n:=by omega
  subst hin;rw [←hus,hp];refine⟨⟨rfl,by rw [pR];omega⟩,aQ (H:=zC x i pt pm us) (0:Nat) (by simp only [zC];rw [List.take_zero];rfl) ⟨Nat.zero_le _⟩,?_⟩
  rintro k ⟨hk⟩;refine bI (fun b1=>?_) (fun b1=>?_)
  ·have b1:=f7 b1;have hkl:k<us.length:=by omega
   have hst:=K3 x us k hkl;have hw:=yP (us.take k) x 0 hx;have h60:us.length≤60000:=by rw [hus];exact L1 _ 60000 (by decide)
   rw [Int.toNat_natCast,Nat.mul_one,Nat.zero_add,W2 hkl (by omega)]
   refine⟨⟨by omega,b1⟩,hkl,PB _ hw,bI (fun hb=>?_) (fun hb=>?_)⟩
   ·rw [hb,cond_true]at hst;exact aQ (H:=zC x i pt pm us) (k+1:Nat) (by simp only [zC];rw [hst];rfl) ⟨⟨hkl⟩,by show us.length - (k+1)<us.length - k;omega⟩
   ·rw [hb,cond_false]at hst;exact aQ (H:=zC x i pt pm us) (k+1:Nat) (by simp only [zC];rw [hst];rfl) ⟨⟨hkl⟩,by show us.length - (k+1)<us.length - k;omega⟩
  ·have b1:=f5 b1;have hkl:k=us.length:=by omega
   subst hkl;rw [List.take_length];have hk2:(runP x 0 us).1.k =(runP x 0 us).2:=by omega
   refine⟨⟨⟨_,_,hx⟩,by omega,⟨_,_,rfl⟩⟩,?_⟩
   rw [CC,cond_true,hk2,CC,cond_true];exact⟨trivial,⟨rfl,⟨⟨_,_,yP us x 0 hx⟩⟩⟩,hK⟩
end Go.Sh
