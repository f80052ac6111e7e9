import Derived.Test.YteindpciaceeeaaGreatZSh35toSh36
set_option linter.all false
set_option maxHeartbeats 8000000
namespace Go.Sh
open Go Go.Proofs
variable [Con]
def aAL:bD Ob:=fun args h=>match args,h with
 | [.ptr 0 0,.int .i64 th],[some (.abs (.engine x) [])]=>some (True,.I (gD th x))
 | _,_=>none
theorem gI:sT' 33 aAL.spec:=by
 intro args h o ho K hK;unfold bD.spec at ho;split at ho
 case h_2=>cases ho
 rename_i hv;unfold aAL at hv;split at hv
 case h_2=>cases hv
 simp only [sI',pI']at hv;obtain⟨rfl,rfl⟩:=hv;simp only [sI']at ho;subst ho;exact NC _ _ _ rfl K hK
def YF:bD Ob:=fun args h=>match args,h with
 | [.ptr 0 0],[some (.abs (.engine x) [])]=>some (True,.agg [.I x.s.t,.I x.s.n])
 | _,_=>none
theorem gB:sT' 38 YF.spec:=by
 intro args h o ho K hK;unfold bD.spec at ho;split at ho
 case h_2=>cases ho
 rename_i hv;unfold YF at hv;split at hv
 case h_2=>cases hv
 simp only [sI',pI']at hv;obtain⟨rfl,rfl⟩:=hv;simp only [sI']at ho;subst ho;exact K2 _ _ _ rfl K hK
def YP:bD Ob:=fun args h=>match args,h with
 | [.ptr 0 0,.int .i64 a],[some (.abs (.engine x) [])]=>some (True,.int .u64 (aC x.s.xs a))
 | _,_=>none
theorem kG:sT' 37 YP.spec:=by
 intro args h o ho K hK;unfold bD.spec at ho;split at ho
 case h_2=>cases ho
 rename_i hv;unfold YP at hv;split at hv
 case h_2=>cases hv
 simp only [sI',pI']at hv;obtain⟨rfl,rfl⟩:=hv;simp only [sI']at ho;subst ho;exact K6 _ _ _ rfl K hK
def YE:bD Ob:=fun args h=>match args,h with
 | [.ptr 0 0],[some (.abs (.engine x) [])]=>some (True,.agg [.I x.s.k,.I x.s.a,.int .u64 x.s.o,.int .u64 x.s.w,.bool x.s.ok])
 | _,_=>none
theorem gA:sT' 45 YE.spec:=by
 intro args h o ho K hK;unfold bD.spec at ho;split at ho
 case h_2=>cases ho
 rename_i hv;unfold YE at hv;split at hv
 case h_2=>cases hv
 simp only [sI',pI']at hv;obtain⟨rfl,rfl⟩:=hv;simp only [sI']at ho;subst ho;exact K1 _ _ _ rfl K hK
def YD:fU Ob:=fun args h=>match args,h with
 | [.ptr 0 0],[some (.abs (.engine x) [])]=>some (0≤x.s.n∧x.s.n≤100000,.slice 1 0 (dL x).length 1,[.ints (some .i64) (dL x)])
 | _,_=>none
theorem f8:sT' 55 YD.spec:=by
 intro args h o ho K hK;unfold fU.spec at ho;split at ho
 case h_2=>cases ho
 rename_i hv;unfold YD at hv;split at hv
 case h_2=>cases hv
 simp only [sI',pI']at hv;obtain⟨rfl,rfl,rfl⟩:=hv;simp only [sI']at ho;subst ho;exact KY _ _ _ rfl K hK
noncomputable def EUe0:=((((((((((EUd.addR 33 aAL gI)).addR 38 YF gB).addR 37 YP kG).addR 45 YE gA))))).addN 55 YD f8)
noncomputable def WJ:nZ Ob Tryz.prog:= {EUe0 with fld:=D8 tbl Tryz.prog,fldOk:=fun t l off h v hk V hR w b k hi hV=>IM t l off h v hk V hR w b k hi hV}
end Go.Sh
namespace Go.Sh
open Go Go.Proofs
theorem jX{b:Bool}{x y:aD Mc}(hx:cN x=true)(hy:cN y=true):cN (bif b then x else y)=true:=by cases b<;>assumption
theorem wD{A:Type}(ws:List (Option A)): ∀k,aE3 (rowC k ws)=true:=by
 induction ws with
 | nil=>intro k;rfl
 | cons w ws ih=>
   intro k;cases w with
   | none=>exact ih (k+1)
   | some t=>exact ih (k+1)
theorem L9(v:AVal)(hv:v.noV=true)(l:List AVal): ∀i,aE3 l=true→aE3 (l.set i v)=true:=by
 induction l with
 | nil=>intro i h;exact h
 | cons a l ih=>
   intro i h;obtain⟨h1,h2⟩:=Bool.and_eq_true_iff.1 h;cases i with
   | zero=>exact Bool.and_eq_true_iff.2 ⟨hv,h2⟩
   | succ i=>exact Bool.and_eq_true_iff.2 ⟨h1,ih i h2⟩
theorem BZ{A:Type}(ws:List (Option A)):cN (NF ws)=true:=by
 induction ws with
 | nil=>rfl
 | cons w ws ih=>cases w<;>exact ih
theorem TO{A:Type}(h:aD A): ∀i,cN h=true→cN (h.set i none)=true:=by
 induction h with
 | nil=>intro i hh;exact hh
 | cons e h ih=>
   intro i hh;unfold cN at hh⊢;rw [List.all_cons,Bool.and_eq_true]at hh;cases i with
   | zero=>rw [List.set_cons_zero,List.all_cons,Bool.and_eq_true];exact⟨rfl,hh.2⟩
   | succ i=>rw [List.set_cons_succ,List.all_cons,Bool.and_eq_true];exact⟨hh.1,ih i hh.2⟩
theorem F7(t:Mc):cN (tbl t).2=true:=by
 cases t with
 | sweep t n y=>show cN (JE t n y)=true;unfold JE;split<;>rfl
 | ensure t n e=>show cN (CQ t n e)=true;unfold CQ;split<;>rfl
 | find t n x=>show cN (tN t n x)=true;unfold tN;exact jX rfl rfl
 | fast t n x=>show cN (mL t n x)=true;unfold mL;exact jX rfl (jX rfl (jX rfl rfl))
 | help t n x=>show cN (jT t n x)=true;unfold jT;exact jX rfl (jX rfl (jX rfl (jX rfl (jX rfl rfl))))
 | doer t n x=>
   show cN (d4 t n x)=true;unfold d4
   repeat' (first | apply jX | rfl)
 | worker w=>show cN (wkG w)=true;unfold wkG;exact jX rfl rfl
 | wrow ws=>
   show cN (rowE (ws.map fun w=>some (Mc.worker w)))=true;unfold rowE cN;rw [List.all_cons,Bool.and_eq_true];exact⟨wD _ 1,BZ _⟩
 | whole ws i=>
   show cN (kJ (ws.map fun w=>some (Mc.worker w)) i)=true;unfold kJ cN;rw [List.all_cons,List.all_cons,Bool.and_eq_true,Bool.and_eq_true];exact⟨L9 _ rfl _ i (wD _ 2),rfl,TO _ i (BZ _)⟩
 | _=>rfl
variable [c:Con]
def JR(a c:Int)(i:Nat):Int:=bif Nat.beq i 0 then a else c
def newLS:aI Ob:=fun args h=>match args,h with
 | [.agg [.int .i64 sh,.int .i64 th,.int .i64 nd,.int .i64 tr],.slice 0 0 n 1],[some (.cells [.slice 1 0 n1 2,.slice 2 0 n2 2]),some (.cells [.int .i64 p,.int .i64 q]),some (.cells [.int .i64 r,.int .i64 s])]=>some (.pre ((n=2∧n1=1∧n2=1)∧gnC sh th nd tr 2 (fun _=>1) (fun i _=>JR p r i) (fun i _=>JR q s i)=0)
    (.ret (.tup [.ptr 3 0,.I 0]) [cE' [.slice 1 0 1 2,.slice 2 0 1 2],cE' [.I p,.I q],cE' [.I r,.I s],some (.abs (.engine (pK sh th nd tr 2 (fun _=>1) (fun i _=>JR p r i) (fun i _=>JR q s i))) [])]))
 | _,_=>none
def vr2(p q r s:Int)(i:Nat):List AVal:=[.view 1 2 (fun _=>[.I (JR p r i),.I (JR q s i)])]
theorem TM:sT' 25 newLS:=by
 intro args h o ho K hK;unfold newLS at ho;split at ho<;>cases ho
 rename_i sh th nd tr n n1 n2 p q r s;obtain⟨⟨⟨rfl,rfl,rfl⟩,hg⟩,hK⟩:=hK;have hK:K (.tup [.ptr 3 0,.I 0]) [cE' [.slice 1 0 1 2,.slice 2 0 1 2],cE' [.I p,.I q],cE' [.I r,.I s],some (.abs (.engine (pK sh th nd tr 2 (fun _=>1) (fun i _=>JR p r i) (fun i _=>JR q s i))) [])]:=hK;refine aFt (args2:=[.agg [.I sh,.I th,.I nd,.I tr],.view 2 1 (vr2 p q r s)]) F7 (fun _=>false) ?_ ?_
 ·intro c' hc V l hm hr;obtain⟨v0,l0,rfl,r0,v1,l1,rfl,r1,r2⟩:=hr;refine⟨v0,_,rfl,Rep.con hc _ _ r0,v1,_,rfl,?_,r2⟩;obtain⟨p0,a1,a2⟩:=hm 0 _ rfl rfl;obtain⟨p1,b1,b2⟩:=hm 1 _ rfl rfl;obtain⟨p2,d1,d2⟩:=hm 2 _ rfl rfl;refine qD (Rep.con hc _ _ r1) a1 a2 ?_ (Nat.le_refl _);intro i hi;refine⟨rfl,fun rs h=>?_⟩
  match i,hi with
  | 0,_=>
    obtain⟨y,ys,rfl,y1,y2⟩:=h;refine⟨y,ys,rfl,?_,y2⟩
    have y3: @Rep c' V (.view 1 2 (fun _=>[.I p,.I q])) y:=qD y1 b1 b2 (fun j hj=>⟨rfl,fun rs h=>by
     match j,hj with
     | 0,_=>exact h
     | j+1,hj=>omega⟩) (Nat.le_refl _)
    exact y3
  | 1,_=>
    obtain⟨y,ys,rfl,y1,y2⟩:=h;refine⟨y,ys,rfl,?_,y2⟩
    have y3: @Rep c' V (.view 1 2 (fun _=>[.I r,.I s])) y:=qD y1 d1 d2 (fun j hj=>⟨rfl,fun rs h=>by
     match j,hj with
     | 0,_=>exact h
     | j+1,hj=>omega⟩) (Nat.le_refl _)
    exact y3
  | i+2,hi=>omega
 ·intro c'
  have h1:=@FO c' [.agg [.I sh,.I th,.I nd,.I tr],.view 2 1 (vr2 p q r s)] [] _ rfl (fun v g=>v=.tup [.ptr 0 0,.I 0]∧g=[some (.abs (.engine (pK sh th nd tr 2 (fun _=>1) (fun i _=>JR p r i) (fun i _=>JR q s i))) [])]) ⟨⟨by decide,⟨rfl⟩⟩,by
   show(pO sh th nd tr 2 (fun _=>1) (fun i _=>JR p r i) (fun i _=>JR q s i)).run _;unfold pO;rw [hg];exact⟨rfl,rfl⟩⟩
  refine aFb h1 [] rfl (by decide) (fun l hl=>by cases hl) ?_ rfl ?_
  ·intro i l hi;simp at hi
  ·rintro v g ⟨rfl,rfl⟩ _;refine⟨rfl,rfl,?_,hK⟩;intro l hl hS
   match l,hl with
   | 0,_=>rfl
   | 1,_=>rfl
   | 2,_=>rfl
   | l+3,hl=>simp at hl;omega
end Go.Sh
namespace Go.Sh
open Go Go.Proofs
variable [Con]
theorem aCD(a:Int):ieq a a=true:=by rw [b8];exact decide_eq_true rfl
theorem W2{i:Nat}{m:Nat}(hi:i<m)(hm:m≤4294967296):W ((i:Int)+1)=((i+1:Nat):Int):=by
 have:=cU (x:=(i:Int)+1) ⟨by omega,by omega⟩
 exact this.trans (by omega)
theorem XB(b:Bool):(bif b then b else !b)=true:=by cases b<;>rfl
noncomputable def EUf:=(WJ)
noncomputable def EUg:=(EUf.addS 25 (aI.or newLS gnS) (aEZ TM FO))
abbrev iV(xs:List Int):AVal:=.iview (some .i64) xs
structure eq1 (xs ys:List Int) (i:Nat):Prop where
 h1:i≤xs.length
 h2:xs.length=ys.length
 h3:xs.take i=ys.take i
def yP(a b:AVal)(h:aD Ob)(xs ys:List Int):Hint Ob:= {X:=Nat,st:=fun i=>([a,b]++List.replicate 10 .O ++ [.I (xs.length:Int),.I (i:Int)]++List.replicate 12 .O,h),ok:=eq1 xs ys,mu:=fun i=>xs.length - i,keep:=[0,1,12,13] }
def LEQ(a b:AVal)(h:aD Ob)(xs ys:List Int):FuncId→Nat→Option (qI Ob):=fun _ k=>match k with
 | 4=>some (.states (yP a b h xs ys))
 | _=>none
abbrev OY(xs:List Int):AVal:=.slice 0 0 xs.length 1
abbrev OZ(ys:List Int):AVal:=.slice 1 0 ys.length 1
abbrev KW(xs ys:List Int):aD Ob:=[iI' xs,iI' ys]
def K9(xs ys:List Int)(K:AVal→aD Ob→Prop):Prop:=bif !ieq (↑xs.length:Int) (↑ys.length:Int)then K (.bool false) [iI' xs,iI' ys]else dE (yP (OY xs) (OZ ys) (KW xs ys) xs ys) (Hint.ok (yP (OY xs) (OZ ys) (KW xs ys) xs ys)) [.slice 0 0 xs.length 1,.slice 1 0 ys.length 1,.O,.O,.O,.O,.O,.O,.O,.O,.O,.O,.I (↑xs.length:Int),.I 0,.O,.O,.O,.O,.O,.O,.O,.O,.O,.O,.O,.O] [iI' xs,iI' ys]∧ ∀(x:Nat),eq1 xs ys x→bif ilt (↑x:Int) (↑xs.length:Int)then((0:Int)≤(↑x:Int)∧(↑x:Int)<(↑xs.length:Int))∧0+Int.toNat (↑x:Int)*(1:Nat)<xs.length∧((0:Int)≤(↑x:Int)∧(↑x:Int)<(↑ys.length:Int))∧0+Int.toNat (↑x:Int)*(1:Nat)<ys.length∧bif !ieq (List.getD xs (0+Int.toNat (↑x:Int)*1) 0) (List.getD ys (0+Int.toNat (↑x:Int)*1) 0)then K (.bool false) [iI' xs,iI' ys]else dE (yP (OY xs) (OZ ys) (KW xs ys) xs ys) (fun x'=>Hint.ok (yP (OY xs) (OZ ys) (KW xs ys) xs ys) x'∧Hint.mu (yP (OY xs) (OZ ys) (KW xs ys) xs ys) x'<Hint.mu (yP (OY xs) (OZ ys) (KW xs ys) xs ys) x) [.slice 0 0 xs.length 1,.slice 1 0 ys.length 1,.O,.O,.O,.O,.O,.O,.O,.O,.O,.O,.I (↑xs.length:Int),.I (W ((↑x:Int)+1)),.O,.O,.O,.O,.O,.O,.O,.O,.O,.O,.O,.O] [iI' xs,iI' ys]else K (.bool true) [iI' xs,iI' ys]
theorem HG(xs ys:List Int)(K:AVal→aD Ob→Prop)(h:K9 xs ys K):cT' 108 [OY xs,OZ ys] (KW xs ys) (n8 2 K):=by
 exact aE (E:=WJ) Tryz.checked.mixed (L:=LEQ (OY xs) (OZ ys) (KW xs ys) xs ys) (n:=10) (aJ (by kernel_rfl) h)
def LA(xs ys:List Int)(K:AVal→aD Ob→Prop):Prop:=bif !ieq (↑xs.length:Int) (↑ys.length:Int)then K (.bool false) []else dE (yP (iV xs) (iV ys) [] xs ys) (Hint.ok (yP (iV xs) (iV ys) [] xs ys)) [.iview (some .i64) xs,.iview (some .i64) ys,.O,.O,.O,.O,.O,.O,.O,.O,.O,.O,.I (↑xs.length:Int),.I 0,.O,.O,.O,.O,.O,.O,.O,.O,.O,.O,.O,.O] []∧ ∀(x:Nat),eq1 xs ys x→bif ilt (↑x:Int) (↑xs.length:Int)then((0:Int)≤(↑x:Int)∧(↑x:Int)<(↑xs.length:Int))∧((0:Int)≤(↑x:Int)∧(↑x:Int)<(↑ys.length:Int))∧bif !ieq (List.getD xs (Int.toNat (↑x:Int)) 0) (List.getD ys (Int.toNat (↑x:Int)) 0)then K (.bool false) []else dE (yP (iV xs) (iV ys) [] xs ys) (fun x'=>Hint.ok (yP (iV xs) (iV ys) [] xs ys) x'∧Hint.mu (yP (iV xs) (iV ys) [] xs ys) x'<Hint.mu (yP (iV xs) (iV ys) [] xs ys) x) [.iview (some .i64) xs,.iview (some .i64) ys,.O,.O,.O,.O,.O,.O,.O,.O,.O,.O,.I (↑xs.length:Int),.I (W ((↑x:Int)+1)),.O,.O,.O,.O,.O,.O,.O,.O,.O,.O,.O,.O] []else K (.bool true) []
theorem HH(xs ys:List Int)(K:AVal→aD Ob→Prop)(h:LA xs ys K):cT' 108 [iV xs,iV ys] [] (n8 0 K):=by
 exact aE (E:=WJ) Tryz.checked.mixed (L:=LEQ (iV xs) (iV ys) [] xs ys) (n:=10) (aJ (by kernel_rfl) h)
def woF(a b:List Int)(at':Nat):Bool:=decide (a.length+1=b.length)&&decide (a=b.eraseIdx at')
structure wo1 (a b:List Int) (at':Nat) (i:Nat):Prop where
 h1:i≤a.length
 h2:a.length+1=b.length
 h3: ∀m,m<i→a.getD m 0=b.getD (if at'≤m then m+1 else m) 0
def EZ(a b:List Int)(at':Nat):Hint Ob:= {X:=Nat,st:=fun i=>([iV a,iV b,.I (at':Int),.O,.O,.O,.O,.I (i:Int)]++List.replicate 28 .O,[]),ok:=wo1 a b at',mu:=fun i=>a.length - i,keep:=[0,1,2,7] }
def LWO(a b:List Int)(at':Nat):FuncId→Nat→Option (qI Ob):=fun _ k=>match k with
 | 4=>some (.states (EZ a b at'))
 | _=>none
def UU(a b:List Int)(at':Nat)(K:AVal→aD Ob→Prop):Prop:=bif !ieq (W ((↑a.length:Int)+1)) (↑b.length:Int)then K (.bool false) []else dE (EZ a b at') (Hint.ok (EZ a b at')) (.iview (some .i64) a::.iview (some .i64) b::.I (↑at':Int)::.O::.O::.O::.O::.I 0::(tO' 28 [])) []∧ ∀(x:Nat),wo1 a b at' x→bif ilt (↑x:Int) (↑a.length:Int)then bif ile (↑at':Int) (↑x:Int)then((0:Int)≤(↑x:Int)∧(↑x:Int)<(↑a.length:Int))∧((0:Int)≤W ((↑x:Int)+1)∧W ((↑x:Int)+1)<(↑b.length:Int))∧bif !ieq (List.getD a (Int.toNat (↑x:Int)) 0) (List.getD b (Int.toNat (W ((↑x:Int)+1))) 0)then K (.bool false) []else dE (EZ a b at') (fun x'=>Hint.ok (EZ a b at') x'∧Hint.mu (EZ a b at') x'<Hint.mu (EZ a b at') x) (.iview (some .i64) a::.iview (some .i64) b::.I (↑at':Int)::.O::.O::.O::.O::.I (W ((↑x:Int)+1))::(tO' 28 [])) []else((0:Int)≤(↑x:Int)∧(↑x:Int)<(↑a.length:Int))∧((0:Int)≤(↑x:Int)∧(↑x:Int)<(↑b.length:Int))∧bif !ieq (List.getD a (Int.toNat (↑x:Int)) 0) (List.getD b (Int.toNat (↑x:Int)) 0)then K (.bool false) []else dE (EZ a b at') (fun x'=>Hint.ok (EZ a b at') x'∧Hint.mu (EZ a b at') x'<Hint.mu (EZ a b at') x) (.iview (some .i64) a::.iview (some .i64) b::.I (↑at':Int)::.O::.O::.O::.O::.I (W ((↑x:Int)+1))::(tO' 28 [])) []else K (.bool true) []
theorem OP(a b:List Int)(at':Nat)(K:AVal→aD Ob→Prop)(h:UU a b at' K):cT' 109 [iV a,iV b,.I (at':Int)] [] (n8 0 K):=by
 exact aE (E:=WJ) Tryz.checked.mixed (L:=LWO a b at') (n:=10) (aJ (by kernel_rfl) h)
theorem aCa{xs ys:List Int}{K:AVal→aD Ob→Prop}{h:aD Ob}(hK:K (.bool (fN xs ys)) h):(xs=ys→K (.bool true) h)∧(xs≠ys→K (.bool false) h):=by
 refine⟨fun e=>?_,fun e=>?_⟩
 ·rw [lZ.2 e]at hK;exact hK
 ·have:fN xs ys=false:=by
   cases hs:fN xs ys with
   | false=>rfl
   | true=>exact(e (lZ.1 hs)).elim
  rw [this]at hK;exact hK
theorem FI{xs ys:List Int}{i:Nat}(hi:i<xs.length)(h2:xs.length=ys.length)(h3:xs.take i=ys.take i)(e:xs.getD i 0=ys.getD i 0):xs.take (i+1)=ys.take (i+1):=by
 have hj:i<ys.length:=by omega
 rw [gD',gE' hi,gD',gE' hj]at e;rw [List.take_succ_eq_append_getElem hi,List.take_succ_eq_append_getElem hj,h3];have e5:xs[i]=ys[i]:=by simpa using e
 rw [e5]
theorem YQ(xs ys:List Int)(K:AVal→aD Ob→Prop)(hl:xs.length≤4294967296)(hK:K (.bool (fN xs ys)) (KW xs ys)):K9 xs ys K:=by
 obtain⟨kt,kf⟩:=aCa hK;refine aL (fun e=>kf ?_) (fun e=>?_)
 ·rw [b8]at e;rintro rfl;simp at e
 ·have hle:xs.length=ys.length:=by rw [b8]at e;simp at e;omega
  refine⟨aX (H:=yP (OY xs) (OZ ys) (KW xs ys) xs ys) (0:Nat) rfl ⟨Nat.zero_le _,hle,rfl⟩,?_⟩;rintro i ⟨h1,h2,h3⟩;refine cD (fun e1=>?_) (fun e1=>?_)
  ·have e1:=sB e1;have hi:i<xs.length:=by omega
   have e2:0+(i:Int).toNat *1=i:=by omega
   rw [e2];refine⟨by omega,hi,by omega,by omega,aL (fun e3=>kf ?_) (fun e3=>?_)⟩
   ·rw [b8]at e3;rintro rfl;simp at e3
   ·rw [b8]at e3;have e3:xs.getD i 0=ys.getD i 0:=by simpa using e3
    rw [W2 hi hl];exact aX (H:=yP (OY xs) (OZ ys) (KW xs ys) xs ys) (i+1:Nat) rfl ⟨⟨hi,h2,FI hi h2 h3 e3⟩,by show xs.length - (i+1)<xs.length - i;omega⟩
  ·have e1:=pS e1;refine kt ?_;rw [List.take_of_length_le (by omega),List.take_of_length_le (by omega)]at h3;exact h3
theorem YR(xs ys:List Int)(K:AVal→aD Ob→Prop)(hl:xs.length≤4294967296)(hK:K (.bool (fN xs ys)) []):LA xs ys K:=by
 obtain⟨kt,kf⟩:=aCa hK;refine aL (fun e=>kf ?_) (fun e=>?_)
 ·rw [b8]at e;rintro rfl;simp at e
 ·have hle:xs.length=ys.length:=by rw [b8]at e;simp at e;omega
  refine⟨aX (H:=yP (iV xs) (iV ys) [] xs ys) (0:Nat) rfl ⟨Nat.zero_le _,hle,rfl⟩,?_⟩;rintro i ⟨h1,h2,h3⟩;refine cD (fun e1=>?_) (fun e1=>?_)
  ·have e1:=sB e1;have hi:i<xs.length:=by omega
   rw [Int.toNat_natCast];refine⟨by omega,by omega,aL (fun e3=>kf ?_) (fun e3=>?_)⟩
   ·rw [b8]at e3;rintro rfl;simp at e3
   ·rw [b8]at e3;have e3:xs.getD i 0=ys.getD i 0:=by simpa using e3
    rw [W2 hi hl];exact aX (H:=yP (iV xs) (iV ys) [] xs ys) (i+1:Nat) rfl ⟨⟨hi,h2,FI hi h2 h3 e3⟩,by show xs.length - (i+1)<xs.length - i;omega⟩
  ·have e1:=pS e1;refine kt ?_;rw [List.take_of_length_le (by omega),List.take_of_length_le (by omega)]at h3;exact h3
def eqR:bD Ob:=fun args h=>match args,h with
 | [.slice 0 0 n 1,.slice 1 0 m 1],[some (.ints (some .i64) xs),some (.ints (some .i64) ys)]=>some ((n=xs.length∧m=ys.length)∧n≤4294967296,.bool (fN xs ys))
 | [.iview (some .i64) xs,.iview (some .i64) ys],[]=>some (xs.length≤4294967296,.bool (fN xs ys))
 | _,_=>none
theorem K7:sT' 108 eqR.spec:=by
 intro args h o ho K hK;unfold bD.spec at ho;split at ho
 case h_2=>cases ho
 rename_i p v hv;unfold eqR at hv;split at hv
 case h_3=>cases hv
 ·rename_i n m xs ys;simp only [sI',pI']at hv;obtain⟨rfl,rfl⟩:=hv;simp only [sI']at ho;subst ho;obtain⟨⟨⟨rfl,rfl⟩,hl⟩,hK⟩:=hK;exact aEA (HG xs ys K (YQ xs ys K hl hK))
 ·rename_i xs ys;simp only [sI',pI']at hv;obtain⟨rfl,rfl⟩:=hv;simp only [sI']at ho;subst ho;obtain⟨hl,hK⟩:=hK;exact aEA (HH xs ys K (YR xs ys K hl hK))
theorem vZ{b:List Int}{at' m:Nat}(_:m+1<b.length∨m<b.length - 1):(b.eraseIdx at').getD m 0=b.getD (if at'≤m then m+1 else m) 0:=by
 rw [gD',List.getElem?_eraseIdx,gD']
 by_cases h:m<at'
 ·rw [if_pos h,if_neg (by omega)]
 ·rw [if_neg h,if_pos (by omega)]
theorem uW{a b:List Int}{at':Nat}(hat:at'<b.length)(hl:a.length+1=b.length):a=b.eraseIdx at'↔ ∀m,m<a.length→a.getD m 0=b.getD (if at'≤m then m+1 else m) 0:=by
 have hlen:(b.eraseIdx at').length =a.length:=by rw [List.length_eraseIdx,if_pos hat];omega
 constructor
 ·intro h m hm;have:=vZ (b:=b) (at':=at') (m:=m) (.inl (by omega))
  rw [←h]at this;exact this
 ·intro h;apply List.ext_getElem hlen.symm;intro m h1 h2;have e:=h m h1;rw [←vZ (.inl (by omega))]at e
  rw [gD',gE' h1,gD',gE' h2]at e
  simpa using e
theorem qF{a b:List Int}(h:a.length+1≠b.length)(i:Nat):woF a b i=false:=by unfold woF;rw [decide_eq_false h];rfl
theorem uV{a b:List Int}(h:a.length+1=b.length)(i:Nat):woF a b i=decide (a=b.eraseIdx i):=by unfold woF;rw [decide_eq_true h];rfl
def lQ(a b:List Int):Int×Bool×Bool:=
 match (List.range b.length).find? (fun i=>woF a b i)with
 | some i=>(b.getD i 0,true,true)
 | none=>
   match (List.range a.length).find? (fun i=>woF b a i)with
   | some i=>(a.getD i 0,false,true)
   | none=>(0,false,false)
theorem fW{n:Nat}{p:Nat→Bool}(h: ∀i,i<n→p i=false):(List.range n).find? p=none:=by
 rw [List.find?_eq_none];intro i hi;rw [h i (List.mem_range.1 hi)];simp
theorem HU{n:Nat}{p:Nat→Bool}{i:Nat}(hi:i<n)(h:p i=true): ∃j,(List.range n).find? p=some j∧j≤i∧p j=true:=by
 cases e:(List.range n).find? p with
 | none=>
   rw [List.find?_eq_none]at e;exact absurd h (e i (List.mem_range.2 hi))
 | some j=>
   refine⟨j,rfl,?_,List.find?_some e⟩;rw [List.find?_range_eq_some]at e;cases Nat.lt_or_ge i j with
   | inl hij=>have:=e.2.2 i hij;rw [h]at this;cases this
   | inr hji=>exact hji
theorem tO{n:Nat}{p:Nat→Bool}{i:Nat}(hi:i<n)(h:p i=true)(hf: ∀j,j<i→p j=false):(List.range n).find? p=some i:=by
 rw [List.find?_range_eq_some];exact⟨h,List.mem_range.2 hi,fun j hj=>by rw [hf j hj];rfl⟩
theorem P1{a b:List Int}(h1:a.length≤b.length)(h2:b.length≠a.length+1):lQ a b=(0,false,false):=by
 unfold lQ;rw [fW (fun i _=>qF (fun e=>h2 e.symm) i),fW (fun i _=>qF (by omega) i)]
theorem P4{a b:List Int}(h:b.length<a.length):lQ a b=((lQ b a).1,false,(lQ b a).2.2):=by
 unfold lQ;rw [fW (n:=b.length) (fun i _=>qF (by omega) i)]
 cases (List.range a.length).find? (fun i=>woF b a i)with
 | some i=>rfl
 | none=>rfl
theorem CJ{a b:List Int}{i m:Nat}(h:a.take i=b.take i)(hm:m<i):a.getD m 0=b.getD m 0:=by
 have e:(a.take i)[m]? =(b.take i)[m]? :=by rw [h]
 rw [List.getElem?_take_of_lt hm,List.getElem?_take_of_lt hm]at e;rw [gD',gD',e]
theorem KU{a b:List Int}{i k m:Nat}(h:a.drop i=b.drop (i+1))(hk:m=i+k):a.getD m 0=b.getD (m+1) 0:=by
 have e:(a.drop i)[k]? =(b.drop (i+1))[k]? :=by rw [h]
 rw [List.getElem?_drop,List.getElem?_drop]at e;rw [gD',gD',hk,e,show i+1+k=i+k+1 from by omega]
theorem P2{a b:List Int}{i j:Nat}(hl:b.length=a.length+1)(hi:i≤a.length)(ht:a.take i=b.take i)(hj:a=b.eraseIdx j)(hji:j≤i):b.getD j 0=b.getD i 0:=by
 have hw:=(uW (by omega) hl.symm).1 hj
 have key: ∀k,j+k≤i→b.getD j 0=b.getD (j+k) 0:=by
  intro k
  induction k with
  | zero=>intro _;rfl
  | succ k ih=>
    intro hk;rw [ih (by omega)]
    have e1:=CJ ht (m:=j+k) (by omega)
    have e2:=hw (j+k) (by omega)
    rw [if_pos (by omega)]at e2
    rw [←e1,e2];rfl
 have:=key (i - j) (by omega)
 rw [show j+(i - j)=i from by omega]at this
 exact this
theorem P3{a b:List Int}{i:Nat}(hl:b.length=a.length+1)(hi:i≤a.length)(ht:a.take i=b.take i)(hd:a.drop i=b.drop (i+1)):lQ a b=(b.getD i 0,true,true):=by
 have hw:a=b.eraseIdx i:=by
  refine(uW (by omega) hl.symm).2 fun m hm=>?_
  by_cases h:i≤m
  ·rw [if_pos h];exact KU hd (k:=m - i) (by omega)
  ·rw [if_neg h];exact CJ ht (by omega)
 obtain⟨j,e1,e2,e3⟩:=HU (n:=b.length) (p:=fun i=>woF a b i) (i:=i) (by omega) (by show woF a b i=true;rw [uV hl.symm];exact decide_eq_true hw)
 unfold lQ;rw [e1];show(b.getD j 0,true,true)=_;have e3:woF a b j=true:=e3;rw [uV hl.symm]at e3;rw [P2 hl hi ht (of_decide_eq_true e3) e2]
theorem XO{a b:List Int}{i:Nat}(hl:b.length=a.length+1)(hi:i≤a.length)(ht:a.take i=b.take i)(hx:i=a.length∨a.getD i 0≠b.getD i 0)(hd:a.drop i≠b.drop (i+1)):lQ a b=(0,false,false):=by
 have hf: ∀j,j<b.length→woF a b j=false:=by
  intro j hj;rw [uV hl.symm];refine decide_eq_false fun hw=>hd ?_;have hw:=(uW hj hl.symm).1 hw
  have hji:j≤i:=by
   rcases hx with h | h
   ·omega
   ·cases Nat.lt_or_ge i j with
    | inr h2=>exact h2
    | inl h2=>
      have:=hw i (by omega)
      rw [if_neg (by omega)]at this
      exact(h this).elim
  apply List.ext_getElem (by rw [List.length_drop,List.length_drop];omega)
  intro m h1 h2;rw [List.length_drop]at h1 h2;have:=hw (i+m) (by omega)
  rw [if_pos (by omega),gD',gD',gE' (by omega),gE' (by omega)]at this
  rw [List.getElem_drop,List.getElem_drop];simp only [Option.getD_some]at this;rw [this];congr 1;omega
 unfold lQ;rw [fW hf,fW (fun i _=>qF (by omega) i)]
theorem Z9{a b:Int}(h:(!ieq a b)=true):a≠b:=by rw [b8]at h;simpa using h
theorem aAa{a b:Int}(h:(!ieq a b)=false):a=b:=by rw [b8]at h;simpa using h
theorem aC6(a b:List Int)(at':Nat)(K:AVal→aD Ob→Prop)(hat:at'<b.length)(hb:b.length≤4294967296)(ha:a.length≤4294967296)(hK:K (.bool (woF a b at')) []):UU a b at' K:=by
 have key: ∀c,woF a b at'=c→K (.bool c) []:=fun c e=>by rw [←e];exact hK
 have eW:W ((a.length:Int)+1)=(a.length:Int)+1:=cU ⟨by omega,by omega⟩
 unfold UU;rw [eW];refine cD (fun e=>key false (qF (fun h=>Z9 e (by omega)) at')) (fun e=>?_)
 have hl:a.length+1=b.length:=by have:=aAa e;omega
 refine⟨aX (H:=EZ a b at') (0:Nat) rfl ⟨Nat.zero_le _,hl,fun m hm=>absurd hm (Nat.not_lt_zero _)⟩,?_⟩;rintro i ⟨h1,h2,h3⟩;refine cD (fun a1=>?_) (fun a1=>key true ?_)
 ·have a1:=sB a1;have hi:i<a.length:=by omega
  rw [W2 hi ha,Int.toNat_natCast,Int.toNat_natCast]
  have no: ∀k,(if at'≤i then i+1 else i)=k→(!ieq (a.getD i 0) (b.getD k 0))=true→woF a b at'=false:=by
   intro k hk d;rw [uV hl];refine decide_eq_false fun hw=>?_;have:=(uW hat hl).1 hw i hi;rw [hk]at this;exact Z9 d this
  have yes: ∀k,(if at'≤i then i+1 else i)=k→(!ieq (a.getD i 0) (b.getD k 0))=false→wo1 a b at' (i+1):=by
   intro k hk d;refine⟨hi,hl,fun m hm=>?_⟩
   by_cases e:m=i
   ·subst e;rw [hk];exact aAa d
   ·exact h3 m (by omega)
  refine cD (fun c1=>?_) (fun c1=>?_)
  ·rw [cH,dT']at c1;refine⟨⟨by omega,by omega⟩,⟨by omega,by omega⟩,cD (fun d=>key false (no (i+1) (if_pos (by omega)) d)) (fun d=>?_)⟩
   exact aX (H:=EZ a b at') (i+1:Nat) rfl ⟨yes (i+1) (if_pos (by omega)) d,by show a.length - (i+1)<a.length - i;omega⟩
  ·rw [cH,dF']at c1;refine⟨⟨by omega,by omega⟩,⟨by omega,by omega⟩,cD (fun d=>key false (no i (if_neg (by omega)) d)) (fun d=>?_)⟩
   exact aX (H:=EZ a b at') (i+1:Nat) rfl ⟨yes i (if_neg (by omega)) d,by show a.length - (i+1)<a.length - i;omega⟩
 ·have a1:=pS a1;rw [uV hl];exact decide_eq_true ((uW hat hl).2 fun m hm=>h3 m (by omega))
def woS:aI Ob:=fun args h=>match args,h with
 | [.iview (some .i64) a,.iview (some .i64) b,.int .i64 t],[]=>some (.pre ((0≤t∧t<(b.length:Int))∧b.length≤4294967296∧a.length≤4294967296) (.ret (.bool (woF a b t.toNat)) []))
 | _,_=>none
theorem aC5:sT' 109 woS:=by
 intro args h o ho K hK;unfold woS at ho;split at ho<;>cases ho
 rename_i a b t;obtain⟨⟨⟨h0,h1⟩,h2,h3⟩,hK⟩:=hK;obtain⟨k,rfl⟩:=Int.eq_ofNat_of_zero_le h0;exact aEA (OP a b k K (aC6 a b k K (by omega) h2 h3 hK))
def noS:aI Ob:=fun args h=>match args,h with
 | [.iview (some .i64) a,.iview (some .i64) b],[]=>some (.pre False (.ret (.tup [.I 0,.bool false,.bool false]) []))
 | _,_=>none
theorem aCN:sT' 52 noS:=by
 intro args h o ho K hK;unfold noS at ho;split at ho
 case h_2=>cases ho
 simp only [sI']at ho;subst ho;exact hK.1.elim
noncomputable def ED1:=((WJ.addR 108 eqR K7).addS 109 woS aC5).addS 52 noS aCN
structure df1 (a b:List Int) (i:Nat):Prop where
 h1:i≤a.length
 h3:a.take i=b.take i
def CS(a b:List Int):Hint Ob:= {X:=Nat,st:=fun i=>([iV a,iV b,.O,.O,.O,.O,.O,.O,.O,.O,.I (i:Int)]++List.replicate 52 .O,[]),ok:=df1 a b,mu:=fun i=>a.length - i,keep:=[0,1,10] }
def LDF(a b:List Int):FuncId→Nat→Option (qI Ob):=fun _ k=>match k with
 | 5=>some (.states (CS a b))
 | _=>none
abbrev w4m:List AVal:=[.I 0,.bool false,.bool false]
def P0(a b:List Int)(K:AVal→aD Ob→Prop):Prop:=bif ilt (↑b.length:Int) (↑a.length:Int)then False∧K (.tup w4m) []else dE (CS a b) (Hint.ok (CS a b)) (.iview (some .i64) a::.iview (some .i64) b::.O::.O::.O::.O::.O::.O::.O::.O::.I 0::(tO' 52 [])) []∧ ∀(x:Nat),df1 a b x→bif ilt (↑x:Int) (↑a.length:Int)then((0:Int)≤(↑x:Int)∧(↑x:Int)<(↑a.length:Int))∧((0:Int)≤(↑x:Int)∧(↑x:Int)<(↑b.length:Int))∧bif ieq (List.getD a (Int.toNat (↑x:Int)) 0) (List.getD b (Int.toNat (↑x:Int)) 0)then dE (CS a b) (fun x'=>Hint.ok (CS a b) x'∧Hint.mu (CS a b) x'<Hint.mu (CS a b) x) (.iview (some .i64) a::.iview (some .i64) b::.O::.O::.O::.O::.O::.O::.O::.O::.I (W ((↑x:Int)+1))::(tO' 52 [])) []else bif !ieq (↑b.length:Int) (W ((↑a.length:Int)+1))then K (.tup w4m) []else((0:Int)≤(↑x:Int)∧Int.toNat (↑x:Int)≤a.length)∧((0:Int)≤W ((↑x:Int)+1)∧Int.toNat (W ((↑x:Int)+1))≤b.length)∧List.length (List.drop (Int.toNat (↑x:Int)) a)≤(4294967296:Nat)∧bif !fN (List.drop (Int.toNat (↑x:Int)) a) (List.drop (Int.toNat (W ((↑x:Int)+1))) b)then K (.tup w4m) []else((0:Int)≤(↑x:Int)∧(↑x:Int)<(↑b.length:Int))∧K (.tup [.I (List.getD b (Int.toNat (↑x:Int)) 0),.bool true,.bool true]) []else bif !ieq (↑b.length:Int) (W ((↑a.length:Int)+1))then K (.tup w4m) []else((0:Int)≤(↑x:Int)∧Int.toNat (↑x:Int)≤a.length)∧((0:Int)≤W ((↑x:Int)+1)∧Int.toNat (W ((↑x:Int)+1))≤b.length)∧List.length (List.drop (Int.toNat (↑x:Int)) a)≤(4294967296:Nat)∧bif !fN (List.drop (Int.toNat (↑x:Int)) a) (List.drop (Int.toNat (W ((↑x:Int)+1))) b)then K (.tup w4m) []else((0:Int)≤(↑x:Int)∧(↑x:Int)<(↑b.length:Int))∧K (.tup [.I (List.getD b (Int.toNat (↑x:Int)) 0),.bool true,.bool true]) []
theorem KM(a b:List Int)(K:AVal→aD Ob→Prop)(h:P0 a b K):cT' 52 [iV a,iV b] [] (n8 0 K):=by
 exact aE (E:=ED1) Tryz.checked.mixed (L:=LDF a b) (n:=10) (aJ (by kernel_rfl) h)
structure rd1 (a b:List Int) (i:Nat):Prop where
 h1:i≤b.length
 h2: ∀j,j<i→woF a b j=false
structure rd2 (a b:List Int) (i:Nat):Prop where
 h1:i≤a.length
 h2: ∀j,j<b.length→woF a b j=false
 h3: ∀j,j<i→woF b a j=false
def wW(a b:List Int):Hint Ob:= {X:=Nat,st:=fun i=>([iV a,iV b,.O,.O,.O,.O,.O,.I (i:Int)]++List.replicate 29 .O,[]),ok:=rd1 a b,mu:=fun i=>b.length - i,keep:=[0,1,7] }
def wX(a b:List Int):Hint Ob:= {X:=Nat,st:=fun i=>([iV a,iV b,.O,.O,.O,.O,.O,.O,.I (i:Int)]++List.replicate 28 .O,[]),ok:=rd2 a b,mu:=fun i=>a.length - i,keep:=[0,1,8] }
def LRD(a b:List Int):FuncId→Nat→Option (qI Ob):=fun _ k=>match k with
 | 2=>some (.states (wW a b))
 | 7=>some (.states (wX a b))
 | _=>none
def aAJ(a b:List Int)(K:AVal→aD Ob→Prop):Prop:=dE (wW a b) (Hint.ok (wW a b)) (.iview (some .i64) a::.iview (some .i64) b::.O::.O::.O::.O::.O::.I 0::(tO' 29 [])) []∧ ∀(x:Nat),rd1 a b x→bif ilt (↑x:Int) (↑b.length:Int)then(((0:Int)≤(↑x:Int)∧(↑x:Int)<(↑b.length:Int))∧b.length≤(4294967296:Nat)∧a.length≤(4294967296:Nat))∧bif woF a b (Int.toNat (↑x:Int))then((0:Int)≤(↑x:Int)∧(↑x:Int)<(↑b.length:Int))∧K (.tup [.I (List.getD b (Int.toNat (↑x:Int)) 0),.bool true,.bool true]) []else dE (wW a b) (fun x'=>Hint.ok (wW a b) x'∧Hint.mu (wW a b) x'<Hint.mu (wW a b) x) (.iview (some .i64) a::.iview (some .i64) b::.O::.O::.O::.O::.O::.I (W ((↑x:Int)+1))::(tO' 29 [])) []else dE (wX a b) (Hint.ok (wX a b)) (.iview (some .i64) a::.iview (some .i64) b::.O::.O::.O::.O::.O::.O::.I 0::(tO' 28 [])) []∧ ∀(x:Nat),rd2 a b x→bif ilt (↑x:Int) (↑a.length:Int)then(((0:Int)≤(↑x:Int)∧(↑x:Int)<(↑a.length:Int))∧a.length≤(4294967296:Nat)∧b.length≤(4294967296:Nat))∧bif woF b a (Int.toNat (↑x:Int))then((0:Int)≤(↑x:Int)∧(↑x:Int)<(↑a.length:Int))∧K (.tup [.I (List.getD a (Int.toNat (↑x:Int)) 0),.bool false,.bool true]) []else dE (wX a b) (fun x'=>Hint.ok (wX a b) x'∧Hint.mu (wX a b) x'<Hint.mu (wX a b) x) (.iview (some .i64) a::.iview (some .i64) b::.O::.O::.O::.O::.O::.O::.I (W ((↑x:Int)+1))::(tO' 28 [])) []else K (.tup w4m) []
theorem MZ(a b:List Int)(K:AVal→aD Ob→Prop)(h:aAJ a b K):cT' 53 [iV a,iV b] [] (n8 0 K):=by
 exact aE (E:=ED1) Tryz.checked.mixed (L:=LRD a b) (n:=10) (aJ (by kernel_rfl) h)
end Go.Sh
namespace Go.Sh
open Go Go.Proofs
def pU(n:Nat):EGS:=Nat.repeat (fun x=>(pkF 0 x).2) n (pK 1 1 5 0 1 (fun _=>1) (fun _ _=>1) (fun _ _=>3))
def a22(k:Nat):EGS:=⟨1,1,5,0,(pU k).s,(pU k).h,(pU k).ws,Int.ofNat k⟩
variable [Con]
abbrev e22(k:Nat):aH Ob:=.abs (.engine (a22 k)) []
theorem LZ:pU 0=a22 0:=by kernel_rfl
theorem aAb:pU 1=a22 1:=by kernel_rfl
theorem aAc:pU 2=a22 2:=by kernel_rfl
theorem aAd:pU 3=a22 3:=by kernel_rfl
theorem aAe:pU 4=a22 4:=by kernel_rfl
theorem aAf:pU 5=a22 5:=by kernel_rfl
theorem aAg:pU 6=a22 6:=by kernel_rfl
theorem aAh:pU 7=a22 7:=by kernel_rfl
theorem aAi:pU 8=a22 8:=by kernel_rfl
theorem aAj:pU 9=a22 9:=by kernel_rfl
def p22S:aI Ob:=fun args h=>match args,h with
 | [.ptr 0 0,.int .i64 u],[some (.abs (.engine x) [])]=>match x.k with
  | .ofNat k=>match k with
   | 0=>some (.pre (u=0∧x=a22 0) (.ret (.bool true) [some (e22 1)]))
   | 1=>some (.pre (u=0∧x=a22 1) (.ret (.bool true) [some (e22 2)]))
   | 2=>some (.pre (u=0∧x=a22 2) (.ret (.bool true) [some (e22 3)]))
   | 3=>some (.pre (u=0∧x=a22 3) (.ret (.bool true) [some (e22 4)]))
   | 4=>some (.pre (u=0∧x=a22 4) (.ret (.bool true) [some (e22 5)]))
   | 5=>some (.pre (u=0∧x=a22 5) (.ret (.bool true) [some (e22 6)]))
   | 6=>some (.pre (u=0∧x=a22 6) (.ret (.bool true) [some (e22 7)]))
   | 7=>some (.pre (u=0∧x=a22 7) (.ret (.bool true) [some (e22 8)]))
   | 8=>some (.pre (u=0∧x=a22 8) (.ret (.bool true) [some (e22 9)]))
   | 9=>some (.pre (u=0∧x=a22 9) (.ret (.bool false) [some (e22 9)]))
   | _=>none
  | _=>none
 | _,_=>none
def aAm:bD Ob:=fun args h=>match args,h with
 | [.ptr 0 0],[some (.abs (.engine x) [])]=>match x.k with
  | .ofNat k=>match k with
   | 0=>some (x=a22 0,.agg [.I 0,.I 0,.int .u64 0,.int .u64 0,.bool false])
   | 1=>some (x=a22 1,.agg [.I 1,.I 19,.int .u64 0,.int .u64 0,.bool true])
   | 2=>some (x=a22 2,.agg [.I 1,.I 10,.int .u64 0,.int .u64 0,.bool true])
   | 3=>some (x=a22 3,.agg [.I 3,.I 10,.int .u64 0,.int .u64 1,.bool true])
   | 4=>some (x=a22 4,.agg [.I 1,.I 6,.int .u64 0,.int .u64 0,.bool true])
   | 5=>some (x=a22 5,.agg [.I 1,.I 1,.int .u64 0,.int .u64 0,.bool true])
   | 6=>some (x=a22 6,.agg [.I 2,.I 1,.int .u64 0,.int .u64 33554435,.bool true])
   | 7=>some (x=a22 7,.agg [.I 3,.I 6,.int .u64 0,.int .u64 33555456,.bool true])
   | 8=>some (x=a22 8,.agg [.I 2,.I 15,.int .u64 0,.int .u64 0,.bool true])
   | 9=>some (x=a22 9,.agg [.I 2,.I 16,.int .u64 0,.int .u64 0,.bool true])
   | _=>none
  | _=>none
 | _,_=>none
def aBd:bD Ob:=fun args h=>match args,h with
 | [.ptr 0 0],[some (.abs (.engine x) [])]=>match x.k with
  | .ofNat k=>match k with
   | 0=>some (x=a22 0,.agg [.I 1,.I 5])
   | 1=>some (x=a22 1,.agg [.I 1,.I 5])
   | 2=>some (x=a22 2,.agg [.I 1,.I 5])
   | 3=>some (x=a22 3,.agg [.I 1,.I 5])
   | 4=>some (x=a22 4,.agg [.I 1,.I 5])
   | 5=>some (x=a22 5,.agg [.I 1,.I 5])
   | 6=>some (x=a22 6,.agg [.I 1,.I 5])
   | 7=>some (x=a22 7,.agg [.I 1,.I 5])
   | 8=>some (x=a22 8,.agg [.I 1,.I 5])
   | 9=>some (x=a22 9,.agg [.I 1,.I 5])
   | _=>none
  | _=>none
 | _,_=>none
def Y0:bD Ob:=fun args h=>match args,h with
 | [.ptr 0 0,.int .i64 u],[some (.abs (.engine x) [])]=>match x.k with
  | .ofNat k=>match k with
   | 0=>some (u=0∧x=a22 0,.I 1)
   | 1=>some (u=0∧x=a22 1,.I 1)
   | 2=>some (u=0∧x=a22 2,.I 1)
   | 3=>some (u=0∧x=a22 3,.I 1)
   | 4=>some (u=0∧x=a22 4,.I 1)
   | 5=>some (u=0∧x=a22 5,.I 1)
   | 6=>some (u=0∧x=a22 6,.I 1)
   | 7=>some (u=0∧x=a22 7,.I 1)
   | 8=>some (u=0∧x=a22 8,.I 1)
   | 9=>some (u=0∧x=a22 9,.I 0)
   | _=>none
  | _=>none
 | _,_=>none
def Z8:fU Ob:=fun args h=>match args,h with
 | [.ptr 0 0],[some (.abs (.engine x) [])]=>match x.k with
  | .ofNat k=>match k with
   | 0=>some (x=a22 0,.slice 1 0 0 1,[.ints (some .i64) []])
   | 1=>some (x=a22 1,.slice 1 0 0 1,[.ints (some .i64) []])
   | 2=>some (x=a22 2,.slice 1 0 0 1,[.ints (some .i64) []])
   | 3=>some (x=a22 3,.slice 1 0 0 1,[.ints (some .i64) []])
   | 4=>some (x=a22 4,.slice 1 0 0 1,[.ints (some .i64) []])
   | 5=>some (x=a22 5,.slice 1 0 0 1,[.ints (some .i64) []])
   | 6=>some (x=a22 6,.slice 1 0 0 1,[.ints (some .i64) []])
   | 7=>some (x=a22 7,.slice 1 0 1 1,[.ints (some .i64) [3]])
   | 8=>some (x=a22 8,.slice 1 0 1 1,[.ints (some .i64) [3]])
   | 9=>some (x=a22 9,.slice 1 0 1 1,[.ints (some .i64) [3]])
   | _=>none
  | _=>none
 | _,_=>none
def aAk:bD Ob:=fun args h=>match args,h with
 | [.ptr 0 0,.int .i64 a],[some (.abs (.engine x) [])]=>match x.k with
  | .ofNat k=>match k with
   | 0=>match a with
    | .ofNat m=>match m with
     | 10=>some (x=a22 0,.int .u64 0)
     | 11=>some (x=a22 0,.int .u64 0)
     | 12=>some (x=a22 0,.int .u64 0)
     | 13=>some (x=a22 0,.int .u64 0)
     | 14=>some (x=a22 0,.int .u64 0)
     | _=>none
    | _=>none
   | 1=>none
   | 2=>match a with
    | .ofNat m=>match m with
     | 10=>some (x=a22 2,.int .u64 0)
     | _=>none
    | _=>none
   | 3=>match a with
    | .ofNat m=>match m with
     | 10=>some (x=a22 3,.int .u64 1)
     | _=>none
    | _=>none
   | 4=>none
   | 5=>none
   | 6=>none
   | 7=>none
   | 8=>none
   | 9=>none
   | _=>none
  | _=>none
 | _,_=>none
theorem O2(k:Nat):egW 1 5 (pU k):=by
 induction k with
 | zero=>exact RC (by kernel_rfl)
 | succ k ih=>exact(aAz 0 ih).w
theorem NY:egW 1 5 (a22 0):=by rw [←LZ];exact O2 0
theorem NZ:egW 1 5 (a22 1):=by rw [←aAb];exact O2 1
theorem OA:egW 1 5 (a22 2):=by rw [←aAc];exact O2 2
theorem OB:egW 1 5 (a22 3):=by rw [←aAd];exact O2 3
theorem OC:egW 1 5 (a22 4):=by rw [←aAe];exact O2 4
theorem OD:egW 1 5 (a22 5):=by rw [←aAf];exact O2 5
theorem OE:egW 1 5 (a22 6):=by rw [←aAg];exact O2 6
theorem OF:egW 1 5 (a22 7):=by rw [←aAh];exact O2 7
theorem OG:egW 1 5 (a22 8):=by rw [←aAi];exact O2 8
theorem OH:egW 1 5 (a22 9):=by rw [←aAj];exact O2 9
theorem aAw:sT' 41 p22S:=by
 intro args h o ho K hK;unfold p22S at ho;split at ho
 case h_2=>cases ho
 rename_i u x;split at ho
 case h_2=>cases ho
 split at ho
 ·simp only [sI']at ho;subst ho;obtain⟨⟨rfl,rfl⟩,hK⟩:=hK;have hK:K (.bool true) [some (e22 1)]:=hK;have e1:(pkF 0 (a22 0)).1=true:=by kernel_rfl
  have e2:(pkF 0 (a22 0)).2=a22 1:=by kernel_rfl
  have hS:pkS [.ptr 0 0,.I 0] [some (e22 0)]=some (.pre (sJ 0 (a22 0)) (.ret (.bool (pkF 0 (a22 0)).1) [some (.abs (.engine (pkF 0 (a22 0)).2) [])])):=rfl;refine nB _ _ _ hS K ⟨lA 0 NY,?_⟩;show K (.bool (pkF 0 (a22 0)).1) [some (.abs (.engine (pkF 0 (a22 0)).2) [])];rw [e1,e2];exact hK
 ·simp only [sI']at ho;subst ho;obtain⟨⟨rfl,rfl⟩,hK⟩:=hK;have hK:K (.bool true) [some (e22 2)]:=hK;have e1:(pkF 0 (a22 1)).1=true:=by kernel_rfl
  have e2:(pkF 0 (a22 1)).2=a22 2:=by kernel_rfl
  have hS:pkS [.ptr 0 0,.I 0] [some (e22 1)]=some (.pre (sJ 0 (a22 1)) (.ret (.bool (pkF 0 (a22 1)).1) [some (.abs (.engine (pkF 0 (a22 1)).2) [])])):=rfl;refine nB _ _ _ hS K ⟨lA 0 NZ,?_⟩;show K (.bool (pkF 0 (a22 1)).1) [some (.abs (.engine (pkF 0 (a22 1)).2) [])];rw [e1,e2];exact hK
 ·simp only [sI']at ho;subst ho;obtain⟨⟨rfl,rfl⟩,hK⟩:=hK;have hK:K (.bool true) [some (e22 3)]:=hK;have e1:(pkF 0 (a22 2)).1=true:=by kernel_rfl
  have e2:(pkF 0 (a22 2)).2=a22 3:=by kernel_rfl
  have hS:pkS [.ptr 0 0,.I 0] [some (e22 2)]=some (.pre (sJ 0 (a22 2)) (.ret (.bool (pkF 0 (a22 2)).1) [some (.abs (.engine (pkF 0 (a22 2)).2) [])])):=rfl;refine nB _ _ _ hS K ⟨lA 0 OA,?_⟩;show K (.bool (pkF 0 (a22 2)).1) [some (.abs (.engine (pkF 0 (a22 2)).2) [])];rw [e1,e2];exact hK
 ·simp only [sI']at ho;subst ho;obtain⟨⟨rfl,rfl⟩,hK⟩:=hK;have hK:K (.bool true) [some (e22 4)]:=hK;have e1:(pkF 0 (a22 3)).1=true:=by kernel_rfl
  have e2:(pkF 0 (a22 3)).2=a22 4:=by kernel_rfl
  have hS:pkS [.ptr 0 0,.I 0] [some (e22 3)]=some (.pre (sJ 0 (a22 3)) (.ret (.bool (pkF 0 (a22 3)).1) [some (.abs (.engine (pkF 0 (a22 3)).2) [])])):=rfl;refine nB _ _ _ hS K ⟨lA 0 OB,?_⟩;show K (.bool (pkF 0 (a22 3)).1) [some (.abs (.engine (pkF 0 (a22 3)).2) [])];rw [e1,e2];exact hK
 ·simp only [sI']at ho;subst ho;obtain⟨⟨rfl,rfl⟩,hK⟩:=hK;have hK:K (.bool true) [some (e22 5)]:=hK;have e1:(pkF 0 (a22 4)).1=true:=by kernel_rfl
  have e2:(pkF 0 (a22 4)).2=a22 5:=by kernel_rfl
  have hS:pkS [.ptr 0 0,.I 0] [some (e22 4)]=some (.pre (sJ 0 (a22 4)) (.ret (.bool (pkF 0 (a22 4)).1) [some (.abs (.engine (pkF 0 (a22 4)).2) [])])):=rfl;refine nB _ _ _ hS K ⟨lA 0 OC,?_⟩;show K (.bool (pkF 0 (a22 4)).1) [some (.abs (.engine (pkF 0 (a22 4)).2) [])];rw [e1,e2];exact hK
 ·simp only [sI']at ho;subst ho;obtain⟨⟨rfl,rfl⟩,hK⟩:=hK;have hK:K (.bool true) [some (e22 6)]:=hK;have e1:(pkF 0 (a22 5)).1=true:=by kernel_rfl
  have e2:(pkF 0 (a22 5)).2=a22 6:=by kernel_rfl
  have hS:pkS [.ptr 0 0,.I 0] [some (e22 5)]=some (.pre (sJ 0 (a22 5)) (.ret (.bool (pkF 0 (a22 5)).1) [some (.abs (.engine (pkF 0 (a22 5)).2) [])])):=rfl;refine nB _ _ _ hS K ⟨lA 0 OD,?_⟩;show K (.bool (pkF 0 (a22 5)).1) [some (.abs (.engine (pkF 0 (a22 5)).2) [])];rw [e1,e2];exact hK
 ·simp only [sI']at ho;subst ho;obtain⟨⟨rfl,rfl⟩,hK⟩:=hK;have hK:K (.bool true) [some (e22 7)]:=hK;have e1:(pkF 0 (a22 6)).1=true:=by kernel_rfl
  have e2:(pkF 0 (a22 6)).2=a22 7:=by kernel_rfl
  have hS:pkS [.ptr 0 0,.I 0] [some (e22 6)]=some (.pre (sJ 0 (a22 6)) (.ret (.bool (pkF 0 (a22 6)).1) [some (.abs (.engine (pkF 0 (a22 6)).2) [])])):=rfl;refine nB _ _ _ hS K ⟨lA 0 OE,?_⟩;show K (.bool (pkF 0 (a22 6)).1) [some (.abs (.engine (pkF 0 (a22 6)).2) [])];rw [e1,e2];exact hK
 ·simp only [sI']at ho;subst ho;obtain⟨⟨rfl,rfl⟩,hK⟩:=hK;have hK:K (.bool true) [some (e22 8)]:=hK;have e1:(pkF 0 (a22 7)).1=true:=by kernel_rfl
  have e2:(pkF 0 (a22 7)).2=a22 8:=by kernel_rfl
  have hS:pkS [.ptr 0 0,.I 0] [some (e22 7)]=some (.pre (sJ 0 (a22 7)) (.ret (.bool (pkF 0 (a22 7)).1) [some (.abs (.engine (pkF 0 (a22 7)).2) [])])):=rfl;refine nB _ _ _ hS K ⟨lA 0 OF,?_⟩;show K (.bool (pkF 0 (a22 7)).1) [some (.abs (.engine (pkF 0 (a22 7)).2) [])];rw [e1,e2];exact hK
 ·simp only [sI']at ho;subst ho;obtain⟨⟨rfl,rfl⟩,hK⟩:=hK;have hK:K (.bool true) [some (e22 9)]:=hK;have e1:(pkF 0 (a22 8)).1=true:=by kernel_rfl
  have e2:(pkF 0 (a22 8)).2=a22 9:=by kernel_rfl
  have hS:pkS [.ptr 0 0,.I 0] [some (e22 8)]=some (.pre (sJ 0 (a22 8)) (.ret (.bool (pkF 0 (a22 8)).1) [some (.abs (.engine (pkF 0 (a22 8)).2) [])])):=rfl;refine nB _ _ _ hS K ⟨lA 0 OG,?_⟩;show K (.bool (pkF 0 (a22 8)).1) [some (.abs (.engine (pkF 0 (a22 8)).2) [])];rw [e1,e2];exact hK
 ·simp only [sI']at ho;subst ho;obtain⟨⟨rfl,rfl⟩,hK⟩:=hK;have hK:K (.bool false) [some (e22 9)]:=hK;have e1:(pkF 0 (a22 9)).1=false:=by kernel_rfl
  have e2:(pkF 0 (a22 9)).2=a22 9:=by kernel_rfl
  have hS:pkS [.ptr 0 0,.I 0] [some (e22 9)]=some (.pre (sJ 0 (a22 9)) (.ret (.bool (pkF 0 (a22 9)).1) [some (.abs (.engine (pkF 0 (a22 9)).2) [])])):=rfl;refine nB _ _ _ hS K ⟨lA 0 OH,?_⟩;show K (.bool (pkF 0 (a22 9)).1) [some (.abs (.engine (pkF 0 (a22 9)).2) [])];rw [e1,e2];exact hK
 ·cases ho
theorem TH:sT' 45 aAm.spec:=by
 intro args h o ho K hK;unfold bD.spec at ho;split at ho
 case h_2=>cases ho
 rename_i hv;unfold aAm at hv;split at hv
 case h_2=>cases hv
 rename_i x;split at hv
 case h_2=>cases hv
 split at hv
 ·simp only [sI',pI']at hv;obtain⟨rfl,rfl⟩:=hv;simp only [sI']at ho;subst ho;obtain⟨rfl,hK⟩:=hK;exact gA [.ptr 0 0] [some (e22 0)] _ rfl K ⟨trivial,Eq.mp (congrArg (fun v=>K v [some (e22 0)]) (by kernel_rfl:AVal.agg [.I 0,.I 0,.int .u64 0,.int .u64 0,.bool false]=.agg [.I (a22 0).s.k,.I (a22 0).s.a,.int .u64 (a22 0).s.o,.int .u64 (a22 0).s.w,.bool (a22 0).s.ok])) hK⟩
 ·simp only [sI',pI']at hv;obtain⟨rfl,rfl⟩:=hv;simp only [sI']at ho;subst ho;obtain⟨rfl,hK⟩:=hK;exact gA [.ptr 0 0] [some (e22 1)] _ rfl K ⟨trivial,Eq.mp (congrArg (fun v=>K v [some (e22 1)]) (by kernel_rfl:AVal.agg [.I 1,.I 19,.int .u64 0,.int .u64 0,.bool true]=.agg [.I (a22 1).s.k,.I (a22 1).s.a,.int .u64 (a22 1).s.o,.int .u64 (a22 1).s.w,.bool (a22 1).s.ok])) hK⟩
 ·simp only [sI',pI']at hv;obtain⟨rfl,rfl⟩:=hv;simp only [sI']at ho;subst ho;obtain⟨rfl,hK⟩:=hK;exact gA [.ptr 0 0] [some (e22 2)] _ rfl K ⟨trivial,Eq.mp (congrArg (fun v=>K v [some (e22 2)]) (by kernel_rfl:AVal.agg [.I 1,.I 10,.int .u64 0,.int .u64 0,.bool true]=.agg [.I (a22 2).s.k,.I (a22 2).s.a,.int .u64 (a22 2).s.o,.int .u64 (a22 2).s.w,.bool (a22 2).s.ok])) hK⟩
 ·simp only [sI',pI']at hv;obtain⟨rfl,rfl⟩:=hv;simp only [sI']at ho;subst ho;obtain⟨rfl,hK⟩:=hK;exact gA [.ptr 0 0] [some (e22 3)] _ rfl K ⟨trivial,Eq.mp (congrArg (fun v=>K v [some (e22 3)]) (by kernel_rfl:AVal.agg [.I 3,.I 10,.int .u64 0,.int .u64 1,.bool true]=.agg [.I (a22 3).s.k,.I (a22 3).s.a,.int .u64 (a22 3).s.o,.int .u64 (a22 3).s.w,.bool (a22 3).s.ok])) hK⟩
 ·simp only [sI',pI']at hv;obtain⟨rfl,rfl⟩:=hv;simp only [sI']at ho;subst ho;obtain⟨rfl,hK⟩:=hK;exact gA [.ptr 0 0] [some (e22 4)] _ rfl K ⟨trivial,Eq.mp (congrArg (fun v=>K v [some (e22 4)]) (by kernel_rfl:AVal.agg [.I 1,.I 6,.int .u64 0,.int .u64 0,.bool true]=.agg [.I (a22 4).s.k,.I (a22 4).s.a,.int .u64 (a22 4).s.o,.int .u64 (a22 4).s.w,.bool (a22 4).s.ok])) hK⟩
 ·simp only [sI',pI']at hv;obtain⟨rfl,rfl⟩:=hv;simp only [sI']at ho;subst ho;obtain⟨rfl,hK⟩:=hK;exact gA [.ptr 0 0] [some (e22 5)] _ rfl K ⟨trivial,Eq.mp (congrArg (fun v=>K v [some (e22 5)]) (by kernel_rfl:AVal.agg [.I 1,.I 1,.int .u64 0,.int .u64 0,.bool true]=.agg [.I (a22 5).s.k,.I (a22 5).s.a,.int .u64 (a22 5).s.o,.int .u64 (a22 5).s.w,.bool (a22 5).s.ok])) hK⟩
 ·simp only [sI',pI']at hv;obtain⟨rfl,rfl⟩:=hv;simp only [sI']at ho;subst ho;obtain⟨rfl,hK⟩:=hK;exact gA [.ptr 0 0] [some (e22 6)] _ rfl K ⟨trivial,Eq.mp (congrArg (fun v=>K v [some (e22 6)]) (by kernel_rfl:AVal.agg [.I 2,.I 1,.int .u64 0,.int .u64 33554435,.bool true]=.agg [.I (a22 6).s.k,.I (a22 6).s.a,.int .u64 (a22 6).s.o,.int .u64 (a22 6).s.w,.bool (a22 6).s.ok])) hK⟩
 ·simp only [sI',pI']at hv;obtain⟨rfl,rfl⟩:=hv;simp only [sI']at ho;subst ho;obtain⟨rfl,hK⟩:=hK;exact gA [.ptr 0 0] [some (e22 7)] _ rfl K ⟨trivial,Eq.mp (congrArg (fun v=>K v [some (e22 7)]) (by kernel_rfl:AVal.agg [.I 3,.I 6,.int .u64 0,.int .u64 33555456,.bool true]=.agg [.I (a22 7).s.k,.I (a22 7).s.a,.int .u64 (a22 7).s.o,.int .u64 (a22 7).s.w,.bool (a22 7).s.ok])) hK⟩
 ·simp only [sI',pI']at hv;obtain⟨rfl,rfl⟩:=hv;simp only [sI']at ho;subst ho;obtain⟨rfl,hK⟩:=hK;exact gA [.ptr 0 0] [some (e22 8)] _ rfl K ⟨trivial,Eq.mp (congrArg (fun v=>K v [some (e22 8)]) (by kernel_rfl:AVal.agg [.I 2,.I 15,.int .u64 0,.int .u64 0,.bool true]=.agg [.I (a22 8).s.k,.I (a22 8).s.a,.int .u64 (a22 8).s.o,.int .u64 (a22 8).s.w,.bool (a22 8).s.ok])) hK⟩
 ·simp only [sI',pI']at hv;obtain⟨rfl,rfl⟩:=hv;simp only [sI']at ho;subst ho;obtain⟨rfl,hK⟩:=hK;exact gA [.ptr 0 0] [some (e22 9)] _ rfl K ⟨trivial,Eq.mp (congrArg (fun v=>K v [some (e22 9)]) (by kernel_rfl:AVal.agg [.I 2,.I 16,.int .u64 0,.int .u64 0,.bool true]=.agg [.I (a22 9).s.k,.I (a22 9).s.a,.int .u64 (a22 9).s.o,.int .u64 (a22 9).s.w,.bool (a22 9).s.ok])) hK⟩
 ·cases hv
theorem U0:sT' 38 aBd.spec:=by
 intro args h o ho K hK;unfold bD.spec at ho;split at ho
 case h_2=>cases ho
 rename_i hv;unfold aBd at hv;split at hv
 case h_2=>cases hv
 rename_i x;split at hv
 case h_2=>cases hv
 split at hv
 ·simp only [sI',pI']at hv;obtain⟨rfl,rfl⟩:=hv;simp only [sI']at ho;subst ho;obtain⟨rfl,hK⟩:=hK;exact gB [.ptr 0 0] [some (e22 0)] _ rfl K ⟨trivial,Eq.mp (congrArg (fun v=>K v [some (e22 0)]) (by kernel_rfl:AVal.agg [.I 1,.I 5]=.agg [.I (a22 0).s.t,.I (a22 0).s.n])) hK⟩
 ·simp only [sI',pI']at hv;obtain⟨rfl,rfl⟩:=hv;simp only [sI']at ho;subst ho;obtain⟨rfl,hK⟩:=hK;exact gB [.ptr 0 0] [some (e22 1)] _ rfl K ⟨trivial,Eq.mp (congrArg (fun v=>K v [some (e22 1)]) (by kernel_rfl:AVal.agg [.I 1,.I 5]=.agg [.I (a22 1).s.t,.I (a22 1).s.n])) hK⟩
 ·simp only [sI',pI']at hv;obtain⟨rfl,rfl⟩:=hv;simp only [sI']at ho;subst ho;obtain⟨rfl,hK⟩:=hK;exact gB [.ptr 0 0] [some (e22 2)] _ rfl K ⟨trivial,Eq.mp (congrArg (fun v=>K v [some (e22 2)]) (by kernel_rfl:AVal.agg [.I 1,.I 5]=.agg [.I (a22 2).s.t,.I (a22 2).s.n])) hK⟩
 ·simp only [sI',pI']at hv;obtain⟨rfl,rfl⟩:=hv;simp only [sI']at ho;subst ho;obtain⟨rfl,hK⟩:=hK;exact gB [.ptr 0 0] [some (e22 3)] _ rfl K ⟨trivial,Eq.mp (congrArg (fun v=>K v [some (e22 3)]) (by kernel_rfl:AVal.agg [.I 1,.I 5]=.agg [.I (a22 3).s.t,.I (a22 3).s.n])) hK⟩
 ·simp only [sI',pI']at hv;obtain⟨rfl,rfl⟩:=hv;simp only [sI']at ho;subst ho;obtain⟨rfl,hK⟩:=hK;exact gB [.ptr 0 0] [some (e22 4)] _ rfl K ⟨trivial,Eq.mp (congrArg (fun v=>K v [some (e22 4)]) (by kernel_rfl:AVal.agg [.I 1,.I 5]=.agg [.I (a22 4).s.t,.I (a22 4).s.n])) hK⟩
 ·simp only [sI',pI']at hv;obtain⟨rfl,rfl⟩:=hv;simp only [sI']at ho;subst ho;obtain⟨rfl,hK⟩:=hK;exact gB [.ptr 0 0] [some (e22 5)] _ rfl K ⟨trivial,Eq.mp (congrArg (fun v=>K v [some (e22 5)]) (by kernel_rfl:AVal.agg [.I 1,.I 5]=.agg [.I (a22 5).s.t,.I (a22 5).s.n])) hK⟩
 ·simp only [sI',pI']at hv;obtain⟨rfl,rfl⟩:=hv;simp only [sI']at ho;subst ho;obtain⟨rfl,hK⟩:=hK;exact gB [.ptr 0 0] [some (e22 6)] _ rfl K ⟨trivial,Eq.mp (congrArg (fun v=>K v [some (e22 6)]) (by kernel_rfl:AVal.agg [.I 1,.I 5]=.agg [.I (a22 6).s.t,.I (a22 6).s.n])) hK⟩
 ·simp only [sI',pI']at hv;obtain⟨rfl,rfl⟩:=hv;simp only [sI']at ho;subst ho;obtain⟨rfl,hK⟩:=hK;exact gB [.ptr 0 0] [some (e22 7)] _ rfl K ⟨trivial,Eq.mp (congrArg (fun v=>K v [some (e22 7)]) (by kernel_rfl:AVal.agg [.I 1,.I 5]=.agg [.I (a22 7).s.t,.I (a22 7).s.n])) hK⟩
 ·simp only [sI',pI']at hv;obtain⟨rfl,rfl⟩:=hv;simp only [sI']at ho;subst ho;obtain⟨rfl,hK⟩:=hK;exact gB [.ptr 0 0] [some (e22 8)] _ rfl K ⟨trivial,Eq.mp (congrArg (fun v=>K v [some (e22 8)]) (by kernel_rfl:AVal.agg [.I 1,.I 5]=.agg [.I (a22 8).s.t,.I (a22 8).s.n])) hK⟩
 ·simp only [sI',pI']at hv;obtain⟨rfl,rfl⟩:=hv;simp only [sI']at ho;subst ho;obtain⟨rfl,hK⟩:=hK;exact gB [.ptr 0 0] [some (e22 9)] _ rfl K ⟨trivial,Eq.mp (congrArg (fun v=>K v [some (e22 9)]) (by kernel_rfl:AVal.agg [.I 1,.I 5]=.agg [.I (a22 9).s.t,.I (a22 9).s.n])) hK⟩
 ·cases hv
theorem RO:sT' 33 Y0.spec:=by
 intro args h o ho K hK;unfold bD.spec at ho;split at ho
 case h_2=>cases ho
 rename_i hv;unfold Y0 at hv;split at hv
 case h_2=>cases hv
 rename_i u x;split at hv
 case h_2=>cases hv
 split at hv
 ·simp only [sI',pI']at hv;obtain⟨rfl,rfl⟩:=hv;simp only [sI']at ho;subst ho;obtain⟨⟨rfl,rfl⟩,hK⟩:=hK;exact gI [.ptr 0 0,.I 0] [some (e22 0)] _ rfl K ⟨trivial,Eq.mp (congrArg (fun v=>K v [some (e22 0)]) (by kernel_rfl:AVal.int .i64 1=.I (gD 0 (a22 0)))) hK⟩
 ·simp only [sI',pI']at hv;obtain⟨rfl,rfl⟩:=hv;simp only [sI']at ho;subst ho;obtain⟨⟨rfl,rfl⟩,hK⟩:=hK;exact gI [.ptr 0 0,.I 0] [some (e22 1)] _ rfl K ⟨trivial,Eq.mp (congrArg (fun v=>K v [some (e22 1)]) (by kernel_rfl:AVal.int .i64 1=.I (gD 0 (a22 1)))) hK⟩
 ·simp only [sI',pI']at hv;obtain⟨rfl,rfl⟩:=hv;simp only [sI']at ho;subst ho;obtain⟨⟨rfl,rfl⟩,hK⟩:=hK;exact gI [.ptr 0 0,.I 0] [some (e22 2)] _ rfl K ⟨trivial,Eq.mp (congrArg (fun v=>K v [some (e22 2)]) (by kernel_rfl:AVal.int .i64 1=.I (gD 0 (a22 2)))) hK⟩
 ·simp only [sI',pI']at hv;obtain⟨rfl,rfl⟩:=hv;simp only [sI']at ho;subst ho;obtain⟨⟨rfl,rfl⟩,hK⟩:=hK;exact gI [.ptr 0 0,.I 0] [some (e22 3)] _ rfl K ⟨trivial,Eq.mp (congrArg (fun v=>K v [some (e22 3)]) (by kernel_rfl:AVal.int .i64 1=.I (gD 0 (a22 3)))) hK⟩
 ·simp only [sI',pI']at hv;obtain⟨rfl,rfl⟩:=hv;simp only [sI']at ho;subst ho;obtain⟨⟨rfl,rfl⟩,hK⟩:=hK;exact gI [.ptr 0 0,.I 0] [some (e22 4)] _ rfl K ⟨trivial,Eq.mp (congrArg (fun v=>K v [some (e22 4)]) (by kernel_rfl:AVal.int .i64 1=.I (gD 0 (a22 4)))) hK⟩
 ·simp only [sI',pI']at hv;obtain⟨rfl,rfl⟩:=hv;simp only [sI']at ho;subst ho;obtain⟨⟨rfl,rfl⟩,hK⟩:=hK;exact gI [.ptr 0 0,.I 0] [some (e22 5)] _ rfl K ⟨trivial,Eq.mp (congrArg (fun v=>K v [some (e22 5)]) (by kernel_rfl:AVal.int .i64 1=.I (gD 0 (a22 5)))) hK⟩
 ·simp only [sI',pI']at hv;obtain⟨rfl,rfl⟩:=hv;simp only [sI']at ho;subst ho;obtain⟨⟨rfl,rfl⟩,hK⟩:=hK;exact gI [.ptr 0 0,.I 0] [some (e22 6)] _ rfl K ⟨trivial,Eq.mp (congrArg (fun v=>K v [some (e22 6)]) (by kernel_rfl:AVal.int .i64 1=.I (gD 0 (a22 6)))) hK⟩
 ·simp only [sI',pI']at hv;obtain⟨rfl,rfl⟩:=hv;simp only [sI']at ho;subst ho;obtain⟨⟨rfl,rfl⟩,hK⟩:=hK;exact gI [.ptr 0 0,.I 0] [some (e22 7)] _ rfl K ⟨trivial,Eq.mp (congrArg (fun v=>K v [some (e22 7)]) (by kernel_rfl:AVal.int .i64 1=.I (gD 0 (a22 7)))) hK⟩
 ·simp only [sI',pI']at hv;obtain⟨rfl,rfl⟩:=hv;simp only [sI']at ho;subst ho;obtain⟨⟨rfl,rfl⟩,hK⟩:=hK;exact gI [.ptr 0 0,.I 0] [some (e22 8)] _ rfl K ⟨trivial,Eq.mp (congrArg (fun v=>K v [some (e22 8)]) (by kernel_rfl:AVal.int .i64 1=.I (gD 0 (a22 8)))) hK⟩
 ·simp only [sI',pI']at hv;obtain⟨rfl,rfl⟩:=hv;simp only [sI']at ho;subst ho;obtain⟨⟨rfl,rfl⟩,hK⟩:=hK;exact gI [.ptr 0 0,.I 0] [some (e22 9)] _ rfl K ⟨trivial,Eq.mp (congrArg (fun v=>K v [some (e22 9)]) (by kernel_rfl:AVal.int .i64 0=.I (gD 0 (a22 9)))) hK⟩
 ·cases hv
theorem TE:sT' 55 Z8.spec:=by
 intro args h o ho K hK;unfold fU.spec at ho;split at ho
 case h_2=>cases ho
 rename_i hv;unfold Z8 at hv;split at hv
 case h_2=>cases hv
 rename_i x;split at hv
 case h_2=>cases hv
 split at hv
 ·simp only [sI',pI']at hv;obtain⟨rfl,rfl,rfl⟩:=hv;simp only [sI']at ho;subst ho;obtain⟨rfl,hK⟩:=hK;exact f8 [.ptr 0 0] [some (e22 0)] _ rfl K ⟨⟨by rw [NY.sn];decide,by rw [NY.sn];decide⟩,Eq.mp (congrArg (fun l:List Int=>K (.slice 1 0 l.length 1) [some (e22 0),iI' l]) (by kernel_rfl:([]:List Int)=dL (a22 0))) hK⟩
 ·simp only [sI',pI']at hv;obtain⟨rfl,rfl,rfl⟩:=hv;simp only [sI']at ho;subst ho;obtain⟨rfl,hK⟩:=hK;exact f8 [.ptr 0 0] [some (e22 1)] _ rfl K ⟨⟨by rw [NZ.sn];decide,by rw [NZ.sn];decide⟩,Eq.mp (congrArg (fun l:List Int=>K (.slice 1 0 l.length 1) [some (e22 1),iI' l]) (by kernel_rfl:([]:List Int)=dL (a22 1))) hK⟩
 ·simp only [sI',pI']at hv;obtain⟨rfl,rfl,rfl⟩:=hv;simp only [sI']at ho;subst ho;obtain⟨rfl,hK⟩:=hK;exact f8 [.ptr 0 0] [some (e22 2)] _ rfl K ⟨⟨by rw [OA.sn];decide,by rw [OA.sn];decide⟩,Eq.mp (congrArg (fun l:List Int=>K (.slice 1 0 l.length 1) [some (e22 2),iI' l]) (by kernel_rfl:([]:List Int)=dL (a22 2))) hK⟩
 ·simp only [sI',pI']at hv;obtain⟨rfl,rfl,rfl⟩:=hv;simp only [sI']at ho;subst ho;obtain⟨rfl,hK⟩:=hK;exact f8 [.ptr 0 0] [some (e22 3)] _ rfl K ⟨⟨by rw [OB.sn];decide,by rw [OB.sn];decide⟩,Eq.mp (congrArg (fun l:List Int=>K (.slice 1 0 l.length 1) [some (e22 3),iI' l]) (by kernel_rfl:([]:List Int)=dL (a22 3))) hK⟩
 ·simp only [sI',pI']at hv;obtain⟨rfl,rfl,rfl⟩:=hv;simp only [sI']at ho;subst ho;obtain⟨rfl,hK⟩:=hK;exact f8 [.ptr 0 0] [some (e22 4)] _ rfl K ⟨⟨by rw [OC.sn];decide,by rw [OC.sn];decide⟩,Eq.mp (congrArg (fun l:List Int=>K (.slice 1 0 l.length 1) [some (e22 4),iI' l]) (by kernel_rfl:([]:List Int)=dL (a22 4))) hK⟩
 ·simp only [sI',pI']at hv;obtain⟨rfl,rfl,rfl⟩:=hv;simp only [sI']at ho;subst ho;obtain⟨rfl,hK⟩:=hK;exact f8 [.ptr 0 0] [some (e22 5)] _ rfl K ⟨⟨by rw [OD.sn];decide,by rw [OD.sn];decide⟩,Eq.mp (congrArg (fun l:List Int=>K (.slice 1 0 l.length 1) [some (e22 5),iI' l]) (by kernel_rfl:([]:List Int)=dL (a22 5))) hK⟩
 ·simp only [sI',pI']at hv;obtain⟨rfl,rfl,rfl⟩:=hv;simp only [sI']at ho;subst ho;obtain⟨rfl,hK⟩:=hK;exact f8 [.ptr 0 0] [some (e22 6)] _ rfl K ⟨⟨by rw [OE.sn];decide,by rw [OE.sn];decide⟩,Eq.mp (congrArg (fun l:List Int=>K (.slice 1 0 l.length 1) [some (e22 6),iI' l]) (by kernel_rfl:([]:List Int)=dL (a22 6))) hK⟩
 ·simp only [sI',pI']at hv;obtain⟨rfl,rfl,rfl⟩:=hv;simp only [sI']at ho;subst ho;obtain⟨rfl,hK⟩:=hK;exact f8 [.ptr 0 0] [some (e22 7)] _ rfl K ⟨⟨by rw [OF.sn];decide,by rw [OF.sn];decide⟩,Eq.mp (congrArg (fun l:List Int=>K (.slice 1 0 l.length 1) [some (e22 7),iI' l]) (by kernel_rfl:([3]:List Int)=dL (a22 7))) hK⟩
 ·simp only [sI',pI']at hv;obtain⟨rfl,rfl,rfl⟩:=hv;simp only [sI']at ho;subst ho;obtain⟨rfl,hK⟩:=hK;exact f8 [.ptr 0 0] [some (e22 8)] _ rfl K ⟨⟨by rw [OG.sn];decide,by rw [OG.sn];decide⟩,Eq.mp (congrArg (fun l:List Int=>K (.slice 1 0 l.length 1) [some (e22 8),iI' l]) (by kernel_rfl:([3]:List Int)=dL (a22 8))) hK⟩
 ·simp only [sI',pI']at hv;obtain⟨rfl,rfl,rfl⟩:=hv;simp only [sI']at ho;subst ho;obtain⟨rfl,hK⟩:=hK;exact f8 [.ptr 0 0] [some (e22 9)] _ rfl K ⟨⟨by rw [OH.sn];decide,by rw [OH.sn];decide⟩,Eq.mp (congrArg (fun l:List Int=>K (.slice 1 0 l.length 1) [some (e22 9),iI' l]) (by kernel_rfl:([3]:List Int)=dL (a22 9))) hK⟩
 ·cases hv
theorem TG:sT' 37 aAk.spec:=by
 intro args h o ho K hK;unfold bD.spec at ho;split at ho
 case h_2=>cases ho
 rename_i hv;unfold aAk at hv;split at hv
 case h_2=>cases hv
 rename_i a x;split at hv
 case h_2=>cases hv
 split at hv
 ·split at hv
  case h_2=>cases hv
  split at hv
  ·simp only [sI',pI']at hv;obtain⟨rfl,rfl⟩:=hv;simp only [sI']at ho;subst ho;obtain⟨rfl,hK⟩:=hK;exact kG [.ptr 0 0,.I 10] [some (e22 0)] _ rfl K ⟨trivial,Eq.mp (congrArg (fun v=>K v [some (e22 0)]) (by kernel_rfl:AVal.int .u64 0=.int .u64 (aC (a22 0).s.xs 10))) hK⟩
  ·simp only [sI',pI']at hv;obtain⟨rfl,rfl⟩:=hv;simp only [sI']at ho;subst ho;obtain⟨rfl,hK⟩:=hK;exact kG [.ptr 0 0,.I 11] [some (e22 0)] _ rfl K ⟨trivial,Eq.mp (congrArg (fun v=>K v [some (e22 0)]) (by kernel_rfl:AVal.int .u64 0=.int .u64 (aC (a22 0).s.xs 11))) hK⟩
  ·simp only [sI',pI']at hv;obtain⟨rfl,rfl⟩:=hv;simp only [sI']at ho;subst ho;obtain⟨rfl,hK⟩:=hK;exact kG [.ptr 0 0,.I 12] [some (e22 0)] _ rfl K ⟨trivial,Eq.mp (congrArg (fun v=>K v [some (e22 0)]) (by kernel_rfl:AVal.int .u64 0=.int .u64 (aC (a22 0).s.xs 12))) hK⟩
  ·simp only [sI',pI']at hv;obtain⟨rfl,rfl⟩:=hv;simp only [sI']at ho;subst ho;obtain⟨rfl,hK⟩:=hK;exact kG [.ptr 0 0,.I 13] [some (e22 0)] _ rfl K ⟨trivial,Eq.mp (congrArg (fun v=>K v [some (e22 0)]) (by kernel_rfl:AVal.int .u64 0=.int .u64 (aC (a22 0).s.xs 13))) hK⟩
  ·simp only [sI',pI']at hv;obtain⟨rfl,rfl⟩:=hv;simp only [sI']at ho;subst ho;obtain⟨rfl,hK⟩:=hK;exact kG [.ptr 0 0,.I 14] [some (e22 0)] _ rfl K ⟨trivial,Eq.mp (congrArg (fun v=>K v [some (e22 0)]) (by kernel_rfl:AVal.int .u64 0=.int .u64 (aC (a22 0).s.xs 14))) hK⟩
  ·cases hv
 ·cases hv
 ·split at hv
  case h_2=>cases hv
  split at hv
  ·simp only [sI',pI']at hv;obtain⟨rfl,rfl⟩:=hv;simp only [sI']at ho;subst ho;obtain⟨rfl,hK⟩:=hK;exact kG [.ptr 0 0,.I 10] [some (e22 2)] _ rfl K ⟨trivial,Eq.mp (congrArg (fun v=>K v [some (e22 2)]) (by kernel_rfl:AVal.int .u64 0=.int .u64 (aC (a22 2).s.xs 10))) hK⟩
  ·cases hv
 ·split at hv
  case h_2=>cases hv
  split at hv
  ·simp only [sI',pI']at hv;obtain⟨rfl,rfl⟩:=hv;simp only [sI']at ho;subst ho;obtain⟨rfl,hK⟩:=hK;exact kG [.ptr 0 0,.I 10] [some (e22 3)] _ rfl K ⟨trivial,Eq.mp (congrArg (fun v=>K v [some (e22 3)]) (by kernel_rfl:AVal.int .u64 1=.int .u64 (aC (a22 3).s.xs 10))) hK⟩
  ·cases hv
 ·cases hv
 ·cases hv
 ·cases hv
 ·cases hv
 ·cases hv
 ·cases hv
 ·cases hv
end Go.Sh
namespace Go.Sh
open Go Go.Proofs
variable [Con]
def gn1S:aI Ob:=fun args h=>match args,h with
 | [.agg [.int .i64 sh,.int .i64 th,.int .i64 nd,.int .i64 tr],.view m 1 vr],[]=>some (.pre ((m≤1000000∧tY vr)∧gnC sh th nd tr m (vL vr) (vK vr) (vY vr)=0) (.ret (.tup [.ptr 0 0,.I 0]) (egH (pK sh th nd tr m (vL vr) (vK vr) (vY vr)))))
 | _,_=>none
theorem ZJ:sT' 25 gn1S:=by
 intro args h o ho K hK;unfold gn1S at ho;split at ho<;>cases ho
 rename_i sh th nd tr m vr;obtain⟨⟨h1,h2⟩,hK⟩:=hK;have hS:gnS [.agg [.I sh,.I th,.I nd,.I tr],.view m 1 vr] []=some (.pre (m≤1000000∧tY vr) (pO sh th nd tr m (vL vr) (vK vr) (vY vr))):=rfl;refine FO _ _ _ hS K ⟨h1,?_⟩;show(pO sh th nd tr m (vL vr) (vK vr) (vY vr)).run K;unfold pO;rw [h2];exact hK
end Go.Sh
namespace Go.Sh
open Go Go.Proofs
variable [c:Con]
def new1S:aI Ob:=fun args h=>match args,h with
 | [.agg [.int .i64 sh,.int .i64 th,.int .i64 nd,.int .i64 tr],.slice 0 0 n 1],[some (.cells [.slice 1 0 n1 2]),some (.cells [.int .i64 p,.int .i64 q])]=>some (.pre ((n=1∧n1=1)∧(sh=1∧th=1∧nd=5∧tr=0)∧p=1∧q=3)
    (.ret (.tup [.ptr 2 0,.I 0]) [cE' [.slice 1 0 1 2],cE' [.I 1,.I 3],some (e22 0)]))
 | _,_=>none
theorem TL:sT' 25 new1S:=by
 intro args h o ho K hK;unfold new1S at ho;split at ho<;>cases ho
 rename_i sh th nd tr n n1 p q;obtain⟨⟨⟨rfl,rfl⟩,⟨rfl,rfl,rfl,rfl⟩,rfl,rfl⟩,hK⟩:=hK;have hK:K (.tup [.ptr 2 0,.I 0]) [cE' [.slice 1 0 1 2],cE' [.I 1,.I 3],some (e22 0)]:=hK;refine aFt (args2:=[.agg [.I 1,.I 1,.I 5,.I 0],.view 1 1 (fun _=>[.view 1 2 (fun _=>[.I 1,.I 3])])]) F7 (fun _=>false) ?_ ?_
 ·intro c' hc V l hm hr;obtain⟨v0,l0,rfl,r0,v1,l1,rfl,r1,r2⟩:=hr;refine⟨v0,_,rfl,Rep.con hc _ _ r0,v1,_,rfl,?_,r2⟩;obtain⟨p0,a1,a2⟩:=hm 0 _ rfl rfl;obtain⟨p1,b1,b2⟩:=hm 1 _ rfl rfl;refine qD (Rep.con hc _ _ r1) a1 a2 ?_ (Nat.le_refl _);intro i hi;refine⟨rfl,fun rs h=>?_⟩
  match i,hi with
  | 0,_=>
    obtain⟨y,ys,rfl,y1,y2⟩:=h;refine⟨y,ys,rfl,?_,y2⟩
    have y3: @Rep c' V (.view 1 2 (fun _=>[.I 1,.I 3])) y:=qD y1 b1 b2 (fun j hj=>⟨rfl,fun rs h=>by
     match j,hj with
     | 0,_=>exact h
     | j+1,hj=>omega⟩) (Nat.le_refl _)
    exact y3
  | i+1,hi=>omega
 ·intro c';have h1:=@ZJ c' [.agg [.I 1,.I 1,.I 5,.I 0],.view 1 1 (fun _=>[.view 1 2 (fun _=>[.I 1,.I 3])])] [] _ rfl (fun v g=>v=.tup [.ptr 0 0,.I 0]∧g=[some (e22 0)]) ⟨⟨⟨by decide,⟨rfl⟩⟩,by kernel_rfl⟩,⟨rfl,congrArg (fun x=>[some (aH.abs (Mc.engine x) [])]) LZ⟩⟩
  refine aFb h1 [] rfl (by decide) (fun l hl=>by cases hl) ?_ rfl ?_
  ·intro i l hi;simp at hi
  ·rintro v g ⟨rfl,rfl⟩ _;refine⟨rfl,rfl,?_,hK⟩;intro l hl hS
   match l,hl with
   | 0,_=>rfl
   | 1,_=>rfl
   | l+2,hl=>simp at hl;omega
def U7(sh th nd tr p q:Int)(n n1:Nat)(K:AVal→aD Ob→Prop):Prop:=K (.agg [.I sh,.I th,.I nd,.I tr]) [cE' [.slice 1 0 n1 2],cE' [.I p,.I q]]
theorem GU(sh th nd tr p q:Int)(n n1:Nat)(K:AVal→aD Ob→Prop)(h:U7 sh th nd tr p q n n1 K):cT' 26 [.agg [.I sh,.I th,.I nd,.I tr,.slice 0 0 n 1]] [cE' [.slice 1 0 n1 2],cE' [.I p,.I q]] (n8 2 K):=by
 exact cM' (E:=EUg) (by kernel_rfl) h
def XF:bD Ob:=fun args h=>match args,h with
 | [.agg [.int .i64 sh,.int .i64 th,.int .i64 nd,.int .i64 tr,.slice 0 0 n 1]],[some (.cells [.slice 1 0 n1 2]),some (.cells [.int .i64 p,.int .i64 q])]=>some (True,.agg [.I sh,.I th,.I nd,.I tr])
 | _,_=>none
theorem PN:sT' 26 XF.spec:=by
 intro args h o ho K hK;unfold bD.spec at ho;split at ho
 case h_2=>cases ho
 rename_i pp v hv;unfold XF at hv;split at hv
 case h_2=>cases hv
 rename_i sh th nd tr n n1 p q;simp only [sI',pI']at hv;obtain⟨rfl,rfl⟩:=hv;simp only [sI']at ho;subst ho;obtain⟨_,hK⟩:=hK;exact aEA (GU sh th nd tr p q n n1 K hK)
noncomputable def EA22:=((((((((WJ.addR 108 eqR K7).addS 25 new1S TL).addR 26 XF PN).addS 41 p22S aAw).addR 45 aAm TH).addR 38 aBd U0).addR 33 Y0 RO).addN 55 Z8 TE).addR 37 aAk TG
noncomputable def EA22b:=EA22.addS 58 (aI.or BQ.spec (pE [(.slot 1,.ints (some .i64))] BQ.spec)) (aEZ xT (rN xT))
noncomputable def L22:FuncId→Nat→Option (qI Ob):=fun _ _=>some (.rounds 12)
end Go.Sh
namespace Go.Sh
open Go Go.Proofs
variable [c:Con]
def xB(K:AVal→aD Ob→Prop):Prop:=True∧(((1=1∧1=1)∧((1:Int)=(1:Int)∧(1:Int)=(1:Int)∧(5:Int)=(5:Int)∧(0:Int)=(0:Int))∧(1:Int)=(1:Int)∧(3:Int)=(3:Int))∧True)∧(a22 0)=(a22 0)∧(a22 0)=(a22 0)∧True∧((((0:Int)≤(1:Int)∧(1:Int)≤(100000:Int))∧((0:Int)≤(5:Int)∧(5:Int)≤(100000:Int))∧(-1099511627776:Int)≤(1:Int)∧(1:Int)≤(1099511627776:Int))∧True)∧(a22 0)=(a22 0)∧(1:Nat)≤(4294967296:Nat)∧True∧((((0:Int)≤(1:Int)∧(1:Int)≤(100000:Int))∧((0:Int)≤(5:Int)∧(5:Int)≤(100000:Int))∧(-1099511627776:Int)≤W (1+1)∧W (1+1)≤(1099511627776:Int))∧True)∧(a22 0)=(a22 0)∧1+(1:Nat)≤(4294967296:Nat)∧True∧((((0:Int)≤(1:Int)∧(1:Int)≤(100000:Int))∧((0:Int)≤(5:Int)∧(5:Int)≤(100000:Int))∧(-1099511627776:Int)≤W (W (1+1)+1)∧W (W (1+1)+1)≤(1099511627776:Int))∧True)∧(a22 0)=(a22 0)∧1+1+(1:Nat)≤(4294967296:Nat)∧True∧((((0:Int)≤(1:Int)∧(1:Int)≤(100000:Int))∧((0:Int)≤(5:Int)∧(5:Int)≤(100000:Int))∧(-1099511627776:Int)≤W (W (W (1+1)+1)+1)∧W (W (W (1+1)+1)+1)≤(1099511627776:Int))∧True)∧(a22 0)=(a22 0)∧1+1+1+(1:Nat)≤(4294967296:Nat)∧True∧((((0:Int)≤(1:Int)∧(1:Int)≤(100000:Int))∧((0:Int)≤(5:Int)∧(5:Int)≤(100000:Int))∧(-1099511627776:Int)≤W (W (W (W (1+1)+1)+1)+1)∧W (W (W (W (1+1)+1)+1)+1)≤(1099511627776:Int))∧True)∧(a22 0)=(a22 0)∧1+1+1+1+(1:Nat)≤(4294967296:Nat)∧True∧((0:Int)=(0:Int)∧(a22 0)=(a22 0))∧(a22 1)=(a22 1)∧(a22 1)=(a22 1)∧((((0:Int)≤(1:Int)∧(1:Int)≤(100000:Int))∧((0:Int)≤(5:Int)∧(5:Int)≤(100000:Int))∧(-1099511627776:Int)≤(1:Int)∧(1:Int)≤(1099511627776:Int))∧True)∧True∧(a22 1)=(a22 1)∧((0:Int)≤W ((↑1:Int) - 1)∧W ((↑1:Int) - 1)<(↑1:Int))∧((0=0∧0=0)∧(0:Nat)≤(4294967296:Nat))∧((0:Int)=(0:Int)∧(a22 1)=(a22 1))∧(a22 2)=(a22 2)∧(a22 2)=(a22 2)∧((((0:Int)≤(1:Int)∧(1:Int)≤(100000:Int))∧((0:Int)≤(5:Int)∧(5:Int)≤(100000:Int))∧(-1099511627776:Int)≤(1:Int)∧(1:Int)≤(1099511627776:Int))∧True)∧True∧(a22 2)=(a22 2)∧((0:Int)≤W (W (W (10 - (5+4+1))+1) - 1)∧W (W (W (10 - (5+4+1))+1) - 1)<(↑(1+1+1+1+1):Int))∧(a22 2)=(a22 2)∧((0:Int)≤W ((↑1:Int) - 1)∧W ((↑1:Int) - 1)<(↑1:Int))∧((0=0∧0=0)∧(0:Nat)≤(4294967296:Nat))∧((0:Int)=(0:Int)∧(a22 2)=(a22 2))∧(a22 3)=(a22 3)∧(a22 3)=(a22 3)∧(((0:Int)≤(5:Int)∧(5:Int)≤(100000:Int))∧(-1000000:Int)≤(4:Int)∧(4:Int)≤(1000000:Int))∧((((0:Int)≤(1:Int)∧(1:Int)≤(100000:Int))∧((0:Int)≤(5:Int)∧(5:Int)≤(100000:Int))∧(-1099511627776:Int)≤(1:Int)∧(1:Int)≤(1099511627776:Int))∧True)∧True∧(a22 3)=(a22 3)∧((0:Int)≤W (W (W (10 - (5+4+1))+1) - 1)∧W (W (W (10 - (5+4+1))+1) - 1)<(↑(1+1+1+1+1):Int))∧(a22 3)=(a22 3)∧((0:Int)≤W ((↑1:Int) - 1)∧W ((↑1:Int) - 1)<(↑1:Int))∧((0=0∧0=0)∧(0:Nat)≤(4294967296:Nat))∧((0:Int)=(0:Int)∧(a22 3)=(a22 3))∧(a22 4)=(a22 4)∧(a22 4)=(a22 4)∧((((0:Int)≤(1:Int)∧(1:Int)≤(100000:Int))∧((0:Int)≤(5:Int)∧(5:Int)≤(100000:Int))∧(-1099511627776:Int)≤(1:Int)∧(1:Int)≤(1099511627776:Int))∧True)∧True∧(a22 4)=(a22 4)∧((0:Int)≤W ((↑1:Int) - 1)∧W ((↑1:Int) - 1)<(↑1:Int))∧((0=0∧0=0)∧(0:Nat)≤(4294967296:Nat))∧((0:Int)=(0:Int)∧(a22 4)=(a22 4))∧(a22 5)=(a22 5)∧(a22 5)=(a22 5)∧((((0:Int)≤(1:Int)∧(1:Int)≤(100000:Int))∧((0:Int)≤(5:Int)∧(5:Int)≤(100000:Int))∧(-1099511627776:Int)≤(1:Int)∧(1:Int)≤(1099511627776:Int))∧True)∧True∧(a22 5)=(a22 5)∧((0:Int)≤W ((↑1:Int) - 1)∧W ((↑1:Int) - 1)<(↑1:Int))∧((0=0∧0=0)∧(0:Nat)≤(4294967296:Nat))∧((0:Int)=(0:Int)∧(a22 5)=(a22 5))∧(a22 6)=(a22 6)∧(a22 6)=(a22 6)∧(((0:Int)≤(5:Int)∧(5:Int)≤(100000:Int))∧(-1000000:Int)≤(4:Int)∧(4:Int)≤(1000000:Int))∧True∧((0:Int)≤W (1 - 1)∧W (1 - 1)<(↑(1+1+1+1+1):Int))∧(2:Int)≠(0:Int)∧((((0:Int)≤(1:Int)∧(1:Int)≤(100000:Int))∧((0:Int)≤(5:Int)∧(5:Int)≤(100000:Int))∧(-1099511627776:Int)≤(1:Int)∧(1:Int)≤(1099511627776:Int))∧True)∧True∧(a22 6)=(a22 6)∧((0:Int)≤W ((↑1:Int) - 1)∧W ((↑1:Int) - 1)<(↑1:Int))∧((0=0∧0=0)∧(0:Nat)≤(4294967296:Nat))∧((0:Int)=(0:Int)∧(a22 6)=(a22 6))∧(a22 7)=(a22 7)∧(a22 7)=(a22 7)∧(((0:Int)≤(5:Int)∧(5:Int)≤(100000:Int))∧(-1000000:Int)≤(4:Int)∧(4:Int)≤(1000000:Int))∧True∧((((0:Int)≤(1:Int)∧(1:Int)≤(100000:Int))∧((0:Int)≤(5:Int)∧(5:Int)≤(100000:Int))∧(-1099511627776:Int)≤(1:Int)∧(1:Int)≤(1099511627776:Int))∧True)∧True∧(a22 7)=(a22 7)∧((0:Int)≤W ((↑1:Int) - 1)∧W ((↑1:Int) - 1)<(↑1:Int))∧((1=1∧0=0)∧(1:Nat)≤(4294967296:Nat))∧1+(1:Nat)≤(4294967296:Nat)∧((0:Int)=(0:Int)∧(a22 7)=(a22 7))∧(a22 8)=(a22 8)∧(a22 8)=(a22 8)∧(((0:Int)≤(5:Int)∧(5:Int)≤(100000:Int))∧(-1000000:Int)≤(4:Int)∧(4:Int)≤(1000000:Int))∧((((0:Int)≤(1:Int)∧(1:Int)≤(100000:Int))∧((0:Int)≤(5:Int)∧(5:Int)≤(100000:Int))∧(-1099511627776:Int)≤(1:Int)∧(1:Int)≤(1099511627776:Int))∧True)∧True∧(a22 8)=(a22 8)∧((0:Int)≤W ((↑(1+1):Int) - 1)∧W ((↑(1+1):Int) - 1)<(↑(1+1):Int))∧((1=1∧1=1)∧(1:Nat)≤(4294967296:Nat))∧((0:Int)=(0:Int)∧(a22 8)=(a22 8))∧(a22 9)=(a22 9)∧(a22 9)=(a22 9)∧(((0:Int)≤(5:Int)∧(5:Int)≤(100000:Int))∧(-1000000:Int)≤(4:Int)∧(4:Int)≤(1000000:Int))∧((((0:Int)≤(1:Int)∧(1:Int)≤(100000:Int))∧((0:Int)≤(5:Int)∧(5:Int)≤(100000:Int))∧(-1099511627776:Int)≤(1:Int)∧(1:Int)≤(1099511627776:Int))∧True)∧True∧(a22 9)=(a22 9)∧((0:Int)≤W ((↑(1+1):Int) - 1)∧W ((↑(1+1):Int) - 1)<(↑(1+1):Int))∧((1=1∧1=1)∧(1:Nat)≤(4294967296:Nat))∧((0:Int)=(0:Int)∧(a22 9)=(a22 9))∧((0:Int)=(0:Int)∧(a22 9)=(a22 9))∧((0:Int)≤(0:Int)∧(0:Int)<(↑(1+1):Int))∧(0=0∧(0:Nat)≤(4294967296:Nat))∧(1:Nat)≤(4294967296:Nat)∧((0:Int)≤W (0+1)∧W (0+1)<(↑(1+1):Int))∧(1=1∧(1:Nat)≤(4294967296:Nat))∧1+(1:Nat)≤(4294967296:Nat)∧((0:Int)≤(1:Int)∧(1:Int)<(↑(1+1):Int))∧((1=1∧1=1)∧List.length [3]≤(4294967296:Nat))∧K (.bool true) []
theorem DA(K:AVal→aD Ob→Prop)(h:xB K):cT' 51 [] [] (n8 0 K):=by
 exact aE (E:=EA22b) Tryz.checked.mixed (L:=L22) (n:=10) (aJ (by kernel_rfl) h)
theorem PF(K:AVal→aD Ob→Prop)(hK:K (.bool true) []):xB K:=by
 unfold xB
 repeat' (with_reducible first | exact hK | exact trivial | rfl | refine And.intro ?_ ?_)
 all_goals decide
def aw22S:aI Ob:=fun args h=>match args,h with
 | [],[]=>some (.ret (.bool true) [])
 | _,_=>none
theorem PE:sT' 51 aw22S:=by
 intro args h o ho K hK;unfold aw22S at ho;split at ho
 case h_2=>cases ho
 simp only [sI']at ho;subst ho;exact aEA (DA K (PF K hK))
end Go.Sh
namespace Go.Sh
open Go Go.Proofs
variable [Con]
abbrev dfV(a b:List Int):AVal:=.tup [.I (lQ a b).1,.bool (lQ a b).2.1,.bool (lQ a b).2.2]
theorem UA{xs ys:List Int}(h:(!fN xs ys)=true):xs≠ys:=by
 intro e;rw [lZ.2 e]at h;cases h
theorem UB{xs ys:List Int}(h:(!fN xs ys)=false):xs=ys:=by
 refine lZ.1 ?_;cases hs:fN xs ys with
 | true=>rfl
 | false=>rw [hs]at h;cases h
def KL(a b:List Int)(x:Nat)(K:AVal→aD Ob→Prop):Prop:=bif !ieq (↑b.length:Int) (W ((↑a.length:Int)+1))then K (.tup [.I 0,.bool false,.bool false]) []else((0:Int)≤(↑x:Int)∧Int.toNat (↑x:Int)≤a.length)∧((0:Int)≤W ((↑x:Int)+1)∧Int.toNat (W ((↑x:Int)+1))≤b.length)∧List.length (List.drop (Int.toNat (↑x:Int)) a)≤(4294967296:Nat)∧bif !fN (List.drop (Int.toNat (↑x:Int)) a) (List.drop (Int.toNat (W ((↑x:Int)+1))) b)then K (.tup [.I 0,.bool false,.bool false]) []else((0:Int)≤(↑x:Int)∧(↑x:Int)<(↑b.length:Int))∧K (.tup [.I (List.getD b (Int.toNat (↑x:Int)) 0),.bool true,.bool true]) []
theorem FE(a b:List Int)(x:Nat)(K:AVal→aD Ob→Prop)(hl:a.length≤b.length)(hb:b.length≤4294967296)(h1:x≤a.length)(h3:a.take x=b.take x)(hx:x=a.length∨a.getD x 0≠b.getD x 0)(hK:K (dfV a b) []):KL a b x K:=by
 have key: ∀c,lQ a b=c→K (.tup [.I c.1,.bool c.2.1,.bool c.2.2]) []:=fun c e=>by rw [←e];exact hK
 have eW:W ((a.length:Int)+1)=(a.length:Int)+1:=cU ⟨by omega,by omega⟩
 have eX:W ((x:Int)+1)=((x+1:Nat):Int):=(cU (x:=(x:Int)+1) ⟨by omega,by omega⟩).trans (by omega)
 unfold KL;rw [eW,eX,Int.toNat_natCast,Int.toNat_natCast];refine cD (fun e=>key (0,false,false) (P1 hl (fun h=>Z9 e (by omega)))) (fun e=>?_)
 have hlen:b.length=a.length+1:=by have:=aAa e;omega
 refine⟨⟨by omega,h1⟩,⟨by omega,by omega⟩,by rw [List.length_drop];omega,cD (fun d=>key (0,false,false) (XO hlen h1 h3 hx (UA d))) (fun d=>⟨⟨by omega,by omega⟩,key (b.getD x 0,true,true) (P3 hlen h1 h3 (UB d))⟩)⟩
theorem VA(a b:List Int)(K:AVal→aD Ob→Prop)(hl:a.length≤b.length)(hb:b.length≤4294967296)(hK:K (dfV a b) []):P0 a b K:=by
 refine cD (fun e=>absurd (sB e) (by omega)) (fun _=>?_)
 refine⟨aX (H:=CS a b) (0:Nat) rfl ⟨Nat.zero_le _,rfl⟩,?_⟩;rintro x ⟨h1,h3⟩;refine cD (fun a1=>?_) (fun a1=>?_)
 ·have a1:=sB a1;have hx:x<a.length:=by omega
  refine⟨⟨by omega,by omega⟩,⟨by omega,by omega⟩,cD (fun c1=>?_) (fun c1=>?_)⟩
  ·rw [Int.toNat_natCast]at c1;have c1:a.getD x 0=b.getD x 0:=by rw [b8]at c1;simpa using c1
   rw [W2 hx (by omega)]
   refine aX (H:=CS a b) (x+1:Nat) rfl ⟨⟨hx,?_⟩,by show a.length - (x+1)<a.length - x;omega⟩
   have hy:x<b.length:=by omega
   rw [gD',gE' hx,gD',gE' hy]at c1;have e5:a[x]=b[x]:=by simpa using c1
   rw [List.take_succ_eq_append_getElem hx,List.take_succ_eq_append_getElem hy,h3,e5]
  ·rw [Int.toNat_natCast]at c1;have c1:a.getD x 0≠b.getD x 0:=by rw [b8]at c1;simpa using c1
   exact FE a b x K hl hb h1 h3 (.inr c1) hK
 ·have a1:=pS a1;exact FE a b x K hl hb h1 h3 (.inl (by omega)) hK
def df1S:aI Ob:=fun args h=>match args,h with
 | [.iview (some .i64) a,.iview (some .i64) b],[]=>some (.pre (a.length≤b.length∧b.length≤4294967296) (.ret (.tup [.I (lQ a b).1,.bool (lQ a b).2.1,.bool (lQ a b).2.2]) []))
 | _,_=>none
theorem XN:sT' 52 df1S:=by
 intro args h o ho K hK;unfold df1S at ho;split at ho<;>cases ho
 rename_i a b;obtain⟨⟨h1,h2⟩,hK⟩:=hK;exact aEA (KM a b K (VA a b K h1 h2 hK))
noncomputable def ED2:=ED1.addS 52 df1S XN
abbrev w4n:List AVal:=[.I 0,.bool false,.bool false]
def P6(a b:List Int)(K:AVal→aD Ob→Prop):Prop:=bif ilt (↑b.length:Int) (↑a.length:Int)then(b.length≤a.length∧a.length≤(4294967296:Nat))∧K (.tup [.I (lQ b a).1,.bool false,.bool (Prod.snd (lQ b a)).2]) []else dE (CS a b) (Hint.ok (CS a b)) (.iview (some .i64) a::.iview (some .i64) b::.O::.O::.O::.O::.O::.O::.O::.O::.I 0::(tO' 52 [])) []∧ ∀(x:Nat),df1 a b x→bif ilt (↑x:Int) (↑a.length:Int)then((0:Int)≤(↑x:Int)∧(↑x:Int)<(↑a.length:Int))∧((0:Int)≤(↑x:Int)∧(↑x:Int)<(↑b.length:Int))∧bif ieq (List.getD a (Int.toNat (↑x:Int)) 0) (List.getD b (Int.toNat (↑x:Int)) 0)then dE (CS a b) (fun x'=>Hint.ok (CS a b) x'∧Hint.mu (CS a b) x'<Hint.mu (CS a b) x) (.iview (some .i64) a::.iview (some .i64) b::.O::.O::.O::.O::.O::.O::.O::.O::.I (W ((↑x:Int)+1))::(tO' 52 [])) []else bif !ieq (↑b.length:Int) (W ((↑a.length:Int)+1))then K (.tup w4n) []else((0:Int)≤(↑x:Int)∧Int.toNat (↑x:Int)≤a.length)∧((0:Int)≤W ((↑x:Int)+1)∧Int.toNat (W ((↑x:Int)+1))≤b.length)∧List.length (List.drop (Int.toNat (↑x:Int)) a)≤(4294967296:Nat)∧bif !fN (List.drop (Int.toNat (↑x:Int)) a) (List.drop (Int.toNat (W ((↑x:Int)+1))) b)then K (.tup w4n) []else((0:Int)≤(↑x:Int)∧(↑x:Int)<(↑b.length:Int))∧K (.tup [.I (List.getD b (Int.toNat (↑x:Int)) 0),.bool true,.bool true]) []else bif !ieq (↑b.length:Int) (W ((↑a.length:Int)+1))then K (.tup w4n) []else((0:Int)≤(↑x:Int)∧Int.toNat (↑x:Int)≤a.length)∧((0:Int)≤W ((↑x:Int)+1)∧Int.toNat (W ((↑x:Int)+1))≤b.length)∧List.length (List.drop (Int.toNat (↑x:Int)) a)≤(4294967296:Nat)∧bif !fN (List.drop (Int.toNat (↑x:Int)) a) (List.drop (Int.toNat (W ((↑x:Int)+1))) b)then K (.tup w4n) []else((0:Int)≤(↑x:Int)∧(↑x:Int)<(↑b.length:Int))∧K (.tup [.I (List.getD b (Int.toNat (↑x:Int)) 0),.bool true,.bool true]) []
theorem KN(a b:List Int)(K:AVal→aD Ob→Prop)(h:P6 a b K):cT' 52 [iV a,iV b] [] (n8 0 K):=by
 exact aE (E:=ED2) Tryz.checked.mixed (L:=LDF a b) (n:=10) (aJ (by kernel_rfl) h)
theorem aCX(a b:List Int)(K:AVal→aD Ob→Prop)(ha:a.length≤4294967296)(hb:b.length≤4294967296)(hK:K (dfV a b) []):aAJ a b K:=by
 have key: ∀c,lQ a b=c→K (.tup [.I c.1,.bool c.2.1,.bool c.2.2]) []:=fun c e=>by rw [←e];exact hK
 refine⟨aX (H:=wW a b) (0:Nat) rfl ⟨Nat.zero_le _,fun j hj=>absurd hj (Nat.not_lt_zero _)⟩,?_⟩;rintro x ⟨h1,h2⟩;refine cD (fun a1=>?_) (fun a1=>?_)
 ·have a1:=sB a1;have hx:x<b.length:=by omega
  refine⟨⟨⟨by omega,a1⟩,hb,ha⟩,cD (fun c1=>⟨⟨by omega,a1⟩,?_⟩) (fun c1=>?_)⟩
  ·rw [Int.toNat_natCast]at c1⊢;refine key (b.getD x 0,true,true) ?_;unfold lQ;rw [tO hx c1 h2]
  ·rw [Int.toNat_natCast]at c1;rw [W2 hx hb];refine aX (H:=wW a b) (x+1:Nat) rfl ⟨⟨hx,fun j hj=>?_⟩,by show b.length - (x+1)<b.length - x;omega⟩
   by_cases e:j=x
   ·subst e;exact c1
   ·exact h2 j (by omega)
 ·have a1:=pS a1;have hn: ∀j,j<b.length→woF a b j=false:=fun j hj=>h2 j (by omega)
  refine⟨aX (H:=wX a b) (0:Nat) rfl ⟨Nat.zero_le _,hn,fun j hj=>absurd hj (Nat.not_lt_zero _)⟩,?_⟩;rintro y ⟨g1,g2,g3⟩;refine cD (fun b1=>?_) (fun b1=>?_)
  ·have b1:=sB b1;have hy:y<a.length:=by omega
   refine⟨⟨⟨by omega,b1⟩,ha,hb⟩,cD (fun c1=>⟨⟨by omega,b1⟩,?_⟩) (fun c1=>?_)⟩
   ·rw [Int.toNat_natCast]at c1⊢;refine key (a.getD y 0,false,true) ?_;unfold lQ;rw [fW hn,tO hy c1 g3]
   ·rw [Int.toNat_natCast]at c1;rw [W2 hy ha];refine aX (H:=wX a b) (y+1:Nat) rfl ⟨⟨hy,hn,fun j hj=>?_⟩,by show a.length - (y+1)<a.length - y;omega⟩
    by_cases e:j=y
    ·subst e;exact c1
    ·exact g3 j (by omega)
  ·have b1:=pS b1;refine key (0,false,false) ?_;unfold lQ;rw [fW hn,fW (fun j hj=>g3 j (by omega))]
def rdS:aI Ob:=fun args h=>match args,h with
 | [.iview (some .i64) a,.iview (some .i64) b],[]=>some (.pre (a.length≤4294967296∧b.length≤4294967296) (.ret (.tup [.I (lQ a b).1,.bool (lQ a b).2.1,.bool (lQ a b).2.2]) []))
 | _,_=>none
theorem aCW:sT' 53 rdS:=by
 intro args h o ho K hK;unfold rdS at ho;split at ho<;>cases ho
 rename_i a b;obtain⟨⟨h1,h2⟩,hK⟩:=hK;exact aEA (MZ a b K (aCX a b K h1 h2 hK))
theorem aBQ(a b:List Int)(K:AVal→aD Ob→Prop)(ha:a.length≤4294967296)(hb:b.length≤4294967296)(hK:K (dfV a b) []):P6 a b K:=by
 unfold P6;refine aL (fun e=>?_) (fun e=>?_)
 ·have e':=sB e;refine⟨⟨by omega,ha⟩,?_⟩
  have h:=P4 (a:=a) (b:=b) (by omega)
  rw [show dfV a b=.tup [.I (lQ b a).1,.bool false,.bool (lQ b a).2.2]from by show AVal.tup _=_;rw [h]]at hK
  exact hK
 ·have e':=pS e;have h:=VA a b K (by omega) hb hK
  unfold P0 at h;rw [e]at h;exact h
def dgS:aI Ob:=fun args h=>match args,h with
 | [.iview (some .i64) a,.iview (some .i64) b],[]=>some (.pre (a.length≤4294967296∧b.length≤4294967296) (.ret (.tup [.I (lQ a b).1,.bool (lQ a b).2.1,.bool (lQ a b).2.2]) []))
 | _,_=>none
theorem aBP:sT' 52 dgS:=by
 intro args h o ho K hK;unfold dgS at ho;split at ho<;>cases ho
 rename_i a b;obtain⟨⟨h1,h2⟩,hK⟩:=hK;exact aEA (KN a b K (aBQ a b K h1 h2 hK))
noncomputable def ED3:=((WJ.addS 52 dgS aBP).addS 53 rdS aCW).addS 51 aw22S PE
def O5(a b:List Int)(K:AVal→aD Ob→Prop):Prop:=bif ilt 60 (↑a.length:Int)then K (.bool true) []else bif ilt 60 (↑b.length:Int)then K (.bool true) []else(a.length≤(4294967296:Nat)∧b.length≤(4294967296:Nat))∧(a.length≤(4294967296:Nat)∧b.length≤(4294967296:Nat))∧bif ieq (lQ a b).1 (lQ a b).1 then bif bif (Prod.snd (lQ a b)).1 then(Prod.snd (lQ a b)).1 else !(Prod.snd (lQ a b)).1 then K (.bool (bif (Prod.snd (lQ a b)).2 then(Prod.snd (lQ a b)).2 else !(Prod.snd (lQ a b)).2)) []else K (.bool false) []else K (.bool false) []
theorem J1(a b:List Int)(K:AVal→aD Ob→Prop)(h:O5 a b K):cT' 9 [iV a,iV b] [] (n8 0 K):=by
 exact cM' (E:=ED3) (by kernel_rfl) h
theorem aBD(a b:List Int)(K:AVal→aD Ob→Prop)(hK:K (.bool true) []):O5 a b K:=by
 unfold O5;refine cD (fun _=>hK) (fun e1=>cD (fun _=>hK) (fun e2=>?_));have e1:=pS e1;have e2:=pS e2;refine⟨⟨by omega,by omega⟩,⟨by omega,by omega⟩,?_⟩
 simp only [aCD,XB,cond_true];exact hK
end Go.Sh
