import Derived.Test.YteindpciaceeeaaGreatZN17toQW
set_option linter.all false
set_option maxHeartbeats 8000000
namespace Go.Sh
open Go Go.Proofs
variable [Con]
abbrev iV(xs:List Int):AVal:=.iview (some .i64) xs
structure eq1 (xs ys:List Int) (i:Nat):Prop where
 h1:i<=xs.length
 h2:xs.length=ys.length
 h3:xs.take i=ys.take i
def z8(a b:AVal)(h:aC Ob)(xs ys:List Int):Hint Ob:= {X:=Nat,st:=fun i=>([a,b]++List.replicate 10 .O ++ [.I (xs.length:Int),.I (i:Int)]++List.replicate 12 .O,h),ok:=eq1 xs ys,mu:=fun i=>xs.length - i,keep:=[0,1,12,13] }
def LEQ(a b:AVal)(h:aC Ob)(xs ys:List Int):FuncId->Nat->Option (mM Ob):=fun _ k=>match k with
 | 4=>some (.states (z8 a b h xs ys))
 | _=>none
abbrev TZ(xs:List Int):AVal:=.slice 0 0 xs.length 1
abbrev T0(ys:List Int):AVal:=.slice 1 0 ys.length 1
abbrev PE(xs ys:List Int):aC Ob:=[iI' xs,iI' ys]
def PQ(xs ys:List Int)(K:AVal->aC Ob->Prop):Prop:=bif !ieq (↑xs.length:Int) (↑ys.length:Int)then K (.bool false) [iI' xs,iI' ys]else dJ (z8 (TZ xs) (T0 ys) (PE xs ys) xs ys) (Hint.ok (z8 (TZ xs) (T0 ys) (PE xs ys) xs ys)) [.slice 0 0 xs.length 1,.slice 1 0 ys.length 1,.O,.O,.O,.O,.O,.O,.O,.O,.O,.O,.I (↑xs.length:Int),.I 0,.O,.O,.O,.O,.O,.O,.O,.O,.O,.O,.O,.O] [iI' xs,iI' ys]/\ ∀(x:Nat),eq1 xs ys x->bif ilt (↑x:Int) (↑xs.length:Int)then((0:Int)<=(↑x:Int)/\(↑x:Int)<(↑xs.length:Int))/\0+Int.toNat (↑x:Int)*(1:Nat)<xs.length/\((0:Int)<=(↑x:Int)/\(↑x:Int)<(↑ys.length:Int))/\0+Int.toNat (↑x:Int)*(1:Nat)<ys.length/\bif !ieq (List.getD xs (0+Int.toNat (↑x:Int)*1) 0) (List.getD ys (0+Int.toNat (↑x:Int)*1) 0)then K (.bool false) [iI' xs,iI' ys]else dJ (z8 (TZ xs) (T0 ys) (PE xs ys) xs ys) (fun x'=>Hint.ok (z8 (TZ xs) (T0 ys) (PE xs ys) xs ys) x'/\Hint.mu (z8 (TZ xs) (T0 ys) (PE xs ys) xs ys) x'<Hint.mu (z8 (TZ xs) (T0 ys) (PE xs ys) xs ys) x) [.slice 0 0 xs.length 1,.slice 1 0 ys.length 1,.O,.O,.O,.O,.O,.O,.O,.O,.O,.O,.I (↑xs.length:Int),.I (W ((↑x:Int)+1)),.O,.O,.O,.O,.O,.O,.O,.O,.O,.O,.O,.O] [iI' xs,iI' ys]else K (.bool true) [iI' xs,iI' ys]
theorem KR(xs ys:List Int)(K:AVal->aC Ob->Prop)(h:PQ xs ys K):cT' 108 [TZ xs,T0 ys] (PE xs ys) (eD 2 K):=by
 exact aD (E:=EUe) Tryz.checked.mixed (L:=LEQ (TZ xs) (T0 ys) (PE xs ys) xs ys) (n:=10) (aK (by kernel_rfl) h)
def PR(xs ys:List Int)(K:AVal->aC Ob->Prop):Prop:=bif !ieq (↑xs.length:Int) (↑ys.length:Int)then K (.bool false) []else dJ (z8 (iV xs) (iV ys) [] xs ys) (Hint.ok (z8 (iV xs) (iV ys) [] xs ys)) [.iview (some .i64) xs,.iview (some .i64) ys,.O,.O,.O,.O,.O,.O,.O,.O,.O,.O,.I (↑xs.length:Int),.I 0,.O,.O,.O,.O,.O,.O,.O,.O,.O,.O,.O,.O] []/\ ∀(x:Nat),eq1 xs ys x->bif ilt (↑x:Int) (↑xs.length:Int)then((0:Int)<=(↑x:Int)/\(↑x:Int)<(↑xs.length:Int))/\((0:Int)<=(↑x:Int)/\(↑x:Int)<(↑ys.length:Int))/\bif !ieq (List.getD xs (Int.toNat (↑x:Int)) 0) (List.getD ys (Int.toNat (↑x:Int)) 0)then K (.bool false) []else dJ (z8 (iV xs) (iV ys) [] xs ys) (fun x'=>Hint.ok (z8 (iV xs) (iV ys) [] xs ys) x'/\Hint.mu (z8 (iV xs) (iV ys) [] xs ys) x'<Hint.mu (z8 (iV xs) (iV ys) [] xs ys) x) [.iview (some .i64) xs,.iview (some .i64) ys,.O,.O,.O,.O,.O,.O,.O,.O,.O,.O,.I (↑xs.length:Int),.I (W ((↑x:Int)+1)),.O,.O,.O,.O,.O,.O,.O,.O,.O,.O,.O,.O] []else K (.bool true) []
theorem KS(xs ys:List Int)(K:AVal->aC Ob->Prop)(h:PR xs ys K):cT' 108 [iV xs,iV ys] [] (eD 0 K):=by
 exact aD (E:=EUe) Tryz.checked.mixed (L:=LEQ (iV xs) (iV ys) [] xs ys) (n:=10) (aK (by kernel_rfl) h)
theorem aGj{xs ys:List Int}{K:AVal->aC Ob->Prop}{h:aC Ob}(hK:K (.bool (dY xs ys)) h):(xs=ys->K (.bool true) h)/\(xs≠ys->K (.bool false) h):=by
 refine⟨fun e=>?_,fun e=>?_⟩
 ·rw [pM.2 e]at hK;exact hK
 ·have:dY xs ys=false:=by
   cases hs:dY xs ys with
   | false=>rfl
   | true=>exact(e (pM.1 hs)).elim
  rw [this]at hK;exact hK
theorem H2{xs ys:List Int}{i:Nat}(hi:i<xs.length)(h2:xs.length=ys.length)(h3:xs.take i=ys.take i)(e:xs.getD i 0=ys.getD i 0):xs.take (i+1)=ys.take (i+1):=by
 have hj:i<ys.length:=by omega
 rw [gD',gE' hi,gD',gE' hj]at e;rw [List.take_succ_eq_append_getElem hi,List.take_succ_eq_append_getElem hj,h3];have e5:xs[i]=ys[i]:=by simpa using e
 rw [e5]
theorem aC1(xs ys:List Int)(K:AVal->aC Ob->Prop)(hl:xs.length<=4294967296)(hK:K (.bool (dY xs ys)) (PE xs ys)):PQ xs ys K:=by
 obtain⟨kt,kf⟩:=aGj hK;refine aJ (fun e=>kf ?_) (fun e=>?_)
 ·rw [cI]at e;rintro rfl;simp at e
 ·have hle:xs.length=ys.length:=by rw [cI]at e;simp at e;omega
  refine⟨aR (H:=z8 (TZ xs) (T0 ys) (PE xs ys) xs ys) (0:Nat) rfl ⟨Nat.zero_le _,hle,rfl⟩,?_⟩;rintro i ⟨h1,h2,h3⟩;refine aU (fun e1=>?_) (fun e1=>?_)
  ·have e1:=fB e1;have hi:i<xs.length:=by omega
   have e2:0+(i:Int).toNat *1=i:=by omega
   rw [e2];refine⟨by omega,hi,by omega,by omega,aJ (fun e3=>kf ?_) (fun e3=>?_)⟩
   ·rw [cI]at e3;rintro rfl;simp at e3
   ·rw [cI]at e3;have e3:xs.getD i 0=ys.getD i 0:=by simpa using e3
    rw [W2 hi hl];exact aR (H:=z8 (TZ xs) (T0 ys) (PE xs ys) xs ys) (i+1:Nat) rfl ⟨⟨hi,h2,H2 hi h2 h3 e3⟩,by show xs.length - (i+1)<xs.length - i;omega⟩
  ·have e1:=gB e1;refine kt ?_;rw [List.take_of_length_le (by omega),List.take_of_length_le (by omega)]at h3;exact h3
theorem aC2(xs ys:List Int)(K:AVal->aC Ob->Prop)(hl:xs.length<=4294967296)(hK:K (.bool (dY xs ys)) []):PR xs ys K:=by
 obtain⟨kt,kf⟩:=aGj hK;refine aJ (fun e=>kf ?_) (fun e=>?_)
 ·rw [cI]at e;rintro rfl;simp at e
 ·have hle:xs.length=ys.length:=by rw [cI]at e;simp at e;omega
  refine⟨aR (H:=z8 (iV xs) (iV ys) [] xs ys) (0:Nat) rfl ⟨Nat.zero_le _,hle,rfl⟩,?_⟩;rintro i ⟨h1,h2,h3⟩;refine aU (fun e1=>?_) (fun e1=>?_)
  ·have e1:=fB e1;have hi:i<xs.length:=by omega
   rw [Int.toNat_natCast];refine⟨by omega,by omega,aJ (fun e3=>kf ?_) (fun e3=>?_)⟩
   ·rw [cI]at e3;rintro rfl;simp at e3
   ·rw [cI]at e3;have e3:xs.getD i 0=ys.getD i 0:=by simpa using e3
    rw [W2 hi hl];exact aR (H:=z8 (iV xs) (iV ys) [] xs ys) (i+1:Nat) rfl ⟨⟨hi,h2,H2 hi h2 h3 e3⟩,by show xs.length - (i+1)<xs.length - i;omega⟩
  ·have e1:=gB e1;refine kt ?_;rw [List.take_of_length_le (by omega),List.take_of_length_le (by omega)]at h3;exact h3
def eqR:bE Ob:=fun args h=>match args,h with
 | [.slice 0 0 n 1,.slice 1 0 m 1],[some (.ints (some .i64) xs),some (.ints (some .i64) ys)]=>some ((n=xs.length/\m=ys.length)/\n<=4294967296,.bool (dY xs ys))
 | [.iview (some .i64) xs,.iview (some .i64) ys],[]=>some (xs.length<=4294967296,.bool (dY xs ys))
 | _,_=>none
theorem aC0:sT' 108 eqR.spec:=by
 intro args h o ho K hK;unfold bE.spec at ho;split at ho
 case h_2=>cases ho
 rename_i p v hv;unfold eqR at hv;split at hv
 case h_3=>cases hv
 ·rename_i n m xs ys;simp only [sI',pI']at hv;obtain⟨rfl,rfl⟩:=hv;simp only [sI']at ho;subst ho;obtain⟨⟨⟨rfl,rfl⟩,hl⟩,hK⟩:=hK;exact aJ1 (KR xs ys K (aC1 xs ys K hl hK))
 ·rename_i xs ys;simp only [sI',pI']at hv;obtain⟨rfl,rfl⟩:=hv;simp only [sI']at ho;subst ho;obtain⟨hl,hK⟩:=hK;exact aJ1 (KS xs ys K (aC2 xs ys K hl hK))
def aFO(sh th nd tr:Int)(m:Nat)(vr:Nat->List AVal)(K:AVal->aC Ob->Prop):Prop:=K (.agg [.I sh,.I th,.I nd,.I tr]) []
theorem OU(sh th nd tr:Int)(m:Nat)(vr:Nat->List AVal)(K:AVal->aC Ob->Prop)(h:aFO sh th nd tr m vr K):cT' 26 [.agg [.I sh,.I th,.I nd,.I tr,.view m 1 vr]] [] (eD 0 K):=by
 exact cM' (E:=EUg) (by kernel_rfl) h
def cfR:bE Ob:=fun args h=>match args,h with
 | [.agg [.int .i64 sh,.int .i64 th,.int .i64 nd,.int .i64 tr,.view m 1 vr]],[]=>some (True,.agg [.I sh,.I th,.I nd,.I tr])
 | _,_=>none
theorem OT:sT' 26 cfR.spec:=by
 intro args h o ho K hK;unfold bE.spec at ho;split at ho
 case h_2=>cases ho
 rename_i p v hv;unfold cfR at hv;split at hv
 case h_2=>cases hv
 rename_i sh th nd tr m vr;simp only [sI',pI']at hv;obtain⟨rfl,rfl⟩:=hv;simp only [sI']at ho;subst ho;obtain⟨_,hK⟩:=hK;exact aJ1 (OU sh th nd tr m vr K hK)
def gn1S:aH Ob:=fun args h=>match args,h with
 | [.agg [.int .i64 sh,.int .i64 th,.int .i64 nd,.int .i64 tr],.view m 1 vr],[]=>some (.pre ((m<=1000000/\fF vr)/\gnC sh th nd tr m (vL vr) (vK vr) (vY vr)=0) (.ret (.tup [.ptr 0 0,.I 0]) (egH (mY sh th nd tr m (vL vr) (vK vr) (vY vr)))))
 | _,_=>none
theorem FV:sT' 25 gn1S:=by
 intro args h o ho K hK;unfold gn1S at ho;split at ho<;>cases ho
 rename_i sh th nd tr m vr;obtain⟨⟨h1,h2⟩,hK⟩:=hK;have hS:gnS [.agg [.I sh,.I th,.I nd,.I tr],.view m 1 vr] []=some (.pre (m<=1000000/\fF vr) (qH sh th nd tr m (vL vr) (vK vr) (vY vr))):=rfl;refine IE _ _ _ hS K ⟨h1,?_⟩;show(qH sh th nd tr m (vL vr) (vK vr) (vY vr)).run K;unfold qH;rw [h2];exact hK
abbrev xW(pt pm:Nat->Int)(i:Nat):List AVal:=[.I (pt i),.I (pm i)]
structure CNT where
 ch:Int
 tk:Int
 gv:Int
 lo:Int
 tw:Int
instance:Inhabited CNT:=⟨⟨0,0,0,0,0⟩⟩
def frB(lv:List Int)(i:Int):Bool:=ieq (Int.tmod (lv.getD (0+Int.toNat (W (i - 1))*1) 0) 2) 0
def cnCh(n a:Int)(lv:List Int)(c:CNT):CNT:=bif ilt a 1 then c else bif ile (n+1+4) a then c else bif bC n a then(bif frB lv a then⟨W (c.ch+1),c.tk,c.gv,W (c.lo+1),c.tw⟩else⟨W (c.ch+1),c.tk,c.gv,c.lo,c.tw⟩)else⟨W (c.ch+1),c.tk,c.gv,c.lo,c.tw⟩
def cnLf(k:Int)(ok:Bool)(nd:Int)(lv:List Int)(c:CNT):CNT:=bif ieq k 3&&ok then⟨c.ch,W (c.tk+1),c.gv,c.lo,c.tw⟩else bif ieq k 4 then(bif frB lv nd then⟨c.ch,c.tk,W (c.gv+1),c.lo,W (c.tw+1)⟩else⟨c.ch,c.tk,W (c.gv+1),c.lo,c.tw⟩)else c
theorem aIt{I:Itp Ob}(t:TypeId)(l off:Nat)(h:aC Ob)(v:AVal)(q:Option Prop)(hh:(none:Option (AVal×Option Prop))=some (v,q))(_:onp q)(V:Val)(hR:PHeap)(w:World)(b k:Nat)(_:Inv I V (toF h) hR w)(_:V l=some (b,k)): ∃v',(Instr.loadAt t (.pointer (some ⟨b,off,none⟩))).run Tryz.prog w=.ok v' w/\Rep V v v':=by cases hh
theorem aIg{I:Itp Ob}(h:I=obI tbl)(ρ:Operand->AVal)(o:Oper)(g:aC Ob)(r:ORes Ob)(hr:D8.dro Tryz.prog (fun _ _ _=>none) ρ o.op g=some r)(ho:r.obl)(V:Val)(hR:PHeap)(w:World)(ρ':Operand->Value)(hi:Inv I V (toF g) hR w)(hf:i5 V g.length r.new.length)(hρ: ∀x,Rep V (ρ x) (ρ' x)):dG I Tryz.prog V g.length hR w r.v (toF (r.apply g)) r.new.length (execOp ρ' o):=by
 subst h;exact D8.dro_ok tI uU ρ o g r hr ho V hR w ρ' hi hf hρ
noncomputable def rC(E:Env Ob Tryz.prog)(h:E.I=obI tbl):Env Ob Tryz.prog:= {E with fld:=fun _ _ _ _=>none,fldOk:=aIt,dro:=D8.dro Tryz.prog fun _ _ _=>none,droCongr:=D8.dro_congr oN,droOk:=aIg h}
noncomputable def EAu:Env Ob Tryz.prog:=rC (EUe.addR 108 eqR aC0) rfl
abbrev auC(c:CNT)(n m:Nat):aG Ob:=.cells [.ptr 1 0,.int .i64 c.ch,.int .i64 c.tk,.int .i64 c.gv,.int .i64 c.lo,.int .i64 c.tw,.slice 2 0 n 1,.slice 3 0 m 1]
abbrev auH(e:EGS)(c:CNT)(ss:List (List Int))(lv:List Int):aC Ob:=[some (auC c ss.length lv.length),some (.abs (.engine e) []),some (.abs (.srow ss) []),some (.ints (some .u64) lv)]
abbrev w3o(c:CNT)(e:EGS)(lv:List Int)(ss:List (List Int)):aC Ob:=[some (.cells [.ptr 1 0,.int .i64 (W (c.1+1)),.int .i64 c.2,.int .i64 c.3,.int .i64 c.4,.int .i64 c.5,.slice 2 0 ss.length 1,.slice 3 0 lv.length 1]),some (.abs (.engine e) []),some (.abs (.srow ss) []),some (.ints (some .u64) lv)]
abbrev w3p(c:CNT)(e:EGS)(lv:List Int)(ss:List (List Int)):aC Ob:=[some (.cells [.ptr 1 0,.int .i64 c.1,.int .i64 c.2,.int .i64 c.3,.int .i64 c.4,.int .i64 c.5,.slice 2 0 ss.length 1,.slice 3 0 lv.length 1]),some (.abs (.engine e) []),some (.abs (.srow ss) []),some (.ints (some .u64) lv)]
def EY(e:EGS)(c:CNT)(ss:List (List Int))(lv:List Int)(t n a:Int)(K:AVal->aC Ob->Prop):Prop:=bif ilt a 1 then K (.tup []) (w3p c e lv ss)else(((0:Int)<=n/\n<=(100000:Int))/\(-1000000:Int)<=(4:Int)/\(4:Int)<=(1000000:Int))/\bif ile (n+1+4) a then K (.tup []) (w3p c e lv ss)else True/\bif bC n a then((0:Int)<=W (a - 1)/\W (a - 1)<(↑lv.length:Int))/\0+Int.toNat (W (a - 1))*(1:Nat)<lv.length/\(2:Int)≠(0:Int)/\bif ieq (Int.tmod (List.getD lv (0+Int.toNat (W (a - 1))*1) 0) 2) 0 then K (.tup []) [some (.cells [.ptr 1 0,.int .i64 (W (c.1+1)),.int .i64 c.2,.int .i64 c.3,.int .i64 (W (c.4+1)),.int .i64 c.5,.slice 2 0 ss.length 1,.slice 3 0 lv.length 1]),some (.abs (.engine e) []),some (.abs (.srow ss) []),some (.ints (some .u64) lv)]else K (.tup []) (w3o c e lv ss)else K (.tup []) (w3o c e lv ss)
theorem EZ(e:EGS)(c:CNT)(ss:List (List Int))(lv:List Int)(t n a:Int)(K:AVal->aC Ob->Prop)(h:EY e c ss lv t n a K):cT' 136 [.ptr 0 0,.agg [.int .i64 t,.int .i64 n],.int .i64 a] (auH e c ss lv) (eD 4 K):=by
 exact cM' (E:=EAu) (by kernel_rfl) h
abbrev w3q(c:CNT)(e:EGS)(lv:List Int)(ss:List (List Int)):aC Ob:=[some (.cells [.ptr 1 0,.int .i64 c.1,.int .i64 c.2,.int .i64 (W (c.3+1)),.int .i64 c.4,.int .i64 (W (c.5+1)),.slice 2 0 ss.length 1,.slice 3 0 lv.length 1]),some (.abs (.engine e) []),some (.abs (.srow ss) []),some (.ints (some .u64) lv)]
abbrev w3r(c:CNT)(e:EGS)(lv:List Int)(ss:List (List Int)):aC Ob:=[some (.cells [.ptr 1 0,.int .i64 c.1,.int .i64 c.2,.int .i64 (W (c.3+1)),.int .i64 c.4,.int .i64 c.5,.slice 2 0 ss.length 1,.slice 3 0 lv.length 1]),some (.abs (.engine e) []),some (.abs (.srow ss) []),some (.ints (some .u64) lv)]
abbrev w3s(c:CNT)(e:EGS)(lv:List Int)(ss:List (List Int)):aC Ob:=[some (.cells [.ptr 1 0,.int .i64 c.1,.int .i64 c.2,.int .i64 c.3,.int .i64 c.4,.int .i64 c.5,.slice 2 0 ss.length 1,.slice 3 0 lv.length 1]),some (.abs (.engine e) []),some (.abs (.srow ss) []),some (.ints (some .u64) lv)]
def FA(e:EGS)(c:CNT)(ss:List (List Int))(lv:List Int)(k a o w:Int)(ok:Bool)(nd:Int)(K:AVal->aC Ob->Prop):Prop:=bif ieq k 3 then bif ok then K (.tup []) [some (.cells [.ptr 1 0,.int .i64 c.1,.int .i64 (W (c.2+1)),.int .i64 c.3,.int .i64 c.4,.int .i64 c.5,.slice 2 0 ss.length 1,.slice 3 0 lv.length 1]),some (.abs (.engine e) []),some (.abs (.srow ss) []),some (.ints (some .u64) lv)]else bif ieq k 4 then((0:Int)<=W (nd - 1)/\W (nd - 1)<(↑lv.length:Int))/\0+Int.toNat (W (nd - 1))*(1:Nat)<lv.length/\(2:Int)≠(0:Int)/\bif ieq (Int.tmod (List.getD lv (0+Int.toNat (W (nd - 1))*1) 0) 2) 0 then K (.tup []) (w3q c e lv ss)else K (.tup []) (w3r c e lv ss)else K (.tup []) (w3s c e lv ss)else bif ieq k 4 then((0:Int)<=W (nd - 1)/\W (nd - 1)<(↑lv.length:Int))/\0+Int.toNat (W (nd - 1))*(1:Nat)<lv.length/\(2:Int)≠(0:Int)/\bif ieq (Int.tmod (List.getD lv (0+Int.toNat (W (nd - 1))*1) 0) 2) 0 then K (.tup []) (w3q c e lv ss)else K (.tup []) (w3r c e lv ss)else K (.tup []) (w3s c e lv ss)
theorem FB(e:EGS)(c:CNT)(ss:List (List Int))(lv:List Int)(k a o w:Int)(ok:Bool)(nd:Int)(K:AVal->aC Ob->Prop)(h:FA e c ss lv k a o w ok nd K):cT' 137 [.ptr 0 0,.agg [.int .i64 k,.int .i64 a,.int .u64 o,.int .u64 w,.bool ok],.int .i64 nd] (auH e c ss lv) (eD 4 K):=by
 exact cM' (E:=EAu) (by kernel_rfl) h
structure oJ (n m:Nat) (ss:List (List Int)) (lv:List Int):Prop where
 n:n=ss.length
 m:m=lv.length
structure chOk (n:Int) (lv:List Int):Prop where
 n0:0<=n
 n1:n<=100000
 l:n<=(lv.length:Int)
def auchS:aH Ob:=fun args h=>match args,h with
 | [.ptr 0 0,.agg [.int .i64 t,.int .i64 n],.int .i64 a],[some (.cells [.ptr 1 0,.int .i64 c1,.int .i64 c2,.int .i64 c3,.int .i64 c4,.int .i64 c5,.slice 2 0 p 1,.slice 3 0 q 1]),some (.abs (.engine e) []),some (.abs (.srow ss) []),some (.ints (some .u64) lv)]=>some (.pre (oJ p q ss lv/\chOk n lv) (.ret (.tup []) (auH e (cnCh n a lv ⟨c1,c2,c3,c4,c5⟩) ss lv)))
 | _,_=>none
theorem U1:sT' 136 auchS:=by
 intro args h o ho K hK;unfold auchS at ho;split at ho<;>cases ho
 rename_i t n a c1 c2 c3 c4 c5 p q e ss lv;obtain⟨⟨⟨rfl,rfl⟩,⟨n0,n1,l⟩⟩,hK⟩:=hK;have hK:K (.tup []) (auH e (cnCh n a lv ⟨c1,c2,c3,c4,c5⟩) ss lv):=hK;refine aJ1 (EZ e ⟨c1,c2,c3,c4,c5⟩ ss lv t n a K ?_);unfold EY;refine aU (fun h1=>?_) (fun h1=>⟨⟨⟨n0,n1⟩,by decide,by decide⟩,aU (fun h2=>?_) (fun h2=>⟨trivial,aU (fun h3=>?_) (fun h3=>?_)⟩)⟩)
 ·unfold cnCh at hK;rw [h1]at hK;exact hK
 ·unfold cnCh at hK;rw [h1,h2]at hK;exact hK
 ·have h4:=cQ.1 h3;have hW:W (a - 1)=a - 1:=cH ⟨by omega,by omega⟩
  refine⟨⟨by rw [hW];omega,by rw [hW];omega⟩,by rw [hW];omega,by decide,aU (fun h5=>?_) (fun h5=>?_)⟩
  ·unfold cnCh at hK;rw [h1,h2,h3,show frB lv a=true from h5]at hK;exact hK
  ·unfold cnCh at hK;rw [h1,h2,h3,show frB lv a=false from h5]at hK;exact hK
 ·unfold cnCh at hK;rw [h1,h2,h3]at hK;exact hK
structure aG3 (nd:Int) (lv:List Int):Prop where
 n0:1<=nd
 n1:nd<=100000
 l:nd<=(lv.length:Int)
def aulfS:aH Ob:=fun args h=>match args,h with
 | [.ptr 0 0,.agg [.int .i64 k,.int .i64 a,.int .u64 o,.int .u64 w,.bool ok],.int .i64 nd],[some (.cells [.ptr 1 0,.int .i64 c1,.int .i64 c2,.int .i64 c3,.int .i64 c4,.int .i64 c5,.slice 2 0 p 1,.slice 3 0 q 1]),some (.abs (.engine e) []),some (.abs (.srow ss) []),some (.ints (some .u64) lv)]=>some (.pre (oJ p q ss lv/\aG3 nd lv) (.ret (.tup []) (auH e (cnLf k ok nd lv ⟨c1,c2,c3,c4,c5⟩) ss lv)))
 | _,_=>none
theorem U2:sT' 137 aulfS:=by
 intro args h o ho K hK;unfold aulfS at ho;split at ho<;>cases ho
 rename_i k a o w ok nd c1 c2 c3 c4 c5 p q e ss lv;obtain⟨⟨⟨rfl,rfl⟩,⟨n0,n1,l⟩⟩,hK⟩:=hK;have hK:K (.tup []) (auH e (cnLf k ok nd lv ⟨c1,c2,c3,c4,c5⟩) ss lv):=hK;refine aJ1 (FB e ⟨c1,c2,c3,c4,c5⟩ ss lv k a o w ok nd K ?_);unfold FA;have hW:W (nd - 1)=nd - 1:=cH ⟨by omega,by omega⟩
 have hB: ∀ {A B C:Prop},(frB lv nd=true->A)->(frB lv nd=false->B)->((0<=W (nd - 1)/\W (nd - 1)<(lv.length:Int))/\0+Int.toNat (W (nd - 1))*1<lv.length/\(2:Int)≠0/\bif ieq (Int.tmod (List.getD lv (0+Int.toNat (W (nd - 1))*1) 0) 2) 0 then A else B):=fun ha hb=>⟨⟨by rw [hW];omega,by rw [hW];omega⟩,by rw [hW];omega,by decide,aU ha hb⟩
 refine aU (fun h1=>aU (fun h2=>?_) (fun h2=>aU (fun h3=>?_) (fun h3=>?_))) (fun h1=>aU (fun h3=>?_) (fun h3=>?_))
 ·unfold cnLf at hK;rw [h1,h2]at hK;exact hK
 ·exfalso;rw [sX h1]at h3;cases h3
 ·unfold cnLf at hK;rw [h1,h2,h3]at hK;exact hK
 ·refine hB (C:=True) (fun h5=>?_) (fun h5=>?_)
  ·unfold cnLf at hK;rw [h1,h3,h5]at hK;exact hK
  ·unfold cnLf at hK;rw [h1,h3,h5]at hK;exact hK
 ·unfold cnLf at hK;rw [h1,h3]at hK;exact hK
noncomputable def EAv:Env Ob Tryz.prog:=rC ((EAu.addS 136 auchS U1).addS 137 aulfS U2) rfl
def noU(e:EGS)(c:CNT)(ss:List (List Int))(m:Nat)(lv:List Int)(K:AVal->aC Ob->Prop):Prop:=((0:Int)<=(EGS.s e).2/\(EGS.s e).2<=(100000:Int))/\((0:Int)<=W ((↑ss.length:Int) - 1)/\W ((↑ss.length:Int) - 1)<(↑ss.length:Int))/\0+Int.toNat (W ((↑ss.length:Int) - 1))*(1:Nat)<ss.length/\((lE' (bD e)/\lE' (slAt ss (0+Int.toNat (W ((↑ss.length:Int) - 1))*1)))/\List.length (bD e)<=(4294967296:Nat))/\bif !dY (bD e) (slAt ss (0+Int.toNat (W ((↑ss.length:Int) - 1))*1))then(0+Int.toNat (W ((↑ss.length:Int) - 1))*(1:Nat)<ss.length/\slAt ss (0+Int.toNat (W ((↑ss.length:Int) - 1))*1)=slAt ss (0+Int.toNat (W ((↑ss.length:Int) - 1))*1))/\(1=1/\0=0/\1=1/\lE' ss/\ss.length+(1:Nat)<=(4294967296:Nat)/\6=6/\0=0/\lE' (bD e)/\1=1)/\K (.tup []) [some (.cells [.ptr 1 0,.int .i64 c.1,.int .i64 c.2,.int .i64 c.3,.int .i64 c.4,.int .i64 c.5,.slice 4 0 (ss.length+1) 1,.slice 3 0 m 1]),some (.abs (.engine e) []),none,some (.ints (some .u64) lv),some (.abs (.srow (ss++ [bD e])) [])]else K (.tup []) [some (.cells [.ptr 1 0,.int .i64 c.1,.int .i64 c.2,.int .i64 c.3,.int .i64 c.4,.int .i64 c.5,.slice 2 0 ss.length 1,.slice 3 0 m 1]),some (.abs (.engine e) []),some (.abs (.shole ss (0+Int.toNat (W ((↑ss.length:Int) - 1))*1)) [4]),some (.ints (some .u64) lv),some (.ints (some .i64) (slAt ss (0+Int.toNat (W ((↑ss.length:Int) - 1))*1)))]
def noT(e:EGS)(c:CNT)(ss:List (List Int))(lv:List Int)(K:AVal->aC Ob->Prop):Prop:=((((0:Int)<=(EGS.s e).1/\(EGS.s e).1<=(100000:Int))/\((0:Int)<=(EGS.s e).2/\(EGS.s e).2<=(100000:Int))/\(-1099511627776:Int)<=(1:Int)/\(1:Int)<=(1099511627776:Int))/\True)/\True/\bif bC (EGS.s e).2 (W (W ((EGS.s e).6 - ((EGS.s e).2+4+1))+1))then(oJ ss.length lv.length ss lv/\aG3 (W (W ((EGS.s e).6 - ((EGS.s e).2+4+1))+1)) lv)/\True/\((0:Int)<=W (W (W ((EGS.s e).6 - ((EGS.s e).2+4+1))+1) - 1)/\W (W (W ((EGS.s e).6 - ((EGS.s e).2+4+1))+1) - 1)<(↑lv.length:Int))/\0+Int.toNat (W (W (W ((EGS.s e).6 - ((EGS.s e).2+4+1))+1) - 1))*(1:Nat)<lv.length/\noU e (cnLf (EGS.s e).5 (EGS.s e).9 (W (W ((EGS.s e).6 - ((EGS.s e).2+4+1))+1)) lv c) ss lv.length (List.set lv (0+Int.toNat (W (W (W ((EGS.s e).6 - ((EGS.s e).2+4+1))+1) - 1))*1) (aE (EGS.s e).3 (EGS.s e).6)) K else noU e c ss lv.length lv K
def aHd(e:EGS)(c:CNT)(ss:List (List Int))(lv:List Int)(K:AVal->aC Ob->Prop):Prop:=True/\True/\bif (EGS.s e).9 then bif ieq (EGS.s e).5 2 then(oJ ss.length lv.length ss lv/\chOk (EGS.s e).2 lv)/\noT e (cnCh (EGS.s e).2 (EGS.s e).6 lv c) ss lv K else bif ieq (EGS.s e).5 3 then(oJ ss.length lv.length ss lv/\chOk (EGS.s e).2 lv)/\noT e (cnCh (EGS.s e).2 (EGS.s e).6 lv c) ss lv K else noT e c ss lv K else noT e c ss lv K
theorem RK(e:EGS)(c:CNT)(ss:List (List Int))(lv:List Int)(K:AVal->aC Ob->Prop)(h:aHd e c ss lv K):cT' 113 [.ptr 0 0] (auH e c ss lv) (eD 4 K):=by
 exact cM' (E:=EAv) (by kernel_rfl) h
abbrev auR(e:EGS)(c:CNT)(ss:List (List Int))(lv:List Int):aC Ob:=[some (.cells [.ptr 1 0,.int .i64 c.ch,.int .i64 c.tk,.int .i64 c.gv,.int .i64 c.lo,.int .i64 c.tw,.slice 4 0 ss.length 1,.slice 3 0 lv.length 1]),some (.abs (.engine e) []),none,some (.ints (some .u64) lv),some (.abs (.srow ss) [])]
theorem aKF{n l i k:Nat}{ws:List (List Int)}{v:AVal}{g:aC Ob}(hl:aL g l=some (.abs (.shole ws i) [k]))(hk:aL g k=some (.ints (some .i64) (slAt ws i)))(hkl:k≠l)(hi:i<ws.length):
 aF (obI tbl) n v g v ((g.set l (some (.abs (.srow ws) []))).set k none):=by
 intro V hR w' x h1 h2 h3 h4;refine⟨V,fun _ _ _ h=>h,?_,by simpa using h3,h4,?_⟩
 ·intro m hm;exact h2 m (by simpa using hm)
 ·have h5:=h1.backS D8.toRowS (qY hi) (fun _=>rfl) hl hk hkl
  have h6:ws.set i (slAt ws i)=ws:=by
   apply List.ext_getElem?;intro j;rw [List.getElem?_set];split
   ·rename_i e;subst e;exact(qY hi).symm
   ·rfl
  have h7:=h5;change Inv (obI tbl) V (toF ((List.set g l (some (.abs (.srow (ws.set i (slAt ws i))) []))).set k none)) hR w' at h7;rw [h6]at h7;exact h7
def ndI(e:EGS):Int:=W (W (e.s.a - (e.s.n+4+1))+1)
def naC(e:EGS)(lv:List Int)(c:CNT):CNT:=bif bC e.s.n (ndI e)then cnLf e.s.k e.s.ok (ndI e) lv (bif e.s.ok&&(ieq e.s.k 2||ieq e.s.k 3)then cnCh e.s.n e.s.a lv c else c)else bif e.s.ok&&(ieq e.s.k 2||ieq e.s.k 3)then cnCh e.s.n e.s.a lv c else c
def naL(e:EGS)(lv:List Int):List Int:=bif bC e.s.n (ndI e)then lv.set (0+Int.toNat (W (ndI e - 1))*1) (aE e.s.xs e.s.a)else lv
def naS(e:EGS)(ss:List (List Int)):List (List Int):=bif !dY (bD e) (slAt ss (0+Int.toNat (W ((ss.length:Int) - 1))*1))then ss++ [bD e]else ss
theorem Y6(e:EGS)(lv:List Int):(naL e lv).length =lv.length:=by
 unfold naL;cases bC e.s.n (ndI e)with
 | true=>exact List.length_set
 | false=>rfl
structure U0 (e:EGS) (ss:List (List Int)) (lv:List Int):Prop where
 t:0<=e.s.t/\e.s.t<=100000
 n:0<=e.s.n/\e.s.n<=100000
 l:e.s.n<=(lv.length:Int)
 s0:1<=ss.length
 s1:ss.length+1<=4294967296
 it:(bD e).length <=4294967296
theorem RI(e:EGS)(c:CNT)(ss:List (List Int))(m:Nat)(lv:List Int)(K:AVal->aC Ob->Prop)(hm:m=lv.length)(n0:0<=e.s.n)(n1:e.s.n<=100000)(s0:1<=ss.length)(s1:ss.length+1<=4294967296)(it:(bD e).length <=4294967296)(hK:K (.tup []) (auR e c (naS e ss) lv)):noU e c ss m lv (cO (obI tbl) 4 K):=by
 subst hm;have hW:W ((ss.length:Int) - 1)=(ss.length:Int) - 1:=cH ⟨by omega,by omega⟩
 have hi:0+Int.toNat (W ((ss.length:Int) - 1))*1<ss.length:=by rw [hW];omega
 refine⟨⟨n0,n1⟩,⟨by rw [hW];omega,by rw [hW];omega⟩,hi,⟨⟨rfl,rfl⟩,it⟩,aU (fun h=>?_) (fun h=>?_)⟩
 ·refine⟨⟨hi,rfl⟩,⟨rfl,rfl,rfl,rfl,s1,rfl,rfl,rfl,rfl⟩,?_⟩;have e1:naS e ss=ss++ [bD e]:=by unfold naS;rw [h];rfl
  rw [e1]at hK;have e2:(ss++ [bD e]).length =ss.length+1:=by simp
  exact⟨⟨_,_,aKi _ _ _,by rw [<-e2];exact hK⟩⟩
 ·have e1:naS e ss=ss:=by unfold naS;rw [h];rfl
  rw [e1]at hK;exact⟨⟨_,_,(aKF (l:=2) (k:=4) rfl rfl (by decide) hi).trans ((aF.move 2 (of_decide_eq_true rfl)).trans (aF.pick [0,1,2,3,5] rfl)),hK⟩⟩
theorem y9(e:EGS)(c:CNT)(ss:List (List Int))(lv:List Int)(K:AVal->aC Ob->Prop)(h:U0 e ss lv)(hK:K (.tup []) (auR e (bif bC e.s.n (ndI e)then cnLf e.s.k e.s.ok (ndI e) lv c else c) (naS e ss) (naL e lv))):noT e c ss lv (cO (obI tbl) 4 K):=by
 obtain⟨⟨t0,t1⟩,⟨n0,n1⟩,l,s0,s1,it⟩:=h;refine⟨⟨⟨⟨t0,t1⟩,⟨n0,n1⟩,by decide,by decide⟩,trivial⟩,trivial,aU (fun h1=>?_) (fun h1=>?_)⟩
 ·have h1:bC e.s.n (ndI e)=true:=h1;have h2:=cQ.1 h1;have hW:W (ndI e - 1)=ndI e - 1:=cH ⟨by omega,by omega⟩
  have hi:0+Int.toNat (W (ndI e - 1))*1<lv.length:=by rw [hW];omega
  have hl:=Y6 e lv;rw [h1]at hK;have e1:naL e lv=lv.set (0+Int.toNat (W (ndI e - 1))*1) (aE e.s.xs e.s.a):=by unfold naL;rw [h1];rfl
  refine⟨⟨⟨rfl,rfl⟩,⟨h2.1,by show ndI e<=100000;omega,by show ndI e<=(lv.length:Int);omega⟩⟩,trivial,⟨by show 0<=W (ndI e - 1);rw [hW];omega,by show W (ndI e - 1)<(lv.length:Int);rw [hW];omega⟩,hi,?_⟩
  refine RI e _ ss _ _ K (by rw [List.length_set]) n0 n1 s0 s1 it ?_
  rw [e1]at hK;exact hK
 ·have h1:bC e.s.n (ndI e)=false:=h1;rw [h1]at hK;have e1:naL e lv=lv:=by unfold naL;rw [h1];rfl
  rw [e1]at hK;exact RI e c ss _ lv K rfl n0 n1 s0 s1 it hK
def aunoS:aH Ob:=fun args h=>match args,h with
 | [.ptr 0 0],[some (.cells [.ptr 1 0,.int .i64 c1,.int .i64 c2,.int .i64 c3,.int .i64 c4,.int .i64 c5,.slice 2 0 p 1,.slice 3 0 q 1]),some (.abs (.engine e) []),some (.abs (.srow ss) []),some (.ints (some .u64) lv)]=>some (.pre (oJ p q ss lv/\U0 e ss lv) (.ret (.tup []) (auR e (naC e lv ⟨c1,c2,c3,c4,c5⟩) (naS e ss) (naL e lv))))
 | _,_=>none
theorem U3:sT' 113 aunoS:=by
 intro args h o ho K hK;unfold aunoS at ho;split at ho<;>cases ho
 rename_i c1 c2 c3 c4 c5 p q e ss lv;obtain⟨⟨⟨rfl,rfl⟩,hok⟩,hK⟩:=hK;have hK:K (.tup []) (auR e (naC e lv ⟨c1,c2,c3,c4,c5⟩) (naS e ss) (naL e lv)):=hK;refine aJ9 ?_;refine aA.keep (RK e ⟨c1,c2,c3,c4,c5⟩ ss lv _ ?_);have hc:chOk e.s.n lv:=⟨hok.n.1,hok.n.2,hok.l⟩;unfold naC at hK;refine⟨trivial,trivial,aU (fun h1=>aU (fun h2=>?_) (fun h2=>aU (fun h3=>?_) (fun h3=>?_))) (fun h1=>?_)⟩
 ·have h1:e.s.ok=true:=h1;have h2:ieq e.s.k 2=true:=h2;rw [h1,h2]at hK;exact⟨⟨⟨rfl,rfl⟩,hc⟩,y9 e _ ss lv K hok (by rw [h1];exact hK)⟩
 ·have h1:e.s.ok=true:=h1;have h2:ieq e.s.k 2=false:=h2;have h3:ieq e.s.k 3=true:=h3;rw [h1,h2,h3]at hK;exact⟨⟨⟨rfl,rfl⟩,hc⟩,y9 e _ ss lv K hok (by rw [h1];exact hK)⟩
 ·have h1:e.s.ok=true:=h1;have h2:ieq e.s.k 2=false:=h2;have h3:ieq e.s.k 3=false:=h3;rw [h1,h2,h3]at hK;exact y9 e ⟨c1,c2,c3,c4,c5⟩ ss lv K hok (by rw [h1];exact hK)
 ·have h1:e.s.ok=false:=h1;rw [h1]at hK;exact y9 e ⟨c1,c2,c3,c4,c5⟩ ss lv K hok (by rw [h1];exact hK)
noncomputable def EAw:Env Ob Tryz.prog:=rC (EAv.addS 113 aunoS U3) rfl
def apC(th:Int)(e:EGS)(lv:List Int)(c:CNT):CNT:=bif (pkF th e).1 then naC (pkF th e).2 lv c else c
def NQ(th:Int)(e:EGS)(ss:List (List Int)):List (List Int):=bif (pkF th e).1 then naS (pkF th e).2 ss else ss
def NP(th:Int)(e:EGS)(lv:List Int):List Int:=bif (pkF th e).1 then naL (pkF th e).2 lv else lv
structure UW (th:Int) (e:EGS) (ss:List (List Int)) (lv:List Int):Prop where
 p:RZ th e
 a:(pkF th e).1=true->U0 (pkF th e).2 ss lv
def aFJ(e:EGS)(c:CNT)(ss:List (List Int))(lv:List Int)(th:Int)(K:AVal->aC Ob->Prop):Prop:=RZ th e/\bif !(pkF th e).1 then K (.bool false) [some (.cells [.ptr 1 0,.int .i64 c.1,.int .i64 c.2,.int .i64 c.3,.int .i64 c.4,.int .i64 c.5,.slice 2 0 ss.length 1,.slice 3 0 lv.length 1]),some (.abs (.engine (pkF th e).2) []),some (.abs (.srow ss) []),some (.ints (some .u64) lv)]else(oJ ss.length lv.length ss lv/\U0 (Prod.snd (pkF th e)) ss lv)/\K (.bool true) [some (.cells [.ptr 1 0,.int .i64 (naC (pkF th e).2 lv c).1,.int .i64 (naC (pkF th e).2 lv c).2,.int .i64 (naC (pkF th e).2 lv c).3,.int .i64 (naC (pkF th e).2 lv c).4,.int .i64 (naC (pkF th e).2 lv c).5,.slice 4 0 (List.length (naS (pkF th e).2 ss)) 1,.slice 3 0 (List.length (naL (pkF th e).2 lv)) 1]),some (.abs (.engine (pkF th e).2) []),none,some (.ints (some .u64) (naL (pkF th e).2 lv)),some (.abs (.srow (naS (pkF th e).2 ss)) [])]
theorem OM(e:EGS)(c:CNT)(ss:List (List Int))(lv:List Int)(th:Int)(K:AVal->aC Ob->Prop)(h:aFJ e c ss lv th K):cT' 57 [.ptr 0 0,.int .i64 th] (auH e c ss lv) (eD 4 K):=by
 exact cM' (E:=EAw) (by kernel_rfl) h
def aupkS:aH Ob:=fun args h=>match args,h with
 | [.ptr 0 0,.int .i64 th],[some (.cells [.ptr 1 0,.int .i64 c1,.int .i64 c2,.int .i64 c3,.int .i64 c4,.int .i64 c5,.slice 2 0 p 1,.slice 3 0 q 1]),some (.abs (.engine e) []),some (.abs (.srow ss) []),some (.ints (some .u64) lv)]=>some (.pre (oJ p q ss lv/\UW th e ss lv) (.ret (.bool (pkF th e).1) (auR (pkF th e).2 (apC th e lv ⟨c1,c2,c3,c4,c5⟩) (NQ th e ss) (NP th e lv))))
 | _,_=>none
theorem HV:sT' 57 aupkS:=by
 intro args h o ho K hK;unfold aupkS at ho;split at ho<;>cases ho
 rename_i th c1 c2 c3 c4 c5 p q e ss lv;obtain⟨⟨⟨rfl,rfl⟩,⟨hp,ha⟩⟩,hK⟩:=hK;have hK:K (.bool (pkF th e).1) (auR (pkF th e).2 (apC th e lv ⟨c1,c2,c3,c4,c5⟩) (NQ th e ss) (NP th e lv)):=hK;unfold apC NQ NP at hK;refine aJ9 ?_;refine aA.keep (OM e ⟨c1,c2,c3,c4,c5⟩ ss lv th _ ?_);refine⟨hp,aU (fun h1=>?_) (fun h1=>?_)⟩
 ·have h1:(pkF th e).1=false:=by simpa using h1
  rw [h1]at hK;exact⟨⟨_,_,aF.move 2 (of_decide_eq_true rfl),hK⟩⟩
 ·have h1:(pkF th e).1=true:=by simpa using h1
  rw [h1]at hK;exact⟨⟨⟨rfl,rfl⟩,ha h1⟩,⟨⟨_,_,aKi _ _ _,hK⟩⟩⟩
noncomputable def EAx:Env Ob Tryz.prog:=rC (EAw.addS 57 aupkS HV) rfl
def lvI(e:EGS)(i:Nat):List Int:=(List.range i).map fun(j:Nat)=>aE e.s.xs (e.s.n+4+((j:Int)+1))
structure anI (e:EGS) (i:Nat):Prop where
 h:(i:Int)<=e.s.n
def T9(e:EGS):Hint Ob:= {X:=Nat,st:=fun i=>([.ptr 0 0,.O,.O,.ptr 1 0,.ptr 5 0,.int .i64 ((i:Int)+1)]++List.replicate 28 .O,[some (.abs (.engine e) []),some (.cells [.ptr 0 0,.int .i64 0,.int .i64 0,.int .i64 0,.int .i64 0,.int .i64 0,.slice 2 0 1 1,.slice 4 0 (lvI e i).length 1]),some (.cells [.slice 3 0 (bD e).length 1]),some (.ints (some .i64) (bD e)),some (.ints (some .u64) (lvI e i)),some (.cells [.int .i64 e.s.t,.int .i64 e.s.n])]),ok:=anI e,mu:=fun i=>(e.s.n - (i:Int)).toNat,keep:=[0,3,4,5],casts:=[(.cell 1 7,.ints (some .u64)),(.cell 2 7,.ints (some .u64)),(.cell 3 7,.ints (some .u64)),(.cell 4 7,.ints (some .u64))] }
def LAN(e:EGS):FuncId->Nat->Option (mM Ob):=fun f j=>match Nat.beq f 65,j with
 | true,4=>some (.states (T9 e))
 | _,_=>none
abbrev w3t(e:EGS):Option (aG Ob):=some (.cells [.slice 3 0 (List.length (bD e)) 1])
def aAA(e:EGS)(K:AVal->aC Ob->Prop):Prop:=((0:Int)<=(EGS.s e).2/\(EGS.s e).2<=(100000:Int))/\True/\dJ (T9 e) (Hint.ok (T9 e)) (.ptr 0 0::.O::.O::.ptr 1 0::.ptr 5 0::.int .i64 1::(tO' 28 [])) [some (.abs (.engine e) []),some (.cells [.ptr 0 0,.int .i64 0,.int .i64 0,.int .i64 0,.int .i64 0,.int .i64 0,.slice 2 0 1 1,.slice 4 0 0 1]),w3t e,some (.ints (some .i64) (bD e)),some (.ints (some .u64) []),some (.cells [.int .i64 (EGS.s e).1,.int .i64 (EGS.s e).2])]/\ ∀(x:Nat),anI e x->True/\bif bC (EGS.s e).2 ((↑x:Int)+1)then((((0:Int)<=(EGS.s e).1/\(EGS.s e).1<=(100000:Int))/\((0:Int)<=(EGS.s e).2/\(EGS.s e).2<=(100000:Int))/\(-1099511627776:Int)<=(↑x:Int)+1/\(↑x:Int)+(1:Int)<=(1099511627776:Int))/\True)/\True/\(0=0/\lE' (lvI e x)/\1=1/\List.length (lvI e x)+(1:Nat)<=(4294967296:Nat))/\dJ (T9 e) (fun x'=>Hint.ok (T9 e) x'/\Hint.mu (T9 e) x'<Hint.mu (T9 e) x) (.ptr 0 0::.O::.O::.ptr 1 0::.ptr 5 0::.int .i64 (W ((↑x:Int)+1+1))::(tO' 28 [])) [some (.abs (.engine e) []),some (.cells [.ptr 0 0,.int .i64 0,.int .i64 0,.int .i64 0,.int .i64 0,.int .i64 0,.slice 2 0 1 1,.slice 4 0 (List.length (lvI e x)+1) 1]),w3t e,some (.ints (some .i64) (bD e)),some (.ints (some .u64) (lvI e x++ [aE (EGS.s e).3 ((EGS.s e).2+4+((↑x:Int)+1))])),some (.cells [.int .i64 (EGS.s e).1,.int .i64 (EGS.s e).2])]else K (.ptr 1 0) [some (.abs (.engine e) []),some (.cells [.ptr 0 0,.int .i64 0,.int .i64 0,.int .i64 0,.int .i64 0,.int .i64 0,.slice 2 0 1 1,.slice 4 0 (List.length (lvI e x)) 1]),w3t e,some (.ints (some .i64) (bD e)),some (.ints (some .u64) (lvI e x))]
theorem JY(e:EGS)(K:AVal->aC Ob->Prop)(h:aAA e K):cT' 65 [.ptr 0 0] [some (.abs (.engine e) [])] (eD 1 K):=by
 exact aD (E:=EAx) Tryz.checked.mixed (L:=LAN e) (n:=10) (aK (by kernel_rfl) h)
theorem aG7(e:EGS)(i:Nat):lvI e i++ [aE e.s.xs (e.s.n+4+((i:Int)+1))]=lvI e (i+1):=by
 unfold lvI;rw [List.range_succ,List.map_append];rfl
theorem jC(e:EGS)(i:Nat):(lvI e i).length =i:=by unfold lvI;simp
structure ON (e:EGS):Prop where
 t:0<=e.s.t/\e.s.t<=100000
 n:0<=e.s.n/\e.s.n<=100000
 it:(bD e).length <=4294967296
abbrev auN(e:EGS):aC Ob:=[some (.abs (.engine e) []),some (.cells [.ptr 0 0,.int .i64 0,.int .i64 0,.int .i64 0,.int .i64 0,.int .i64 0,.slice 2 0 1 1,.slice 3 0 (lvI e e.s.n.toNat).length 1]),some (.abs (.srow [bD e]) []),some (.ints (some .u64) (lvI e e.s.n.toNat))]
abbrev w3u(m:Nat):Option (aG Ob):=some (.cells [.ptr 0 0,.int .i64 0,.int .i64 0,.int .i64 0,.int .i64 0,.int .i64 0,.slice 2 0 1 1,.slice 4 0 m 1])
theorem aFK(e:EGS)(lv:List Int)(n m:Nat):aF (obI tbl) 1 (.ptr 1 0) [some (.abs (.engine e) []),w3u m,some (.cells [.slice 3 0 (bD e).length 1]),some (.ints (some .i64) (bD e)),some (.ints (some .u64) lv)]
 (.ptr 1 0) [some (.abs (.engine e) []),some (.cells [.ptr 0 0,.int .i64 0,.int .i64 0,.int .i64 0,.int .i64 0,.int .i64 0,.slice 2 0 1 1,.slice 3 0 m 1]),some (.abs (.srow [bD e]) []),some (.ints (some .u64) lv)]:=
 (aF.move 3 (of_decide_eq_true rfl)).trans ((aF.pack [some (.abs (.engine e) []),w3u m,some (.abs (.srow [bD e]) []),none,some (.ints (some .u64) lv)] (.srow [bD e]) 2 0 (fD intE [bD e]) [] (by kernel_rfl) rfl rfl (by kernel_rfl)).trans (aF.pick [0,1,2,4] rfl))
def auNS:aH Ob:=fun args h=>match args,h with
 | [.ptr 0 0],[some (.abs (.engine e) [])]=>some (.pre (ON e) (.ret (.ptr 1 0) (auN e)))
 | _,_=>none
theorem aBW:sT' 65 auNS:=by
 intro args h o ho K hK;unfold auNS at ho;split at ho<;>cases ho
 rename_i e;obtain⟨⟨ht,hn,hit⟩,hK⟩:=hK;have hK:K (.ptr 1 0) (auN e):=hK;refine aJ9 ?_;refine aA.keep (JY e _ ?_);refine⟨hn,trivial,aR (H:=T9 e) (0:Nat) rfl ⟨by show((0:Nat):Int)<=_;omega⟩,?_⟩
 rintro i ⟨hi⟩;refine⟨trivial,aU (fun h1=>?_) (fun h1=>?_)⟩
 ·have h2:=cQ.1 h1;have hl:=jC e i
  have hW:W ((i:Int)+1+1)=((i+1:Nat):Int)+1:=by
   rw [show((i+1:Nat):Int)+1=(i:Int)+1+1 by omega]
   exact cH ⟨by omega,by omega⟩
  have hle:(lvI e i).length +1=(lvI e (i+1)).length :=by rw [jC,jC]
  refine⟨⟨⟨ht,hn,by omega,by omega⟩,trivial⟩,trivial,⟨rfl,rfl,rfl,by omega⟩,?_⟩
  rw [aG7,hW,hle];exact aR (H:=T9 e) (i+1:Nat) rfl ⟨⟨by omega⟩,by show(e.s.n - ((i+1:Nat):Int)).toNat <(e.s.n - (i:Int)).toNat;omega⟩
 ·have hni:e.s.n.toNat=i:=by
   have: ¬(1<=(i:Int)+1/\(i:Int)+1<=e.s.n):=fun h=>by rw [cQ.2 h]at h1;cases h1
   omega
  unfold auN at hK;rw [hni]at hK;exact⟨⟨_,_,aFK e _ 0 _,hK⟩⟩
noncomputable def EAy:Env Ob Tryz.prog:=rC ((EAx.addS 65 auNS aBW).addS 25 gn1S FV) rfl
structure asI (ss:List (List Int)) (i:Nat):Prop where
 h:i<ss.length
def HAS0(e:EGS)(c:CNT)(ss:List (List Int))(lv:List Int):Hint Ob:= {X:=Unit,st:=fun _=>([.ptr 0 0,.O,.O,.raw (.slice none 0 0),.O,.O,.O,.O,.O,.slice 2 0 ss.length 1,.int .i64 (ss.length:Int),.int .i64 0]++List.replicate 10 .O,auH e c ss lv),ok:=fun _=>True,mu:=fun _=>ss.length+1,keep:=[0,3,9,10,11],sel:=fun tm _=>match tm.getD 3 .O with | .raw _=>true | _=>false}
def tC(e:EGS)(c:CNT)(ss:List (List Int))(lv:List Int):Hint Ob:= {X:=Nat,st:=fun i=>([.ptr 0 0,.O,.O,.slice 5 0 (ss.take (i+1)).length 1,.O,.O,.O,.O,.O,.slice 2 0 ss.length 1,.int .i64 (ss.length:Int),.int .i64 ((i+1:Nat):Int)]++List.replicate 10 .O,[some (auC c ss.length lv.length),some (.abs (.engine e) []),some (.abs (.shole ss i) [4]),some (.ints (some .u64) lv),some (.ints (some .i64) (slAt ss i)),some (.abs (.srow (ss.take (i+1))) [])]),ok:=asI ss,mu:=fun i=>ss.length - i,keep:=[0,3,9,10,11] }
def LAS(e:EGS)(c:CNT)(ss:List (List Int))(lv:List Int):FuncId->Nat->Option (mM Ob):=fun f j=>match Nat.beq f 59,j with
 | true,3=>some (.cases [HAS0 e c ss lv,tC e c ss lv])
 | _,_=>none
abbrev w3v(c:CNT)(lv:List Int)(ss:List (List Int)):Option (aG Ob):=some (.cells [.ptr 1 0,.int .i64 c.1,.int .i64 c.2,.int .i64 c.3,.int .i64 c.4,.int .i64 c.5,.slice 2 0 ss.length 1,.slice 3 0 lv.length 1])
def OO(e:EGS)(c:CNT)(ss:List (List Int))(lv:List Int)(K:AVal->aC Ob->Prop):Prop:=dJ (HAS0 e c ss lv) (fun x=>Hint.ok (HAS0 e c ss lv) x/\pY none (Hint.mu (HAS0 e c ss lv) x)) [.ptr 0 0,.O,.O,.raw (Value.slice none 0 0),.O,.O,.O,.O,.O,.slice 2 0 ss.length 1,.int .i64 (↑ss.length:Int),.int .i64 0,.O,.O,.O,.O,.O,.O,.O,.O,.O,.O] [w3v c lv ss,some (.abs (.engine e) []),some (.abs (.srow ss) []),some (.ints (some .u64) lv)]/\(∀(x:Unit),True->bif ilt 0 (↑ss.length:Int)then((0:Int)<=(0:Int)/\(0:Int)<(↑ss.length:Int))/\0+Int.toNat 0*(1:Nat)<ss.length/\(lE' (slAt ss 0)/\List.length (slAt ss 0)<=(4294967296:Nat))/\(1=1/\5=5/\0=0/\lE' (slAt ss 0)/\1=1)/\dJ (tC e c ss lv) (fun x_1=>Hint.ok (tC e c ss lv) x_1/\pY (some (Hint.mu (HAS0 e c ss lv) x)) (Hint.mu (tC e c ss lv) x_1)) [.ptr 0 0,.O,.O,.slice 5 0 1 1,.O,.O,.O,.O,.O,.slice 2 0 ss.length 1,.int .i64 (↑ss.length:Int),.int .i64 (W (0+1)),.O,.O,.O,.O,.O,.O,.O,.O,.O,.O] [w3v c lv ss,some (.abs (.engine e) []),some (.abs (.shole ss 0) [4]),some (.ints (some .u64) lv),some (.ints (some .i64) (slAt ss (0+Int.toNat 0*1))),some (.abs (.srow [slAt ss 0]) [])]else K (.raw (Value.slice none 0 0)) [w3v c lv ss,some (.abs (.engine e) []),some (.abs (.srow ss) []),some (.ints (some .u64) lv)])/\(∀(x:Nat),asI ss x->bif ilt (↑(x+1):Int) (↑ss.length:Int)then((0:Int)<=(↑(x+1):Int)/\(↑(x+1):Int)<(↑ss.length:Int))/\(x<ss.length/\slAt ss x=slAt ss x)/\0+Int.toNat (↑(x+1):Int)*(1:Nat)<ss.length/\(lE' (slAt ss (0+Int.toNat (↑(x+1):Int)*1))/\List.length (slAt ss (0+Int.toNat (↑(x+1):Int)*1))<=(4294967296:Nat))/\(1=1/\0=0/\1=1/\lE' (List.take (x+1) ss)/\List.length (List.take (x+1) ss)+(1:Nat)<=(4294967296:Nat)/\7=7/\0=0/\lE' (slAt ss (0+Int.toNat (↑(x+1):Int)*1))/\1=1)/\dJ (tC e c ss lv) (fun x_1=>Hint.ok (tC e c ss lv) x_1/\pY (some (Hint.mu (tC e c ss lv) x)) (Hint.mu (tC e c ss lv) x_1)) [.ptr 0 0,.O,.O,.slice 5 0 (List.length (List.take (x+1) ss)+1) 1,.O,.O,.O,.O,.O,.slice 2 0 ss.length 1,.int .i64 (↑ss.length:Int),.int .i64 (W ((↑(x+1):Int)+1)),.O,.O,.O,.O,.O,.O,.O,.O,.O,.O] [w3v c lv ss,some (.abs (.engine e) []),some (.abs (.shole ss (0+Int.toNat (↑(x+1):Int)*1)) [4]),some (.ints (some .u64) lv),some (.ints (some .i64) (slAt ss (0+Int.toNat (↑(x+1):Int)*1))),some (.abs (.srow (List.take (x+1) ss++ [slAt ss (0+Int.toNat (↑(x+1):Int)*1)])) [])]else K (.slice 5 0 (List.length (List.take (x+1) ss)) 1) [w3v c lv ss,some (.abs (.engine e) []),some (.abs (.shole ss x) [4]),some (.ints (some .u64) lv),some (.ints (some .i64) (slAt ss x)),some (.abs (.srow (List.take (x+1) ss)) [])])/\True
theorem JZ(e:EGS)(c:CNT)(ss:List (List Int))(lv:List Int)(K:AVal->aC Ob->Prop)(h:OO e c ss lv K):cT' 59 [.ptr 0 0] (auH e c ss lv) (eD 4 K):=by
 exact aD (E:=EAy) Tryz.checked.mixed (L:=LAS e c ss lv) (n:=10) (aK (by kernel_rfl) h)
structure UX (ss:List (List Int)):Prop where
 n0:1<=ss.length
 n1:ss.length<=4294967295
 l: ∀i,i<ss.length->(slAt ss i).length <=4294967296
theorem JI{ss:List (List Int)}{i:Nat}(hi:i<ss.length):ss.take i++ [slAt ss i]=ss.take (i+1):=by
 rw [List.take_succ,qY hi];rfl
abbrev auHS(e:EGS)(c:CNT)(ss:List (List Int))(lv:List Int):aC Ob:=[some (auC c ss.length lv.length),some (.abs (.engine e) []),some (.abs (.srow ss) []),some (.ints (some .u64) lv),some (.abs (.srow ss) [])]
theorem aBY(e:EGS)(c:CNT)(ss:List (List Int))(lv:List Int)(K:AVal->aC Ob->Prop)(h:UX ss)(hK:K (.slice 4 0 ss.length 1) (auHS e c ss lv)):OO e c ss lv (cO (obI tbl) 4 K):=by
 obtain⟨n0,n1,hl⟩:=h;refine⟨aR (H:=HAS0 e c ss lv) () rfl ⟨trivial,trivial⟩,fun _ _=>?_,?_,trivial⟩
 ·refine aU (fun _=>⟨⟨by decide,by omega⟩,by show 0<_;omega,⟨rfl,hl 0 (by omega)⟩,⟨rfl,rfl,rfl,rfl,rfl⟩,?_⟩) (fun h=>?_)
  ·refine aR (H:=tC e c ss lv) (0:Nat) ?_ ⟨⟨by omega⟩,by show ss.length - 0<ss.length+1;omega⟩
   have e1:ss.take (0+1)=[slAt ss 0]:=by rw [<-JI (by omega)];rfl
   show(tC e c ss lv).st (0:Nat)=_;unfold tC;dsimp only;rw [e1];rfl
  ·rw [bI,dF']at h;omega
 ·rintro i ⟨hi⟩;refine aU (fun h=>?_) (fun h=>?_)
  ·rw [bI,dT']at h;have hi1:i+1<ss.length:=by omega
   have ej:0+Int.toNat ((i+1:Nat):Int)*1=i+1:=by rw [Int.toNat_natCast];omega
   have hW:W (((i+1:Nat):Int)+1)=((i+1+1:Nat):Int):=by
    rw [show((i+1+1:Nat):Int)=((i+1:Nat):Int)+1 by omega]
    exact cH ⟨by omega,by omega⟩
   have hlt:(ss.take (i+1)).length =i+1:=by rw [List.length_take];omega
   have hlt2:(ss.take (i+1)).length +1=(ss.take (i+1+1)).length :=by rw [List.length_take,List.length_take];omega
   rw [ej,hW,JI hi1,hlt2];refine⟨⟨by omega,by omega⟩,⟨hi,rfl⟩,hi1,⟨rfl,hl _ hi1⟩,⟨rfl,rfl,rfl,rfl,by omega,rfl,rfl,rfl,rfl⟩,?_⟩
   exact aR (H:=tC e c ss lv) (i+1:Nat) rfl ⟨⟨hi1⟩,by show ss.length - (i+1)<ss.length - i;omega⟩
  ·rw [bI,dF']at h;have et:ss.take (i+1)=ss:=List.take_of_length_le (by omega)
   rw [et];exact⟨⟨_,_,(aKF (l:=2) (k:=4) rfl rfl (by decide) hi).trans (aF.pick [0,1,2,3,5] rfl),hK⟩⟩
def auSS:aH Ob:=fun args h=>match args,h with
 | [.ptr 0 0],[some (.cells [.ptr 1 0,.int .i64 c1,.int .i64 c2,.int .i64 c3,.int .i64 c4,.int .i64 c5,.slice 2 0 p 1,.slice 3 0 q 1]),some (.abs (.engine e) []),some (.abs (.srow ss) []),some (.ints (some .u64) lv)]=>some (.pre (oJ p q ss lv/\UX ss) (.ret (.slice 4 0 ss.length 1) (auHS e ⟨c1,c2,c3,c4,c5⟩ ss lv)))
 | _,_=>none
theorem aBX:sT' 59 auSS:=by
 intro args h o ho K hK;unfold auSS at ho;split at ho<;>cases ho
 rename_i c1 c2 c3 c4 c5 p q e ss lv;obtain⟨⟨⟨rfl,rfl⟩,ha⟩,hK⟩:=hK;have hK:K (.slice 4 0 ss.length 1) (auHS e ⟨c1,c2,c3,c4,c5⟩ ss lv):=hK;refine aJ9 ?_;exact aA.keep (JZ e ⟨c1,c2,c3,c4,c5⟩ ss lv _ (aBY e ⟨c1,c2,c3,c4,c5⟩ ss lv K ha hK))
noncomputable def EAz:Env Ob Tryz.prog:=rC (EAy.addS 59 auSS aBX) rfl
def egX(sh th nd tr:Int)(m:Nat)(vr:Nat->List AVal):EGS:=mY sh th nd tr m (vL vr) (vK vr) (vY vr)
def gn2S:aH Ob:=fun args h=>match args,h with
 | [.agg [.int .i64 sh,.int .i64 th,.int .i64 nd,.int .i64 tr],.view m 1 vr],[]=>some (.pre ((m<=1000000/\fF vr)/\gnC sh th nd tr m (vL vr) (vK vr) (vY vr)=0) (.ret (.tup [.ptr 0 0,.int .i64 0]) (egH (egX sh th nd tr m vr))))
 | _,_=>none
theorem P5:sT' 25 gn2S:=by
 intro args h o ho K hK;unfold gn2S at ho;split at ho<;>cases ho
 rename_i sh th nd tr m vr;have hS:gn1S [.agg [.int .i64 sh,.int .i64 th,.int .i64 nd,.int .i64 tr],.view m 1 vr] []=some (.pre ((m<=1000000/\fF vr)/\gnC sh th nd tr m (vL vr) (vK vr) (vY vr)=0) (.ret (.tup [.ptr 0 0,.int .i64 0]) (egH (mY sh th nd tr m (vL vr) (vK vr) (vY vr))))):=rfl;exact FV _ _ _ hS K hK
noncomputable def EBa:Env Ob Tryz.prog:=rC ((EAz.addS 25 gn2S P5).addR 26 cfR OT) rfl
def aFz(sh th nd tr:Int)(m:Nat)(vr:Nat->List AVal)(K:AVal->aC Ob->Prop):Prop:=True/\(((m<=(1000000:Nat)/\fF vr)/\gnC sh th nd tr m (vL vr) (vK vr) (vY vr)=(0:Int))/\True)/\ON (egX sh th nd tr m vr)/\K (.ptr 0 0) [some (.cells [.ptr 1 0,.int .i64 0,.int .i64 0,.int .i64 0,.int .i64 0,.int .i64 0,.slice 2 0 1 1,.slice 3 0 (List.length (lvI (egX sh th nd tr m vr) (Int.toNat (EGS.s (egX sh th nd tr m vr)).2))) 1]),some (.abs (.engine (egX sh th nd tr m vr)) []),some (.abs (.srow [bD (egX sh th nd tr m vr)]) []),some (.ints (some .u64) (lvI (egX sh th nd tr m vr) (Int.toNat (EGS.s (egX sh th nd tr m vr)).2)))]
theorem NZ(sh th nd tr:Int)(m:Nat)(vr:Nat->List AVal)(K:AVal->aC Ob->Prop)(h:aFz sh th nd tr m vr K):cT' 54 [.agg [.int .i64 sh,.int .i64 th,.int .i64 nd,.int .i64 tr,.view m 1 vr]] [] (eD 0 K):=by
 exact cM' (E:=EBa) (by kernel_rfl) h
abbrev auB(e:EGS):aC Ob:=auH e ⟨0,0,0,0,0⟩ [bD e] (lvI e e.s.n.toNat)
def abS:aH Ob:=fun args h=>match args,h with
 | [.agg [.int .i64 sh,.int .i64 th,.int .i64 nd,.int .i64 tr,.view m 1 vr]],[]=>some (.pre (((m<=1000000/\fF vr)/\gnC sh th nd tr m (vL vr) (vK vr) (vY vr)=0)/\ON (egX sh th nd tr m vr)) (.ret (.ptr 0 0) (auB (egX sh th nd tr m vr))))
 | _,_=>none
theorem aFA:sT' 54 abS:=by
 intro args h o ho K hK;unfold abS at ho;split at ho<;>cases ho
 rename_i sh th nd tr m vr;obtain⟨⟨h1,h2⟩,hK⟩:=hK;exact aJ1 (NZ sh th nd tr m vr K ⟨trivial,⟨h1,trivial⟩,h2,hK⟩)
def litG(h:aC Ob)(l q:Nat)(ys:List Int):aC Ob:=((h.map (Option.map (aG.ren (swI q h.length)))).set q none).set l (some (.abs (.srow [ys]) []))
def aEa(h:aC Ob)(s:AVal):Option (Prop×aC Ob):=match s with
 | .slice l 0 m 1=>match aL h l with
   | some (.cells [.slice q 0 n 1])=>match aL h q with
     | some (.ints (some .i64) ys)=>cond (Nat.beq m 1&&iU (litG h l q ys) l []&&(Nat.blt q h.length&&(Nat.blt l h.length&& !Nat.beq q l))) (some (n=ys.length,litG h l q ys)) none
     | _=>none
   | _=>none
 | _=>none
theorem aEb{h:aC Ob}{l q n:Nat}{ys:List Int}(hl:aL h l=some (.cells [.slice q 0 n 1]))(hq:aL h q=some (.ints (some .i64) ys))(hql:q≠l)(hlt:l<h.length)(hqt:q<h.length)(hn:n=ys.length):
 qP q h=aP (litG h l q ys) l 0 (fD intE [ys]) []:=by
 have hlen:(litG h l q ys).length =h.length:=by unfold litG;simp
 have e1:aP (litG h l q ys) l 0 (fD intE [ys]) []=(litG h l q ys).set l (some (.cells [.slice h.length 0 ys.length 1]))++ [some (.ints (some .i64) ys)]:=by
  have:aP (litG h l q ys) l 0 (fD intE [ys]) []=(litG h l q ys).set l (some (.cells [.slice (litG h l q ys).length 0 ys.length 1]))++ [some (.ints (some .i64) ys)]:=rfl;rw [this,hlen]
 rw [e1];unfold qP litG;rw [hq,List.set_set];congr 1;subst hn
 have hg:h[l]? =some (some (.cells [.slice q 0 ys.length 1])):=by
  have:=hl;unfold aL at this;rw [gD',gE' hlt]at this;rw [gE' hlt];exact congrArg some this
 apply List.ext_getElem?;intro j
 by_cases e:l=j
 ·subst e;rw [List.getElem?_set_self (by simpa using hlt),List.getElem?_set_ne hql,List.getElem?_map,hg]
  show some (some (aG.cells [.slice (swI q h.length q) 0 ys.length 1]:aG Ob))=_;have:swI q h.length q=h.length:=by unfold swI;rw [if_pos rfl]
  rw [this]
 ·rw [List.getElem?_set_ne e]
theorem xN{h h4:aC Ob}{s:AVal}{p:Prop}(hs:aEa h s=some (p,h4))(hp:p):h4.length=h.length/\aF (obI tbl) h.length (.raw undef) h (.raw undef) h4:=by
 unfold aEa at hs;split at hs
 case h_2=>cases hs
 rename_i l m;split at hs
 case h_2=>cases hs
 rename_i q n hl;split at hs
 case h_2=>cases hs
 rename_i ys hq;cases hb:(Nat.beq m 1&&iU (litG h l q ys) l []&&(Nat.blt q h.length&&(Nat.blt l h.length&& !Nat.beq q l)))with
 | false=>rw [hb]at hs;cases hs
 | true=>
 rw [hb]at hs;simp only [cond_true,sI',pI']at hs;obtain⟨rfl,rfl⟩:=hs;simp only [Bool.and_eq_true]at hb;obtain⟨⟨b0,b1⟩,b2,b3,b4⟩:=hb;have hqt:q<h.length:=by simpa [Nat.blt_eq]using b2
 have hlt:l<h.length:=by simpa [Nat.blt_eq]using b3
 have hql:q≠l:=by intro e;rw [e,Nat.beq_refl]at b4;cases b4
 have hlen:(litG h l q ys).length =h.length:=by unfold litG;simp
 refine⟨hlen,(aF.move q hqt).trans (aF.pack (litG h l q ys) (.srow [ys]) l 0 (fD intE [ys]) [] (aEb hl hq hql hlt hqt hp) ?_ rfl ?_)⟩
 ·unfold aL litG;rw [gD',List.getElem?_set_self (by simpa using hlt)];rfl
 ·rw [b1,hlen];have:Nat.ble h.length h.length=true:=Nat.ble_eq_true_of_le (Nat.le_refl _);rw [this];rfl
def y7(P:Program)(B:(Operand->AVal)->Op->aC Ob->(AVal->aC Ob->Prop)->Prop)(ρ:Operand->AVal)(op:Op)(h:aC Ob)(K:AVal->aC Ob->Prop):Prop:=
 match op with
 | .call c=>match c.args.toList.map ρ with
   | [s,.slice lx 0 1 1]=>match aEa h s with
     | some (p,h4)=>p/\D8.app2 P ρ (.call c) h4 K
     | none=>B ρ (.call c) h K
   | _=>B ρ (.call c) h K
 | op=>B ρ op h K
theorem LZ{P:Program}{B:(Operand->AVal)->Op->aC Ob->(AVal->aC Ob->Prop)->Prop}(hB:tJ tbl P B):tJ tbl P (y7 P B):=by
 intro ρ o h K hk V hR w ρ' hi hf hρ;unfold y7 at hk;split at hk
 ·rename_i c hop;split at hk
  ·rename_i s lx hs;split at hk
   ·rename_i p h4 hl;obtain⟨hp,hk⟩:=hk;obtain⟨hlen,ht⟩:=xN hl hp;obtain⟨V1,a1,a2,a3,a4,a5⟩:=ht V hR w undef hi hf (Nat.le_refl _) rfl
    have hle:Val.le V V1:=by
     intro m y hm
     by_cases hml:m<h.length
     ·exact a1 m y hml hm
     ·rw [hf m (by omega)]at hm;cases hm
    obtain⟨nx,w',V',v,v',h2,q1,q2,q3,q4,q5,q6,q7,q8,q9⟩:=D8.app2_ok (P:=P) ρ o h4 K (by rw [hop];exact hk) V1 hR w ρ' a5 a2 (fun x=>Rep.mono hle _ _ (hρ x))
    exact⟨nx,w',V',v,v',h2,q1,q2,q3,q4,Val.le_trans hle q5,q6,by omega,q8,q9⟩
   ·exact hB ρ o h K (by rw [hop];exact hk) V hR w ρ' hi hf hρ
  ·exact hB ρ o h K (by rw [hop];exact hk) V hR w ρ' hi hf hρ
 ·exact hB ρ o h K hk V hR w ρ' hi hf hρ
theorem aEH{I:Itp Ob}(h:I=obI tbl)(ρ:Operand->AVal)(o:Oper)(g:aC Ob)(K:AVal->aC Ob->Prop)(hk:y7 Tryz.prog (D8.ops Tryz.prog (RKW.ops Tryz.prog)) ρ o.op g K)(V:Val)(hR:PHeap)(w:World)(ρ':Operand->Value)(hi:Inv I V (toF g) hR w)(hf: ∀l,g.length<=l->V l=none)(hρ: ∀x,Rep V (ρ x) (ρ' x)):
 ∃nx w' V' v v' h2,K v h2/\(execOp ρ' o).run Tryz.prog w=.ok nx w'/\(nx=.value v'\/nx=.skip /\v'=undef)/\Rep V' v v'/\V.le V'/\(∀l,h2.length<=l->V' l=none)/\g.length<=h2.length/\Inv I V' (toF h2) hR w'/\bX w w':=by
 subst h;exact LZ (D8.ops_ok tI RKW.ops_ok) ρ o g K hk V hR w ρ' hi hf hρ
noncomputable def aHw(E:Env Ob Tryz.prog)(h:E.I=obI tbl):Env Ob Tryz.prog:= {rC E h with row:=y7 Tryz.prog (D8.ops Tryz.prog (RKW.ops Tryz.prog)),rowOk:=aEH h}
end Go.Sh
namespace Go.Sh
open Go Go.Proofs
def QV(n:Nat):EGS:=Nat.repeat (fun x=>(pkF 0 x).2) n (mY 1 1 5 0 1 (fun _=>1) (fun _ _=>1) (fun _ _=>3))
def a22(k:Nat):EGS:=⟨1,1,5,0,(QV k).s,(QV k).h,(QV k).ws,Int.ofNat k⟩
variable [Con]
abbrev e22(k:Nat):aG Ob:=.abs (.engine (a22 k)) []
theorem QX:QV 0=a22 0:=by kernel_rfl
theorem w22(k:Nat):egW 1 5 (QV k):=by
 induction k with
 | zero=>exact HY (by kernel_rfl)
 | succ k ih=>exact(mB 0 ih).w
theorem JK:egW 1 5 (a22 0):=by rw [<-QX];exact w22 0
end Go.Sh
namespace Go.Sh
open Go Go.Proofs
variable [c:Con]
def new1S:aH Ob:=fun args h=>match args,h with
 | [.agg [.int .i64 sh,.int .i64 th,.int .i64 nd,.int .i64 tr],.slice 0 0 n 1],[some (.cells [.slice 1 0 n1 2]),some (.cells [.int .i64 p,.int .i64 q])]=>some (.pre ((n=1/\n1=1)/\(sh=1/\th=1/\nd=5/\tr=0)/\p=1/\q=3)
    (.ret (.tup [.ptr 2 0,.I 0]) [cE' [.slice 1 0 1 2],cE' [.I 1,.I 3],some (e22 0)]))
 | _,_=>none
theorem Y8:sT' 25 new1S:=by
 intro args h o ho K hK;unfold new1S at ho;split at ho<;>cases ho
 rename_i sh th nd tr n n1 p q;obtain⟨⟨⟨rfl,rfl⟩,⟨rfl,rfl,rfl,rfl⟩,rfl,rfl⟩,hK⟩:=hK;have hK:K (.tup [.ptr 2 0,.I 0]) [cE' [.slice 1 0 1 2],cE' [.I 1,.I 3],some (e22 0)]:=hK;refine aKW (args2:=[.agg [.I 1,.I 1,.I 5,.I 0],.view 1 1 (fun _=>[.view 1 2 (fun _=>[.I 1,.I 3])])]) JJ (fun _=>false) ?_ ?_
 ·intro c' hc V l hm hr;obtain⟨v0,l0,rfl,r0,v1,l1,rfl,r1,r2⟩:=hr;refine⟨v0,_,rfl,Rep.con hc _ _ r0,v1,_,rfl,?_,r2⟩;obtain⟨p0,a1,a2⟩:=hm 0 _ rfl rfl;obtain⟨p1,b1,b2⟩:=hm 1 _ rfl rfl;refine rB (Rep.con hc _ _ r1) a1 a2 ?_ (Nat.le_refl _);intro i hi;refine⟨rfl,fun rs h=>?_⟩
  match i,hi with
  | 0,_=>
    obtain⟨y,ys,rfl,y1,y2⟩:=h;refine⟨y,ys,rfl,?_,y2⟩
    have y3: @Rep c' V (.view 1 2 (fun _=>[.I 1,.I 3])) y:=rB y1 b1 b2 (fun j hj=>⟨rfl,fun rs h=>by
     match j,hj with
     | 0,_=>exact h
     | j+1,hj=>omega⟩) (Nat.le_refl _)
    exact y3
  | i+1,hi=>omega
 ·intro c';have h1:=@FV c' [.agg [.I 1,.I 1,.I 5,.I 0],.view 1 1 (fun _=>[.view 1 2 (fun _=>[.I 1,.I 3])])] [] _ rfl (fun v g=>v=.tup [.ptr 0 0,.I 0]/\g=[some (e22 0)]) ⟨⟨⟨by decide,⟨rfl⟩⟩,by kernel_rfl⟩,⟨rfl,congrArg (fun x=>[some (aG.abs (Mc.engine x) [])]) QX⟩⟩
  refine aKH h1 [] rfl (by decide) (fun l hl=>by cases hl) ?_ rfl ?_
  ·intro i l hi;simp at hi
  ·rintro v g ⟨rfl,rfl⟩ _;refine⟨rfl,rfl,?_,hK⟩;intro l hl hS
   match l,hl with
   | 0,_=>rfl
   | 1,_=>rfl
   | l+2,hl=>simp at hl;omega
def aAC(sh th nd tr p q:Int)(n n1:Nat)(K:AVal->aC Ob->Prop):Prop:=K (.agg [.I sh,.I th,.I nd,.I tr]) [cE' [.slice 1 0 n1 2],cE' [.I p,.I q]]
theorem J2(sh th nd tr p q:Int)(n n1:Nat)(K:AVal->aC Ob->Prop)(h:aAC sh th nd tr p q n n1 K):cT' 26 [.agg [.I sh,.I th,.I nd,.I tr,.slice 0 0 n 1]] [cE' [.slice 1 0 n1 2],cE' [.I p,.I q]] (eD 2 K):=by
 exact cM' (E:=EUg) (by kernel_rfl) h
def cf1R:bE Ob:=fun args h=>match args,h with
 | [.agg [.int .i64 sh,.int .i64 th,.int .i64 nd,.int .i64 tr,.slice 0 0 n 1]],[some (.cells [.slice 1 0 n1 2]),some (.cells [.int .i64 p,.int .i64 q])]=>some (True,.agg [.I sh,.I th,.I nd,.I tr])
 | _,_=>none
theorem VD:sT' 26 cf1R.spec:=by
 intro args h o ho K hK;unfold bE.spec at ho;split at ho
 case h_2=>cases ho
 rename_i pp v hv;unfold cf1R at hv;split at hv
 case h_2=>cases hv
 rename_i sh th nd tr n n1 p q;simp only [sI',pI']at hv;obtain⟨rfl,rfl⟩:=hv;simp only [sI']at ho;subst ho;obtain⟨_,hK⟩:=hK;exact aJ1 (J2 sh th nd tr p q n n1 K hK)
noncomputable def L22:FuncId->Nat->Option (mM Ob):=fun _ _=>some (.rounds 12)
end Go.Sh
namespace Go.Sh
open Go Go.Proofs
variable [Con]
structure AUS where
 e:EGS
 c:CNT
 ss:List (List Int)
 lv:List Int
instance:Inhabited AUS:=⟨⟨⟨0,0,0,0,⟨0,0,[],0,0,0,0,0,false⟩,default,[],0⟩,default,[],[]⟩⟩
def BW(e:EGS)(i:Nat):List (Int×Int):=(List.range i).foldl (fun m (j:Nat)=>dB m ((j:Int)+1) (W (1 - W (Int.tmod (aE e.s.xs (e.s.n+4+((j:Int)+1))) 2)))) []
structure acW (th nd:Int) (x:AUS):Prop where
 w:egW th nd x.e
 l:x.lv=lvI x.e nd.toNat
 s0:1<=x.ss.length
 s1:(x.ss.length:Int)<=x.e.k+1
 it: ∀i,i<x.ss.length->(slAt x.ss i).length <=4294967296
 lo:W x.c.lo=x.c.lo
 tw:W x.c.tw=x.c.tw
def cnG(e:EGS)(lv:List Int)(c:CNT):CNT:=bif e.s.ok&&(ieq e.s.k 2||ieq e.s.k 3)then cnCh e.s.n e.s.a lv c else c
def aEL(a b c d e:Int)(K:AVal->aC Ob->Prop):Prop:=bif ieq d 0 then K (.bool (ieq e 0)) []else K (.bool false) []
theorem SZ(a b c d e:Int)(K:AVal->aC Ob->Prop)(h:aEL a b c d e K):cT' 60 [.agg [.int .i64 a,.int .i64 b,.int .i64 c,.int .i64 d,.int .i64 e]] [] (eD 0 K):=by
 exact cM' (E:=EAz) (by kernel_rfl) h
def sfR:bE Ob:=fun args h=>match args,h with
 | [.agg [.int .i64 a,.int .i64 b,.int .i64 c,.int .i64 d,.int .i64 e]],[]=>some (True,.bool (ieq d 0&&ieq e 0))
 | _,_=>none
theorem SY:sT' 60 sfR.spec:=by
 intro args h o ho K hK;unfold bE.spec at ho;split at ho
 case h_2=>cases ho
 rename_i p v hv;unfold sfR at hv;split at hv
 case h_2=>cases hv
 rename_i a b c d e;simp only [sI',pI']at hv;obtain⟨rfl,rfl⟩:=hv;simp only [sI']at ho;subst ho;obtain⟨_,hK⟩:=hK;have hK:K (.bool (ieq d 0&&ieq e 0)) []:=hK;refine aJ1 (SZ a b c d e K ?_);unfold aEL;cases hd:ieq d 0 with
 | true=>rw [hd]at hK;exact hK
 | false=>rw [hd]at hK;exact hK
theorem qM(e:EGS)(n i:Nat)(hi:i<n):(lvI e n)[i]? =some (aE e.s.xs (e.s.n+4+((i:Int)+1))):=by
 unfold lvI;rw [List.getElem?_map,List.getElem?_range hi];rfl
theorem RE{e:EGS}(h1:0<=e.s.a/\e.s.a<=100000)(h2:0<=e.s.n/\e.s.n<=100000):ndI e=e.s.a - e.s.n - 4:=by
 have hW:W (e.s.a - (e.s.n+4+1))=e.s.a - (e.s.n+4+1):=cH ⟨by omega,by omega⟩
 have hW2:W (e.s.a - (e.s.n+4+1)+1)=e.s.a - (e.s.n+4+1)+1:=cH ⟨by omega,by omega⟩
 unfold ndI;rw [hW,hW2];omega
theorem Y4{th nd:Int}{e:EGS}{u:Int}(hx:egW th nd e)(hd:(pkF u e).1=true):naL (pkF u e).2 (lvI e nd.toNat)=lvI (pkF u e).2 nd.toNat:=by
 have hr:=mB u hx;have hy:=hr.w;obtain⟨z,a0,a1⟩:=hr.z hd;have hn:=hx.hn;have ht:=hx.ht;have sn:=hx.sn;have sn':=hy.sn;generalize (pkF u e).2=y at*;have hI:=RE (e:=y) ⟨a0,by omega⟩ ⟨by omega,by omega⟩
 unfold naL;cases hb:bC y.s.n (ndI y)with
 | true=>
   have hb:=cQ.1 hb;have hW:W (ndI y - 1)=ndI y - 1:=cH ⟨by omega,by omega⟩
   rw [cond_true,hW];apply List.ext_getElem?;intro j
   by_cases hj:j<nd.toNat
   ·rw [qM _ _ _ hj]
    by_cases e1:0+Int.toNat (ndI y - 1)*1=j
    ·rw [e1,List.getElem?_set_self (by rw [jC];exact hj)]
     have:y.s.n+4+((j:Int)+1)=y.s.a:=by omega
     rw [this]
    ·rw [List.getElem?_set_ne e1,qM _ _ _ hj];have h1:e.s.n+4+((j:Int)+1)=y.s.n+4+((j:Int)+1):=by omega
     rw [h1,z _ (by omega)]
   ·rw [List.getElem?_eq_none (by rw [List.length_set,jC];omega),List.getElem?_eq_none (by rw [jC];omega)]
 | false=>
   have hb: ¬(1<=ndI y/\ndI y<=y.s.n):=fun h=>by rw [cQ.2 h]at hb;cases hb
   rw [cond_false];apply List.ext_getElem?;intro j
   by_cases hj:j<nd.toNat
   ·rw [qM _ _ _ hj,qM _ _ _ hj];have h1:e.s.n+4+((j:Int)+1)=y.s.n+4+((j:Int)+1):=by omega
    rw [h1,z _ (by omega)]
   ·rw [List.getElem?_eq_none (by rw [jC];omega),List.getElem?_eq_none (by rw [jC];omega)]
end Go.Sh
namespace Go.Sh
open Go Go.Proofs
variable [Con]
theorem W_W(x:Int):W (W x)=W x:=by
 show IntKind.wrap IntKind.i64 (IntKind.wrap IntKind.i64 x)=IntKind.wrap IntKind.i64 x;simp only [IntKind.wrap_i64];omega
theorem H8(e:EGS)(n:Nat):BW e (n+1)=dB (BW e n) ((n:Int)+1) (W (1 - W (Int.tmod (aE e.s.xs (e.s.n+4+((n:Int)+1))) 2))):=by
 unfold BW;rw [List.range_succ,List.foldl_append];rfl
theorem H7(e:EGS)(a:Int): ∀n:Nat,(mget (BW e n) a).getD 0=if 1<=a/\a<=n then W (1 - W (Int.tmod (aE e.s.xs (e.s.n+4+a)) 2))else 0
 | 0=>by
   rw [if_neg (by omega)];rfl
 | n+1=>by
   rw [H8,L2]
   by_cases h:a=(n:Int)+1
   ·rw [if_pos h,if_pos (by omega),h];rfl
   ·rw [if_neg h,H7 e a n]
    by_cases h2:1<=a/\a<=(n:Int)
    ·rw [if_pos h2,if_pos (by omega)]
    ·rw [if_neg h2,if_neg (by omega)]
theorem aDj{th nd:Int}{x:AUS}(hx:acW th nd x){a:Int}(h1:1<=a)(h2:a<=nd):frB x.lv a=ieq (Int.tmod (aE x.e.s.xs (x.e.s.n+4+a)) 2) 0:=by
 have hn:=hx.w.hn;have hW:W (a - 1)=a - 1:=cH ⟨by omega,by omega⟩
 unfold frB;rw [hW,hx.l,gD',qM _ _ _ (by omega)]
 have e:((0+Int.toNat (a - 1)*1:Nat):Int)+1=a:=by omega
 rw [e];rfl
theorem aAO{th nd:Int}{x:AUS}(hx:acW th nd x)(a:Int):(mget (BW x.e nd.toNat) a).getD 0=bif bC nd a&&frB x.lv a then 1 else 0:=by
 have hn:=hx.w.hn;rw [H7];cases hb:bC nd a with
 | false=>
   have hb: ¬(1<=a/\a<=nd):=fun h=>by rw [cQ.2 h]at hb;cases hb
   rw [if_neg (by omega)];rfl
 | true=>
   have hb:=cQ.1 hb;rw [if_pos (by omega),aDj hx hb.1 hb.2]
   obtain⟨p0,p1⟩:=DE hx.w.w (x.e.s.n+4+a);generalize aE x.e.s.xs (x.e.s.n+4+a)=p at*;rw [Int.tmod_eq_emod_of_nonneg p0];have hr:p%2=0\/p%2=1:=by omega
   rcases hr with h | h
   ·rw [h];decide
   ·rw [h];decide
theorem aFP{th nd:Int}{x:AUS}(hx:acW th nd x){r:EGS}(hn:r.s.n=nd)(hok:r.s.ok=true)(hk:(ieq r.s.k 2||ieq r.s.k 3)=true)(a1:1<=r.s.a)(a2:r.s.a<=nd+4):
 cnG r x.lv x.c=⟨W (x.c.ch+1),x.c.tk,x.c.gv,W (x.c.lo+(mget (BW x.e nd.toNat) r.s.a).getD 0),x.c.tw⟩:=by
 have h1:ilt r.s.a 1=false:=by rw [bI,dF'];omega
 have h2:ile (nd+1+4) r.s.a=false:=by rw [bZ,dF'];omega
 unfold cnG cnCh;rw [aAO hx,hok,hk,hn,h1,h2];cases hb:bC nd r.s.a with
 | false=>
   show _=CNT.mk _ _ _ (W (x.c.lo+0)) _;rw [Int.add_zero,hx.lo];rfl
 | true=>
   cases hf:frB x.lv r.s.a with
   | true=>rfl
   | false=>
     show _=CNT.mk _ _ _ (W (x.c.lo+0)) _;rw [Int.add_zero,hx.lo];rfl
theorem aFQ{x:AUS}{r:EGS}{nd:Int}(hn:r.s.n=nd)(h:r.s.ok=false\/(ieq r.s.k 2||ieq r.s.k 3)=false\/r.s.a<1\/nd+4<r.s.a):cnG r x.lv x.c=x.c:=by
 unfold cnG;rcases h with h | h | h | h
 ·rw [h];rfl
 ·rw [h,Bool.and_false];rfl
 ·have h1:ilt r.s.a 1=true:=by rw [bI,dT'];omega
  unfold cnCh;rw [h1];cases r.s.ok&&(ieq r.s.k 2||ieq r.s.k 3)<;>rfl
 ·have h2:ile (nd+1+4) r.s.a=true:=by rw [bZ,dT'];omega
  unfold cnCh;rw [hn,h2];cases r.s.ok&&(ieq r.s.k 2||ieq r.s.k 3)<;>cases ilt r.s.a 1<;>rfl
theorem VM(n a:Int)(lv:List Int)(c:CNT):(cnCh n a lv c).tk =c.tk/\(cnCh n a lv c).gv =c.gv/\(cnCh n a lv c).tw =c.tw/\(W c.lo=c.lo->W (cnCh n a lv c).lo =(cnCh n a lv c).lo):=by
 unfold cnCh;cases ilt a 1<;>cases ile (n+1+4) a<;>cases bC n a<;>cases frB lv a<;>exact⟨rfl,rfl,rfl,fun h=>by first | exact h | exact W_W _⟩
theorem aAD(r:EGS)(lv:List Int)(c:CNT):(cnG r lv c).tk =c.tk/\(cnG r lv c).gv =c.gv/\(cnG r lv c).tw =c.tw/\(W c.lo=c.lo->W (cnG r lv c).lo =(cnG r lv c).lo):=by
 unfold cnG;cases r.s.ok&&(ieq r.s.k 2||ieq r.s.k 3)with
 | true=>exact VM _ _ _ _
 | false=>exact⟨rfl,rfl,rfl,fun h=>h⟩
theorem aG4(k:Int)(ok:Bool)(nd:Int)(lv:List Int)(c:CNT)(h1:W c.lo=c.lo)(h2:W c.tw=c.tw):W (cnLf k ok nd lv c).lo =(cnLf k ok nd lv c).lo /\W (cnLf k ok nd lv c).tw =(cnLf k ok nd lv c).tw :=by
 unfold cnLf;cases ieq k 3&&ok<;>cases ieq k 4<;>cases frB lv nd<;>exact⟨by first | exact h1 | exact W_W _,by first | exact h2 | exact W_W _⟩
theorem aG8(r:EGS)(lv:List Int)(c:CNT)(h1:W c.lo=c.lo)(h2:W c.tw=c.tw):W (naC r lv c).lo =(naC r lv c).lo /\W (naC r lv c).tw =(naC r lv c).tw :=by
 have g:=aAD r lv c;have e:naC r lv c=bif bC r.s.n (ndI r)then cnLf r.s.k r.s.ok (ndI r) lv (cnG r lv c)else cnG r lv c:=rfl;have h3:W (cnG r lv c).tw =(cnG r lv c).tw :=by rw [g.2.2.1];exact h2
 rw [e];cases bC r.s.n (ndI r)with
 | true=>exact aG4 _ _ _ _ _ (g.2.2.2 h1) h3
 | false=>exact⟨g.2.2.2 h1,h3⟩
theorem GB{r:EGS}{lv:List Int}{c:CNT}(h:bC r.s.n (ndI r)=false):naC r lv c=cnG r lv c:=by
 have e:naC r lv c=bif bC r.s.n (ndI r)then cnLf r.s.k r.s.ok (ndI r) lv (cnG r lv c)else cnG r lv c:=rfl;rw [e,h];rfl
theorem GA{r:EGS}{lv:List Int}{c:CNT}(h:bC r.s.n (ndI r)=true):naC r lv c=cnLf r.s.k r.s.ok (ndI r) lv (cnG r lv c):=by
 have e:naC r lv c=bif bC r.s.n (ndI r)then cnLf r.s.k r.s.ok (ndI r) lv (cnG r lv c)else cnG r lv c:=rfl;rw [e,h];rfl
def acN(u:Int)(q:AUS):AUS:=⟨(pkF u q.e).2,naC (pkF u q.e).2 q.lv q.c,naS (pkF u q.e).2 q.ss,naL (pkF u q.e).2 q.lv⟩
section
variable {th nd:Int} {q:AUS}
theorem Y7(r:EGS)(ss:List (List Int)):ss.length<=(naS r ss).length /\(naS r ss).length <=ss.length+1:=by
 unfold naS;cases !dY (bD r) (slAt ss (0+Int.toNat (W ((ss.length:Int) - 1))*1))with
 | true=>rw [cond_true,List.length_append];exact⟨by omega,Nat.le_refl _⟩
 | false=>exact⟨Nat.le_refl _,by rw [cond_false];omega⟩
theorem aEf{r:EGS}(hr:0<=r.s.n/\r.s.n<=100000){ss:List (List Int)}(h: ∀i,i<ss.length->(slAt ss i).length <=4294967296)(i:Nat)(hi:i<(naS r ss).length):(slAt (naS r ss) i).length <=4294967296:=by
 unfold naS at hi⊢;cases hb: !dY (bD r) (slAt ss (0+Int.toNat (W ((ss.length:Int) - 1))*1))with
 | false=>rw [hb]at hi;exact h i hi
 | true=>
   rw [hb,cond_true,List.length_append]at hi;rw [cond_true];unfold slAt at h⊢;rw [gD']
   by_cases h2:i<ss.length
   ·rw [List.getElem?_append_left h2,<-gD'];exact h i h2
   ·have:i=ss.length:=by simp at hi;omega
    subst this;rw [List.getElem?_append_right (Nat.le_refl _),Nat.sub_self];exact eV hr
theorem uC(hq:acW th nd q){u:Int}(hd:(pkF u q.e).1=true):acW th nd (acN u q):=by
 have hr:=mB u hq.w;obtain⟨y1,y2,_⟩:=hr.yes hd;have hc:=aG8 (pkF u q.e).2 q.lv q.c hq.lo hq.tw;have hl:=Y7 (pkF u q.e).2 q.ss;have hn:=hq.w.hn;have sn:=y1.sn;refine⟨y1,?_,?_,?_,aEf (by omega) hq.it,hc.1,hc.2⟩
 ·show naL _ q.lv=_;rw [hq.l];exact Y4 hq.w hd
 ·have:=hq.s0;show 1<=(naS _ _).length;omega
 ·have:=hq.s1;show((naS _ _).length :Int)<=(pkF u q.e).2.k +1;rw [y2];omega
theorem ES{u:Int}(hd:(pkF u q.e).1=true):apC u q.e q.lv q.c=naC (pkF u q.e).2 q.lv q.c/\NQ u q.e q.ss=naS (pkF u q.e).2 q.ss/\NP u q.e q.lv=naL (pkF u q.e).2 q.lv:=by
 unfold apC NQ NP;rw [hd];exact⟨rfl,rfl,rfl⟩
theorem aAx{u:Int}(hd:(pkF u q.e).1=false):apC u q.e q.lv q.c=q.c/\NQ u q.e q.ss=q.ss/\NP u q.e q.lv=q.lv:=by
 unfold apC NQ NP;rw [hd];exact⟨rfl,rfl,rfl⟩
theorem aAy(hq:acW th nd q)(u:Int):UW u q.e q.ss q.lv:=by
 have hr:=(mB u hq.w).w;have h1:=hr.ht;have h2:=hr.hn;have h3:=hr.st;have h4:=hr.sn;have hl:(q.lv.length:Int)=nd:=by rw [hq.l,jC];omega
 have hk:=hq.w.k;have hs:=hq.s1;refine⟨aEt u hq.w,fun _=>⟨⟨by omega,by omega⟩,⟨by omega,by omega⟩,by omega,hq.s0,by omega,eV ⟨by omega,by omega⟩⟩⟩
end
end Go.Sh
namespace Go.Sh
open Go Go.Proofs
variable [Con]
def y22(k:Nat):AUS:=Nat.repeat (acN 0) k ⟨a22 0,⟨0,0,0,0,0⟩,[bD (a22 0)],lvI (a22 0) (Int.toNat (a22 0).s.n)⟩
def S9(k:Nat)(b:Bool)(j:Nat)(x:EGS)(u:Int)(c:CNT)(p q:Nat)(ss:List (List Int))(lv:List Int):Out Ob:=.pre (oJ p q ss lv/\(u=0/\x=a22 k)/\c=(y22 k).c /\ss=(y22 k).ss /\lv=(y22 k).lv) (.ret (.bool b) (auR (a22 j) (y22 j).c (y22 j).ss (y22 j).lv))
def au22S:aH Ob:=fun args h=>match args,h with
 | [.ptr 0 0,.int .i64 u],[some (.cells [.ptr 1 0,.int .i64 c1,.int .i64 c2,.int .i64 c3,.int .i64 c4,.int .i64 c5,.slice 2 0 p 1,.slice 3 0 q 1]),some (.abs (.engine x) []),some (.abs (.srow ss) []),some (.ints (some .u64) lv)]=>match x.k with
  | .ofNat k=>match k with
   | 0=>some (S9 0 true 1 x u ⟨c1,c2,c3,c4,c5⟩ p q ss lv)
   | 1=>some (S9 1 true 2 x u ⟨c1,c2,c3,c4,c5⟩ p q ss lv)
   | 2=>some (S9 2 true 3 x u ⟨c1,c2,c3,c4,c5⟩ p q ss lv)
   | 3=>some (S9 3 true 4 x u ⟨c1,c2,c3,c4,c5⟩ p q ss lv)
   | 4=>some (S9 4 true 5 x u ⟨c1,c2,c3,c4,c5⟩ p q ss lv)
   | 5=>some (S9 5 true 6 x u ⟨c1,c2,c3,c4,c5⟩ p q ss lv)
   | 6=>some (S9 6 true 7 x u ⟨c1,c2,c3,c4,c5⟩ p q ss lv)
   | 7=>some (S9 7 true 8 x u ⟨c1,c2,c3,c4,c5⟩ p q ss lv)
   | 8=>some (S9 8 true 9 x u ⟨c1,c2,c3,c4,c5⟩ p q ss lv)
   | 9=>some (S9 9 false 9 x u ⟨c1,c2,c3,c4,c5⟩ p q ss lv)
   | _=>none
  | _=>none
 | _,_=>none
theorem TU(k:Nat):y22 (k+1)=acN 0 (y22 k):=rfl
structure rU (k:Nat):Prop where
 w:acW 1 5 (y22 k)
 e:(y22 k).e =a22 k
theorem RN:rU 0:=⟨⟨JK,by kernel_rfl,Nat.le_refl _,by show((1:Nat):Int)<=Int.ofNat 0+1;decide,fun i hi=>by
 have:i=0:=by have:i<1:=hi;omega
 subst this;have sn:=JK.sn;exact eV (x:=a22 0) ⟨by omega,by omega⟩,by kernel_rfl,by kernel_rfl⟩,rfl⟩
theorem l9{k:Nat}(h:rU k)(h1:(pkF 0 (a22 k)).1=true)(h2:(pkF 0 (a22 k)).2=a22 (k+1)):rU (k+1):=by
 refine⟨?_,?_⟩
 ·rw [TU];refine uC h.w ?_;rw [h.e];exact h1
 ·rw [TU];show(pkF 0 (y22 k).e).2=_;rw [h.e];exact h2
theorem RO:rU 1:=l9 RN (by kernel_rfl) (by kernel_rfl)
theorem RP:rU 2:=l9 RO (by kernel_rfl) (by kernel_rfl)
theorem RQ:rU 3:=l9 RP (by kernel_rfl) (by kernel_rfl)
theorem RR:rU 4:=l9 RQ (by kernel_rfl) (by kernel_rfl)
theorem RS:rU 5:=l9 RR (by kernel_rfl) (by kernel_rfl)
theorem RT:rU 6:=l9 RS (by kernel_rfl) (by kernel_rfl)
theorem RU:rU 7:=l9 RT (by kernel_rfl) (by kernel_rfl)
theorem RV:rU 8:=l9 RU (by kernel_rfl) (by kernel_rfl)
theorem aEp:rU 9:=l9 RV (by kernel_rfl) (by kernel_rfl)
theorem lC{k j:Nat}{b:Bool}(h:rU k)(h1:(pkF 0 (a22 k)).1=b)(h2:(pkF 0 (a22 k)).2=a22 j)(hj:b=true/\j=k+1\/b=false/\j=k){x:EGS}{u:Int}{c1 c2 c3 c4 c5:Int}{p q:Nat}{ss:List (List Int)}{lv:List Int}{K:AVal->aC Ob->Prop}(hK:(S9 k b j x u ⟨c1,c2,c3,c4,c5⟩ p q ss lv).run K):cT' 57 [.ptr 0 0,.I u] [cE' [.ptr 1 0,.I c1,.I c2,.I c3,.I c4,.I c5,.slice 2 0 p 1,.slice 3 0 q 1],some (.abs (.engine x) []),some (.abs (.srow ss) []),some (.ints (some .u64) lv)] K:=by
 obtain⟨⟨⟨rfl,rfl⟩,⟨rfl,rfl⟩,hc,rfl,rfl⟩,hK⟩:=hK;have hK:K (.bool b) (auR (a22 j) (y22 j).c (y22 j).ss (y22 j).lv):=hK;have ha:=aAy h.w 0;rw [h.e]at ha;have hS:aupkS [.ptr 0 0,.I 0] [cE' [.ptr 1 0,.I c1,.I c2,.I c3,.I c4,.I c5,.slice 2 0 (y22 k).ss.length 1,.slice 3 0 (y22 k).lv.length 1],some (.abs (.engine (a22 k)) []),some (.abs (.srow (y22 k).ss) []),some (.ints (some .u64) (y22 k).lv)]=some (.pre (oJ (y22 k).ss.length (y22 k).lv.length (y22 k).ss (y22 k).lv /\UW 0 (a22 k) (y22 k).ss (y22 k).lv) (.ret (.bool (pkF 0 (a22 k)).1) (auR (pkF 0 (a22 k)).2 (apC 0 (a22 k) (y22 k).lv ⟨c1,c2,c3,c4,c5⟩) (NQ 0 (a22 k) (y22 k).ss) (NP 0 (a22 k) (y22 k).lv)))):=rfl;refine HV _ _ _ hS K ⟨⟨⟨rfl,rfl⟩,ha⟩,?_⟩;show K (.bool (pkF 0 (a22 k)).1) (auR (pkF 0 (a22 k)).2 (apC 0 (a22 k) (y22 k).lv ⟨c1,c2,c3,c4,c5⟩) (NQ 0 (a22 k) (y22 k).ss) (NP 0 (a22 k) (y22 k).lv));rw [hc,h1,h2];rcases hj with⟨rfl,rfl⟩ | ⟨rfl,rfl⟩
 ·have hd:(pkF 0 (y22 k).e).1=true:=by rw [h.e];exact h1
  obtain⟨a1,a2,a3⟩:=ES hd;rw [h.e,h2]at a1 a2 a3
  have e:y22 (k+1)=⟨a22 (k+1),naC (a22 (k+1)) (y22 k).lv (y22 k).c,naS (a22 (k+1)) (y22 k).ss,naL (a22 (k+1)) (y22 k).lv⟩:=by
   rw [TU];unfold acN;rw [h.e,h2]
  rw [a1,a2,a3];rw [e]at hK;exact hK
 ·have hd:(pkF 0 (y22 j).e).1=false:=by rw [h.e];exact h1
  obtain⟨a1,a2,a3⟩:=aAx hd;rw [h.e]at a1 a2 a3;rw [a1,a2,a3];exact hK
theorem UZ:sT' 57 au22S:=by
 intro args h o ho K hK;unfold au22S at ho;split at ho
 case h_2=>cases ho
 split at ho
 case h_2=>cases ho
 split at ho
 ·cases ho;exact lC RN (by kernel_rfl) (by kernel_rfl) (.inl ⟨rfl,rfl⟩) hK
 ·cases ho;exact lC RO (by kernel_rfl) (by kernel_rfl) (.inl ⟨rfl,rfl⟩) hK
 ·cases ho;exact lC RP (by kernel_rfl) (by kernel_rfl) (.inl ⟨rfl,rfl⟩) hK
 ·cases ho;exact lC RQ (by kernel_rfl) (by kernel_rfl) (.inl ⟨rfl,rfl⟩) hK
 ·cases ho;exact lC RR (by kernel_rfl) (by kernel_rfl) (.inl ⟨rfl,rfl⟩) hK
 ·cases ho;exact lC RS (by kernel_rfl) (by kernel_rfl) (.inl ⟨rfl,rfl⟩) hK
 ·cases ho;exact lC RT (by kernel_rfl) (by kernel_rfl) (.inl ⟨rfl,rfl⟩) hK
 ·cases ho;exact lC RU (by kernel_rfl) (by kernel_rfl) (.inl ⟨rfl,rfl⟩) hK
 ·cases ho;exact lC RV (by kernel_rfl) (by kernel_rfl) (.inl ⟨rfl,rfl⟩) hK
 ·cases ho;exact lC aEp (by kernel_rfl) (by kernel_rfl) (.inr ⟨rfl,rfl⟩) hK
 ·cases ho
noncomputable def aHW:Env Ob Tryz.prog:=rC ((((((EAz.addS 25 new1S Y8).addR 26 cf1R VD).addS 57 au22S UZ).addR 60 sfR SY).addS 58 (aH.or CM.spec (pZ [(.slot 1,.ints (some .i64))] CM.spec)) (aKs y5 (sJ y5)))) rfl
end Go.Sh
namespace Go.Sh
open Go Go.Proofs
variable [c:Con]
def wR(k:Nat):Prop:=oJ (List.length (AUS.ss (y22 k))) (List.length (AUS.lv (y22 k))) (y22 k).3 (y22 k).4/\((0:Int)=(0:Int)/\(a22 k)=(a22 k))/\ {ch:=(AUS.c (y22 k)).1,tk:=(AUS.c (y22 k)).2,gv:=(AUS.c (y22 k)).3,lo:=(AUS.c (y22 k)).4,tw:=(AUS.c (y22 k)).5} =(y22 k).2/\(y22 k).3=(y22 k).3/\(y22 k).4=(y22 k).4
theorem jG(k:Nat):wR k:=⟨⟨rfl,rfl⟩,⟨rfl,rfl⟩,rfl,rfl,rfl⟩
def yH(K:AVal->aC Ob->Prop):Prop:=True/\(((1=1/\1=1)/\((1:Int)=(1:Int)/\(1:Int)=(1:Int)/\(5:Int)=(5:Int)/\(0:Int)=(0:Int))/\(1:Int)=(1:Int)/\(3:Int)=(3:Int))/\True)/\ON (a22 0)/\(oJ 1 (List.length (lvI (a22 0) (Int.toNat (MS.n (EGS.s (a22 0)))))) [bD (a22 0)] (lvI (a22 0) (Int.toNat (EGS.s (a22 0)).2))/\((0:Int)=(0:Int)/\(a22 0)=(a22 0))/\ {ch:=0,tk:=0,gv:=0,lo:=0,tw:=0} =(y22 0).2/\[bD (a22 0)]=(y22 0).3/\lvI (a22 0) (Int.toNat (EGS.s (a22 0)).2)=(y22 0).4)/\wR 1/\wR 2/\wR 3/\wR 4/\wR 5/\wR 6/\wR 7/\wR 8/\wR 9/\True/\bif !ieq (lK 0 (a22 9)) 0 then K (.bool false) []else(oJ (List.length (AUS.ss (y22 9))) (List.length (AUS.lv (y22 9))) (y22 9).3 (y22 9).4/\UX (y22 9).3)/\bif ieq (AUS.c (y22 9)).1 2 then bif ieq (AUS.c (y22 9)).2 1 then bif ieq (AUS.c (y22 9)).3 0 then True/\bif bif ieq (AUS.c (y22 9)).4 0 then ieq (AUS.c (y22 9)).5 0 else false then bif ieq (↑(List.length (y22 9).3):Int) 2 then((0:Int)<=(1:Int)/\(1:Int)<(↑(List.length (y22 9).3):Int))/\0+Int.toNat 1*(1:Nat)<List.length (y22 9).3/\((lE' (slAt (y22 9).3 1)/\1=1)/\List.length (slAt (y22 9).3 1)<=(4294967296:Nat))/\K (.bool (dY (slAt (y22 9).3 (0+Int.toNat 1*1)) [3])) []else K (.bool false) []else K (.bool false) []else K (.bool false) []else K (.bool false) []else K (.bool false) []
theorem FC(K:AVal->aC Ob->Prop)(h:yH K):cT' 51 [] [] (eD 0 K):=by
 exact aD (E:=aHW) Tryz.checked.mixed (L:=L22) (n:=10) (aK (by kernel_rfl) h)
theorem U5(K:AVal->aC Ob->Prop)(hK:K (.bool true) []):yH K:=by
 have hc:(y22 9).c =⟨2,1,0,0,0⟩:=by kernel_rfl
 have hs:(y22 9).ss =[[],[3]]:=by kernel_rfl
 have hl:lK 0 (a22 9)=0:=by kernel_rfl
 have sn:=JK.sn;have st:=JK.st;unfold yH;rw [hl,hc,hs];refine⟨trivial,⟨⟨⟨rfl,rfl⟩,⟨rfl,rfl,rfl,rfl⟩,rfl,rfl⟩,trivial⟩,⟨by omega,by omega,eV (x:=a22 0) ⟨by omega,by omega⟩⟩,⟨⟨rfl,rfl⟩,⟨rfl,rfl⟩,rfl,rfl,rfl⟩,jG 1,jG 2,jG 3,jG 4,jG 5,jG 6,jG 7,jG 8,jG 9,trivial,⟨⟨?_,?_⟩,?_⟩⟩
 ·exact⟨hs▸rfl,rfl⟩
 ·exact⟨by decide,by decide,fun i hi=>by
   match i,hi with
   | 0,_=>decide
   | 1,_=>decide
   | i+2,hi=>exact absurd hi (by show¬(i+2<2);omega)⟩
 ·exact⟨trivial,⟨by decide,by decide⟩,by decide,⟨⟨rfl,rfl⟩,by decide⟩,hK⟩
def aw22S:aH Ob:=fun args h=>match args,h with
 | [],[]=>some (.ret (.bool true) [])
 | _,_=>none
theorem U4:sT' 51 aw22S:=by
 intro args h o ho K hK;unfold aw22S at ho;split at ho
 case h_2=>cases ho
 simp only [sI']at ho;subst ho;exact aJ1 (FC K (U5 K hK))
end Go.Sh
namespace Go.Sh
open Go Go.Proofs
variable [Con]
noncomputable def D4:Env Ob Tryz.prog:=aHw (((((((EAz.addS 25 gn2S P5).addR 26 cfR OT).addS 54 abS aFA).addS 51 aw22S U4).addR 60 sfR SY).addS 23 grS aAT).addS 42 onS aHk) rfl
abbrev vRr(ln:Nat->Nat)(f g:Nat->Nat->Int):Nat->List AVal:=fun i=>[.view (ln i) 2 fun j=>[.int .i64 (f i j),.int .i64 (g i j)]]
abbrev tH(sh th nd tr:Int)(m:Nat)(ln:Nat->Nat)(f g:Nat->Nat->Int):Option (aG Ob):=some (.cells [.int .i64 sh,.int .i64 th,.int .i64 nd,.int .i64 tr,C0 m ln f g])
abbrev acH(J:Option (aG Ob))(x:AUS):aC Ob:=[J,some (.cells [.ptr 2 0,.int .i64 x.c.ch,.int .i64 x.c.tk,.int .i64 x.c.gv,.int .i64 x.c.lo,.int .i64 x.c.tw,.slice 3 0 x.ss.length 1,.slice 4 0 x.lv.length 1]),some (.abs (.engine x.e) []),some (.abs (.srow x.ss) []),some (.ints (some .u64) x.lv),some (.abs (.engine x.e) []),some (.cells [.int .i64 x.e.s.t,.int .i64 x.e.s.n]),some (.cells [.int .i64 x.c.ch,.int .i64 x.c.tk,.int .i64 x.c.gv,.int .i64 x.c.lo,.int .i64 x.c.tw]),some (.abs (.srow x.ss) [])]
abbrev acT(x:AUS)(p a14:List AVal)(n:Nat)(row:Nat->List AVal)(k:Int):List AVal:=([.O,.O,.ptr 0 0,.O,.O,.ptr 1 0,.ptr 5 0,.O,.ptr 6 0,.ptr 7 0,.slice 8 0 x.ss.length 1,.O])++p++a14++List.replicate 40 .O ++ [.view n 2 row,.int .i64 (n:Int),.int .i64 k]++List.replicate 197 .O
structure ac1 (th nd:Int) (n:Nat) (q:Nat×AUS):Prop where
 h:q.1<=n
 x:acW th nd q.2
structure ac2 (th nd:Int) (q:Nat×AUS):Prop where
 h:q.1<=500
 x:acW th nd q.2
structure ac3 (th nd:Int) (q:Nat×AUS):Prop where
 h:(q.1:Int)<=nd
 x:acW th nd q.2
structure ac4 (n:Int) (q:Nat×List (List Int)):Prop where
 h:q.1<=q.2.length
 n:n=(q.2.length:Int)
 it: ∀i,i<q.2.length->(slAt q.2 i).length <=4294967296
def pT(J:Option (aG Ob))(th nd:Int)(n:Nat)(row:Nat->List AVal):Hint Ob:= {X:=Nat×AUS,st:=fun q=>(acT q.2 ([.O,.O]) ([.O,.O]) n row (q.1:Int),acH J q.2),ok:=ac1 th nd n,mu:=fun q=>n - q.1,keep:=[2,5,6,8,9,10,56,57,58] }
def pU(J:Option (aG Ob))(th nd:Int)(n:Nat)(pt pm:Nat->Int)(k:Int):Hint Ob:= {X:=Nat×AUS,st:=fun q=>(acT q.2 [.ptr 9 0,.int .i64 (q.1:Int)] ([.O,.O]) n (xW pt pm) k,acH J q.2++ [some (.cells [.int .i64 (pt k.toNat),.int .i64 (pm k.toNat)])]),ok:=ac2 th nd,mu:=fun q=>500 - q.1,keep:=[2,5,6,8,9,10,12,13,56,57,58] }
abbrev w3w(k:Int)(pm pt:Nat->Int):Option (aG Ob):=some (.cells [.int .i64 (pt k.toNat),.int .i64 (pm k.toNat)])
def yB(J:Option (aG Ob))(th nd:Int)(n:Nat)(pt pm:Nat->Int)(k z:Int):Hint Ob:= {X:=Nat×AUS,st:=fun q=>(acT q.2 [.ptr 9 0,.int .i64 z] [.map 10,.int .i64 ((q.1:Int)+1)] n (xW pt pm) k,acH J q.2++ [w3w k pm pt,some (.imap .i64 (some .i64) (BW q.2.e q.1))]),ok:=ac3 th nd,mu:=fun q=>(nd - (q.1:Int)).toNat,keep:=[2,5,6,8,9,10,12,13,14,15,56,57,58] }
abbrev aFD(x:AUS)(z:Int)(a14:List AVal)(n:Nat)(row:Nat->List AVal)(k:Int):List AVal:=([.O,.O,.ptr 0 0,.O,.O,.ptr 1 0,.ptr 5 0,.O,.ptr 6 0,.ptr 7 0,.slice 8 0 x.ss.length 1,.O,.ptr 9 0,.int .i64 z])++a14++List.replicate 38 .O ++ [.view n 2 row,.int .i64 (n:Int),.int .i64 k]++List.replicate 197 .O
abbrev aFC(J:Option (aG Ob))(x:AUS)(r:EGS)(c1:CNT)(ss:List (List Int))(lv:List Int)(c:CNT):aC Ob:=[J,some (.cells [.ptr 2 0,.int .i64 c1.ch,.int .i64 c1.tk,.int .i64 c1.gv,.int .i64 c1.lo,.int .i64 c1.tw,.slice 3 0 ss.length 1,.slice 4 0 lv.length 1]),some (.abs (.engine r) []),some (.abs (.srow ss) []),some (.ints (some .u64) lv),some (.abs (.engine r) []),some (.cells [.int .i64 x.e.s.t,.int .i64 x.e.s.n]),some (.cells [.int .i64 c.ch,.int .i64 c.tk,.int .i64 c.gv,.int .i64 c.lo,.int .i64 c.tw]),some (.abs (.srow x.ss) [])]
structure acJ (th nd u:Int) (x:AUS):Prop where
 w:acW th nd x
 d:(pkF u x.e).1=true
def T7(J:Option (aG Ob))(th nd:Int)(n:Nat)(pt pm:Nat->Int)(k z:Int):Hint Ob:= {X:=AUS,st:=fun q=>(aFD q z [.map 10,.O,.O,.ptr 11 0] n (xW pt pm) k,aFC J q (pkF (pt k.toNat) q.e).2 (apC (pt k.toNat) q.e q.lv q.c) (NQ (pt k.toNat) q.e q.ss) (NP (pt k.toNat) q.e q.lv) (cnG (pkF (pt k.toNat) q.e).2 q.lv q.c)++ [w3w k pm pt,some (.imap .i64 (some .i64) (BW q.e nd.toNat)),some (.cells [.int .i64 (pkF (pt k.toNat) q.e).2.s.k,.int .i64 (pkF (pt k.toNat) q.e).2.s.a,.int .u64 (pkF (pt k.toNat) q.e).2.s.o,.int .u64 (pkF (pt k.toNat) q.e).2.s.w,.bool (pkF (pt k.toNat) q.e).2.s.ok])]),ok:=acJ th nd (pt k.toNat),mu:=fun _=>0,keep:=[2,5,6,8,9,10,12,13,14,17,56,57,58] }
def T8(J:Option (aG Ob))(th nd:Int)(n:Nat)(pt pm:Nat->Int)(k z:Int):Hint Ob:= {X:=AUS,st:=fun q=>(aFD q z ([.O,.O,.O,.O]) n (xW pt pm) k,aFC J q (pkF (pt k.toNat) q.e).2 (apC (pt k.toNat) q.e q.lv q.c) (NQ (pt k.toNat) q.e q.ss) (NP (pt k.toNat) q.e q.lv) (naC (pkF (pt k.toNat) q.e).2 q.lv q.c)++ [w3w k pm pt]),ok:=acJ th nd (pt k.toNat),mu:=fun _=>0,keep:=[2,5,6,8,9,10,12,13,56,57,58] }
def pV(n:Int):Hint Ob:= {X:=Nat×List (List Int),st:=fun q=>(List.replicate 10 .O ++ [.slice 0 0 q.2.length 1]++List.replicate 8 .O ++ [.slice 1 0 q.2.length 1]++List.replicate 221 .O ++ [.int .i64 n,.int .i64 (q.1:Int)]++List.replicate 13 .O,[some (.abs (.srow q.2) []),some (.abs (.srow q.2) [])]),ok:=ac4 n,mu:=fun q=>n.toNat - q.1,keep:=[10,19,241,242] }
def LAC(J:Option (aG Ob))(th nd:Int)(n:Nat)(pt pm:Nat->Int):FuncId->Nat->Option (mM Ob):=fun _ j=>match j with
 | 13=>some (.told [] fun _=>pT J th nd n (xW pt pm))
 | 16=>some (.told [58] fun is=>match is with
   | [k]=>pU J th nd n pt pm k
   | _=>pV 0)
 | 20=>some (.told [58,13] fun is=>match is with
   | [k,z]=>yB J th nd n pt pm k z
   | _=>pV 0)
 | 100031=>some (.told [58,13] fun is=>match is with
   | [k,z]=>T7 J th nd n pt pm k z
   | _=>pV 0)
 | 100037=>some (.told [58,13] fun is=>match is with
   | [k,z]=>T8 J th nd n pt pm k z
   | _=>pV 0)
 | 45=>some (.told [241] fun is=>match is with
   | [k]=>pV k
   | _=>pV 0)
 | _=>none
abbrev acU(pt:Nat->Int)(x:Nat×AUS):Int:=pt (Int.toNat (↑x.1:Int))
abbrev T5(s8:Nat)(mid:List AVal)(n:Nat)(pt pm:Nat->Int)(k:Int):List AVal:=[.O,.O,.ptr 0 0,.O,.O,.ptr 1 0,.ptr 5 0,.O,.ptr 6 0,.ptr 7 0,.slice 8 0 s8 1,.O]++mid++ [.view n 2 (xW pt pm),.int .i64 (n:Int),.int .i64 k]++List.replicate 197 .O
abbrev acG(J:Option (aG Ob))(r:EGS)(c:CNT)(ss:List (List Int))(lv:List Int)(t n:Int)(w:CNT):aC Ob:=[J,some (.cells [.ptr 2 0,.int .i64 c.ch,.int .i64 c.tk,.int .i64 c.gv,.int .i64 c.lo,.int .i64 c.tw,.slice 3 0 ss.length 1,.slice 4 0 lv.length 1]),some (.abs (.engine r) []),some (.abs (.srow ss) []),some (.ints (some .u64) lv),some (.abs (.engine r) []),some (.cells [.int .i64 t,.int .i64 n]),some (.cells [.int .i64 w.ch,.int .i64 w.tk,.int .i64 w.gv,.int .i64 w.lo,.int .i64 w.tw])]
abbrev acA(J:Option (aG Ob))(y:AUS):aC Ob:=acG J y.e y.c y.ss y.lv y.e.s.t y.e.s.n y.c++ [some (.abs (.srow y.ss) [])]
abbrev acR(J:Option (aG Ob))(u:Int)(q:AUS)(w:CNT):aC Ob:=acG J (pkF u q.e).2 (apC u q.e q.lv q.c) (NQ u q.e q.ss) (NP u q.e q.lv) q.e.s.t q.e.s.n w
abbrev acP(pt pm:Nat->Int)(x:Nat×AUS):Option (aG Ob):=some (.cells [.int .i64 (acU pt x),.int .i64 (pm (Int.toNat (↑x.1:Int)))])
section
variable (J:Option (aG Ob)) (th nd:Int) (n:Nat) (pt pm:Nat->Int) (x x_1 x_2:Nat×AUS) (q:AUS) (w:CNT)
def aBp(sh th nd tr:Int)(m:Nat)(ln:Nat->Nat)(f g:Nat->Nat->Int)(n:Nat)(pt pm:Nat->Int)(E:EGS):Prop:=GN (Env.I D4) 0 (pT (tH sh th nd tr m ln f g) th nd n (xW pt pm)) (Hint.ok (pT (tH sh th nd tr m ln f g) th nd n (xW pt pm))) (T5 1 (List.replicate 44 .O) n pt pm 0) (acG (tH sh th nd tr m ln f g) E ⟨0,0,0,0,0⟩ [bD E] (lvI E (Int.toNat E.s.n)) E.s.t E.s.n ⟨0,0,0,0,0⟩++ [some (.cells [.slice 9 0 (List.length (bD E)) 1]),some (.ints (some .i64) (bD E))])
def T6:Prop:=GN (Env.I D4) 0 (pT J th nd n (xW pt pm)) (fun x'=>Hint.ok (pT J th nd n (xW pt pm)) x'/\Hint.mu (pT J th nd n (xW pt pm)) x'<Hint.mu (pT J th nd n (xW pt pm)) x) (T5 q.ss.length (List.replicate 44 .O) n pt pm (W ((↑x.1:Int)+1))) (acA J q)
def aBo:Prop:=GN (Env.I D4) 0 (pT J th nd n (xW pt pm)) (fun x'=>Hint.ok (pT J th nd n (xW pt pm)) x'/\Hint.mu (pT J th nd n (xW pt pm)) x'<Hint.mu (pT J th nd n (xW pt pm)) x) (T5 q.ss.length (List.replicate 44 .O) n pt pm (W ((↑x.1:Int)+1))) (acR J (acU pt x) q q.c++ [some (.abs (.srow q.ss) [])])
def aBs:Prop:=GN (Env.I D4) 0 (pU J th nd n pt pm (Int.ofNat x.1)) (Hint.ok (pU J th nd n pt pm (Int.ofNat x.1))) (T5 x.2.ss.length ([.ptr 9 0,.int .i64 0]++List.replicate 42 .O) n pt pm (↑x.1:Int)) (acA J x.2++ [acP pt pm x])
def aBq:Prop:=GN (Env.I D4) 0 (pU J th nd n pt pm (Int.ofNat x.1)) (fun x'=>Hint.ok (pU J th nd n pt pm (Int.ofNat x.1)) x'/\Hint.mu (pU J th nd n pt pm (Int.ofNat x.1)) x'<Hint.mu (pU J th nd n pt pm (Int.ofNat x.1)) x_1) (T5 (q.ss.length+1) ([.ptr 9 0,.int .i64 (W ((↑x_1.1:Int)+1))]++List.replicate 42 .O) n pt pm (↑x.1:Int)) (acR J (acU pt x) q (naC (pkF (acU pt x) q.e).2 q.lv q.c)++ [some (.abs (.srow (q.ss++ [bD (pkF (acU pt x) q.e).2])) []),acP pt pm x])
def aBr:Prop:=GN (Env.I D4) 0 (pU J th nd n pt pm (Int.ofNat x.1)) (fun x'=>Hint.ok (pU J th nd n pt pm (Int.ofNat x.1)) x'/\Hint.mu (pU J th nd n pt pm (Int.ofNat x.1)) x'<Hint.mu (pU J th nd n pt pm (Int.ofNat x.1)) x_1) (T5 q.ss.length ([.ptr 10 0,.int .i64 (W ((↑x_1.1:Int)+1))]++List.replicate 42 .O) n pt pm (↑x.1:Int)) (acR J (acU pt x) q (naC (pkF (acU pt x) q.e).2 q.lv q.c)++ [some (.abs (.shole q.ss (0+Int.toNat (W ((↑q.ss.length:Int) - 1))*1)) [9]),some (.ints (some .i64) (slAt q.ss (0+Int.toNat (W ((↑q.ss.length:Int) - 1))*1))),acP pt pm x])
def aBu:Prop:=GN (Env.I D4) 0 (yB J th nd n pt pm (Int.ofNat x.1) (Int.ofNat x_1.1)) (Hint.ok (yB J th nd n pt pm (Int.ofNat x.1) (Int.ofNat x_1.1))) (T5 x_1.2.ss.length ([.ptr 9 0,.int .i64 (↑x_1.1:Int),.map 10,.int .i64 1]++List.replicate 40 .O) n pt pm (↑x.1:Int)) (acA J x_1.2++ [acP pt pm x,some (.imap .i64 (some .i64) [])])
def aBt:Prop:=GN (Env.I D4) 0 (yB J th nd n pt pm (Int.ofNat x.1) (Int.ofNat x_1.1)) (fun x'=>Hint.ok (yB J th nd n pt pm (Int.ofNat x.1) (Int.ofNat x_1.1)) x'/\Hint.mu (yB J th nd n pt pm (Int.ofNat x.1) (Int.ofNat x_1.1)) x'<Hint.mu (yB J th nd n pt pm (Int.ofNat x.1) (Int.ofNat x_1.1)) x_2) (T5 x_2.2.ss.length ([.ptr 9 0,.int .i64 (↑x_1.1:Int),.map 10,.int .i64 (W ((↑x_2.1:Int)+1+1))]++List.replicate 40 .O) n pt pm (↑x.1:Int)) (acA J x_2.2++ [acP pt pm x,some (.imap .i64 (some .i64) (dB (BW x_2.2.e x_2.1) ((↑x_2.1:Int)+1) (W (1 - W (Int.tmod (aE x_2.2.e.s.xs (x_2.2.e.s.n+4+((↑x_2.1:Int)+1))) 2)))))])
def tB:Prop:=GN (Env.I D4) 0 (T7 J th nd n pt pm (Int.ofNat x.1) (Int.ofNat x_1.1)) (Hint.ok (T7 J th nd n pt pm (Int.ofNat x.1) (Int.ofNat x_1.1))) (T5 x_2.2.ss.length ([.ptr 9 0,.int .i64 (↑x_1.1:Int),.map 10,.O,.O,.ptr 11 0]++List.replicate 38 .O) n pt pm (↑x.1:Int)) (acR J (acU pt x) x_2.2 w++ [some (.abs (.srow x_2.2.ss) []),acP pt pm x,some (.imap .i64 (some .i64) (BW x_2.2.e x_2.1)),some (.cells [.int .i64 (pkF (acU pt x) x_2.2.e).2.s.k,.int .i64 (pkF (acU pt x) x_2.2.e).2.s.a,.int .u64 (pkF (acU pt x) x_2.2.e).2.s.o,.int .u64 (pkF (acU pt x) x_2.2.e).2.s.w,.bool (pkF (acU pt x) x_2.2.e).2.s.ok])])
def tY:Prop:=GN (Env.I D4) 0 (T8 J th nd n pt pm (Int.ofNat x.1) (Int.ofNat x_1.1)) (Hint.ok (T8 J th nd n pt pm (Int.ofNat x.1) (Int.ofNat x_1.1))) (T5 q.ss.length ([.ptr 9 0,.int .i64 (↑x_1.1:Int)]++List.replicate 42 .O) n pt pm (↑x.1:Int)) (acR J (acU pt x) q w++ [some (.abs (.srow q.ss) []),acP pt pm x])
end
abbrev tm4(l1 l2:Nat)(s:Nat)(n k:Int):List AVal:=List.replicate 10 .O ++ [.slice 0 0 l1 1]++List.replicate 8 .O ++ [.slice s 0 l2 1]++List.replicate 221 .O ++ [.int .i64 n,.int .i64 k]++List.replicate 13 .O
def aBv(ss:List (List Int)):Prop:=GN (Env.I D4) 0 (pV (Int.ofNat ss.length)) (Hint.ok (pV (Int.ofNat ss.length))) (tm4 ss.length ss.length 1 (↑ss.length:Int) 0) [some (.abs (.srow ss) []),some (.abs (.srow ss) [])]
def aBw(N:Nat)(x_1:Nat×List (List Int)):Prop:=GN (Env.I D4) 0 (pV (Int.ofNat N)) (fun x'=>Hint.ok (pV (Int.ofNat N)) x'/\Hint.mu (pV (Int.ofNat N)) x'<Hint.mu (pV (Int.ofNat N)) x_1) (tm4 x_1.2.length x_1.2.length 2 (↑N:Int) (W ((↑x_1.1:Int)+1))) [some (.abs (.shole x_1.2 (0+Int.toNat (↑x_1.1:Int)*1)) [1]),some (.ints (some .i64) (slAt x_1.2 (0+Int.toNat (↑x_1.1:Int)*1))),some (.abs (.shole x_1.2 (0+Int.toNat (↑x_1.1:Int)*1)) [3]),some (.ints (some .i64) (slAt x_1.2 (0+Int.toNat (↑x_1.1:Int)*1)))]
def aBH(J:Option (aG Ob))(th nd:Int)(n:Nat)(pt pm:Nat->Int)(x x_1 x_2:Nat×AUS):Prop:=(bif (EGS.s (pkF (acU pt x) (Prod.snd x_2).1).2).9 then bif ieq (EGS.s (pkF (acU pt x) (Prod.snd x_2).1).2).5 2 then bif ile 1 (EGS.s (pkF (acU pt x) (Prod.snd x_2).1).2).6 then bif ile (EGS.s (pkF (acU pt x) (Prod.snd x_2).1).2).6 (W ((EGS.s (Prod.snd x_2).1).2+4))then tB J th nd n pt pm x x_1 x_2 ⟨W ((AUS.c x_2.2).1+1),(AUS.c x_2.2).2,(AUS.c x_2.2).3,W ((AUS.c x_2.2).4+Option.getD (mget (BW (AUS.e (Prod.snd x_2)) (Prod.fst x_2)) (EGS.s (pkF (acU pt x) (Prod.snd x_2).1).2).6) 0),(AUS.c x_2.2).5⟩else tB J th nd n pt pm x x_1 x_2 ⟨(AUS.c x_2.2).1,(AUS.c x_2.2).2,(AUS.c x_2.2).3,(AUS.c x_2.2).4,(AUS.c x_2.2).5⟩else tB J th nd n pt pm x x_1 x_2 ⟨(AUS.c x_2.2).1,(AUS.c x_2.2).2,(AUS.c x_2.2).3,(AUS.c x_2.2).4,(AUS.c x_2.2).5⟩else bif ieq (EGS.s (pkF (acU pt x) (Prod.snd x_2).1).2).5 3 then bif ile 1 (EGS.s (pkF (acU pt x) (Prod.snd x_2).1).2).6 then bif ile (EGS.s (pkF (acU pt x) (Prod.snd x_2).1).2).6 (W ((EGS.s (Prod.snd x_2).1).2+4))then tB J th nd n pt pm x x_1 x_2 ⟨W ((AUS.c x_2.2).1+1),(AUS.c x_2.2).2,(AUS.c x_2.2).3,W ((AUS.c x_2.2).4+Option.getD (mget (BW (AUS.e (Prod.snd x_2)) (Prod.fst x_2)) (EGS.s (pkF (acU pt x) (Prod.snd x_2).1).2).6) 0),(AUS.c x_2.2).5⟩else tB J th nd n pt pm x x_1 x_2 ⟨(AUS.c x_2.2).1,(AUS.c x_2.2).2,(AUS.c x_2.2).3,(AUS.c x_2.2).4,(AUS.c x_2.2).5⟩else tB J th nd n pt pm x x_1 x_2 ⟨(AUS.c x_2.2).1,(AUS.c x_2.2).2,(AUS.c x_2.2).3,(AUS.c x_2.2).4,(AUS.c x_2.2).5⟩else tB J th nd n pt pm x x_1 x_2 ⟨(AUS.c x_2.2).1,(AUS.c x_2.2).2,(AUS.c x_2.2).3,(AUS.c x_2.2).4,(AUS.c x_2.2).5⟩else tB J th nd n pt pm x x_1 x_2 ⟨(AUS.c x_2.2).1,(AUS.c x_2.2).2,(AUS.c x_2.2).3,(AUS.c x_2.2).4,(AUS.c x_2.2).5⟩)
def aBI(J:Option (aG Ob))(th nd:Int)(n:Nat)(pt pm:Nat->Int)(x x_1:Nat×AUS)(q:AUS):Prop:=(((((0:Int)<=(EGS.s q.1).1/\(EGS.s q.1).1<=(100000:Int))/\((0:Int)<=(EGS.s q.1).2/\(EGS.s q.1).2<=(100000:Int))/\(-1099511627776:Int)<=(1:Int)/\(1:Int)<=(1099511627776:Int))/\True)/\bif ile ((EGS.s q.1).2+4+1) (EGS.s (pkF (acU pt x) q.1).2).6 then((((0:Int)<=(EGS.s q.1).1/\(EGS.s q.1).1<=(100000:Int))/\((0:Int)<=(EGS.s q.1).2/\(EGS.s q.1).2<=(100000:Int))/\(-1099511627776:Int)<=(EGS.s q.1).2/\(EGS.s q.1).2<=(1099511627776:Int))/\True)/\bif ile (EGS.s (pkF (acU pt x) q.1).2).6 ((EGS.s q.1).2+4+(EGS.s q.1).2)then bif ieq (EGS.s (pkF (acU pt x) q.1).2).5 3 then bif (EGS.s (pkF (acU pt x) q.1).2).9 then bif ieq (EGS.s (pkF (acU pt x) q.1).2).5 4 then((((0:Int)<=(EGS.s q.1).1/\(EGS.s q.1).1<=(100000:Int))/\((0:Int)<=(EGS.s q.1).2/\(EGS.s q.1).2<=(100000:Int))/\(-1099511627776:Int)<=(1:Int)/\(1:Int)<=(1099511627776:Int))/\True)/\tY J th nd n pt pm x x_1 q ⟨(cnG (pkF (acU pt x) q.1).2 q.4 q.2).1,W ((cnG (pkF (acU pt x) q.1).2 q.4 q.2).2+1),W ((cnG (pkF (acU pt x) q.1).2 q.4 q.2).3+1),(cnG (pkF (acU pt x) q.1).2 q.4 q.2).4,W ((cnG (pkF (acU pt x) q.1).2 q.4 q.2).5+Option.getD (mget (BW (AUS.e q) (Int.toNat nd)) (W (W ((EGS.s (pkF (acU pt x) q.1).2).6 - ((EGS.s q.1).2+4+1))+1))) 0)⟩else tY J th nd n pt pm x x_1 q ⟨(cnG (pkF (acU pt x) q.1).2 q.4 q.2).1,W ((cnG (pkF (acU pt x) q.1).2 q.4 q.2).2+1),(cnG (pkF (acU pt x) q.1).2 q.4 q.2).3,(cnG (pkF (acU pt x) q.1).2 q.4 q.2).4,(cnG (pkF (acU pt x) q.1).2 q.4 q.2).5⟩else bif ieq (EGS.s (pkF (acU pt x) q.1).2).5 4 then((((0:Int)<=(EGS.s q.1).1/\(EGS.s q.1).1<=(100000:Int))/\((0:Int)<=(EGS.s q.1).2/\(EGS.s q.1).2<=(100000:Int))/\(-1099511627776:Int)<=(1:Int)/\(1:Int)<=(1099511627776:Int))/\True)/\tY J th nd n pt pm x x_1 q ⟨(cnG (pkF (acU pt x) q.1).2 q.4 q.2).1,(cnG (pkF (acU pt x) q.1).2 q.4 q.2).2,W ((cnG (pkF (acU pt x) q.1).2 q.4 q.2).3+1),(cnG (pkF (acU pt x) q.1).2 q.4 q.2).4,W ((cnG (pkF (acU pt x) q.1).2 q.4 q.2).5+Option.getD (mget (BW (AUS.e q) (Int.toNat nd)) (W (W ((EGS.s (pkF (acU pt x) q.1).2).6 - ((EGS.s q.1).2+4+1))+1))) 0)⟩else tY J th nd n pt pm x x_1 q ⟨(cnG (pkF (acU pt x) q.1).2 q.4 q.2).1,(cnG (pkF (acU pt x) q.1).2 q.4 q.2).2,(cnG (pkF (acU pt x) q.1).2 q.4 q.2).3,(cnG (pkF (acU pt x) q.1).2 q.4 q.2).4,(cnG (pkF (acU pt x) q.1).2 q.4 q.2).5⟩else bif ieq (EGS.s (pkF (acU pt x) q.1).2).5 4 then((((0:Int)<=(EGS.s q.1).1/\(EGS.s q.1).1<=(100000:Int))/\((0:Int)<=(EGS.s q.1).2/\(EGS.s q.1).2<=(100000:Int))/\(-1099511627776:Int)<=(1:Int)/\(1:Int)<=(1099511627776:Int))/\True)/\tY J th nd n pt pm x x_1 q ⟨(cnG (pkF (acU pt x) q.1).2 q.4 q.2).1,(cnG (pkF (acU pt x) q.1).2 q.4 q.2).2,W ((cnG (pkF (acU pt x) q.1).2 q.4 q.2).3+1),(cnG (pkF (acU pt x) q.1).2 q.4 q.2).4,W ((cnG (pkF (acU pt x) q.1).2 q.4 q.2).5+Option.getD (mget (BW (AUS.e q) (Int.toNat nd)) (W (W ((EGS.s (pkF (acU pt x) q.1).2).6 - ((EGS.s q.1).2+4+1))+1))) 0)⟩else tY J th nd n pt pm x x_1 q ⟨(cnG (pkF (acU pt x) q.1).2 q.4 q.2).1,(cnG (pkF (acU pt x) q.1).2 q.4 q.2).2,(cnG (pkF (acU pt x) q.1).2 q.4 q.2).3,(cnG (pkF (acU pt x) q.1).2 q.4 q.2).4,(cnG (pkF (acU pt x) q.1).2 q.4 q.2).5⟩else tY J th nd n pt pm x x_1 q ⟨(cnG (pkF (acU pt x) q.1).2 q.4 q.2).1,(cnG (pkF (acU pt x) q.1).2 q.4 q.2).2,(cnG (pkF (acU pt x) q.1).2 q.4 q.2).3,(cnG (pkF (acU pt x) q.1).2 q.4 q.2).4,(cnG (pkF (acU pt x) q.1).2 q.4 q.2).5⟩else tY J th nd n pt pm x x_1 q ⟨(cnG (pkF (acU pt x) q.1).2 q.4 q.2).1,(cnG (pkF (acU pt x) q.1).2 q.4 q.2).2,(cnG (pkF (acU pt x) q.1).2 q.4 q.2).3,(cnG (pkF (acU pt x) q.1).2 q.4 q.2).4,(cnG (pkF (acU pt x) q.1).2 q.4 q.2).5⟩)
def aBJ(J:Option (aG Ob))(th nd:Int)(n:Nat)(pt pm:Nat->Int)(x x_1:Nat×AUS)(q:AUS):Prop:=((0:Int)<=(EGS.s (pkF (acU pt x) q.1).2).2/\(EGS.s (pkF (acU pt x) q.1).2).2<=(100000:Int))/\((0:Int)<=W ((↑q.3.length:Int) - 1)/\W ((↑q.3.length:Int) - 1)<(↑q.3.length:Int))/\0+Int.toNat (W ((↑q.3.length:Int) - 1))*(1:Nat)<q.3.length/\((lE' (bD (pkF (acU pt x) q.1).2)/\lE' (slAt q.3 (0+Int.toNat (W ((↑q.3.length:Int) - 1))*1)))/\List.length (bD (pkF (acU pt x) q.1).2)<=(4294967296:Nat))/\bif !dY (bD (pkF (acU pt x) q.1).2) (slAt q.3 (0+Int.toNat (W ((↑q.3.length:Int) - 1))*1))then(0+Int.toNat (W ((↑q.3.length:Int) - 1))*(1:Nat)<q.3.length/\slAt q.3 (0+Int.toNat (W ((↑q.3.length:Int) - 1))*1)=slAt q.3 (0+Int.toNat (W ((↑q.3.length:Int) - 1))*1))/\(1=1/\0=0/\1=1/\lE' q.3/\q.3.length+(1:Nat)<=(4294967296:Nat)/\10=10/\0=0/\lE' (bD (pkF (acU pt x) q.1).2)/\1=1)/\aBq J th nd n pt pm x x_1 q else aBr J th nd n pt pm x x_1 q
def acF(x:Nat×AUS)(K:AVal->aC Ob->Prop):Prop:=aBv (Prod.snd x).3/\ ∀(x_1:Nat×List (List Int)),ac4 (↑(List.length (Prod.snd x).3):Int) x_1->bif ilt (↑x_1.1:Int) (↑(List.length (Prod.snd x).3):Int)then((0:Int)<=(↑x_1.1:Int)/\(↑x_1.1:Int)<(↑x_1.2.length:Int))/\0+Int.toNat (↑x_1.1:Int)*(1:Nat)<x_1.2.length/\((0:Int)<=(↑x_1.1:Int)/\(↑x_1.1:Int)<(↑x_1.2.length:Int))/\0+Int.toNat (↑x_1.1:Int)*(1:Nat)<x_1.2.length/\((lE' (slAt x_1.2 (0+Int.toNat (↑x_1.1:Int)*1))/\lE' (slAt x_1.2 (0+Int.toNat (↑x_1.1:Int)*1)))/\List.length (slAt x_1.2 (0+Int.toNat (↑x_1.1:Int)*1))<=(4294967296:Nat))/\bif !dY (slAt x_1.2 (0+Int.toNat (↑x_1.1:Int)*1)) (slAt x_1.2 (0+Int.toNat (↑x_1.1:Int)*1))then K (.bool false) []else aBw (List.length (Prod.snd x).3) x_1 else K (.bool true) []
def acE(x:Nat×AUS)(K:AVal->aC Ob->Prop):Prop:=(oJ (List.length (AUS.ss (Prod.snd x))) (List.length (AUS.lv (Prod.snd x))) (Prod.snd x).3 (Prod.snd x).4/\UX (Prod.snd x).3)/\bif !bif ieq (AUS.c x.2).1 (AUS.c x.2).1 then bif ieq (AUS.c x.2).2 (AUS.c x.2).2 then bif ieq (AUS.c x.2).3 (AUS.c x.2).3 then bif ieq (AUS.c x.2).4 (AUS.c x.2).4 then bif ieq (AUS.c x.2).5 (AUS.c x.2).5 then true else false else false else false else false else false then K (.bool false) []else True/\bif ieq (AUS.c x.2).4 0 then bif !bif bif ieq (AUS.c x.2).4 0 then ieq (AUS.c x.2).5 0 else false then ieq (AUS.c x.2).5 0 else !ieq (AUS.c x.2).5 0 then K (.bool false) []else bif !ieq (↑(List.length (Prod.snd x).3):Int) (↑(List.length (Prod.snd x).3):Int)then K (.bool false) []else(((Prod.snd x).1=(Prod.snd x).1/\CZ (AUS.e (Prod.snd x)))/\True)/\acF x K else bif !!bif ieq (AUS.c x.2).4 0 then ieq (AUS.c x.2).5 0 else false then K (.bool false) []else bif !ieq (↑(List.length (Prod.snd x).3):Int) (↑(List.length (Prod.snd x).3):Int)then K (.bool false) []else(((Prod.snd x).1=(Prod.snd x).1/\CZ (AUS.e (Prod.snd x)))/\True)/\acF x K
def UL(sh th nd tr:Int)(m:Nat)(ln:Nat->Nat)(f g:Nat->Nat->Int)(n:Nat)(pt pm:Nat->Int)(J:Option (aG Ob))(K:AVal->aC Ob->Prop):Prop:=(fF (vRr ln f g))/\bif IF m n (vL (vRr ln f g))then K (.bool true) []else(m<=(1000000:Nat)/\fF (vRr ln f g))/\bif !ieq (gnC sh th nd tr m (vL (vRr ln f g)) (vK (vRr ln f g)) (vY (vRr ln f g))) 0 then K (.bool true) []else(((m<=(1000000:Nat)/\fF (vRr ln f g))/\gnC sh th nd tr m (vL (vRr ln f g)) (vK (vRr ln f g)) (vY (vRr ln f g))=(0:Int))/\ON (egX sh th nd tr m (vRr ln f g)))/\True/\(((m<=(1000000:Nat)/\fF (vRr ln f g))/\gnC sh th nd tr m (vL (vRr ln f g)) (vK (vRr ln f g)) (vY (vRr ln f g))=(0:Int))/\True)/\True/\((0:Int)<=(EGS.s (egX sh th nd tr m (vRr ln f g))).2/\(EGS.s (egX sh th nd tr m (vRr ln f g))).2<=(100000:Int))/\aBp sh th nd tr m ln f g n pt pm (egX sh th nd tr m (vRr ln f g))/\ ∀(x:Nat×AUS),ac1 th nd n x->bif ilt (↑x.1:Int) (↑n:Int)then((0:Int)<=(↑x.1:Int)/\(↑x.1:Int)<(↑n:Int))/\aBs J th nd n pt pm x/\ ∀(x_1:Nat×AUS),ac2 th nd x_1->bif ilt (↑x_1.1:Int) (pm (Int.toNat (↑x.1:Int)))then bif ilt (↑x_1.1:Int) 500 then aBu J th nd n pt pm x x_1/\ ∀(x_2:Nat×AUS),ac3 th nd x_2->bif ile ((↑x_2.1:Int)+1) (EGS.s (Prod.snd x_2).1).2 then(((0:Int)<=(EGS.s (Prod.snd x_2).1).1/\(EGS.s (Prod.snd x_2).1).1<=(100000:Int))/\((0:Int)<=(EGS.s (Prod.snd x_2).1).2/\(EGS.s (Prod.snd x_2).1).2<=(100000:Int))/\(-1099511627776:Int)<=(↑x_2.1:Int)+1/\(↑x_2.1:Int)+(1:Int)<=(1099511627776:Int))/\True/\(2:Int)≠(0:Int)/\aBt J th nd n pt pm x x_1 x_2 else RZ (acU pt x) (Prod.snd x_2).1/\(oJ (List.length (AUS.ss (Prod.snd x_2))) (List.length (AUS.lv (Prod.snd x_2))) (Prod.snd x_2).3 (Prod.snd x_2).4/\UW (acU pt x) (AUS.e (Prod.snd x_2)) (Prod.snd x_2).3 (Prod.snd x_2).4)/\bif !bif (pkF (acU pt x) (Prod.snd x_2).1).1 then(pkF (acU pt x) (Prod.snd x_2).1).1 else !(pkF (acU pt x) (Prod.snd x_2).1).1 then K (.bool false) []else bif !(pkF (acU pt x) (Prod.snd x_2).1).1 then aBo J th nd n pt pm x (Prod.snd x_2)else True/\aBH J th nd n pt pm x x_1 x_2/\ ∀(q:AUS),acJ th nd (acU pt x) q->aBI J th nd n pt pm x x_1 q/\ ∀(q:AUS),acJ th nd (acU pt x) q->aBJ J th nd n pt pm x x_1 q else T6 J th nd n pt pm x (Prod.snd x_1)else T6 J th nd n pt pm x (Prod.snd x_1)else acE x K
theorem OB(sh th nd tr:Int)(m:Nat)(ln:Nat->Nat)(f g:Nat->Nat->Int)(n:Nat)(pt pm:Nat->Int)(K:AVal->aC Ob->Prop)(h:UL sh th nd tr m ln f g n pt pm (tH sh th nd tr m ln f g) K):cT' 10 [.agg [.int .i64 sh,.int .i64 th,.int .i64 nd,.int .i64 tr,C0 m ln f g],.view n 2 (xW pt pm)] [] (eD 0 K):=by
 exact aD (E:=D4) Tryz.checked.mixed (L:=LAC (tH sh th nd tr m ln f g) th nd n pt pm) (n:=10) (aK (by kernel_rfl) h)
end Go.Sh
namespace Go.Sh
open Go Go.Proofs
variable [Con]
theorem mA{H:Hint Ob}{ok:H.X->Prop}{tm:List AVal}{h:aC Ob}(q:H.X)(h1:H.st q=(tm,h))(h2:ok q):GN (Env.I D4) 0 H ok tm h:=⟨⟨tm,h,aKi _ _ _,aR q h1 h2⟩⟩
theorem GO{H:Hint Ob}{ok:H.X->Prop}{tm tm2:List AVal}{h h2:aC Ob}(ht:aF (obI tbl) 0 (.tup tm) h (.tup tm2) h2)(q:H.X)(h1:H.st q=(tm2,h2))(hq:ok q):GN (Env.I D4) 0 H ok tm h:=⟨⟨tm2,h2,ht,aR q h1 hq⟩⟩
section
variable {J:Option (aG Ob)} {th nd:Int} {n:Nat} {pt pm:Nat->Int} {x x_1 x_2:Nat×AUS} {q:AUS} {w:CNT}
theorem AC{k:Nat}(h:k<=1000000):W ((k:Int)+1)=((k+1:Nat):Int):=by
 have:W ((k:Int)+1)=(k:Int)+1:=cH ⟨by omega,by omega⟩
 rw [this];omega
theorem aFB(hq:acW th nd q)(hx:x.1<n)(hn:n<=1000):T6 J th nd n pt pm x q:=by
 unfold T6;rw [AC (by omega)]
 exact mA (H:=pT J th nd n (xW pt pm)) (x.1+1,q) rfl ⟨⟨by show x.1+1<=n;omega,hq⟩,by show n - (x.1+1)<n - x.1;omega⟩
theorem aHY(hq:acW th nd q)(hd:(pkF (acU pt x) q.e).1=false)(hx:x.1<n)(hn:n<=1000):aBo J th nd n pt pm x q:=by
 have hr:=(mB (acU pt x) hq.w).no hd;obtain⟨a1,a2,a3⟩:=aAx hd;unfold aBo acR;rw [AC (by omega),hr,a1,a2,a3]
 exact mA (H:=pT J th nd n (xW pt pm)) (x.1+1,q) rfl ⟨⟨by show x.1+1<=n;omega,hq⟩,by show n - (x.1+1)<n - x.1;omega⟩
theorem aH2(hq:acW th nd x.2):aBs J th nd n pt pm x:=by
 unfold aBs;exact mA (H:=pU J th nd n pt pm (Int.ofNat x.1)) (0,x.2) rfl ⟨Nat.zero_le _,hq⟩
theorem aH0(hq:acW th nd q)(hd:(pkF (acU pt x) q.e).1=true)(hz:x_1.1<500)(hb:(!dY (bD (pkF (acU pt x) q.e).2) (slAt q.ss (0+Int.toNat (W ((↑q.ss.length:Int) - 1))*1)))=true):aBq J th nd n pt pm x x_1 q:=by
 obtain⟨a1,a2,a3⟩:=ES hd;have hw:=uC hq hd;have e1:q.ss++ [bD (pkF (acU pt x) q.e).2]=naS (pkF (acU pt x) q.e).2 q.ss:=by unfold naS;rw [hb];rfl
 have e2:q.ss.length+1=(naS (pkF (acU pt x) q.e).2 q.ss).length :=by rw [<-e1];simp
 have et:q.e.s.t=(pkF (acU pt x) q.e).2.s.t :=hq.w.st.trans hw.w.st.symm;have en:q.e.s.n=(pkF (acU pt x) q.e).2.s.n :=hq.w.sn.trans hw.w.sn.symm;unfold aBq acR;rw [AC (by omega),e1,e2,a1,a2,a3,et,en]
 exact mA (H:=pU J th nd n pt pm (Int.ofNat x.1)) (x_1.1+1,acN (acU pt x) q) rfl ⟨⟨by show x_1.1+1<=500;omega,hw⟩,by show 500 - (x_1.1+1)<500 - x_1.1;omega⟩
set_option maxRecDepth 100000 in
theorem aH1{sh tr:Int}{m:Nat}{ln:Nat->Nat}{f g:Nat->Nat->Int}(hJ:J=tH sh th nd tr m ln f g)(hq:acW th nd q)(hd:(pkF (acU pt x) q.e).1=true)(hz:x_1.1<500)(hb:(!dY (bD (pkF (acU pt x) q.e).2) (slAt q.ss (0+Int.toNat (W ((↑q.ss.length:Int) - 1))*1)))=false):aBr J th nd n pt pm x x_1 q:=by
 obtain⟨a1,a2,a3⟩:=ES hd;have hw:=uC hq hd;have e1:q.ss=naS (pkF (acU pt x) q.e).2 q.ss:=by unfold naS;rw [hb];rfl
 have et:q.e.s.t=(pkF (acU pt x) q.e).2.s.t :=hq.w.st.trans hw.w.st.symm;have en:q.e.s.n=(pkF (acU pt x) q.e).2.s.n :=hq.w.sn.trans hw.w.sn.symm;have hs:=hq.s0;have hs1:=hq.s1;have hk:=hq.w.k;have hWl:W ((↑q.ss.length:Int) - 1)=(↑q.ss.length:Int) - 1:=cH ⟨by omega,by omega⟩
 have hi:0+Int.toNat (W ((↑q.ss.length:Int) - 1))*1<q.ss.length:=by rw [hWl];omega
 subst hJ;unfold aBr acR;rw [AC (by omega),a1,a2,a3,et,en]
 refine GO (H:=pU (tH sh th nd tr m ln f g) th nd n pt pm (Int.ofNat x.1)) ((aKF (l:=8) (k:=9) rfl rfl (by decide) hi).trans (aF.pick [0,1,2,3,4,5,6,7,8,10] rfl)) (x_1.1+1,acN (acU pt x) q) ?_ ⟨⟨by show x_1.1+1<=500;omega,hw⟩,by show 500 - (x_1.1+1)<500 - x_1.1;omega⟩
 have hss:(acN (acU pt x) q).ss =q.ss:=e1.symm;show(acT (acN (acU pt x) q) _ _ _ _ _,acH (tH sh th nd tr m ln f g) (acN (acU pt x) q)++_)=_;have e:acN (acU pt x) q=⟨(pkF (acU pt x) q.e).2,naC (pkF (acU pt x) q.e).2 q.lv q.c,q.ss,naL (pkF (acU pt x) q.e).2 q.lv⟩:=by unfold acN;rw [<-e1]
 rw [e,<-e1];rfl
theorem aH4(hq:acW th nd x_1.2):aBu J th nd n pt pm x x_1:=by
 unfold aBu;exact mA (H:=yB J th nd n pt pm (Int.ofNat x.1) (Int.ofNat x_1.1)) (0,x_1.2) rfl ⟨by have:=hq.w.hn;show(0:Int)<=nd;omega,hq⟩
theorem aH3(hq:acW th nd x_2.2)(hi:(x_2.1:Int)+1<=nd):aBt J th nd n pt pm x x_1 x_2:=by
 have hn:=hq.w.hn;have e0:W ((x_2.1:Int)+1+1)=(x_2.1:Int)+1+1:=cH ⟨by omega,by omega⟩
 have e:W ((x_2.1:Int)+1+1)=((x_2.1+1:Nat):Int)+1:=by rw [e0];omega
 unfold aBt;rw [e,<-H8];exact mA (H:=yB J th nd n pt pm (Int.ofNat x.1) (Int.ofNat x_1.1)) (x_2.1+1,x_2.2) rfl ⟨⟨by show((x_2.1+1:Nat):Int)<=nd;omega,hq⟩,by show(nd - ((x_2.1+1:Nat):Int)).toNat <(nd - (x_2.1:Int)).toNat;omega⟩
theorem aFF(hq:acW th nd x_2.2)(hd:(pkF (acU pt x) x_2.2.e).1=true)(hi:(x_2.1:Int)=nd)(hw:cnG (pkF (acU pt x) x_2.2.e).2 x_2.2.lv x_2.2.c=w):tB J th nd n pt pm x x_1 x_2 w:=by
 subst hw;have e:x_2.1=nd.toNat:=by omega
 unfold tB;rw [e];exact mA (H:=T7 J th nd n pt pm (Int.ofNat x.1) (Int.ofNat x_1.1)) x_2.2 rfl ⟨hq,hd⟩
theorem aIa(hq:acJ th nd (acU pt x) q)(hw:naC (pkF (acU pt x) q.e).2 q.lv q.c=w):tY J th nd n pt pm x x_1 q w:=by
 subst hw;unfold tY;exact mA (H:=T8 J th nd n pt pm (Int.ofNat x.1) (Int.ofNat x_1.1)) q rfl hq
end
theorem aH6{ss:List (List Int)}(h: ∀i,i<ss.length->(slAt ss i).length <=4294967296):aBv ss:=by
 unfold aBv;exact mA (H:=pV (Int.ofNat ss.length)) (0,ss) rfl ⟨Nat.zero_le _,rfl,h⟩
set_option maxRecDepth 100000 in
theorem aH7{N:Nat}{x_1:Nat×List (List Int)}(hx:ac4 (N:Int) x_1)(hl:x_1.1<N)(hN:N<=1000000):aBw N x_1:=by
 have hn:=hx.n;have hi:0+Int.toNat (↑x_1.1:Int)*1<x_1.2.length:=by omega
 unfold aBw;rw [AC (by omega)]
 refine GO (H:=pV (Int.ofNat N)) ((aKF (l:=0) (k:=1) rfl rfl (by decide) hi).trans ((aKF (l:=2) (k:=3) rfl rfl (by decide) hi).trans (aF.pick [0,2] rfl))) (x_1.1+1,x_1.2) rfl ⟨⟨by show x_1.1+1<=x_1.2.length;omega,hn,hx.it⟩,?_⟩
 show(Int.ofNat N).toNat - (x_1.1+1)<(Int.ofNat N).toNat - x_1.1;have:(Int.ofNat N).toNat =N:=rfl;omega
end Go.Sh
namespace Go.Sh
open Go Go.Proofs
variable [Con]
section
variable {J:Option (aG Ob)} {th nd:Int} {n:Nat} {pt pm:Nat->Int} {x x_1 x_2:Nat×AUS} {q:AUS} {w:CNT}
theorem UI{y:AUS}(hq:acW th nd y)(hd:(pkF (acU pt x) y.e).1=true):aBH J th nd n pt pm x x_1 (nd.toNat,y):=by
 have h0:=hq.w.hn;have hi:((nd.toNat:Nat):Int)=nd:=by omega
 have hn:(pkF (acU pt x) y.e).2.s.n =nd:=(mB _ hq.w).w.sn
 have hW:W (y.e.s.n+4)=nd+4:=by
  rw [hq.w.sn];exact cH ⟨by omega,by omega⟩
 have no:((pkF (acU pt x) y.e).2.s.ok =false\/(ieq (pkF (acU pt x) y.e).2.s.k 2||ieq (pkF (acU pt x) y.e).2.s.k 3)=false\/(pkF (acU pt x) y.e).2.s.a <1\/nd+4<(pkF (acU pt x) y.e).2.s.a)->tB J th nd n pt pm x x_1 (nd.toNat,y) y.c:=fun h=>aFF (x_2:=(nd.toNat,y)) hq hd hi (aFQ hn h)
 have yes:(pkF (acU pt x) y.e).2.s.ok =true->(ieq (pkF (acU pt x) y.e).2.s.k 2||ieq (pkF (acU pt x) y.e).2.s.k 3)=true->1<=(pkF (acU pt x) y.e).2.s.a ->(pkF (acU pt x) y.e).2.s.a <=nd+4->tB J th nd n pt pm x x_1 (nd.toNat,y) ⟨W (y.c.ch+1),y.c.tk,y.c.gv,W (y.c.lo+(mget (BW y.e nd.toNat) (pkF (acU pt x) y.e).2.s.a).getD 0),y.c.tw⟩:=fun a b c d=>aFF (x_2:=(nd.toNat,y)) hq hd hi (aFP hq hn a b c d)
 unfold aBH;refine aJ (fun h1=>aJ (fun h2=>aJ (fun h3=>aJ (fun h4=>?_) (fun h4=>?_)) (fun h3=>?_)) (fun h2=>aJ (fun h5=>aJ (fun h3=>aJ (fun h4=>?_) (fun h4=>?_)) (fun h3=>?_)) (fun h5=>?_))) (fun h1=>?_)
 ·have h3:=sY h3;have h4:=sY h4;change (pkF (acU pt x) y.e).2.s.a <=W (y.e.s.n+4)at h4;rw [hW]at h4;exact yes h1 (by rw [show ieq (pkF (acU pt x) y.e).2.s.k 2=true from h2];rfl) h3 h4
 ·have h4:=nC h4;change W (y.e.s.n+4)<(pkF (acU pt x) y.e).2.s.a at h4;rw [hW]at h4;exact no (.inr (.inr (.inr h4)))
 ·have h3:=nC h3;exact no (.inr (.inr (.inl h3)))
 ·have h3:=sY h3;have h4:=sY h4;change (pkF (acU pt x) y.e).2.s.a <=W (y.e.s.n+4)at h4;rw [hW]at h4;exact yes h1 (by rw [show ieq (pkF (acU pt x) y.e).2.s.k 3=true from h5,Bool.or_true]) h3 h4
 ·have h4:=nC h4;change W (y.e.s.n+4)<(pkF (acU pt x) y.e).2.s.a at h4;rw [hW]at h4;exact no (.inr (.inr (.inr h4)))
 ·have h3:=nC h3;exact no (.inr (.inr (.inl h3)))
 ·exact no (.inr (.inl (by rw [show ieq (pkF (acU pt x) y.e).2.s.k 2=false from h2,show ieq (pkF (acU pt x) y.e).2.s.k 3=false from h5];rfl)))
 ·exact no (.inl h1)
theorem lf4(hq:acW th nd q){r:EGS}(hn:r.s.n=nd)(hb:bC r.s.n (ndI r)=true)(h3:ieq r.s.k 3=false)(h4:ieq r.s.k 4=true):naC r q.lv q.c=⟨(cnG r q.lv q.c).ch,(cnG r q.lv q.c).tk,W ((cnG r q.lv q.c).gv +1),(cnG r q.lv q.c).lo,W ((cnG r q.lv q.c).tw +(mget (BW q.e nd.toNat) (ndI r)).getD 0)⟩:=by
 rw [GA hb,aAO hq,<-hn,hb];have ht:W (cnG r q.lv q.c).tw =(cnG r q.lv q.c).tw :=by rw [(aAD r q.lv q.c).2.2.1];exact hq.tw
 unfold cnLf;rw [h3,h4];cases hf:frB q.lv (ndI r)with
 | true=>rfl
 | false=>
   show _=CNT.mk _ _ _ _ (W ((cnG r q.lv q.c).tw +0));rw [Int.add_zero,ht];rfl
theorem lf3{r:EGS}{lv:List Int}{c:CNT}(hb:bC r.s.n (ndI r)=true)(h3:ieq r.s.k 3=true)(ho:r.s.ok=true):naC r lv c=⟨(cnG r lv c).ch,W ((cnG r lv c).tk +1),(cnG r lv c).gv,(cnG r lv c).lo,(cnG r lv c).tw⟩:=by
 rw [GA hb];unfold cnLf;rw [h3,ho];rfl
theorem lf0{r:EGS}{lv:List Int}{c:CNT}(h3:(ieq r.s.k 3&&r.s.ok)=false)(h4:ieq r.s.k 4=false):naC r lv c=cnG r lv c:=by
 cases hb:bC r.s.n (ndI r)with
 | false=>exact GB hb
 | true=>
   rw [GA hb];unfold cnLf;rw [h3,h4];rfl
theorem k34{k:Int}(h3:ieq k 3=true):ieq k 4=false:=by
 rw [sX h3];rfl
theorem UJ(hq:acJ th nd (acU pt x) q):aBI J th nd n pt pm x x_1 q:=by
 have hw:=hq.w;have r1:=hw.w.ht;have r2:=hw.w.hn;have r3:=hw.w.st;have r4:=hw.w.sn;have hr:=(mB (acU pt x) hw.w).w;have hn:=hr.sn;have en:q.e.s.n=(pkF (acU pt x) q.e).2.s.n :=r4.trans hn.symm;obtain⟨_,a0,a1⟩:=(mB (acU pt x) hw.w).z hq.d;have go: ∀ {w:CNT},naC (pkF (acU pt x) q.e).2 q.lv q.c=w->tY J th nd n pt pm x x_1 q w:=fun h=>aIa hq h;have eI:W (W ((pkF (acU pt x) q.e).2.s.a - (q.e.s.n+4+1))+1)=ndI (pkF (acU pt x) q.e).2:=by rw [en];rfl
 have hI:=RE (e:=(pkF (acU pt x) q.e).2) ⟨a0,by omega⟩ ⟨by omega,by omega⟩
 have ran:((0:Int)<=q.e.s.t/\q.e.s.t<=100000)/\((0:Int)<=q.e.s.n/\q.e.s.n<=100000):=⟨⟨by omega,by omega⟩,by omega,by omega⟩
 unfold aBI;refine⟨⟨⟨ran.1,ran.2,by decide,by decide⟩,trivial⟩,aJ (fun h1=>⟨⟨⟨ran.1,ran.2,by show -1099511627776<=q.e.s.n;omega,by show q.e.s.n<=1099511627776;omega⟩,trivial⟩,aJ (fun h2=>?_) (fun h2=>?_)⟩) (fun h1=>?_)⟩
 ·have h1:=sY h1;have h2:=sY h2;change q.e.s.n+4+1<=(pkF (acU pt x) q.e).2.s.a at h1;change (pkF (acU pt x) q.e).2.s.a <=q.e.s.n+4+q.e.s.n at h2;have hb:bC (pkF (acU pt x) q.e).2.s.n (ndI (pkF (acU pt x) q.e).2)=true:=cQ.2 ⟨by omega,by omega⟩
  refine aJ (fun h3=>aJ (fun h5=>aJ (fun h4=>?_) (fun h4=>?_)) (fun h5=>aJ (fun h4=>?_) (fun h4=>?_))) (fun h3=>aJ (fun h4=>?_) (fun h4=>?_))
  ·rw [k34 h3]at h4;cases h4
  ·exact go (lf3 hb h3 h5)
  ·rw [k34 h3]at h4;cases h4
  ·exact go (lf0 (by rw [show(pkF (acU pt x) q.e).2.s.ok =false from h5,Bool.and_false]) h4)
  ·refine⟨⟨⟨ran.1,ran.2,by decide,by decide⟩,trivial⟩,go ?_⟩
   have:=lf4 hw hn hb h3 h4;rw [<-eI]at this;exact this
  ·exact go (lf0 (by rw [show ieq (pkF (acU pt x) q.e).2.s.k 3=false from h3];rfl) h4)
 ·have h2:=nC h2;change q.e.s.n+4+q.e.s.n<(pkF (acU pt x) q.e).2.s.a at h2
  have hb:bC (pkF (acU pt x) q.e).2.s.n (ndI (pkF (acU pt x) q.e).2)=false:=by
   cases h:bC (pkF (acU pt x) q.e).2.s.n (ndI (pkF (acU pt x) q.e).2)with
   | false=>rfl
   | true=>have:=cQ.1 h;omega
  exact go (GB hb)
 ·have h1:=nC h1;change (pkF (acU pt x) q.e).2.s.a <q.e.s.n+4+1 at h1
  have hb:bC (pkF (acU pt x) q.e).2.s.n (ndI (pkF (acU pt x) q.e).2)=false:=by
   cases h:bC (pkF (acU pt x) q.e).2.s.n (ndI (pkF (acU pt x) q.e).2)with
   | false=>rfl
   | true=>have:=cQ.1 h;omega
  exact go (GB hb)
theorem UK{sh tr:Int}{m:Nat}{ln:Nat->Nat}{f g:Nat->Nat->Int}(hJ:J=tH sh th nd tr m ln f g)(hq:acJ th nd (acU pt x) q)(hz:x_1.1<500):aBJ J th nd n pt pm x x_1 q:=by
 have hw:=hq.w;have r2:=hw.w.hn;have hr:=(mB (acU pt x) hw.w).w;have hn:=hr.sn;have hs0:=hw.s0;have hs1:=hw.s1;have hk:=hw.w.k;have hW:W ((↑q.ss.length:Int) - 1)=(↑q.ss.length:Int) - 1:=cH ⟨by omega,by omega⟩
 have hi:0+Int.toNat (W ((↑q.ss.length:Int) - 1))*1<q.ss.length:=by rw [hW];omega
 unfold aBJ;refine⟨⟨by show 0<=(pkF (acU pt x) q.e).2.s.n;omega,by show(pkF (acU pt x) q.e).2.s.n <=100000;omega⟩,⟨by show 0<=W ((↑q.ss.length:Int) - 1);rw [hW];omega,by show W ((↑q.ss.length:Int) - 1)<(↑q.ss.length:Int);rw [hW];omega⟩,hi,⟨⟨rfl,rfl⟩,eV ⟨by omega,by omega⟩⟩,aJ (fun h=>?_) (fun h=>?_)⟩
 ·exact⟨⟨hi,rfl⟩,⟨rfl,rfl,rfl,rfl,by show q.ss.length+1<=4294967296;omega,rfl,rfl,rfl,rfl⟩,aH0 hw hq.d hz h⟩
 ·exact aH1 hJ hw hq.d hz h
theorem aBE(hx:acW th nd x.2){K:AVal->aC Ob->Prop}(hK:K (.bool true) []):acF x K:=by
 have hs1:=hx.s1;have hk:=hx.w.k;unfold acF;refine⟨aH6 hx.it,fun y hy=>aJ (fun h=>?_) (fun _=>hK)⟩;have h:=fB h;have hl:=hy.n
 have hi:y.1<y.2.length:=by
  change (x.2.ss.length:Int)=(y.2.length:Int)at hl;change (y.1:Int)<(x.2.ss.length:Int)at h;omega
 have hi2:0+Int.toNat (y.1:Int)*1<y.2.length:=by omega
 refine⟨⟨by omega,by omega⟩,hi2,⟨by omega,by omega⟩,hi2,⟨⟨rfl,rfl⟩,hy.it _ hi2⟩,?_⟩
 rw [JH];exact aH7 hy (by change (y.1:Int)<(x.2.ss.length:Int)at h;omega) (by show x.2.ss.length<=1000000;omega)
theorem aBD(hx:acW th nd x.2){K:AVal->aC Ob->Prop}(hK:K (.bool true) []):acE x K:=by
 have hs1:=hx.s1;have hk:=hx.w.k;have hr: ∀a:Int,ieq a a=true:=fun a=>by simp [cI]
 have ho:CZ x.2.e:=⟨⟨th,nd,hx.w⟩⟩;unfold acE;simp only [hr];refine⟨⟨⟨rfl,rfl⟩,⟨hx.s0,by omega,hx.it⟩⟩,?_⟩
 cases h4:ieq x.2.c.lo 0<;>cases h5:ieq x.2.c.tw 0<;>exact⟨trivial,⟨⟨trivial,ho⟩,trivial⟩,aBE hx hK⟩
end
theorem aF.any{n:Nat}{v:AVal}{g h:aC Ob}(a:aF (obI tbl) g.length (.raw undef) g (.raw undef) h):aF (obI tbl) 0 v g v h:=by
 intro V hR w x h1 h2 h3 h4;obtain⟨V',a1,a2,a3,a4,a5⟩:=a V hR w undef h1 h2 (Nat.le_refl _) rfl;refine⟨V',fun l y hl _=>absurd hl (Nat.not_lt_zero _),a2,Nat.zero_le _,Rep.mono ?_ _ _ h4,a5⟩;intro m y hm
 by_cases hml:m<g.length
 ·exact a1 m y hml hm
 ·rw [h2 m (by omega)]at hm;cases hm
set_option maxRecDepth 100000 in
theorem aHZ{sh th nd tr:Int}{m:Nat}{ln:Nat->Nat}{f g:Nat->Nat->Int}{n:Nat}{pt pm:Nat->Int}{X:EGS}(hx0:acW th nd ⟨X,⟨0,0,0,0,0⟩,[bD X],lvI X (Int.toNat X.s.n)⟩):aBp sh th nd tr m ln f g n pt pm X:=by
 unfold aBp;refine GO (H:=pT (tH sh th nd tr m ln f g) th nd n (xW pt pm)) ((aF.any (n:=0) (xN (s:=.slice 8 0 1 1) (p:=(bD X).length =(bD X).length) rfl rfl).2).trans (aF.pick [0,1,2,3,4,5,6,7,8] rfl)) (0,⟨X,⟨0,0,0,0,0⟩,[bD X],lvI X (Int.toNat X.s.n)⟩) rfl ⟨Nat.zero_le _,hx0⟩
set_option maxRecDepth 100000 in
theorem aFE(sh th nd tr:Int)(m:Nat)(ln:Nat->Nat)(f g:Nat->Nat->Int)(n:Nat)(pt pm:Nat->Int)(K:AVal->aC Ob->Prop)(hK:K (.bool true) []):UL sh th nd tr m ln f g n pt pm (tH sh th nd tr m ln f g) K:=by
 have hop:fF (vRr ln f g):=⟨rfl⟩;unfold UL;refine⟨hop,aJ (fun _=>hK) (fun h0=>?_)⟩;have hb:=aGI h0;have hm:m<=1000000:=by omega
 refine⟨⟨hm,hop⟩,aJ (fun _=>hK) (fun h1=>?_)⟩
 have h1:gnC sh th nd tr m (vL (vRr ln f g)) (vK (vRr ln f g)) (vY (vRr ln f g))=0:=by
  have:ieq (gnC sh th nd tr m (vL (vRr ln f g)) (vK (vRr ln f g)) (vY (vRr ln f g))) 0=true:=by simpa using h1
  exact sX this
 have hw:egW th nd (egX sh th nd tr m (vRr ln f g)):=HY h1;have r1:=hw.ht;have r2:=hw.hn;have r3:=hw.st;have r4:=hw.sn;have hk:=hw.k;generalize egX sh th nd tr m (vRr ln f g)=X at*
 have hx0:acW th nd ⟨X,⟨0,0,0,0,0⟩,[bD X],lvI X (Int.toNat X.s.n)⟩:=by
  refine⟨hw,by rw [r4],Nat.le_refl _,by show((1:Nat):Int)<=X.k+1;omega,fun i hi=>?_,rfl,rfl⟩
  have:i=0:=by have:i<1:=hi;omega
  subst this;exact eV (x:=X) ⟨by omega,by omega⟩
 refine⟨⟨⟨⟨hm,hop⟩,h1⟩,⟨by omega,by omega⟩,⟨by omega,by omega⟩,eV ⟨by omega,by omega⟩⟩,trivial,⟨⟨⟨hm,hop⟩,h1⟩,trivial⟩,trivial,⟨by omega,by omega⟩,?_,?_⟩
 ·exact aHZ hx0
 ·intro x hx;refine aJ (fun h2=>?_) (fun _=>aBD hx.x hK);have h2:=fB h2;have hxn:x.1<n:=by omega
  refine⟨⟨by omega,h2⟩,aH2 hx.x,fun x_1 hx1=>?_⟩
  refine aJ (fun h3=>aJ (fun h4=>?_) (fun _=>aFB hx1.x hxn (by omega))) (fun _=>aFB hx1.x hxn (by omega))
  have h4:=fB h4;have hz:x_1.1<500:=by omega
  refine⟨aH4 hx1.x,fun x_2 hx2=>?_⟩;have q1:=hx2.x.w.st;have q2:=hx2.x.w.sn;refine aJ (fun h5=>?_) (fun h5=>?_)
  ·have h5:=sY h5;change (x_2.1:Int)+1<=x_2.2.e.s.n at h5;refine⟨⟨⟨by show 0<=x_2.2.e.s.t;omega,by show x_2.2.e.s.t<=100000;omega⟩,⟨by show 0<=x_2.2.e.s.n;omega,by show x_2.2.e.s.n<=100000;omega⟩,by omega,by omega⟩,trivial,by decide,aH3 hx2.x (by omega)⟩
  ·have h5:=nC h5;change x_2.2.e.s.n<(x_2.1:Int)+1 at h5;have hh:=hx2.h
   have e1:x_2=(nd.toNat,x_2.2):=by
    have:x_2.1=nd.toNat:=by omega
    rw [<-this]
   rw [e1];have ha:=aAy hx2.x (acU pt x);refine⟨ha.p,⟨⟨rfl,rfl⟩,ha⟩,?_⟩;cases hd:(pkF (acU pt x) x_2.2.e).1 with
   | false=>
     refine aJ (fun h=>?_) (fun _=>aJ (fun _=>aHY hx2.x hd hxn (by omega)) (fun h=>?_))
     ·cases h
     ·cases h
   | true=>
     refine aJ (fun h=>?_) (fun _=>aJ (fun h=>?_) (fun _=>⟨trivial,UI hx2.x hd,fun q hq=>⟨UJ hq,fun q2 hq2=>UK rfl hq2 hz⟩⟩))
     ·cases h
     ·cases h
end Go.Sh
