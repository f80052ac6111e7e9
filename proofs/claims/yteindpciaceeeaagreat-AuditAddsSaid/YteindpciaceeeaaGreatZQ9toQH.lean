import Derived.RangeFuncLeaves
import Derived.Test.YteindpciaceeeaaGreatZN17toQ8
set_option linter.all false
set_option maxHeartbeats 8000000
namespace Go.Sh
open Go Go.Proofs
variable [Con]
def smR:aZ Ob:=fun args h=>match args,h with
 | [.ptr 0 0,.ptr 1 0],[some (.abs (.hist x) []),some (.abs (.hist y) [])]=>some (x=y/\x.ev.length<=4294967296,.bool true)
 | _,_=>none
theorem aGk:sT' 99 smR.spec:=by
 refine aZ.mk fun args h p v hv hp K hK=>?_;unfold smR at hv;split at hv
 case h_2=>cases hv
 rename_i x y;cases hv;obtain⟨rfl,hl⟩:=hp;exact aLw (VC x K (aI0 x K hl hK))
noncomputable def EUf:=(EUe.addS 23 grS aCs).addR 99 smR aGk
structure on1 (x:EGS) (u:Nat):Prop where
 hi:(u:Int)<=x.s.t
structure on2 (x:EGS) (a:Nat):Prop where
 hi:(a:Int)<=2*x.s.n+5*x.s.t+6
def W3(x:EGS):Hint Ob:= {X:=Nat,st:=fun u=>([.ptr 0 0,.ptr 1 0,.O,.O,.O,.ptr 2 0,.I (u:Int)]++List.replicate 97 .O,[some (.abs (.engine x) []),some (.abs (.engine x) []),cE' [.I x.s.t,.I x.s.n]]),ok:=on1 x,mu:=fun u=>(x.s.t - (u:Int)).toNat,keep:=[0,1,5,6] }
def W4(x:EGS):Hint Ob:= {X:=Nat,st:=fun a=>([.ptr 0 0,.ptr 1 0,.O,.O,.O,.ptr 2 0,.O,.I (a:Int)]++List.replicate 96 .O,[some (.abs (.engine x) []),some (.abs (.engine x) []),cE' [.I x.s.t,.I x.s.n]]),ok:=on2 x,mu:=fun a=>(2*x.s.n+5*x.s.t+6 - (a:Int)).toNat,keep:=[0,1,5,7] }
def LON(x:EGS):FuncId->Nat->Option (mS Ob):=fun _ k=>match k with
 | 5=>some (.states (W3 x))
 | 10=>some (.states (W4 x))
 | _=>none
abbrev w3s(x:EGS):Option (aG Ob):=some (.abs (.engine x) [])
abbrev w3t(x:EGS):List AVal:=[.I (EGS.s x).1,.I (EGS.s x).2]
def aBc(x:EGS)(K:AVal->aC Ob->Prop):Prop:=True/\True/\bif !bif ieq (EGS.s x).1 (EGS.s x).1 then bif ieq (EGS.s x).2 (EGS.s x).2 then true else false else false then K (.bool false) [w3s x,w3s x]else bif !bif ieq x.1 x.1 then bif ieq x.2 x.2 then bif ieq x.3 x.3 then bif ieq x.4 x.4 then true else false else false else false else false then K (.bool false) [w3s x,w3s x]else True/\True/\bif !ieq x.8 x.8 then K (.bool false) [w3s x,w3s x]else(List.length (EGS.h x).1<=(4294967296:Nat)/\List.length (EGS.h x).2<=(4294967296:Nat))/\(List.length (EGS.h x).1<=(4294967296:Nat)/\List.length (EGS.h x).2<=(4294967296:Nat))/\(x.6=x.6/\List.length (EGS.h x).1<=(4294967296:Nat))/\((0:Int)<=(EGS.s x).2/\(EGS.s x).2<=(100000:Int))/\((0:Int)<=(EGS.s x).2/\(EGS.s x).2<=(100000:Int))/\((lE' (bF x)/\lE' (bF x))/\List.length (bF x)<=(4294967296:Nat))/\bif !eE (bF x) (bF x)then K (.bool false) [w3s x,w3s x]else dE (W3 x) (Hint.ok (W3 x)) (.ptr 0 0::.ptr 1 0::.O::.O::.O::.ptr 2 0::.I 0::(tO' 97 [])) [w3s x,w3s x,cE' (w3t x)]/\ ∀(x_1:Nat),on1 x x_1->bif ilt (↑x_1:Int) (EGS.s x).1 then True/\True/\bif !ieq (mH (↑x_1:Int) x) (mH (↑x_1:Int) x)then K (.bool false) [w3s x,w3s x]else jX x/\jX x/\((lE' (iF (↑x_1:Int) x)/\lE' (iF (↑x_1:Int) x))/\List.length (iF (↑x_1:Int) x)<=(4294967296:Nat))/\bif !eE (iF (↑x_1:Int) x) (iF (↑x_1:Int) x)then K (.bool false) [w3s x,w3s x]else jX x/\jX x/\((lE' (iC (↑x_1:Int) x)/\lE' (iC (↑x_1:Int) x))/\List.length (iC (↑x_1:Int) x)<=(4294967296:Nat))/\bif !eE (iC (↑x_1:Int) x) (iC (↑x_1:Int) x)then K (.bool false) [w3s x,w3s x]else jX x/\jX x/\((lE' (gZ (↑x_1:Int) x)/\lE' (gZ (↑x_1:Int) x))/\List.length (gZ (↑x_1:Int) x)<=(4294967296:Nat))/\bif !eE (gZ (↑x_1:Int) x) (gZ (↑x_1:Int) x)then K (.bool false) [w3s x,w3s x]else dE (W3 x) (fun x'=>Hint.ok (W3 x) x'/\Hint.mu (W3 x) x'<Hint.mu (W3 x) x_1) (.ptr 0 0::.ptr 1 0::.O::.O::.O::.ptr 2 0::.I (W ((↑x_1:Int)+1))::(tO' 97 [])) [w3s x,w3s x,cE' (w3t x)]else dE (W4 x) (Hint.ok (W4 x)) (.ptr 0 0::.ptr 1 0::.O::.O::.O::.ptr 2 0::.O::.I 0::(tO' 96 [])) [w3s x,w3s x,cE' (w3t x)]/\ ∀(x_2:Nat),on2 x x_2->(((0:Int)<=(EGS.s x).1/\(EGS.s x).1<=(100000:Int))/\(0:Int)<=(EGS.s x).2/\(EGS.s x).2<=(100000:Int))/\bif ilt (↑x_2:Int) (2*(EGS.s x).2+5*(EGS.s x).1+6)then True/\True/\bif !ieq (aE (EGS.s x).3 (↑x_2:Int)) (aE (EGS.s x).3 (↑x_2:Int))then K (.bool false) [w3s x,w3s x]else dE (W4 x) (fun x'=>Hint.ok (W4 x) x'/\Hint.mu (W4 x) x'<Hint.mu (W4 x) x_2) (.ptr 0 0::.ptr 1 0::.O::.O::.O::.ptr 2 0::.O::.I (W ((↑x_2:Int)+1))::(tO' 96 [])) [w3s x,w3s x,cE' (w3t x)]else K (.bool true) [w3s x,w3s x]
theorem UE(x:EGS)(K:AVal->aC Ob->Prop)(h:aBc x K):cT' 42 [.ptr 0 0,.ptr 1 0] [some (.abs (.engine x) []),some (.abs (.engine x) [])] (eJ 2 K):=by
 exact aD (E:=EUf) Tryz.checked.mixed (L:=LON x) (n:=10) (aJ (by kernel_rfl) h)
noncomputable def EUg:=(EUf.addS 25 (aI.or newLS gnS) (aL9 aA6 JT))
theorem vD(xs:List Int):eE xs xs=true:=nG.2 rfl
structure KP (x:EGS):Prop where
 w: ∃t n:Int,egW t n x
theorem NK(sp:Int)(xs:List Int):(mG sp xs).length <=xs.length+1:=by
 unfold mG;cases ieq sp 0 with
 | true=>exact Nat.le_succ _
 | false=>exact Nat.le_refl _
theorem PD{x:EGS}(h:jX x)(u:Int):(iF u x).length <=4294967296:=by
 unfold iF;cases ilt u 0 with
 | true=>exact Nat.zero_le _
 | false=>
   rw [cond_false];cases e:ile (x.ws.length:Int) u with
   | true=>exact Nat.zero_le _
   | false=>
     rw [cD]at e;have e:=of_decide_eq_false e;have h0:=h.h0
     by_cases hu:u.toNat<x.ws.length
     ·exact Nat.le_trans (h.ht _ hu) omz
     ·omega
theorem O4{x:EGS}(h:jX x)(u:Int):(iC u x).length <=4294967296:=by
 unfold iC;cases ilt u 0 with
 | true=>exact Nat.zero_le _
 | false=>
   rw [cond_false];cases e:ile (x.ws.length:Int) u with
   | true=>exact Nat.zero_le _
   | false=>
     rw [cD]at e;have e:=of_decide_eq_false e;have h0:=h.h0
     by_cases hu:u.toNat<x.ws.length
     ·exact Nat.le_trans (h.hs _ hu) omz
     ·omega
theorem NJ{x:EGS}(h:jX x)(u:Int):(gZ u x).length <=4294967296:=by
 unfold gZ;cases ilt u 0 with
 | true=>exact Nat.zero_le _
 | false=>
   rw [cond_false];cases e:ile (x.ws.length:Int) u with
   | true=>exact Nat.zero_le _
   | false=>
     rw [cD]at e;have e:=of_decide_eq_false e;have h0:=h.h0
     by_cases hu:u.toNat<x.ws.length
     ·have:=h.hr _ hu;exact Nat.le_trans (NK _ _) omz
     ·omega
theorem gK{x:EGS}(h:0<=x.s.n/\x.s.n<=100000):(bF x).length <=4294967296:=by
 have l0:=jK x.s.xs x.s.n 0;have l1:=jK x.s.xs x.s.n 1;have l2:=jK x.s.xs x.s.n 2;have l3:=jK x.s.xs x.s.n 3;have hn:x.s.n.toNat<=100000:=by omega
 unfold bF;cases ieq x.sh 3 with
 | true=>rw [cond_true];omega
 | false=>
   rw [cond_false];cases ieq x.sh 4 with
   | true=>rw [cond_true];omega
   | false=>rw [cond_false,pI,List.length_append,List.length_append,List.length_append];omega
set_option maxRecDepth 10000 in
theorem aIV(x:EGS)(K:AVal->aC Ob->Prop)(hx:KP x)(hK:K (.bool true) [some (.abs (.engine x) []),some (.abs (.engine x) [])]):aBc x K:=by
 obtain⟨⟨t,n,hw⟩⟩:=hx;have hf:=RV hw;have hl:=RW hw;have ht:=hw.ht;have hn:=hw.hn;have st:=hw.st;have sn:=hw.sn;have aa:0<=x.s.n/\x.s.n<=100000:=by omega
 have ac:0<=x.s.t/\x.s.t<=100000:=by omega
 unfold aBc;simp only [TF,vD,cond_true,Bool.not_true,cond_false];refine⟨trivial,trivial,trivial,trivial,hl,hl,⟨trivial,hl.1⟩,aa,aa,⟨⟨trivial,trivial⟩,gK aa⟩,aR (H:=W3 x) (0:Nat) rfl ⟨by show((0:Nat):Int)<=x.s.t;omega⟩,?_⟩
 rintro u ⟨hu⟩;refine aT (fun a1=>?_) (fun a1=>?_)
 ·have a1:=f9 a1;refine⟨trivial,trivial,hf,hf,⟨⟨trivial,trivial⟩,PD hf _⟩,hf,hf,⟨⟨trivial,trivial⟩,O4 hf _⟩,hf,hf,⟨⟨trivial,trivial⟩,NJ hf _⟩,?_⟩;have e:W ((u:Int)+1)=((u+1:Nat):Int):=(cG (x:=(u:Int)+1) ⟨by omega,by omega⟩).trans omz
  rw [e];exact aR (H:=W3 x) (u+1:Nat) rfl ⟨⟨by show((u+1:Nat):Int)<=x.s.t;omega⟩,by show(x.s.t - ((u+1:Nat):Int)).toNat <(x.s.t - (u:Int)).toNat;omega⟩
 ·refine⟨aR (H:=W4 x) (0:Nat) rfl ⟨by show((0:Nat):Int)<=2*x.s.n+5*x.s.t+6;omega⟩,?_⟩
  rintro a ⟨ha⟩;refine⟨⟨ac,aa⟩,aT (fun b1=>?_) (fun b1=>hK)⟩;have b1:=f9 b1;have e:W ((a:Int)+1)=((a+1:Nat):Int):=(cG (x:=(a:Int)+1) ⟨by omega,by omega⟩).trans omz
  rw [e];exact⟨trivial,trivial,aR (H:=W4 x) (a+1:Nat) rfl ⟨⟨by show((a+1:Nat):Int)<=2*x.s.n+5*x.s.t+6;omega⟩,by show(2*x.s.n+5*x.s.t+6 - ((a+1:Nat):Int)).toNat <(2*x.s.n+5*x.s.t+6 - (a:Int)).toNat;omega⟩⟩
def onS:aI Ob:=fun args h=>match args,h with
 | [.ptr 0 0,.ptr 1 0],[some (.abs (.engine x) []),some (.abs (.engine y) [])]=>some (.pre (x=y/\KP x) (.ret (.bool true) [some (.abs (.engine x) []),some (.abs (.engine y) [])]))
 | _,_=>none
theorem aIU:sT' 42 onS:=by
 intro args h o ho K hK;unfold onS at ho;split at ho
 case h_2=>cases ho
 rename_i x y;cases ho;obtain⟨⟨rfl,hx⟩,hK⟩:=hK;exact aLw (UE x K (aIV x K hx hK))
abbrev iV(xs:List Int):AVal:=.iview (some .i64) xs
structure eq1 (xs ys:List Int) (i:Nat):Prop where
 h1:i<=xs.length
 h2:xs.length=ys.length
 h3:xs.take i=ys.take i
def BL(a b:AVal)(h:aC Ob)(xs ys:List Int):Hint Ob:= {X:=Nat,st:=fun i=>([a,b]++List.replicate 10 .O ++ [.I (xs.length:Int),.I (i:Int)]++List.replicate 12 .O,h),ok:=eq1 xs ys,mu:=fun i=>xs.length - i,keep:=[0,1,12,13] }
def LEQ(a b:AVal)(h:aC Ob)(xs ys:List Int):FuncId->Nat->Option (mS Ob):=fun _ k=>match k with
 | 4=>some (.states (BL a b h xs ys))
 | _=>none
abbrev WK(xs:List Int):AVal:=.slice 0 0 xs.length 1
abbrev WL(ys:List Int):AVal:=.slice 1 0 ys.length 1
abbrev RX(xs ys:List Int):aC Ob:=[iI' xs,iI' ys]
def SE(xs ys:List Int)(K:AVal->aC Ob->Prop):Prop:=bif !ieq (↑xs.length:Int) (↑ys.length:Int)then K (.bool false) [iI' xs,iI' ys]else dE (BL (WK xs) (WL ys) (RX xs ys) xs ys) (Hint.ok (BL (WK xs) (WL ys) (RX xs ys) xs ys)) [.slice 0 0 xs.length 1,.slice 1 0 ys.length 1,.O,.O,.O,.O,.O,.O,.O,.O,.O,.O,.I (↑xs.length:Int),.I 0,.O,.O,.O,.O,.O,.O,.O,.O,.O,.O,.O,.O] [iI' xs,iI' ys]/\ ∀(x:Nat),eq1 xs ys x->bif ilt (↑x:Int) (↑xs.length:Int)then((0:Int)<=(↑x:Int)/\(↑x:Int)<(↑xs.length:Int))/\0+Int.toNat (↑x:Int)*(1:Nat)<xs.length/\((0:Int)<=(↑x:Int)/\(↑x:Int)<(↑ys.length:Int))/\0+Int.toNat (↑x:Int)*(1:Nat)<ys.length/\bif !ieq (List.getD xs (0+Int.toNat (↑x:Int)*1) 0) (List.getD ys (0+Int.toNat (↑x:Int)*1) 0)then K (.bool false) [iI' xs,iI' ys]else dE (BL (WK xs) (WL ys) (RX xs ys) xs ys) (fun x'=>Hint.ok (BL (WK xs) (WL ys) (RX xs ys) xs ys) x'/\Hint.mu (BL (WK xs) (WL ys) (RX xs ys) xs ys) x'<Hint.mu (BL (WK xs) (WL ys) (RX xs ys) xs ys) x) [.slice 0 0 xs.length 1,.slice 1 0 ys.length 1,.O,.O,.O,.O,.O,.O,.O,.O,.O,.O,.I (↑xs.length:Int),.I (W ((↑x:Int)+1)),.O,.O,.O,.O,.O,.O,.O,.O,.O,.O,.O,.O] [iI' xs,iI' ys]else K (.bool true) [iI' xs,iI' ys]
theorem MD(xs ys:List Int)(K:AVal->aC Ob->Prop)(h:SE xs ys K):cT' 108 [WK xs,WL ys] (RX xs ys) (eJ 2 K):=by
 exact aD (E:=EUe) Tryz.checked.mixed (L:=LEQ (WK xs) (WL ys) (RX xs ys) xs ys) (n:=10) (aJ (by kernel_rfl) h)
def SF(xs ys:List Int)(K:AVal->aC Ob->Prop):Prop:=bif !ieq (↑xs.length:Int) (↑ys.length:Int)then K (.bool false) []else dE (BL (iV xs) (iV ys) [] xs ys) (Hint.ok (BL (iV xs) (iV ys) [] xs ys)) [.iview (some .i64) xs,.iview (some .i64) ys,.O,.O,.O,.O,.O,.O,.O,.O,.O,.O,.I (↑xs.length:Int),.I 0,.O,.O,.O,.O,.O,.O,.O,.O,.O,.O,.O,.O] []/\ ∀(x:Nat),eq1 xs ys x->bif ilt (↑x:Int) (↑xs.length:Int)then((0:Int)<=(↑x:Int)/\(↑x:Int)<(↑xs.length:Int))/\((0:Int)<=(↑x:Int)/\(↑x:Int)<(↑ys.length:Int))/\bif !ieq (List.getD xs (Int.toNat (↑x:Int)) 0) (List.getD ys (Int.toNat (↑x:Int)) 0)then K (.bool false) []else dE (BL (iV xs) (iV ys) [] xs ys) (fun x'=>Hint.ok (BL (iV xs) (iV ys) [] xs ys) x'/\Hint.mu (BL (iV xs) (iV ys) [] xs ys) x'<Hint.mu (BL (iV xs) (iV ys) [] xs ys) x) [.iview (some .i64) xs,.iview (some .i64) ys,.O,.O,.O,.O,.O,.O,.O,.O,.O,.O,.I (↑xs.length:Int),.I (W ((↑x:Int)+1)),.O,.O,.O,.O,.O,.O,.O,.O,.O,.O,.O,.O] []else K (.bool true) []
theorem ME(xs ys:List Int)(K:AVal->aC Ob->Prop)(h:SF xs ys K):cT' 108 [iV xs,iV ys] [] (eJ 0 K):=by
 exact aD (E:=EUe) Tryz.checked.mixed (L:=LEQ (iV xs) (iV ys) [] xs ys) (n:=10) (aJ (by kernel_rfl) h)
theorem aHU{xs ys:List Int}{K:AVal->aC Ob->Prop}{h:aC Ob}(hK:K (.bool (eE xs ys)) h):(xs=ys->K (.bool true) h)/\(xs≠ys->K (.bool false) h):=by
 refine⟨fun e=>?_,fun e=>?_⟩
 ·rw [nG.2 e]at hK;exact hK
 ·have:eE xs ys=false:=by
   cases hs:eE xs ys with
   | false=>rfl
   | true=>exact(e (nG.1 hs)).elim
  rw [this]at hK;exact hK
theorem JL{xs ys:List Int}{i:Nat}(hi:i<xs.length)(h2:xs.length=ys.length)(h3:xs.take i=ys.take i)(e:xs.getD i 0=ys.getD i 0):xs.take (i+1)=ys.take (i+1):=by
 have hj:i<ys.length:=by omega
 rw [gD',gE' hi,gD',gE' hj]at e;rw [List.take_succ_eq_append_getElem hi,List.take_succ_eq_append_getElem hj,h3];have e5:xs[i]=ys[i]:=by simpa using e
 rw [e5]
theorem aEx(xs ys:List Int)(K:AVal->aC Ob->Prop)(hl:xs.length<=4294967296)(hK:K (.bool (eE xs ys)) (RX xs ys)):SE xs ys K:=by
 obtain⟨kt,kf⟩:=aHU hK;refine aK (fun e=>kf ?_) (fun e=>?_)
 ·rw [cI]at e;rintro rfl;simp at e
 ·have aa:xs.length=ys.length:=by rw [cI]at e;simp at e;omega
  refine⟨aR (H:=BL (WK xs) (WL ys) (RX xs ys) xs ys) (0:Nat) rfl ⟨Nat.zero_le _,aa,rfl⟩,?_⟩;rintro i ⟨h1,h2,h3⟩;refine aT (fun e1=>?_) (fun e1=>?_)
  ·have e1:=f9 e1;have hi:i<xs.length:=by omega
   have e2:0+(i:Int).toNat *1=i:=by omega
   rw [e2];refine⟨by omega,hi,by omega,by omega,aK (fun e3=>kf ?_) (fun e3=>?_)⟩
   ·rw [cI]at e3;rintro rfl;simp at e3
   ·rw [cI]at e3;have e3:xs.getD i 0=ys.getD i 0:=by simpa using e3
    rw [W2 hi hl];exact aR (H:=BL (WK xs) (WL ys) (RX xs ys) xs ys) (i+1:Nat) rfl ⟨⟨hi,h2,JL hi h2 h3 e3⟩,by show xs.length - (i+1)<xs.length - i;omega⟩
  ·have e1:=f8 e1;refine kt ?_;rw [List.take_of_length_le omz,List.take_of_length_le omz]at h3;exact h3
theorem aEy(xs ys:List Int)(K:AVal->aC Ob->Prop)(hl:xs.length<=4294967296)(hK:K (.bool (eE xs ys)) []):SF xs ys K:=by
 obtain⟨kt,kf⟩:=aHU hK;refine aK (fun e=>kf ?_) (fun e=>?_)
 ·rw [cI]at e;rintro rfl;simp at e
 ·have aa:xs.length=ys.length:=by rw [cI]at e;simp at e;omega
  refine⟨aR (H:=BL (iV xs) (iV ys) [] xs ys) (0:Nat) rfl ⟨Nat.zero_le _,aa,rfl⟩,?_⟩;rintro i ⟨h1,h2,h3⟩;refine aT (fun e1=>?_) (fun e1=>?_)
  ·have e1:=f9 e1;have hi:i<xs.length:=by omega
   rw [Int.toNat_natCast];refine⟨by omega,by omega,aK (fun e3=>kf ?_) (fun e3=>?_)⟩
   ·rw [cI]at e3;rintro rfl;simp at e3
   ·rw [cI]at e3;have e3:xs.getD i 0=ys.getD i 0:=by simpa using e3
    rw [W2 hi hl];exact aR (H:=BL (iV xs) (iV ys) [] xs ys) (i+1:Nat) rfl ⟨⟨hi,h2,JL hi h2 h3 e3⟩,by show xs.length - (i+1)<xs.length - i;omega⟩
  ·have e1:=f8 e1;refine kt ?_;rw [List.take_of_length_le omz,List.take_of_length_le omz]at h3;exact h3
def eqR:aZ Ob:=fun args h=>match args,h with
 | [.slice 0 0 n 1,.slice 1 0 m 1],[some (.ints (some .i64) xs),some (.ints (some .i64) ys)]=>some ((n=xs.length/\m=ys.length)/\n<=4294967296,.bool (eE xs ys))
 | [.iview (some .i64) xs,.iview (some .i64) ys],[]=>some (xs.length<=4294967296,.bool (eE xs ys))
 | _,_=>none
theorem aEw:sT' 108 eqR.spec:=by
 intro args h o ho K hK;unfold aZ.spec at ho;split at ho
 case h_2=>cases ho
 rename_i p v hv;unfold eqR at hv;split at hv
 case h_3=>cases hv
 ·rename_i n m xs ys;cases hv;cases ho;obtain⟨⟨⟨rfl,rfl⟩,hl⟩,hK⟩:=hK;exact aLw (MD xs ys K (aEx xs ys K hl hK))
 ·rename_i xs ys;cases hv;cases ho;obtain⟨hl,hK⟩:=hK;exact aLw (ME xs ys K (aEy xs ys K hl hK))
def aHo(sh th nd tr:Int)(m:Nat)(vr:Nat->List AVal)(K:AVal->aC Ob->Prop):Prop:=K (.agg [.I sh,.I th,.I nd,.I tr]) []
theorem Q0(sh th nd tr:Int)(m:Nat)(vr:Nat->List AVal)(K:AVal->aC Ob->Prop)(h:aHo sh th nd tr m vr K):cT' 26 [.agg [.I sh,.I th,.I nd,.I tr,.view m 1 vr]] [] (eJ 0 K):=by
 exact cM' (E:=EUg) (by kernel_rfl) h
def cfR:aZ Ob:=fun args h=>match args,h with
 | [.agg [.int .i64 sh,.int .i64 th,.int .i64 nd,.int .i64 tr,.view m 1 vr]],[]=>some (True,.agg [.I sh,.I th,.I nd,.I tr])
 | _,_=>none
theorem QZ:sT' 26 cfR.spec:=by
 refine aZ.mk fun args h p v hv _ K hK=>?_;unfold cfR at hv;split at hv
 case h_2=>cases hv
 rename_i sh th nd tr m vr;cases hv;exact aLw (Q0 sh th nd tr m vr K hK)
def gn1S:aI Ob:=fun args h=>match args,h with
 | [.agg [.int .i64 sh,.int .i64 th,.int .i64 nd,.int .i64 tr],.view m 1 vr],[]=>some (.pre ((m<=1000000/\fX vr)/\gnC sh th nd tr m (vL vr) (vK vr) (vY vr)=0) (.ret (.tup [.ptr 0 0,.I 0]) (egH (oA sh th nd tr m (vL vr) (vK vr) (vY vr)))))
 | _,_=>none
theorem HO:sT' 25 gn1S:=by
 intro args h o ho K hK;unfold gn1S at ho;split at ho
 case h_2=>cases ho
 rename_i sh th nd tr m vr;cases ho;obtain⟨⟨h1,h2⟩,hK⟩:=hK;have hS:gnS [.agg [.I sh,.I th,.I nd,.I tr],.view m 1 vr] []=some (.pre (m<=1000000/\fX vr) (rU sh th nd tr m (vL vr) (vK vr) (vY vr))):=rfl;refine JT _ _ _ hS K ⟨h1,?_⟩;show(rU sh th nd tr m (vL vr) (vK vr) (vY vr)).run K;unfold rU;rw [h2];exact hK
abbrev pkW(pt pm:Nat->Int)(i:Nat):List AVal:=[.I (pt i),.I (pm i)]
structure CNT where
 ch:Int
 tk:Int
 gv:Int
 lo:Int
 tw:Int
instance:Inhabited CNT:=⟨⟨0,0,0,0,0⟩⟩
def frB(lv:List Int)(i:Int):Bool:=ieq (Int.tmod (lv.getD (0+Int.toNat (W (i - 1))*1) 0) 2) 0
def cnCh(n a:Int)(lv:List Int)(c:CNT):CNT:=bif ilt a 1 then c else bif ile (n+1+4) a then c else bif bG n a then(bif frB lv a then⟨W (c.ch+1),c.tk,c.gv,W (c.lo+1),c.tw⟩else⟨W (c.ch+1),c.tk,c.gv,c.lo,c.tw⟩)else⟨W (c.ch+1),c.tk,c.gv,c.lo,c.tw⟩
def cnLf(k:Int)(ok:Bool)(nd:Int)(lv:List Int)(c:CNT):CNT:=bif ieq k 3&&ok then⟨c.ch,W (c.tk+1),c.gv,c.lo,c.tw⟩else bif ieq k 4 then(bif frB lv nd then⟨c.ch,c.tk,W (c.gv+1),c.lo,W (c.tw+1)⟩else⟨c.ch,c.tk,W (c.gv+1),c.lo,c.tw⟩)else c
theorem aH2{I:Itp Ob}(t:TypeId)(l off:Nat)(h:aC Ob)(v:AVal)(q:Option Prop)(hh:(none:Option (AVal×Option Prop))=some (v,q))(_:onp q)(V:Val)(hR:PHeap)(w:World)(b k:Nat)(_:Inv I V (toF h) hR w)(_:V l=some (b,k)): ∃v',(Instr.loadAt t (.pointer (some ⟨b,off,none⟩))).run Tryz.prog w=.ok v' w/\Rep V v v':=by cases hh
theorem aJI{I:Itp Ob}(h:I=obI tbl)(ρ:Operand->AVal)(o:Oper)(g:aC Ob)(r:ORes Ob)(hr:BI.dro Tryz.prog (fun _ _ _=>none) ρ o.op g=some r)(ho:r.obl)(V:Val)(hR:PHeap)(w:World)(ρ':Operand->Value)(hi:Inv I V (toF g) hR w)(hf:gT V g.length r.new.length)(hρ: ∀x,Rep V (ρ x) (ρ' x)):dG I Tryz.prog V g.length hR w r.v (toF (r.apply g)) r.new.length (execOp ρ' o):=by
 subst h;exact BI.dro_ok rB qI ρ o g r hr ho V hR w ρ' hi hf hρ
noncomputable def sN(E:Env Ob Tryz.prog)(h:E.I=obI tbl):Env Ob Tryz.prog:= {E with fld:=fun _ _ _ _=>none,fldOk:=aH2,dro:=BI.dro Tryz.prog fun _ _ _=>none,droCongr:=BI.dro_congr lZ,droOk:=aJI h}
noncomputable def EAu:Env Ob Tryz.prog:=sN (EUe.addR 108 eqR aEw) rfl
abbrev auC(c:CNT)(n m:Nat):aG Ob:=.cells [.ptr 1 0,.int .i64 c.ch,.int .i64 c.tk,.int .i64 c.gv,.int .i64 c.lo,.int .i64 c.tw,.slice 2 0 n 1,.slice 3 0 m 1]
abbrev auH(e:EGS)(c:CNT)(ss:List (List Int))(lv:List Int):aC Ob:=[some (auC c ss.length lv.length),some (.abs (.engine e) []),some (.abs (.srow ss) []),some (.ints (some .u64) lv)]
abbrev w3u(c:CNT)(e:EGS)(lv:List Int)(ss:List (List Int)):aC Ob:=[some (.cells [.ptr 1 0,.int .i64 (W (c.1+1)),.int .i64 c.2,.int .i64 c.3,.int .i64 c.4,.int .i64 c.5,.slice 2 0 ss.length 1,.slice 3 0 lv.length 1]),some (.abs (.engine e) []),some (.abs (.srow ss) []),some (.ints (some .u64) lv)]
abbrev w3v(c:CNT)(e:EGS)(lv:List Int)(ss:List (List Int)):aC Ob:=[some (.cells [.ptr 1 0,.int .i64 c.1,.int .i64 c.2,.int .i64 c.3,.int .i64 c.4,.int .i64 c.5,.slice 2 0 ss.length 1,.slice 3 0 lv.length 1]),some (.abs (.engine e) []),some (.abs (.srow ss) []),some (.ints (some .u64) lv)]
def GM(e:EGS)(c:CNT)(ss:List (List Int))(lv:List Int)(t n a:Int)(K:AVal->aC Ob->Prop):Prop:=bif ilt a 1 then K (.tup []) (w3v c e lv ss)else(((0:Int)<=n/\n<=(100000:Int))/\(-1000000:Int)<=(4:Int)/\(4:Int)<=(1000000:Int))/\bif ile (n+1+4) a then K (.tup []) (w3v c e lv ss)else True/\bif bG n a then((0:Int)<=W (a - 1)/\W (a - 1)<(↑lv.length:Int))/\0+Int.toNat (W (a - 1))*(1:Nat)<lv.length/\(2:Int)≠(0:Int)/\bif ieq (Int.tmod (List.getD lv (0+Int.toNat (W (a - 1))*1) 0) 2) 0 then K (.tup []) [some (.cells [.ptr 1 0,.int .i64 (W (c.1+1)),.int .i64 c.2,.int .i64 c.3,.int .i64 (W (c.4+1)),.int .i64 c.5,.slice 2 0 ss.length 1,.slice 3 0 lv.length 1]),some (.abs (.engine e) []),some (.abs (.srow ss) []),some (.ints (some .u64) lv)]else K (.tup []) (w3u c e lv ss)else K (.tup []) (w3u c e lv ss)
theorem GN(e:EGS)(c:CNT)(ss:List (List Int))(lv:List Int)(t n a:Int)(K:AVal->aC Ob->Prop)(h:GM e c ss lv t n a K):cT' 136 [.ptr 0 0,.agg [.int .i64 t,.int .i64 n],.int .i64 a] (auH e c ss lv) (eJ 4 K):=by
 exact cM' (E:=EAu) (by kernel_rfl) h
abbrev w3w(c:CNT)(e:EGS)(lv:List Int)(ss:List (List Int)):aC Ob:=[some (.cells [.ptr 1 0,.int .i64 c.1,.int .i64 c.2,.int .i64 (W (c.3+1)),.int .i64 c.4,.int .i64 (W (c.5+1)),.slice 2 0 ss.length 1,.slice 3 0 lv.length 1]),some (.abs (.engine e) []),some (.abs (.srow ss) []),some (.ints (some .u64) lv)]
abbrev w3x(c:CNT)(e:EGS)(lv:List Int)(ss:List (List Int)):aC Ob:=[some (.cells [.ptr 1 0,.int .i64 c.1,.int .i64 c.2,.int .i64 (W (c.3+1)),.int .i64 c.4,.int .i64 c.5,.slice 2 0 ss.length 1,.slice 3 0 lv.length 1]),some (.abs (.engine e) []),some (.abs (.srow ss) []),some (.ints (some .u64) lv)]
abbrev w3y(c:CNT)(e:EGS)(lv:List Int)(ss:List (List Int)):aC Ob:=[some (.cells [.ptr 1 0,.int .i64 c.1,.int .i64 c.2,.int .i64 c.3,.int .i64 c.4,.int .i64 c.5,.slice 2 0 ss.length 1,.slice 3 0 lv.length 1]),some (.abs (.engine e) []),some (.abs (.srow ss) []),some (.ints (some .u64) lv)]
def GO(e:EGS)(c:CNT)(ss:List (List Int))(lv:List Int)(k a o w:Int)(ok:Bool)(nd:Int)(K:AVal->aC Ob->Prop):Prop:=bif ieq k 3 then bif ok then K (.tup []) [some (.cells [.ptr 1 0,.int .i64 c.1,.int .i64 (W (c.2+1)),.int .i64 c.3,.int .i64 c.4,.int .i64 c.5,.slice 2 0 ss.length 1,.slice 3 0 lv.length 1]),some (.abs (.engine e) []),some (.abs (.srow ss) []),some (.ints (some .u64) lv)]else bif ieq k 4 then((0:Int)<=W (nd - 1)/\W (nd - 1)<(↑lv.length:Int))/\0+Int.toNat (W (nd - 1))*(1:Nat)<lv.length/\(2:Int)≠(0:Int)/\bif ieq (Int.tmod (List.getD lv (0+Int.toNat (W (nd - 1))*1) 0) 2) 0 then K (.tup []) (w3w c e lv ss)else K (.tup []) (w3x c e lv ss)else K (.tup []) (w3y c e lv ss)else bif ieq k 4 then((0:Int)<=W (nd - 1)/\W (nd - 1)<(↑lv.length:Int))/\0+Int.toNat (W (nd - 1))*(1:Nat)<lv.length/\(2:Int)≠(0:Int)/\bif ieq (Int.tmod (List.getD lv (0+Int.toNat (W (nd - 1))*1) 0) 2) 0 then K (.tup []) (w3w c e lv ss)else K (.tup []) (w3x c e lv ss)else K (.tup []) (w3y c e lv ss)
theorem GP(e:EGS)(c:CNT)(ss:List (List Int))(lv:List Int)(k a o w:Int)(ok:Bool)(nd:Int)(K:AVal->aC Ob->Prop)(h:GO e c ss lv k a o w ok nd K):cT' 137 [.ptr 0 0,.agg [.int .i64 k,.int .i64 a,.int .u64 o,.int .u64 w,.bool ok],.int .i64 nd] (auH e c ss lv) (eJ 4 K):=by
 exact cM' (E:=EAu) (by kernel_rfl) h
structure jZ (n m:Nat) (ss:List (List Int)) (lv:List Int):Prop where
 n:n=ss.length
 m:m=lv.length
structure chOk (n:Int) (lv:List Int):Prop where
 n0:0<=n
 n1:n<=100000
 l:n<=(lv.length:Int)
def auchS:aI Ob:=fun args h=>match args,h with
 | [.ptr 0 0,.agg [.int .i64 t,.int .i64 n],.int .i64 a],[some (.cells [.ptr 1 0,.int .i64 c1,.int .i64 c2,.int .i64 c3,.int .i64 c4,.int .i64 c5,.slice 2 0 p 1,.slice 3 0 q 1]),some (.abs (.engine e) []),some (.abs (.srow ss) []),some (.ints (some .u64) lv)]=>some (.pre (jZ p q ss lv/\chOk n lv) (.ret (.tup []) (auH e (cnCh n a lv ⟨c1,c2,c3,c4,c5⟩) ss lv)))
 | _,_=>none
theorem XU:sT' 136 auchS:=by
 intro args h o ho K hK;unfold auchS at ho;split at ho
 case h_2=>cases ho
 rename_i t n a c1 c2 c3 c4 c5 p q e ss lv;cases ho;obtain⟨⟨⟨rfl,rfl⟩,⟨n0,n1,l⟩⟩,hK⟩:=hK;have hK:K (.tup []) (auH e (cnCh n a lv ⟨c1,c2,c3,c4,c5⟩) ss lv):=hK;refine aLw (GN e ⟨c1,c2,c3,c4,c5⟩ ss lv t n a K ?_);unfold GM;refine aT (fun h1=>?_) (fun h1=>⟨⟨⟨n0,n1⟩,by decide,by decide⟩,aT (fun h2=>?_) (fun h2=>⟨trivial,aT (fun h3=>?_) (fun h3=>?_)⟩)⟩)
 ·unfold cnCh at hK;rw [h1]at hK;exact hK
 ·unfold cnCh at hK;rw [h1,h2]at hK;exact hK
 ·have h4:=eO.1 h3;have hW:W (a - 1)=a - 1:=cG ⟨by omega,by omega⟩
  refine⟨⟨by rw [hW];omega,by rw [hW];omega⟩,by rw [hW];omega,by decide,aT (fun h5=>?_) (fun h5=>?_)⟩
  ·unfold cnCh at hK;rw [h1,h2,h3,show frB lv a=true from h5]at hK;exact hK
  ·unfold cnCh at hK;rw [h1,h2,h3,show frB lv a=false from h5]at hK;exact hK
 ·unfold cnCh at hK;rw [h1,h2,h3]at hK;exact hK
structure aIB (nd:Int) (lv:List Int):Prop where
 n0:1<=nd
 n1:nd<=100000
 l:nd<=(lv.length:Int)
def aulfS:aI Ob:=fun args h=>match args,h with
 | [.ptr 0 0,.agg [.int .i64 k,.int .i64 a,.int .u64 o,.int .u64 w,.bool ok],.int .i64 nd],[some (.cells [.ptr 1 0,.int .i64 c1,.int .i64 c2,.int .i64 c3,.int .i64 c4,.int .i64 c5,.slice 2 0 p 1,.slice 3 0 q 1]),some (.abs (.engine e) []),some (.abs (.srow ss) []),some (.ints (some .u64) lv)]=>some (.pre (jZ p q ss lv/\aIB nd lv) (.ret (.tup []) (auH e (cnLf k ok nd lv ⟨c1,c2,c3,c4,c5⟩) ss lv)))
 | _,_=>none
theorem XV:sT' 137 aulfS:=by
 intro args h o ho K hK;unfold aulfS at ho;split at ho
 case h_2=>cases ho
 rename_i k a o w ok nd c1 c2 c3 c4 c5 p q e ss lv;cases ho;obtain⟨⟨⟨rfl,rfl⟩,⟨n0,n1,l⟩⟩,hK⟩:=hK;have hK:K (.tup []) (auH e (cnLf k ok nd lv ⟨c1,c2,c3,c4,c5⟩) ss lv):=hK;refine aLw (GP e ⟨c1,c2,c3,c4,c5⟩ ss lv k a o w ok nd K ?_);unfold GO;have hW:W (nd - 1)=nd - 1:=cG ⟨by omega,by omega⟩
 have hB: ∀ {A B C:Prop},(frB lv nd=true->A)->(frB lv nd=false->B)->((0<=W (nd - 1)/\W (nd - 1)<(lv.length:Int))/\0+Int.toNat (W (nd - 1))*1<lv.length/\(2:Int)≠0/\bif ieq (Int.tmod (List.getD lv (0+Int.toNat (W (nd - 1))*1) 0) 2) 0 then A else B):=fun ha hb=>⟨⟨by rw [hW];omega,by rw [hW];omega⟩,by rw [hW];omega,by decide,aT ha hb⟩
 refine aT (fun h1=>aT (fun h2=>?_) (fun h2=>aT (fun h3=>?_) (fun h3=>?_))) (fun h1=>aT (fun h3=>?_) (fun h3=>?_))
 ·unfold cnLf at hK;rw [h1,h2]at hK;exact hK
 ·exfalso;rw [rZ h1]at h3;cases h3
 ·unfold cnLf at hK;rw [h1,h2,h3]at hK;exact hK
 ·refine hB (C:=True) (fun h5=>?_) (fun h5=>?_)
  ·unfold cnLf at hK;rw [h1,h3,h5]at hK;exact hK
  ·unfold cnLf at hK;rw [h1,h3,h5]at hK;exact hK
 ·unfold cnLf at hK;rw [h1,h3]at hK;exact hK
noncomputable def EAv:Env Ob Tryz.prog:=sN ((EAu.addS 136 auchS XU).addS 137 aulfS XV) rfl
def noU(e:EGS)(c:CNT)(ss:List (List Int))(m:Nat)(lv:List Int)(K:AVal->aC Ob->Prop):Prop:=((0:Int)<=(EGS.s e).2/\(EGS.s e).2<=(100000:Int))/\((0:Int)<=W ((↑ss.length:Int) - 1)/\W ((↑ss.length:Int) - 1)<(↑ss.length:Int))/\0+Int.toNat (W ((↑ss.length:Int) - 1))*(1:Nat)<ss.length/\((lE' (bF e)/\lE' (slAt ss (0+Int.toNat (W ((↑ss.length:Int) - 1))*1)))/\List.length (bF e)<=(4294967296:Nat))/\bif !eE (bF e) (slAt ss (0+Int.toNat (W ((↑ss.length:Int) - 1))*1))then(0+Int.toNat (W ((↑ss.length:Int) - 1))*(1:Nat)<ss.length/\slAt ss (0+Int.toNat (W ((↑ss.length:Int) - 1))*1)=slAt ss (0+Int.toNat (W ((↑ss.length:Int) - 1))*1))/\(1=1/\0=0/\1=1/\lE' ss/\ss.length+(1:Nat)<=(4294967296:Nat)/\6=6/\0=0/\lE' (bF e)/\1=1)/\K (.tup []) [some (.cells [.ptr 1 0,.int .i64 c.1,.int .i64 c.2,.int .i64 c.3,.int .i64 c.4,.int .i64 c.5,.slice 4 0 (ss.length+1) 1,.slice 3 0 m 1]),some (.abs (.engine e) []),none,some (.ints (some .u64) lv),some (.abs (.srow (ss++ [bF e])) [])]else K (.tup []) [some (.cells [.ptr 1 0,.int .i64 c.1,.int .i64 c.2,.int .i64 c.3,.int .i64 c.4,.int .i64 c.5,.slice 2 0 ss.length 1,.slice 3 0 m 1]),some (.abs (.engine e) []),some (.abs (.shole ss (0+Int.toNat (W ((↑ss.length:Int) - 1))*1)) [4]),some (.ints (some .u64) lv),some (.ints (some .i64) (slAt ss (0+Int.toNat (W ((↑ss.length:Int) - 1))*1)))]
def noT(e:EGS)(c:CNT)(ss:List (List Int))(lv:List Int)(K:AVal->aC Ob->Prop):Prop:=((((0:Int)<=(EGS.s e).1/\(EGS.s e).1<=(100000:Int))/\((0:Int)<=(EGS.s e).2/\(EGS.s e).2<=(100000:Int))/\(-1099511627776:Int)<=(1:Int)/\(1:Int)<=(1099511627776:Int))/\True)/\True/\bif bG (EGS.s e).2 (W (W ((EGS.s e).6 - ((EGS.s e).2+4+1))+1))then(jZ ss.length lv.length ss lv/\aIB (W (W ((EGS.s e).6 - ((EGS.s e).2+4+1))+1)) lv)/\True/\((0:Int)<=W (W (W ((EGS.s e).6 - ((EGS.s e).2+4+1))+1) - 1)/\W (W (W ((EGS.s e).6 - ((EGS.s e).2+4+1))+1) - 1)<(↑lv.length:Int))/\0+Int.toNat (W (W (W ((EGS.s e).6 - ((EGS.s e).2+4+1))+1) - 1))*(1:Nat)<lv.length/\noU e (cnLf (EGS.s e).5 (EGS.s e).9 (W (W ((EGS.s e).6 - ((EGS.s e).2+4+1))+1)) lv c) ss lv.length (List.set lv (0+Int.toNat (W (W (W ((EGS.s e).6 - ((EGS.s e).2+4+1))+1) - 1))*1) (aE (EGS.s e).3 (EGS.s e).6)) K else noU e c ss lv.length lv K
def aIM(e:EGS)(c:CNT)(ss:List (List Int))(lv:List Int)(K:AVal->aC Ob->Prop):Prop:=True/\True/\bif (EGS.s e).9 then bif ieq (EGS.s e).5 2 then(jZ ss.length lv.length ss lv/\chOk (EGS.s e).2 lv)/\noT e (cnCh (EGS.s e).2 (EGS.s e).6 lv c) ss lv K else bif ieq (EGS.s e).5 3 then(jZ ss.length lv.length ss lv/\chOk (EGS.s e).2 lv)/\noT e (cnCh (EGS.s e).2 (EGS.s e).6 lv c) ss lv K else noT e c ss lv K else noT e c ss lv K
theorem TY(e:EGS)(c:CNT)(ss:List (List Int))(lv:List Int)(K:AVal->aC Ob->Prop)(h:aIM e c ss lv K):cT' 113 [.ptr 0 0] (auH e c ss lv) (eJ 4 K):=by
 exact cM' (E:=EAv) (by kernel_rfl) h
abbrev auR(e:EGS)(c:CNT)(ss:List (List Int))(lv:List Int):aC Ob:=[some (.cells [.ptr 1 0,.int .i64 c.ch,.int .i64 c.tk,.int .i64 c.gv,.int .i64 c.lo,.int .i64 c.tw,.slice 4 0 ss.length 1,.slice 3 0 lv.length 1]),some (.abs (.engine e) []),none,some (.ints (some .u64) lv),some (.abs (.srow ss) [])]
theorem aL7{n l i k:Nat}{ws:List (List Int)}{v:AVal}{g:aC Ob}(hl:aL g l=some (.abs (.shole ws i) [k]))(hk:aL g k=some (.ints (some .i64) (slAt ws i)))(hkl:k≠l)(hi:i<ws.length):
 aF (obI tbl) n v g v ((g.set l (some (.abs (.srow ws) []))).set k none):=by
 intro V hR w' x h1 h2 h3 h4;refine⟨V,fun _ _ _ h=>h,?_,by simpa using h3,h4,?_⟩
 ·intro m hm;exact h2 m (by simpa using hm)
 ·have h5:=h1.backS BI.toRowS (sJ hi) (fun _=>rfl) hl hk hkl
  have h6:ws.set i (slAt ws i)=ws:=by
   apply List.ext_getElem?;intro j;rw [List.getElem?_set];split
   ·rename_i e;subst e;exact(sJ hi).symm
   ·rfl
  have h7:=h5;change Inv (obI tbl) V (toF ((List.set g l (some (.abs (.srow (ws.set i (slAt ws i))) []))).set k none)) hR w' at h7;rw [h6]at h7;exact h7
def ndI(e:EGS):Int:=W (W (e.s.a - (e.s.n+4+1))+1)
def naC(e:EGS)(lv:List Int)(c:CNT):CNT:=bif bG e.s.n (ndI e)then cnLf e.s.k e.s.ok (ndI e) lv (bif e.s.ok&&(ieq e.s.k 2||ieq e.s.k 3)then cnCh e.s.n e.s.a lv c else c)else bif e.s.ok&&(ieq e.s.k 2||ieq e.s.k 3)then cnCh e.s.n e.s.a lv c else c
def naL(e:EGS)(lv:List Int):List Int:=bif bG e.s.n (ndI e)then lv.set (0+Int.toNat (W (ndI e - 1))*1) (aE e.s.xs e.s.a)else lv
def naS(e:EGS)(ss:List (List Int)):List (List Int):=bif !eE (bF e) (slAt ss (0+Int.toNat (W ((ss.length:Int) - 1))*1))then ss++ [bF e]else ss
theorem aA3(e:EGS)(lv:List Int):(naL e lv).length =lv.length:=by
 unfold naL;cases bG e.s.n (ndI e)with
 | true=>exact List.length_set
 | false=>rfl
structure XS (e:EGS) (ss:List (List Int)) (lv:List Int):Prop where
 t:0<=e.s.t/\e.s.t<=100000
 n:0<=e.s.n/\e.s.n<=100000
 l:e.s.n<=(lv.length:Int)
 s0:1<=ss.length
 s1:ss.length+1<=4294967296
 it:(bF e).length <=4294967296
theorem TW(e:EGS)(c:CNT)(ss:List (List Int))(m:Nat)(lv:List Int)(K:AVal->aC Ob->Prop)(hm:m=lv.length)(n0:0<=e.s.n)(n1:e.s.n<=100000)(s0:1<=ss.length)(s1:ss.length+1<=4294967296)(it:(bF e).length <=4294967296)(hK:K (.tup []) (auR e c (naS e ss) lv)):noU e c ss m lv (cS (obI tbl) 4 K):=by
 subst hm;have hW:W ((ss.length:Int) - 1)=(ss.length:Int) - 1:=cG ⟨by omega,by omega⟩
 have hi:0+Int.toNat (W ((ss.length:Int) - 1))*1<ss.length:=by rw [hW];omega
 refine⟨⟨n0,n1⟩,⟨by rw [hW];omega,by rw [hW];omega⟩,hi,⟨⟨rfl,rfl⟩,it⟩,aT (fun h=>?_) (fun h=>?_)⟩
 ·refine⟨⟨hi,rfl⟩,⟨rfl,rfl,rfl,rfl,s1,rfl,rfl,rfl,rfl⟩,?_⟩;have e1:naS e ss=ss++ [bF e]:=by unfold naS;rw [h];rfl
  rw [e1]at hK;have e2:(ss++ [bF e]).length =ss.length+1:=by simp
  exact⟨⟨_,_,aLM _ _ _,by rw [<-e2];exact hK⟩⟩
 ·have e1:naS e ss=ss:=by unfold naS;rw [h];rfl
  rw [e1]at hK;exact⟨⟨_,_,(aL7 (l:=2) (k:=4) rfl rfl dS hi).trans ((aF.move 2 (of_decide_eq_true rfl)).trans (aF.pick [0,1,2,3,5] rfl)),hK⟩⟩
theorem AQ(e:EGS)(c:CNT)(ss:List (List Int))(lv:List Int)(K:AVal->aC Ob->Prop)(h:XS e ss lv)(hK:K (.tup []) (auR e (bif bG e.s.n (ndI e)then cnLf e.s.k e.s.ok (ndI e) lv c else c) (naS e ss) (naL e lv))):noT e c ss lv (cS (obI tbl) 4 K):=by
 obtain⟨⟨t0,t1⟩,⟨n0,n1⟩,l,s0,s1,it⟩:=h;refine⟨⟨⟨⟨t0,t1⟩,⟨n0,n1⟩,by decide,by decide⟩,trivial⟩,trivial,aT (fun h1=>?_) (fun h1=>?_)⟩
 ·have h1:bG e.s.n (ndI e)=true:=h1;have h2:=eO.1 h1;have hW:W (ndI e - 1)=ndI e - 1:=cG ⟨by omega,by omega⟩
  have hi:0+Int.toNat (W (ndI e - 1))*1<lv.length:=by rw [hW];omega
  have hl:=aA3 e lv;rw [h1]at hK;have e1:naL e lv=lv.set (0+Int.toNat (W (ndI e - 1))*1) (aE e.s.xs e.s.a):=by unfold naL;rw [h1];rfl
  refine⟨⟨⟨rfl,rfl⟩,⟨h2.1,by show ndI e<=100000;omega,by show ndI e<=(lv.length:Int);omega⟩⟩,trivial,⟨by show 0<=W (ndI e - 1);rw [hW];omega,by show W (ndI e - 1)<(lv.length:Int);rw [hW];omega⟩,hi,?_⟩
  refine TW e _ ss _ _ K (by rw [List.length_set]) n0 n1 s0 s1 it ?_
  rw [e1]at hK;exact hK
 ·have h1:bG e.s.n (ndI e)=false:=h1;rw [h1]at hK;have e1:naL e lv=lv:=by unfold naL;rw [h1];rfl
  rw [e1]at hK;exact TW e c ss _ lv K rfl n0 n1 s0 s1 it hK
def aunoS:aI Ob:=fun args h=>match args,h with
 | [.ptr 0 0],[some (.cells [.ptr 1 0,.int .i64 c1,.int .i64 c2,.int .i64 c3,.int .i64 c4,.int .i64 c5,.slice 2 0 p 1,.slice 3 0 q 1]),some (.abs (.engine e) []),some (.abs (.srow ss) []),some (.ints (some .u64) lv)]=>some (.pre (jZ p q ss lv/\XS e ss lv) (.ret (.tup []) (auR e (naC e lv ⟨c1,c2,c3,c4,c5⟩) (naS e ss) (naL e lv))))
 | _,_=>none
theorem XW:sT' 113 aunoS:=by
 intro args h o ho K hK;unfold aunoS at ho;split at ho
 case h_2=>cases ho
 rename_i c1 c2 c3 c4 c5 p q e ss lv;cases ho;obtain⟨⟨⟨rfl,rfl⟩,aa⟩,hK⟩:=hK;have hK:K (.tup []) (auR e (naC e lv ⟨c1,c2,c3,c4,c5⟩) (naS e ss) (naL e lv)):=hK;refine aLG ?_;refine aA.keep (TY e ⟨c1,c2,c3,c4,c5⟩ ss lv _ ?_);have hc:chOk e.s.n lv:=⟨aa.n.1,aa.n.2,aa.l⟩;unfold naC at hK;refine⟨trivial,trivial,aT (fun h1=>aT (fun h2=>?_) (fun h2=>aT (fun h3=>?_) (fun h3=>?_))) (fun h1=>?_)⟩
 ·have h1:e.s.ok=true:=h1;have h2:ieq e.s.k 2=true:=h2;rw [h1,h2]at hK;exact⟨⟨⟨rfl,rfl⟩,hc⟩,AQ e _ ss lv K aa (by rw [h1];exact hK)⟩
 ·have h1:e.s.ok=true:=h1;have h2:ieq e.s.k 2=false:=h2;have h3:ieq e.s.k 3=true:=h3;rw [h1,h2,h3]at hK;exact⟨⟨⟨rfl,rfl⟩,hc⟩,AQ e _ ss lv K aa (by rw [h1];exact hK)⟩
 ·have h1:e.s.ok=true:=h1;have h2:ieq e.s.k 2=false:=h2;have h3:ieq e.s.k 3=false:=h3;rw [h1,h2,h3]at hK;exact AQ e ⟨c1,c2,c3,c4,c5⟩ ss lv K aa (by rw [h1];exact hK)
 ·have h1:e.s.ok=false:=h1;rw [h1]at hK;exact AQ e ⟨c1,c2,c3,c4,c5⟩ ss lv K aa (by rw [h1];exact hK)
noncomputable def EAw:Env Ob Tryz.prog:=sN (EAv.addS 113 aunoS XW) rfl
def apC(th:Int)(e:EGS)(lv:List Int)(c:CNT):CNT:=bif (pkF th e).1 then naC (pkF th e).2 lv c else c
def apS(th:Int)(e:EGS)(ss:List (List Int)):List (List Int):=bif (pkF th e).1 then naS (pkF th e).2 ss else ss
def FP(th:Int)(e:EGS)(lv:List Int):List Int:=bif (pkF th e).1 then naL (pkF th e).2 lv else lv
structure QM (th:Int) (e:EGS) (ss:List (List Int)) (lv:List Int):Prop where
 p:aBe th e
 a:(pkF th e).1=true->XS (pkF th e).2 ss lv
def aHi(e:EGS)(c:CNT)(ss:List (List Int))(lv:List Int)(th:Int)(K:AVal->aC Ob->Prop):Prop:=aBe th e/\bif !(pkF th e).1 then K (.bool false) [some (.cells [.ptr 1 0,.int .i64 c.1,.int .i64 c.2,.int .i64 c.3,.int .i64 c.4,.int .i64 c.5,.slice 2 0 ss.length 1,.slice 3 0 lv.length 1]),some (.abs (.engine (pkF th e).2) []),some (.abs (.srow ss) []),some (.ints (some .u64) lv)]else(jZ ss.length lv.length ss lv/\XS (Prod.snd (pkF th e)) ss lv)/\K (.bool true) [some (.cells [.ptr 1 0,.int .i64 (naC (pkF th e).2 lv c).1,.int .i64 (naC (pkF th e).2 lv c).2,.int .i64 (naC (pkF th e).2 lv c).3,.int .i64 (naC (pkF th e).2 lv c).4,.int .i64 (naC (pkF th e).2 lv c).5,.slice 4 0 (List.length (naS (pkF th e).2 ss)) 1,.slice 3 0 (List.length (naL (pkF th e).2 lv)) 1]),some (.abs (.engine (pkF th e).2) []),none,some (.ints (some .u64) (naL (pkF th e).2 lv)),some (.abs (.srow (naS (pkF th e).2 ss)) [])]
theorem QN(e:EGS)(c:CNT)(ss:List (List Int))(lv:List Int)(th:Int)(K:AVal->aC Ob->Prop)(h:aHi e c ss lv th K):cT' 57 [.ptr 0 0,.int .i64 th] (auH e c ss lv) (eJ 4 K):=by
 exact cM' (E:=EAw) (by kernel_rfl) h
def aupkS:aI Ob:=fun args h=>match args,h with
 | [.ptr 0 0,.int .i64 th],[some (.cells [.ptr 1 0,.int .i64 c1,.int .i64 c2,.int .i64 c3,.int .i64 c4,.int .i64 c5,.slice 2 0 p 1,.slice 3 0 q 1]),some (.abs (.engine e) []),some (.abs (.srow ss) []),some (.ints (some .u64) lv)]=>some (.pre (jZ p q ss lv/\QM th e ss lv) (.ret (.bool (pkF th e).1) (auR (pkF th e).2 (apC th e lv ⟨c1,c2,c3,c4,c5⟩) (apS th e ss) (FP th e lv))))
 | _,_=>none
theorem JC:sT' 57 aupkS:=by
 intro args h o ho K hK;unfold aupkS at ho;split at ho
 case h_2=>cases ho
 rename_i th c1 c2 c3 c4 c5 p q e ss lv;cases ho;obtain⟨⟨⟨rfl,rfl⟩,⟨hp,ha⟩⟩,hK⟩:=hK;have hK:K (.bool (pkF th e).1) (auR (pkF th e).2 (apC th e lv ⟨c1,c2,c3,c4,c5⟩) (apS th e ss) (FP th e lv)):=hK;unfold apC apS FP at hK;refine aLG ?_;refine aA.keep (QN e ⟨c1,c2,c3,c4,c5⟩ ss lv th _ ?_);refine⟨hp,aT (fun h1=>?_) (fun h1=>?_)⟩
 ·have h1:(pkF th e).1=false:=by simpa using h1
  rw [h1]at hK;exact⟨⟨_,_,aF.move 2 (of_decide_eq_true rfl),hK⟩⟩
 ·have h1:(pkF th e).1=true:=by simpa using h1
  rw [h1]at hK;exact⟨⟨⟨rfl,rfl⟩,ha h1⟩,⟨⟨_,_,aLM _ _ _,hK⟩⟩⟩
noncomputable def EAx:Env Ob Tryz.prog:=sN (EAw.addS 57 aupkS JC) rfl
abbrev KS:AVal:=.func (.func 57) [.ptr 0 0] []
abbrev aDq(e:EGS)(c:CNT)(ss:List (List Int))(lv:List Int)(k:Int):aC Ob:=[some (.cells [.ptr 1 0,.int .i64 c.ch,.int .i64 c.tk,.int .i64 c.gv,.int .i64 c.lo,.int .i64 c.tw,.slice 6 0 ss.length 1,.slice 3 0 lv.length 1]),some (.abs (.engine e) []),none,some (.ints (some .u64) lv),some (.cells [KS]),some (.cells [.int .i64 k]),some (.abs (.srow ss) [])]
abbrev auT(n:Nat)(row:Nat->List AVal):List AVal:=[KS,.view n 2 row,.ptr 4 0,.raw undef,.int .i64 0,.ptr 5 0,.raw undef,.view n 2 row,.O]++List.replicate 7 (.raw undef)
def SL(e:EGS)(c:CNT)(ss:List (List Int))(lv:List Int)(n:Nat)(row:Nat->List AVal)(K:List AVal->aC Ob->Prop):Prop:=K [.func (Fn.func 57) [.ptr 0 0] [],.view n 2 row,.ptr 4 0,.raw (Value.tuple {toList:=[] }),.int .i64 0,.ptr 5 0,.raw (Value.tuple {toList:=[] }),.view n 2 row,.func (Fn.func 114) [] [.ptr 6 0],.raw (Value.tuple {toList:=[] }),.raw (Value.tuple {toList:=[] }),.raw (Value.tuple {toList:=[] }),.raw (Value.tuple {toList:=[] }),.raw (Value.tuple {toList:=[] }),.raw (Value.tuple {toList:=[] }),.raw (Value.tuple {toList:=[] })] [some (.cells [.ptr 1 0,.int .i64 c.1,.int .i64 c.2,.int .i64 c.3,.int .i64 c.4,.int .i64 c.5,.slice 2 0 ss.length 1,.slice 3 0 lv.length 1]),some (.abs (.engine e) []),some (.abs (.srow ss) []),some (.ints (some .u64) lv),some (.cells [.func (Fn.func 57) [.ptr 0 0] []]),some (.cells [.int .i64 0]),some (.cells [.view n 2 row])]
theorem G9(e:EGS)(c:CNT)(ss:List (List Int))(lv:List Int)(n:Nat)(row:Nat->List AVal)(K:List AVal->aC Ob->Prop)(h:SL e c ss lv n row K):Ev (bX EAx (fT EAx LL 9) 16 JF ([.func (.func 57) [.ptr 0 0] [],.view n 2 row]++List.replicate 14 (.raw undef)) (auH e c ss lv) K):=aJ (q:=SL e c ss lv n row K) (by kernel_rfl) h
abbrev w3z(c:CNT)(e:EGS)(lv:List Int)(ss:List (List Int))(u:Int):Option (aG Ob):=some (.cells [.ptr 1 0,.int .i64 (apC u e lv c).1,.int .i64 (apC u e lv c).2,.int .i64 (apC u e lv c).3,.int .i64 (apC u e lv c).4,.int .i64 (apC u e lv c).5,.slice 7 0 (List.length (apS u e ss)) 1,.slice 3 0 (List.length (FP u e lv)) 1])
def HA(e:EGS)(c:CNT)(ss:List (List Int))(lv:List Int)(k:Int)(n:Nat)(row:Nat->List AVal)(u:Int)(K:aC Ob->Prop):Prop:=(jZ ss.length lv.length ss lv/\QM u e ss lv)/\bif (pkF u e).1 then K [w3z c e lv ss u,some (.abs (.engine (pkF u e).2) []),none,some (.ints (some .u64) (FP u e lv)),some (.cells [.func (Fn.func 57) [.ptr 0 0] []]),some (.cells [.int .i64 (W (k+1))]),none,some (.abs (.srow (apS u e ss)) [])]else K [w3z c e lv ss u,some (.abs (.engine (pkF u e).2) []),none,some (.ints (some .u64) (FP u e lv)),some (.cells [.func (Fn.func 57) [.ptr 0 0] []]),some (.cells [.int .i64 k]),none,some (.abs (.srow (apS u e ss)) [])]
theorem HB(e:EGS)(c:CNT)(ss:List (List Int))(lv:List Int)(k:Int)(n:Nat)(row:Nat->List AVal)(u:Int)(K:aC Ob->Prop)(h:HA e c ss lv k n row u K):Ev (bX EAx (fT EAx LL 9) 16 (qG iM) (List.set (auT n row) 9 (.int .i64 u)) (aDq e c ss lv k) (fun tm1 h1=>bX EAx (fT EAx LL 9) 16 (sY iM) tm1 h1 (fun _ h2=>K h2))):=aJ (q:=HA e c ss lv k n row u K) (by kernel_rfl) h
def SM(e:EGS)(c:CNT)(ss:List (List Int))(lv:List Int)(k:Int)(n:Nat)(row:Nat->List AVal)(K:List AVal->aC Ob->Prop):Prop:=K [.func (Fn.func 57) [.ptr 0 0] [],.view n 2 row,.ptr 4 0,.raw (Value.tuple {toList:=[] }),.int .i64 k,.ptr 5 0,.raw (Value.tuple {toList:=[] }),.view n 2 row,.O,.raw (Value.tuple {toList:=[] }),.raw (Value.tuple {toList:=[] }),.raw (Value.tuple {toList:=[] }),.raw (Value.tuple {toList:=[] }),.raw (Value.tuple {toList:=[] }),.raw (Value.tuple {toList:=[] }),.int .i64 k] [some (.cells [.ptr 1 0,.int .i64 c.1,.int .i64 c.2,.int .i64 c.3,.int .i64 c.4,.int .i64 c.5,.slice 6 0 ss.length 1,.slice 3 0 lv.length 1]),some (.abs (.engine e) []),none,some (.ints (some .u64) lv),some (.cells [.func (Fn.func 57) [.ptr 0 0] []]),some (.cells [.int .i64 k]),some (.abs (.srow ss) [])]
theorem HD(e:EGS)(c:CNT)(ss:List (List Int))(lv:List Int)(k:Int)(n:Nat)(row:Nat->List AVal)(K:List AVal->aC Ob->Prop)(h:SM e c ss lv k n row K):Ev (bX EAx (fT EAx LL 9) 16 JG (auT n row) (aDq e c ss lv k) K):=aJ (q:=SM e c ss lv k n row K) (by kernel_rfl) h
def lvI(e:EGS)(i:Nat):List Int:=(List.range i).map fun(j:Nat)=>aE e.s.xs (e.s.n+4+((j:Int)+1))
structure anI (e:EGS) (i:Nat):Prop where
 h:(i:Int)<=e.s.n
def WR(e:EGS):Hint Ob:= {X:=Nat,st:=fun i=>([.ptr 0 0,.O,.O,.ptr 1 0,.ptr 5 0,.int .i64 ((i:Int)+1)]++List.replicate 28 .O,[some (.abs (.engine e) []),some (.cells [.ptr 0 0,.int .i64 0,.int .i64 0,.int .i64 0,.int .i64 0,.int .i64 0,.slice 2 0 1 1,.slice 4 0 (lvI e i).length 1]),some (.cells [.slice 3 0 (bF e).length 1]),some (.ints (some .i64) (bF e)),some (.ints (some .u64) (lvI e i)),some (.cells [.int .i64 e.s.t,.int .i64 e.s.n])]),ok:=anI e,mu:=fun i=>(e.s.n - (i:Int)).toNat,keep:=[0,3,4,5],casts:=[(.cell 1 7,.ints (some .u64)),(.cell 2 7,.ints (some .u64)),(.cell 3 7,.ints (some .u64)),(.cell 4 7,.ints (some .u64))] }
def LAN(e:EGS):FuncId->Nat->Option (mS Ob):=fun f j=>match Nat.beq f 65,j with
 | true,4=>some (.states (WR e))
 | _,_=>none
abbrev w40(e:EGS):Option (aG Ob):=some (.cells [.slice 3 0 (List.length (bF e)) 1])
def aCb(e:EGS)(K:AVal->aC Ob->Prop):Prop:=((0:Int)<=(EGS.s e).2/\(EGS.s e).2<=(100000:Int))/\True/\dE (WR e) (Hint.ok (WR e)) (.ptr 0 0::.O::.O::.ptr 1 0::.ptr 5 0::.int .i64 1::(tO' 28 [])) [some (.abs (.engine e) []),some (.cells [.ptr 0 0,.int .i64 0,.int .i64 0,.int .i64 0,.int .i64 0,.int .i64 0,.slice 2 0 1 1,.slice 4 0 0 1]),w40 e,some (.ints (some .i64) (bF e)),some (.ints (some .u64) []),some (.cells [.int .i64 (EGS.s e).1,.int .i64 (EGS.s e).2])]/\ ∀(x:Nat),anI e x->True/\bif bG (EGS.s e).2 ((↑x:Int)+1)then((((0:Int)<=(EGS.s e).1/\(EGS.s e).1<=(100000:Int))/\((0:Int)<=(EGS.s e).2/\(EGS.s e).2<=(100000:Int))/\(-1099511627776:Int)<=(↑x:Int)+1/\(↑x:Int)+(1:Int)<=(1099511627776:Int))/\True)/\True/\(0=0/\lE' (lvI e x)/\1=1/\List.length (lvI e x)+(1:Nat)<=(4294967296:Nat))/\dE (WR e) (fun x'=>Hint.ok (WR e) x'/\Hint.mu (WR e) x'<Hint.mu (WR e) x) (.ptr 0 0::.O::.O::.ptr 1 0::.ptr 5 0::.int .i64 (W ((↑x:Int)+1+1))::(tO' 28 [])) [some (.abs (.engine e) []),some (.cells [.ptr 0 0,.int .i64 0,.int .i64 0,.int .i64 0,.int .i64 0,.int .i64 0,.slice 2 0 1 1,.slice 4 0 (List.length (lvI e x)+1) 1]),w40 e,some (.ints (some .i64) (bF e)),some (.ints (some .u64) (lvI e x++ [aE (EGS.s e).3 ((EGS.s e).2+4+((↑x:Int)+1))])),some (.cells [.int .i64 (EGS.s e).1,.int .i64 (EGS.s e).2])]else K (.ptr 1 0) [some (.abs (.engine e) []),some (.cells [.ptr 0 0,.int .i64 0,.int .i64 0,.int .i64 0,.int .i64 0,.int .i64 0,.slice 2 0 1 1,.slice 4 0 (List.length (lvI e x)) 1]),w40 e,some (.ints (some .i64) (bF e)),some (.ints (some .u64) (lvI e x))]
theorem LF(e:EGS)(K:AVal->aC Ob->Prop)(h:aCb e K):cT' 65 [.ptr 0 0] [some (.abs (.engine e) [])] (eJ 1 K):=by
 exact aD (E:=EAx) Tryz.checked.mixed (L:=LAN e) (n:=10) (aJ (by kernel_rfl) h)
theorem aIF(e:EGS)(i:Nat):lvI e i++ [aE e.s.xs (e.s.n+4+((i:Int)+1))]=lvI e (i+1):=by
 unfold lvI;rw [List.range_succ,List.map_append];rfl
theorem kC(e:EGS)(i:Nat):(lvI e i).length =i:=by unfold lvI;simp
structure B4 (e:EGS):Prop where
 t:0<=e.s.t/\e.s.t<=100000
 n:0<=e.s.n/\e.s.n<=100000
 it:(bF e).length <=4294967296
abbrev auN(e:EGS):aC Ob:=[some (.abs (.engine e) []),some (.cells [.ptr 0 0,.int .i64 0,.int .i64 0,.int .i64 0,.int .i64 0,.int .i64 0,.slice 2 0 1 1,.slice 3 0 (lvI e e.s.n.toNat).length 1]),some (.abs (.srow [bF e]) []),some (.ints (some .u64) (lvI e e.s.n.toNat))]
abbrev w41(m:Nat):Option (aG Ob):=some (.cells [.ptr 0 0,.int .i64 0,.int .i64 0,.int .i64 0,.int .i64 0,.int .i64 0,.slice 2 0 1 1,.slice 4 0 m 1])
theorem aHj(e:EGS)(lv:List Int)(n m:Nat):aF (obI tbl) 1 (.ptr 1 0) [some (.abs (.engine e) []),w41 m,some (.cells [.slice 3 0 (bF e).length 1]),some (.ints (some .i64) (bF e)),some (.ints (some .u64) lv)]
 (.ptr 1 0) [some (.abs (.engine e) []),some (.cells [.ptr 0 0,.int .i64 0,.int .i64 0,.int .i64 0,.int .i64 0,.int .i64 0,.slice 2 0 1 1,.slice 3 0 m 1]),some (.abs (.srow [bF e]) []),some (.ints (some .u64) lv)]:=
 (aF.move 3 (of_decide_eq_true rfl)).trans ((aF.pack [some (.abs (.engine e) []),w41 m,some (.abs (.srow [bF e]) []),none,some (.ints (some .u64) lv)] (.srow [bF e]) 2 0 (eI HR [bF e]) [] (by kernel_rfl) rfl rfl (by kernel_rfl)).trans (aF.pick [0,1,2,4] rfl))
def auNS:aI Ob:=fun args h=>match args,h with
 | [.ptr 0 0],[some (.abs (.engine e) [])]=>some (.pre (B4 e) (.ret (.ptr 1 0) (auN e)))
 | _,_=>none
theorem aDr:sT' 65 auNS:=by
 intro args h o ho K hK;unfold auNS at ho;split at ho
 case h_2=>cases ho
 rename_i e;cases ho;obtain⟨⟨ht,hn,hit⟩,hK⟩:=hK;have hK:K (.ptr 1 0) (auN e):=hK;refine aLG ?_;refine aA.keep (LF e _ ?_);refine⟨hn,trivial,aR (H:=WR e) (0:Nat) rfl ⟨by show((0:Nat):Int)<=_;omega⟩,?_⟩
 rintro i ⟨hi⟩;refine⟨trivial,aT (fun h1=>?_) (fun h1=>?_)⟩
 ·have h2:=eO.1 h1;have hl:=kC e i
  have hW:W ((i:Int)+1+1)=((i+1:Nat):Int)+1:=by
   rw [show((i+1:Nat):Int)+1=(i:Int)+1+1 by omega]
   exact cG ⟨by omega,by omega⟩
  have ac:(lvI e i).length +1=(lvI e (i+1)).length :=by rw [kC,kC]
  refine⟨⟨⟨ht,hn,by omega,by omega⟩,trivial⟩,trivial,⟨rfl,rfl,rfl,by omega⟩,?_⟩
  rw [aIF,hW,ac];exact aR (H:=WR e) (i+1:Nat) rfl ⟨⟨by omega⟩,by show(e.s.n - ((i+1:Nat):Int)).toNat <(e.s.n - (i:Int)).toNat;omega⟩
 ·have aa:e.s.n.toNat=i:=by
   have: ¬(1<=(i:Int)+1/\(i:Int)+1<=e.s.n):=fun h=>by rw [eO.2 h]at h1;cases h1
   omega
  unfold auN at hK;rw [aa]at hK;exact⟨⟨_,_,aHj e _ 0 _,hK⟩⟩
noncomputable def EAy:Env Ob Tryz.prog:=sN ((EAx.addS 65 auNS aDr).addS 25 gn1S HO) rfl
structure asI (ss:List (List Int)) (i:Nat):Prop where
 h:i<ss.length
def HAS0(e:EGS)(c:CNT)(ss:List (List Int))(lv:List Int):Hint Ob:= {X:=Unit,st:=fun _=>([.ptr 0 0,.O,.O,.raw (.slice none 0 0),.O,.O,.O,.O,.O,.slice 2 0 ss.length 1,.int .i64 (ss.length:Int),.int .i64 0]++List.replicate 10 .O,auH e c ss lv),ok:=fun _=>True,mu:=fun _=>ss.length+1,keep:=[0,3,9,10,11],sel:=fun tm _=>match tm.getD 3 .O with | .raw _=>true | _=>false}
def uL(e:EGS)(c:CNT)(ss:List (List Int))(lv:List Int):Hint Ob:= {X:=Nat,st:=fun i=>([.ptr 0 0,.O,.O,.slice 5 0 (ss.take (i+1)).length 1,.O,.O,.O,.O,.O,.slice 2 0 ss.length 1,.int .i64 (ss.length:Int),.int .i64 ((i+1:Nat):Int)]++List.replicate 10 .O,[some (auC c ss.length lv.length),some (.abs (.engine e) []),some (.abs (.shole ss i) [4]),some (.ints (some .u64) lv),some (.ints (some .i64) (slAt ss i)),some (.abs (.srow (ss.take (i+1))) [])]),ok:=asI ss,mu:=fun i=>ss.length - i,keep:=[0,3,9,10,11] }
def LAS(e:EGS)(c:CNT)(ss:List (List Int))(lv:List Int):FuncId->Nat->Option (mS Ob):=fun f j=>match Nat.beq f 59,j with
 | true,3=>some (.cases [HAS0 e c ss lv,uL e c ss lv])
 | _,_=>none
abbrev w42(c:CNT)(lv:List Int)(ss:List (List Int)):Option (aG Ob):=some (.cells [.ptr 1 0,.int .i64 c.1,.int .i64 c.2,.int .i64 c.3,.int .i64 c.4,.int .i64 c.5,.slice 2 0 ss.length 1,.slice 3 0 lv.length 1])
def QS(e:EGS)(c:CNT)(ss:List (List Int))(lv:List Int)(K:AVal->aC Ob->Prop):Prop:=dE (HAS0 e c ss lv) (fun x=>Hint.ok (HAS0 e c ss lv) x/\rE none (Hint.mu (HAS0 e c ss lv) x)) [.ptr 0 0,.O,.O,.raw (Value.slice none 0 0),.O,.O,.O,.O,.O,.slice 2 0 ss.length 1,.int .i64 (↑ss.length:Int),.int .i64 0,.O,.O,.O,.O,.O,.O,.O,.O,.O,.O] [w42 c lv ss,some (.abs (.engine e) []),some (.abs (.srow ss) []),some (.ints (some .u64) lv)]/\(∀(x:Unit),True->bif ilt 0 (↑ss.length:Int)then((0:Int)<=(0:Int)/\(0:Int)<(↑ss.length:Int))/\0+Int.toNat 0*(1:Nat)<ss.length/\(lE' (slAt ss 0)/\List.length (slAt ss 0)<=(4294967296:Nat))/\(1=1/\5=5/\0=0/\lE' (slAt ss 0)/\1=1)/\dE (uL e c ss lv) (fun x_1=>Hint.ok (uL e c ss lv) x_1/\rE (some (Hint.mu (HAS0 e c ss lv) x)) (Hint.mu (uL e c ss lv) x_1)) [.ptr 0 0,.O,.O,.slice 5 0 1 1,.O,.O,.O,.O,.O,.slice 2 0 ss.length 1,.int .i64 (↑ss.length:Int),.int .i64 (W (0+1)),.O,.O,.O,.O,.O,.O,.O,.O,.O,.O] [w42 c lv ss,some (.abs (.engine e) []),some (.abs (.shole ss 0) [4]),some (.ints (some .u64) lv),some (.ints (some .i64) (slAt ss (0+Int.toNat 0*1))),some (.abs (.srow [slAt ss 0]) [])]else K (.raw (Value.slice none 0 0)) [w42 c lv ss,some (.abs (.engine e) []),some (.abs (.srow ss) []),some (.ints (some .u64) lv)])/\(∀(x:Nat),asI ss x->bif ilt (↑(x+1):Int) (↑ss.length:Int)then((0:Int)<=(↑(x+1):Int)/\(↑(x+1):Int)<(↑ss.length:Int))/\(x<ss.length/\slAt ss x=slAt ss x)/\0+Int.toNat (↑(x+1):Int)*(1:Nat)<ss.length/\(lE' (slAt ss (0+Int.toNat (↑(x+1):Int)*1))/\List.length (slAt ss (0+Int.toNat (↑(x+1):Int)*1))<=(4294967296:Nat))/\(1=1/\0=0/\1=1/\lE' (List.take (x+1) ss)/\List.length (List.take (x+1) ss)+(1:Nat)<=(4294967296:Nat)/\7=7/\0=0/\lE' (slAt ss (0+Int.toNat (↑(x+1):Int)*1))/\1=1)/\dE (uL e c ss lv) (fun x_1=>Hint.ok (uL e c ss lv) x_1/\rE (some (Hint.mu (uL e c ss lv) x)) (Hint.mu (uL e c ss lv) x_1)) [.ptr 0 0,.O,.O,.slice 5 0 (List.length (List.take (x+1) ss)+1) 1,.O,.O,.O,.O,.O,.slice 2 0 ss.length 1,.int .i64 (↑ss.length:Int),.int .i64 (W ((↑(x+1):Int)+1)),.O,.O,.O,.O,.O,.O,.O,.O,.O,.O] [w42 c lv ss,some (.abs (.engine e) []),some (.abs (.shole ss (0+Int.toNat (↑(x+1):Int)*1)) [4]),some (.ints (some .u64) lv),some (.ints (some .i64) (slAt ss (0+Int.toNat (↑(x+1):Int)*1))),some (.abs (.srow (List.take (x+1) ss++ [slAt ss (0+Int.toNat (↑(x+1):Int)*1)])) [])]else K (.slice 5 0 (List.length (List.take (x+1) ss)) 1) [w42 c lv ss,some (.abs (.engine e) []),some (.abs (.shole ss x) [4]),some (.ints (some .u64) lv),some (.ints (some .i64) (slAt ss x)),some (.abs (.srow (List.take (x+1) ss)) [])])/\True
theorem LG(e:EGS)(c:CNT)(ss:List (List Int))(lv:List Int)(K:AVal->aC Ob->Prop)(h:QS e c ss lv K):cT' 59 [.ptr 0 0] (auH e c ss lv) (eJ 4 K):=by
 exact aD (E:=EAy) Tryz.checked.mixed (L:=LAS e c ss lv) (n:=10) (aJ (by kernel_rfl) h)
structure LE (ss:List (List Int)):Prop where
 n0:1<=ss.length
 n1:ss.length<=4294967295
 l: ∀i,i<ss.length->(slAt ss i).length <=4294967296
theorem KX{ss:List (List Int)}{i:Nat}(hi:i<ss.length):ss.take i++ [slAt ss i]=ss.take (i+1):=by
 rw [List.take_succ,sJ hi];rfl
abbrev auHS(e:EGS)(c:CNT)(ss:List (List Int))(lv:List Int):aC Ob:=[some (auC c ss.length lv.length),some (.abs (.engine e) []),some (.abs (.srow ss) []),some (.ints (some .u64) lv),some (.abs (.srow ss) [])]
theorem aDt(e:EGS)(c:CNT)(ss:List (List Int))(lv:List Int)(K:AVal->aC Ob->Prop)(h:LE ss)(hK:K (.slice 4 0 ss.length 1) (auHS e c ss lv)):QS e c ss lv (cS (obI tbl) 4 K):=by
 obtain⟨n0,n1,hl⟩:=h;refine⟨aR (H:=HAS0 e c ss lv) () rfl ⟨trivial,trivial⟩,fun _ _=>?_,?_,trivial⟩
 ·refine aT (fun _=>⟨⟨by decide,by omega⟩,by show 0<_;omega,⟨rfl,hl 0 omz⟩,⟨rfl,rfl,rfl,rfl,rfl⟩,?_⟩) (fun h=>?_)
  ·refine aR (H:=uL e c ss lv) (0:Nat) ?_ ⟨⟨by omega⟩,by show ss.length - 0<ss.length+1;omega⟩
   have e1:ss.take (0+1)=[slAt ss 0]:=by rw [<-KX omz];rfl
   show(uL e c ss lv).st (0:Nat)=_;unfold uL;dsimp only;rw [e1];rfl
  ·rw [bC,dF']at h;omega
 ·rintro i ⟨hi⟩;refine aT (fun h=>?_) (fun h=>?_)
  ·rw [bC,dT']at h;have aa:i+1<ss.length:=by omega
   have ej:0+Int.toNat ((i+1:Nat):Int)*1=i+1:=by rw [Int.toNat_natCast];omega
   have hW:W (((i+1:Nat):Int)+1)=((i+1+1:Nat):Int):=by
    rw [show((i+1+1:Nat):Int)=((i+1:Nat):Int)+1 by omega]
    exact cG ⟨by omega,by omega⟩
   have ae:(ss.take (i+1)).length =i+1:=by rw [List.length_take];omega
   have ac:(ss.take (i+1)).length +1=(ss.take (i+1+1)).length :=by rw [List.length_take,List.length_take];omega
   rw [ej,hW,KX aa,ac];refine⟨⟨by omega,by omega⟩,⟨hi,rfl⟩,aa,⟨rfl,hl _ aa⟩,⟨rfl,rfl,rfl,rfl,by omega,rfl,rfl,rfl,rfl⟩,?_⟩
   exact aR (H:=uL e c ss lv) (i+1:Nat) rfl ⟨⟨aa⟩,by show ss.length - (i+1)<ss.length - i;omega⟩
  ·rw [bC,dF']at h;have et:ss.take (i+1)=ss:=List.take_of_length_le omz;rw [et];exact⟨⟨_,_,(aL7 (l:=2) (k:=4) rfl rfl dS hi).trans (aF.pick [0,1,2,3,5] rfl),hK⟩⟩
def auSS:aI Ob:=fun args h=>match args,h with
 | [.ptr 0 0],[some (.cells [.ptr 1 0,.int .i64 c1,.int .i64 c2,.int .i64 c3,.int .i64 c4,.int .i64 c5,.slice 2 0 p 1,.slice 3 0 q 1]),some (.abs (.engine e) []),some (.abs (.srow ss) []),some (.ints (some .u64) lv)]=>some (.pre (jZ p q ss lv/\LE ss) (.ret (.slice 4 0 ss.length 1) (auHS e ⟨c1,c2,c3,c4,c5⟩ ss lv)))
 | _,_=>none
theorem aDs:sT' 59 auSS:=by
 intro args h o ho K hK;unfold auSS at ho;split at ho
 case h_2=>cases ho
 rename_i c1 c2 c3 c4 c5 p q e ss lv;cases ho;obtain⟨⟨⟨rfl,rfl⟩,ha⟩,hK⟩:=hK;have hK:K (.slice 4 0 ss.length 1) (auHS e ⟨c1,c2,c3,c4,c5⟩ ss lv):=hK;refine aLG ?_;exact aA.keep (LG e ⟨c1,c2,c3,c4,c5⟩ ss lv _ (aDt e ⟨c1,c2,c3,c4,c5⟩ ss lv K ha hK))
noncomputable def EAz:Env Ob Tryz.prog:=sN (EAy.addS 59 auSS aDs) rfl
def CV(sh th nd tr:Int)(m:Nat)(vr:Nat->List AVal):EGS:=oA sh th nd tr m (vL vr) (vK vr) (vY vr)
def gn2S:aI Ob:=fun args h=>match args,h with
 | [.agg [.int .i64 sh,.int .i64 th,.int .i64 nd,.int .i64 tr],.view m 1 vr],[]=>some (.pre ((m<=1000000/\fX vr)/\gnC sh th nd tr m (vL vr) (vK vr) (vY vr)=0) (.ret (.tup [.ptr 0 0,.int .i64 0]) (egH (CV sh th nd tr m vr))))
 | _,_=>none
theorem SY:sT' 25 gn2S:=by
 intro args h o ho K hK;unfold gn2S at ho;split at ho
 case h_2=>cases ho
 rename_i sh th nd tr m vr;cases ho;have hS:gn1S [.agg [.int .i64 sh,.int .i64 th,.int .i64 nd,.int .i64 tr],.view m 1 vr] []=some (.pre ((m<=1000000/\fX vr)/\gnC sh th nd tr m (vL vr) (vK vr) (vY vr)=0) (.ret (.tup [.ptr 0 0,.int .i64 0]) (egH (oA sh th nd tr m (vL vr) (vK vr) (vY vr))))):=rfl;exact HO _ _ _ hS K hK
noncomputable def EBa:Env Ob Tryz.prog:=sN ((EAz.addS 25 gn2S SY).addR 26 cfR QZ) rfl
def aHc(sh th nd tr:Int)(m:Nat)(vr:Nat->List AVal)(K:AVal->aC Ob->Prop):Prop:=True/\(((m<=(1000000:Nat)/\fX vr)/\gnC sh th nd tr m (vL vr) (vK vr) (vY vr)=(0:Int))/\True)/\B4 (CV sh th nd tr m vr)/\K (.ptr 0 0) [some (.cells [.ptr 1 0,.int .i64 0,.int .i64 0,.int .i64 0,.int .i64 0,.int .i64 0,.slice 2 0 1 1,.slice 3 0 (List.length (lvI (CV sh th nd tr m vr) (Int.toNat (EGS.s (CV sh th nd tr m vr)).2))) 1]),some (.abs (.engine (CV sh th nd tr m vr)) []),some (.abs (.srow [bF (CV sh th nd tr m vr)]) []),some (.ints (some .u64) (lvI (CV sh th nd tr m vr) (Int.toNat (EGS.s (CV sh th nd tr m vr)).2)))]
theorem PZ(sh th nd tr:Int)(m:Nat)(vr:Nat->List AVal)(K:AVal->aC Ob->Prop)(h:aHc sh th nd tr m vr K):cT' 54 [.agg [.int .i64 sh,.int .i64 th,.int .i64 nd,.int .i64 tr,.view m 1 vr]] [] (eJ 0 K):=by
 exact cM' (E:=EBa) (by kernel_rfl) h
abbrev auB(e:EGS):aC Ob:=auH e ⟨0,0,0,0,0⟩ [bF e] (lvI e e.s.n.toNat)
def abS:aI Ob:=fun args h=>match args,h with
 | [.agg [.int .i64 sh,.int .i64 th,.int .i64 nd,.int .i64 tr,.view m 1 vr]],[]=>some (.pre (((m<=1000000/\fX vr)/\gnC sh th nd tr m (vL vr) (vK vr) (vY vr)=0)/\B4 (CV sh th nd tr m vr)) (.ret (.ptr 0 0) (auB (CV sh th nd tr m vr))))
 | _,_=>none
theorem aHd:sT' 54 abS:=by
 intro args h o ho K hK;unfold abS at ho;split at ho
 case h_2=>cases ho
 rename_i sh th nd tr m vr;cases ho;obtain⟨⟨h1,h2⟩,hK⟩:=hK;exact aLw (PZ sh th nd tr m vr K ⟨trivial,⟨h1,trivial⟩,h2,hK⟩)
end Go.Sh
namespace Go.Sh
open Go Go.Proofs
def TH(n:Nat):EGS:=Nat.repeat (fun x=>(pkF 0 x).2) n (oA 1 1 5 0 1 (fun _=>1) (fun _ _=>1) (fun _ _=>3))
def a22(k:Nat):EGS:=⟨1,1,5,0,(TH k).s,(TH k).h,(TH k).ws,Int.ofNat k⟩
variable [Con]
abbrev e22(k:Nat):aG Ob:=.abs (.engine (a22 k)) []
theorem TI:TH 0=a22 0:=by kernel_rfl
theorem w22(k:Nat):egW 1 5 (TH k):=by
 induction k with
 | zero=>exact JH (by kernel_rfl)
 | succ k ih=>exact(xC 0 ih).w
theorem K1:egW 1 5 (a22 0):=by rw [<-TI];exact w22 0
end Go.Sh
namespace Go.Sh
open Go Go.Proofs
variable [c:Con]
def new1S:aI Ob:=fun args h=>match args,h with
 | [.agg [.int .i64 sh,.int .i64 th,.int .i64 nd,.int .i64 tr],.slice 0 0 n 1],[some (.cells [.slice 1 0 n1 2]),some (.cells [.int .i64 p,.int .i64 q])]=>some (.pre ((n=1/\n1=1)/\(sh=1/\th=1/\nd=5/\tr=0)/\p=1/\q=3)
    (.ret (.tup [.ptr 2 0,.I 0]) [cE' [.slice 1 0 1 2],cE' [.I 1,.I 3],some (e22 0)]))
 | _,_=>none
theorem aA5:sT' 25 new1S:=by
 intro args h o ho K hK;unfold new1S at ho;split at ho
 case h_2=>cases ho
 rename_i sh th nd tr n n1 p q;cases ho;obtain⟨⟨⟨rfl,rfl⟩,⟨rfl,rfl,rfl,rfl⟩,rfl,rfl⟩,hK⟩:=hK;have hK:K (.tup [.ptr 2 0,.I 0]) [cE' [.slice 1 0 1 2],cE' [.I 1,.I 3],some (e22 0)]:=hK;refine aMu (args2:=[.agg [.I 1,.I 1,.I 5,.I 0],.view 1 1 (fun _=>[.view 1 2 (fun _=>[.I 1,.I 3])])]) KY (fun _=>false) ?_ ?_
 ·intro c' hc V l hm hr;obtain⟨v0,l0,rfl,r0,v1,l1,rfl,r1,r2⟩:=hr;refine⟨v0,_,rfl,Rep.con hc _ _ r0,v1,_,rfl,?_,r2⟩;obtain⟨p0,a1,a2⟩:=hm 0 _ rfl rfl;obtain⟨p1,b1,b2⟩:=hm 1 _ rfl rfl;refine sM (Rep.con hc _ _ r1) a1 a2 ?_ (Nat.le_refl _);intro i hi;refine⟨rfl,fun rs h=>?_⟩
  match i,hi with
  | 0,_=>
    obtain⟨y,ys,rfl,y1,y2⟩:=h;refine⟨y,ys,rfl,?_,y2⟩
    have y3: @Rep c' V (.view 1 2 (fun _=>[.I 1,.I 3])) y:=sM y1 b1 b2 (fun j hj=>⟨rfl,fun rs h=>by
     match j,hj with
     | 0,_=>exact h
     | j+1,hj=>omega⟩) (Nat.le_refl _)
    exact y3
  | i+1,hi=>omega
 ·intro c';have h1:=@HO c' [.agg [.I 1,.I 1,.I 5,.I 0],.view 1 1 (fun _=>[.view 1 2 (fun _=>[.I 1,.I 3])])] [] _ rfl (fun v g=>v=.tup [.ptr 0 0,.I 0]/\g=[some (e22 0)]) ⟨⟨⟨by decide,⟨rfl⟩⟩,by kernel_rfl⟩,⟨rfl,congrArg (fun x=>[some (aG.abs (Mc.engine x) [])]) TI⟩⟩
  refine aMc h1 [] rfl dS (fun l hl=>by cases hl) ?_ rfl ?_
  ·intro i l hi;simp at hi
  ·rintro v g ⟨rfl,rfl⟩ _;refine⟨rfl,rfl,?_,hK⟩;intro l hl hS
   match l,hl with
   | 0,_=>rfl
   | 1,_=>rfl
   | l+2,hl=>simp at hl;omega
def aCd(sh th nd tr p q:Int)(n n1:Nat)(K:AVal->aC Ob->Prop):Prop:=K (.agg [.I sh,.I th,.I nd,.I tr]) [cE' [.slice 1 0 n1 2],cE' [.I p,.I q]]
theorem LJ(sh th nd tr p q:Int)(n n1:Nat)(K:AVal->aC Ob->Prop)(h:aCd sh th nd tr p q n n1 K):cT' 26 [.agg [.I sh,.I th,.I nd,.I tr,.slice 0 0 n 1]] [cE' [.slice 1 0 n1 2],cE' [.I p,.I q]] (eJ 2 K):=by
 exact cM' (E:=EUg) (by kernel_rfl) h
def cf1R:aZ Ob:=fun args h=>match args,h with
 | [.agg [.int .i64 sh,.int .i64 th,.int .i64 nd,.int .i64 tr,.slice 0 0 n 1]],[some (.cells [.slice 1 0 n1 2]),some (.cells [.int .i64 p,.int .i64 q])]=>some (True,.agg [.I sh,.I th,.I nd,.I tr])
 | _,_=>none
theorem X6:sT' 26 cf1R.spec:=by
 refine aZ.mk fun args h p v hv _ K hK=>?_;unfold cf1R at hv;split at hv
 case h_2=>cases hv
 rename_i sh th nd tr n n1 p q;cases hv;exact aLw (LJ sh th nd tr p q n n1 K hK)
noncomputable def L22:FuncId->Nat->Option (mS Ob):=fun _ _=>some (.rounds 12)
end Go.Sh
namespace Go.Sh
open Go Go.Proofs
variable [Con]
structure AUS where
 e:EGS
 c:CNT
 ss:List (List Int)
 lv:List Int
instance:Inhabited AUS:=⟨⟨⟨0,0,0,0,⟨0,0,[],0,0,0,0,0,false⟩,default,[],0⟩,default,[],[]⟩⟩
structure acW (th nd:Int) (x:AUS):Prop where
 w:egW th nd x.e
 l:x.lv=lvI x.e nd.toNat
 s0:1<=x.ss.length
 s1:(x.ss.length:Int)<=x.e.k+1
 it: ∀i,i<x.ss.length->(slAt x.ss i).length <=4294967296
 lo:W x.c.lo=x.c.lo
 tw:W x.c.tw=x.c.tw
def cnG(e:EGS)(lv:List Int)(c:CNT):CNT:=bif e.s.ok&&(ieq e.s.k 2||ieq e.s.k 3)then cnCh e.s.n e.s.a lv c else c
def aGj(a b c d e:Int)(K:AVal->aC Ob->Prop):Prop:=bif ieq d 0 then K (.bool (ieq e 0)) []else K (.bool false) []
theorem U9(a b c d e:Int)(K:AVal->aC Ob->Prop)(h:aGj a b c d e K):cT' 60 [.agg [.int .i64 a,.int .i64 b,.int .i64 c,.int .i64 d,.int .i64 e]] [] (eJ 0 K):=by
 exact cM' (E:=EAz) (by kernel_rfl) h
def sfR:aZ Ob:=fun args h=>match args,h with
 | [.agg [.int .i64 a,.int .i64 b,.int .i64 c,.int .i64 d,.int .i64 e]],[]=>some (True,.bool (ieq d 0&&ieq e 0))
 | _,_=>none
theorem aGi:sT' 60 sfR.spec:=by
 refine aZ.mk fun args h p v hv _ K hK=>?_;unfold sfR at hv;split at hv
 case h_2=>cases hv
 rename_i a b c d e;cases hv;have hK:K (.bool (ieq d 0&&ieq e 0)) []:=hK;refine aLw (U9 a b c d e K ?_);unfold aGj;cases hd:ieq d 0 with
 | true=>rw [hd]at hK;exact hK
 | false=>rw [hd]at hK;exact hK
theorem vB(e:EGS)(n i:Nat)(hi:i<n):(lvI e n)[i]? =some (aE e.s.xs (e.s.n+4+((i:Int)+1))):=by
 unfold lvI;rw [List.getElem?_map,List.getElem?_range hi];rfl
theorem aFM{e:EGS}(h1:0<=e.s.a/\e.s.a<=100000)(h2:0<=e.s.n/\e.s.n<=100000):ndI e=e.s.a - e.s.n - 4:=by
 have hW:W (e.s.a - (e.s.n+4+1))=e.s.a - (e.s.n+4+1):=cG ⟨by omega,by omega⟩
 have aa:W (e.s.a - (e.s.n+4+1)+1)=e.s.a - (e.s.n+4+1)+1:=cG ⟨by omega,by omega⟩
 unfold ndI;rw [hW,aa];omega
theorem aA0{th nd:Int}{e:EGS}{u:Int}(hx:egW th nd e)(hd:(pkF u e).1=true):naL (pkF u e).2 (lvI e nd.toNat)=lvI (pkF u e).2 nd.toNat:=by
 have hr:=xC u hx;have hy:=hr.w;obtain⟨z,a0,a1⟩:=hr.z hd;have hn:=hx.hn;have ht:=hx.ht;have sn:=hx.sn;have sn':=hy.sn;generalize (pkF u e).2=y at*;have hI:=aFM (e:=y) ⟨a0,by omega⟩ ⟨by omega,by omega⟩
 unfold naL;cases hb:bG y.s.n (ndI y)with
 | true=>
   have hb:=eO.1 hb;have hW:W (ndI y - 1)=ndI y - 1:=cG ⟨by omega,by omega⟩
   rw [cond_true,hW];apply List.ext_getElem?;intro j
   by_cases hj:j<nd.toNat
   ·rw [vB _ _ _ hj]
    by_cases e1:0+Int.toNat (ndI y - 1)*1=j
    ·rw [e1,List.getElem?_set_self (by rw [kC];exact hj)]
     have:y.s.n+4+((j:Int)+1)=y.s.a:=by omega
     rw [this]
    ·rw [List.getElem?_set_ne e1,vB _ _ _ hj];have h1:e.s.n+4+((j:Int)+1)=y.s.n+4+((j:Int)+1):=by omega
     rw [h1,z _ omz]
   ·rw [List.getElem?_eq_none (by rw [List.length_set,kC];omega),List.getElem?_eq_none (by rw [kC];omega)]
 | false=>
   have hb: ¬(1<=ndI y/\ndI y<=y.s.n):=fun h=>by rw [eO.2 h]at hb;cases hb
   rw [cond_false];apply List.ext_getElem?;intro j
   by_cases hj:j<nd.toNat
   ·rw [vB _ _ _ hj,vB _ _ _ hj];have h1:e.s.n+4+((j:Int)+1)=y.s.n+4+((j:Int)+1):=by omega
    rw [h1,z _ omz]
   ·rw [List.getElem?_eq_none (by rw [kC];omega),List.getElem?_eq_none (by rw [kC];omega)]
end Go.Sh
namespace Go.Sh
open Go Go.Proofs
variable [Con]
theorem PW(x:Int):W (W x)=W x:=by
 show IntKind.wrap IntKind.i64 (IntKind.wrap IntKind.i64 x)=IntKind.wrap IntKind.i64 x;simp only [IntKind.wrap_i64];omega
theorem YF(n a:Int)(lv:List Int)(c:CNT):(cnCh n a lv c).tk =c.tk/\(cnCh n a lv c).gv =c.gv/\(cnCh n a lv c).tw =c.tw/\(W c.lo=c.lo->W (cnCh n a lv c).lo =(cnCh n a lv c).lo):=by
 unfold cnCh;cases ilt a 1<;>cases ile (n+1+4) a<;>cases bG n a<;>cases frB lv a<;>exact⟨rfl,rfl,rfl,fun h=>by first | exact h | exact PW _⟩
theorem aHp(r:EGS)(lv:List Int)(c:CNT):(cnG r lv c).tk =c.tk/\(cnG r lv c).gv =c.gv/\(cnG r lv c).tw =c.tw/\(W c.lo=c.lo->W (cnG r lv c).lo =(cnG r lv c).lo):=by
 unfold cnG;cases r.s.ok&&(ieq r.s.k 2||ieq r.s.k 3)with
 | true=>exact YF _ _ _ _
 | false=>exact⟨rfl,rfl,rfl,fun h=>h⟩
theorem aIC(k:Int)(ok:Bool)(nd:Int)(lv:List Int)(c:CNT)(h1:W c.lo=c.lo)(h2:W c.tw=c.tw):W (cnLf k ok nd lv c).lo =(cnLf k ok nd lv c).lo /\W (cnLf k ok nd lv c).tw =(cnLf k ok nd lv c).tw :=by
 unfold cnLf;cases ieq k 3&&ok<;>cases ieq k 4<;>cases frB lv nd<;>exact⟨by first | exact h1 | exact PW _,by first | exact h2 | exact PW _⟩
theorem aIH(r:EGS)(lv:List Int)(c:CNT)(h1:W c.lo=c.lo)(h2:W c.tw=c.tw):W (naC r lv c).lo =(naC r lv c).lo /\W (naC r lv c).tw =(naC r lv c).tw :=by
 have g:=aHp r lv c;have e:naC r lv c=bif bG r.s.n (ndI r)then cnLf r.s.k r.s.ok (ndI r) lv (cnG r lv c)else cnG r lv c:=rfl;have h3:W (cnG r lv c).tw =(cnG r lv c).tw :=by rw [g.2.2.1];exact h2
 rw [e];cases bG r.s.n (ndI r)with
 | true=>exact aIC _ _ _ _ _ (g.2.2.2 h1) h3
 | false=>exact⟨g.2.2.2 h1,h3⟩
def acN(u:Int)(q:AUS):AUS:=⟨(pkF u q.e).2,naC (pkF u q.e).2 q.lv q.c,naS (pkF u q.e).2 q.ss,naL (pkF u q.e).2 q.lv⟩
section
variable {th nd:Int} {q:AUS}
theorem aA4(r:EGS)(ss:List (List Int)):ss.length<=(naS r ss).length /\(naS r ss).length <=ss.length+1:=by
 unfold naS;cases !eE (bF r) (slAt ss (0+Int.toNat (W ((ss.length:Int) - 1))*1))with
 | true=>rw [cond_true,List.length_append];exact⟨by omega,Nat.le_refl _⟩
 | false=>exact⟨Nat.le_refl _,by rw [cond_false];omega⟩
theorem aFL{r:EGS}(hr:0<=r.s.n/\r.s.n<=100000){ss:List (List Int)}(h: ∀i,i<ss.length->(slAt ss i).length <=4294967296)(i:Nat)(hi:i<(naS r ss).length):(slAt (naS r ss) i).length <=4294967296:=by
 unfold naS at hi⊢;cases hb: !eE (bF r) (slAt ss (0+Int.toNat (W ((ss.length:Int) - 1))*1))with
 | false=>rw [hb]at hi;exact h i hi
 | true=>
   rw [hb,cond_true,List.length_append]at hi;rw [cond_true];unfold slAt at h⊢;rw [gD']
   by_cases h2:i<ss.length
   ·rw [List.getElem?_append_left h2,<-gD'];exact h i h2
   ·have:i=ss.length:=by simp at hi;omega
    subst this;rw [List.getElem?_append_right (Nat.le_refl _),Nat.sub_self];exact gK hr
theorem BP(hq:acW th nd q){u:Int}(hd:(pkF u q.e).1=true):acW th nd (acN u q):=by
 have hr:=xC u hq.w;obtain⟨y1,y2,_⟩:=hr.yes hd;have hc:=aIH (pkF u q.e).2 q.lv q.c hq.lo hq.tw;have hl:=aA4 (pkF u q.e).2 q.ss;have hn:=hq.w.hn;have sn:=y1.sn;refine⟨y1,?_,?_,?_,aFL omz hq.it,hc.1,hc.2⟩
 ·show naL _ q.lv=_;rw [hq.l];exact aA0 hq.w hd
 ·have:=hq.s0;show 1<=(naS _ _).length;omega
 ·have:=hq.s1;show((naS _ _).length :Int)<=(pkF u q.e).2.k +1;rw [y2];omega
theorem sT{u:Int}(hd:(pkF u q.e).1=true):apC u q.e q.lv q.c=naC (pkF u q.e).2 q.lv q.c/\apS u q.e q.ss=naS (pkF u q.e).2 q.ss/\FP u q.e q.lv=naL (pkF u q.e).2 q.lv:=by
 unfold apC apS FP;rw [hd];exact⟨rfl,rfl,rfl⟩
theorem aB8{u:Int}(hd:(pkF u q.e).1=false):apC u q.e q.lv q.c=q.c/\apS u q.e q.ss=q.ss/\FP u q.e q.lv=q.lv:=by
 unfold apC apS FP;rw [hd];exact⟨rfl,rfl,rfl⟩
theorem aB9(hq:acW th nd q)(u:Int):QM u q.e q.ss q.lv:=by
 have hr:=(xC u hq.w).w;have h1:=hr.ht;have h2:=hr.hn;have h3:=hr.st;have h4:=hr.sn;have hl:(q.lv.length:Int)=nd:=by rw [hq.l,kC];omega
 have hk:=hq.w.k;have hs:=hq.s1;refine⟨aF0 u hq.w,fun _=>⟨⟨by omega,by omega⟩,⟨by omega,by omega⟩,by omega,hq.s0,by omega,gK ⟨by omega,by omega⟩⟩⟩
end
end Go.Sh
namespace Go.Sh
open Go Go.Proofs
variable [Con]
def PM(u:Int)(y:AUS):AUS:=⟨(pkF u y.e).2,apC u y.e y.lv y.c,apS u y.e y.ss,FP u y.e y.lv⟩
def aCT:AUS->Int->List Int->AUS×Int
 | x,c,[]=>(x,c)
 | x,c,u::us=>aCT (PM u x) (bif (pkF u x.e).1 then W (c+1)else c) us
def runA(x:AUS)(c:Int)(us:List Int):AUS×Int:=aCT x c us
theorem FE(us vs:List Int): ∀(x:AUS) (c:Int),runA x c (us++vs)=runA (runA x c us).1 (runA x c us).2 vs:=by
 induction us with
 | nil=>intro x c;rfl
 | cons u us ih=>intro x c;exact ih _ _
theorem XO{u:Int}{q:AUS}(hd:(pkF u q.e).1=true):PM u q=acN u q:=by
 obtain⟨a1,a2,a3⟩:=sT hd;unfold PM acN;rw [a1,a2,a3]
theorem vU{th nd u:Int}{q:AUS}(hq:egW th nd q.e)(hd:(pkF u q.e).1=false):PM u q=q:=by
 obtain⟨a1,a2,a3⟩:=aB8 hd;unfold PM;rw [a1,a2,a3,(xC u hq).no hd]
theorem B0{th nd:Int}{q:AUS}(hq:acW th nd q)(u:Int):acW th nd (PM u q):=by
 cases hd:(pkF u q.e).1 with
 | true=>rw [XO hd];exact BP hq hd
 | false=>rw [vU hq.w hd];exact hq
theorem A4{th nd:Int}(us:List Int): ∀(x:AUS) (c:Int),acW th nd x->acW th nd (runA x c us).1:=by
 induction us with
 | nil=>intro x c h;exact h
 | cons u us ih=>intro x c h;exact ih _ _ (B0 h u)
structure auW (y:AUS):Prop where
 h: ∃t n:Int,acW t n y
abbrev XR(y:AUS):aC Ob:=auH y.e y.c y.ss y.lv
abbrev QR(y:AUS):aC Ob:=auR y.e y.c y.ss y.lv
abbrev QP(y:AUS)(k:Int):aC Ob:=aDq y.e y.c y.ss y.lv k
abbrev aHk(l n:Nat)(th tm:Nat->Int):List AVal:=[KS,.view n 2 (fun i=>[.int .i64 (th i),.int .i64 (tm i)]),.ptr 4 0,.raw undef,.int .i64 0,.ptr 5 0,.raw undef,.view n 2 (fun i=>[.int .i64 (th i),.int .i64 (tm i)]),.func (.func 114) [] [.ptr l 0]]++List.replicate 7 (.raw undef)
theorem aJD(y:AUS)(n:Nat)(th tm:Nat->Int):aF (obI tbl) 6 (.tup (aHk 6 n th tm)) (XR y++ [some (.cells [KS]),some (.cells [.int .i64 0]),some (.cells [pkV n th tm])]) (.tup (aHk 7 n th tm)) (QP y 0++ [some (.cells [pkV n th tm])]):=
 (aF.move 2 (of_decide_eq_true rfl)).trans (aF.pick [0,1,2,3,4,5,7,6] rfl)
theorem aDp(y:AUS)(n:Nat)(row:Nat->List AVal)(c u:Int)(hx:QM u y.e y.ss y.lv):Ev (bX EAx (fT EAx LL 9) 16 (qG iM) (List.set (auT n row) 9 (.int .i64 u)) (QP y c) (fun tm1 h1=>bX EAx (fT EAx LL 9) 16 (sY iM) tm1 h1 (fun _ h2=>aF (obI tbl) 6 (.bool true) h2 (.bool true) (QP (PM u y) (bif (pkF u y.e).1 then W (c+1)else c))))):=by
 refine HB y.e y.c y.ss y.lv c n row u (fun h2=>aF (obI tbl) 6 (.bool true) h2 (.bool true) (QP (PM u y) (bif (pkF u y.e).1 then W (c+1)else c))) ?_;unfold HA;refine⟨⟨⟨rfl,rfl⟩,hx⟩,?_⟩;cases (pkF u y.e).1 with
 | true=>exact aF.pick [0,1,2,3,4,5,7] rfl
 | false=>exact aF.pick [0,1,2,3,4,5,7] rfl
def eachAS:aI Ob:=fun args h=>match args,h with
 | [.func (.func g) [.ptr 0 0] [],.view n 2 row],[some (.cells [.ptr 1 0,.int .i64 c1,.int .i64 c2,.int .i64 c3,.int .i64 c4,.int .i64 c5,.slice 2 0 p 1,.slice 3 0 q 1]),some (.abs (.engine e) []),some (.abs (.srow ss) []),some (.ints (some .u64) lv)]=>cond (Nat.beq g 57) (some (.pre (jZ p q ss lv/\auW ⟨e,⟨c1,c2,c3,c4,c5⟩,ss,lv⟩/\n<=4294967296/\rowOk row) (.ret (.int .i64 (runA ⟨e,⟨c1,c2,c3,c4,c5⟩,ss,lv⟩ 0 (dY n row)).2) (QR (runA ⟨e,⟨c1,c2,c3,c4,c5⟩,ss,lv⟩ 0 (dY n row)).1)))) none
 | _,_=>none
theorem RU:sT' 85 eachAS:=by
 intro args h o ho K hK;unfold eachAS at ho;split at ho
 case h_2=>cases ho
 rename_i g n row c1 c2 c3 c4 c5 p q e ss lv;cases hg:Nat.beq g 57 with
 | false=>rw [hg]at ho;cases ho
 | true=>
 have hg:=Nat.eq_of_beq_eq_true hg;subst hg;cases ho;obtain⟨⟨⟨rfl,rfl⟩,⟨t,m,hx⟩,hn,⟨th,tm,rfl⟩⟩,hK⟩:=hK;obtain⟨y,hy⟩: ∃y:AUS,y=⟨e,⟨c1,c2,c3,c4,c5⟩,ss,lv⟩:=⟨_,rfl⟩;obtain⟨xs,aa⟩: ∃xs,xs=allF th tm n 0 60000:=⟨_,rfl⟩;have hK:K (.int .i64 (runA ⟨e,⟨c1,c2,c3,c4,c5⟩,ss,lv⟩ 0 (allF th tm n 0 60000)).2) (QR (runA ⟨e,⟨c1,c2,c3,c4,c5⟩,ss,lv⟩ 0 (allF th tm n 0 60000)).1):=hK;rw [<-aa,<-hy]at hK;rw [<-hy]at hx;show cT' 85 _ (XR ⟨e,⟨c1,c2,c3,c4,c5⟩,ss,lv⟩) K;rw [<-hy];clear hy;intro V hR w ae hi hf hr;refine CU (E:=EAx) (lO Tryz.checked.mixed LL 9) (h:=XR y) (N:=4) (m:=7) (m0:=6) (a:=4) (b:=5) (S:=fun j=>QP (runA y 0 (xs.take j)).1 (runA y 0 (xs.take j)).2) (c:=(runA y 0 xs).2) (g:=QR (runA y 0 xs).1) hn aa dS dS (Nat.le_refl 4) (fun _=>rfl) rfl rfl (G9 y.e y.c y.ss y.lv n (fun i=>[.int .i64 (th i),.int .i64 (tm i)]) _ ?_) ?_ ?_ ?_ hK hi hf hr
 ·exact⟨(by decide:6<=7),aJD y n th tm⟩
 ·intro j u hu;have hw:=A4 (xs.take j) y 0 hx
  have ac:xs.take (j+1)=xs.take j++ [u]:=by
   rw [List.take_succ,hu];rfl
  have:=aDp (runA y 0 (xs.take j)).1 n (fun i=>[.int .i64 (th i),.int .i64 (tm i)]) (runA y 0 (xs.take j)).2 u (aB9 hw u);rw [ac,FE];exact this
 ·rw [List.take_length];exact HD (runA y 0 xs).1.e (runA y 0 xs).1.c (runA y 0 xs).1.ss (runA y 0 xs).1.lv (runA y 0 xs).2 n (fun i=>[.int .i64 (th i),.int .i64 (tm i)]) _ ⟨rfl,rfl,rfl⟩
 ·rw [List.take_length];exact aF.pick [0,1,2,3,6] rfl
def SJ(n:Nat)(row:Nat->List AVal)(K:List AVal->aC Ob->Prop):Prop:=K [.func (Fn.func 115) [] [],.view n 2 row,.ptr 1 0,.raw (Value.tuple {toList:=[] }),.int .i64 0,.ptr 2 0,.raw (Value.tuple {toList:=[] }),.view n 2 row,.func (Fn.func 114) [] [.ptr 3 0],.raw (Value.tuple {toList:=[] }),.raw (Value.tuple {toList:=[] }),.raw (Value.tuple {toList:=[] }),.raw (Value.tuple {toList:=[] }),.raw (Value.tuple {toList:=[] }),.raw (Value.tuple {toList:=[] }),.raw (Value.tuple {toList:=[] })] [none,some (.cells [.func (Fn.func 115) [] []]),some (.cells [.int .i64 0]),some (.cells [.view n 2 row])]
theorem G5(n:Nat)(row:Nat->List AVal)(K:List AVal->aC Ob->Prop)(h:SJ n row K):Ev (bX EU9 (fT EU9 LL 9) 16 JF ([.func (.func 115) [] [],.view n 2 row]++List.replicate 14 (.raw undef)) [none] K):=aJ (q:=SJ n row K) (by kernel_rfl) h
def G6(n:Nat)(row:Nat->List AVal)(c u:Int)(K:aC Ob->Prop):Prop:=K [none,some (.cells [.func (Fn.func 115) [] []]),some (.cells [.int .i64 (W (c+1))])]
theorem G7(n:Nat)(row:Nat->List AVal)(c u:Int)(K:aC Ob->Prop)(h:G6 n row c u K):Ev (bX EU9 (fT EU9 LL 9) 16 (qG iM) (List.set (([.func (.func 115) [] [],.view n 2 row,.ptr 1 0,.raw undef,.int .i64 0,.ptr 2 0,.raw undef,.view n 2 row,.O]:List AVal)++List.replicate 7 (.raw undef)) 9 (.int .i64 u)) [none,some (.cells [.func (.func 115) [] []]),some (.cells [.int .i64 c])] (fun tm1 h1=>bX EU9 (fT EU9 LL 9) 16 (sY iM) tm1 h1 (fun _ h2=>K h2))):=aJ (q:=G6 n row c u K) (by kernel_rfl) h
def SK(n:Nat)(row:Nat->List AVal)(c:Int)(K:List AVal->aC Ob->Prop):Prop:=K [.func (Fn.func 115) [] [],.view n 2 row,.ptr 1 0,.raw (Value.tuple {toList:=[] }),.int .i64 c,.ptr 2 0,.raw (Value.tuple {toList:=[] }),.view n 2 row,.O,.raw (Value.tuple {toList:=[] }),.raw (Value.tuple {toList:=[] }),.raw (Value.tuple {toList:=[] }),.raw (Value.tuple {toList:=[] }),.raw (Value.tuple {toList:=[] }),.raw (Value.tuple {toList:=[] }),.int .i64 c] [none,some (.cells [.func (Fn.func 115) [] []]),some (.cells [.int .i64 c])]
theorem G8(n:Nat)(row:Nat->List AVal)(c:Int)(K:List AVal->aC Ob->Prop)(h:SK n row c K):Ev (bX EU9 (fT EU9 LL 9) 16 JG ([.func (.func 115) [] [],.view n 2 row,.ptr 1 0,.raw undef,.int .i64 0,.ptr 2 0,.raw undef,.view n 2 row,.O]++List.replicate 7 (.raw undef)) [none,some (.cells [.func (.func 115) [] []]),some (.cells [.int .i64 c])] K):=aJ (q:=SK n row c K) (by kernel_rfl) h
abbrev aIA:AVal:=.func (.func 115) [] []
abbrev TM(c:Int):aC Ob:=[none,some (.cells [aIA]),some (.cells [.int .i64 c])]
abbrev aJ8(n:Nat)(row:Nat->List AVal):List AVal:=[aIA,.view n 2 row,.ptr 1 0,.raw undef,.int .i64 0,.ptr 2 0,.raw undef,.view n 2 row,.O]++List.replicate 7 (.raw undef)
theorem aAX(n:Nat)(row:Nat->List AVal)(c u:Int):Ev (bX EU9 (fT EU9 LL 9) 16 (qG iM) (List.set (aJ8 n row) 9 (.int .i64 u)) (TM c) (fun tm1 h1=>bX EU9 (fT EU9 LL 9) 16 (sY iM) tm1 h1 (fun _ h2=>aF (obI tbl) 3 (.bool true) h2 (.bool true) (TM (W (c+1)))))):=by
 refine G7 n row c u (fun h2=>aF (obI tbl) 3 (.bool true) h2 (.bool true) (TM (W (c+1)))) ?_;unfold G6;exact aLM _ _ _
theorem PC:toF ([none]:aC Ob)=toF []:=by
 funext l;show([none]:aC Ob).getD l none=([]:aC Ob).getD l none;cases l with
 | zero=>rfl
 | succ l=>rfl
def elenS:aI Ob:=fun args h=>match args,h with
 | [.func (.func g) [] [],.view n 2 row],[]=>cond (Nat.beq g 115) (some (.pre (n<=4294967296/\rowOk row) (.ret (.int .i64 ((dY n row).length :Int)) []))) none
 | _,_=>none
theorem QC(th tm:Nat->Int): ∀(c i:Nat) (left:Int),(allF th tm c i left).length <=left.toNat:=by
 intro c
 induction c with
 | zero=>intro i left;exact Nat.zero_le _
 | succ c ih=>
   intro i left;show(List.replicate (min (tm i) left).toNat (th i)++allF th tm c (i+1) (left - ((min (tm i) left).toNat :Int))).length <=left.toNat;rw [List.length_append,List.length_replicate];have:=ih (i+1) (left - ((min (tm i) left).toNat :Int));omega
theorem XE(th tm:Nat->Int)(n:Nat):(allF th tm n 0 60000).length <=60000:=QC th tm n 0 60000
theorem ZC:sT' 85 elenS:=by
 intro args h o ho K hK;unfold elenS at ho;split at ho
 case h_2=>cases ho
 rename_i g n row;cases hg:Nat.beq g 115 with
 | false=>rw [hg]at ho;cases ho
 | true=>
 have hg:=Nat.eq_of_beq_eq_true hg;subst hg;cases ho;obtain⟨⟨hn,⟨th,tm,rfl⟩⟩,hK⟩:=hK;obtain⟨xs,aa⟩: ∃xs,xs=allF th tm n 0 60000:=⟨_,rfl⟩;have hK:K (.int .i64 ((allF th tm n 0 60000).length :Int)) []:=hK;rw [<-aa]at hK;have ae:xs.length<=60000:=by rw [aa];exact XE th tm n
 intro V hR w ac hi hf hr;refine CU (E:=EU9) (lO Tryz.checked.mixed LL 9) (h:=[none]) (N:=0) (m:=3) (m0:=3) (a:=1) (b:=2) (S:=fun j=>TM (min j xs.length:Nat)) (c:=(xs.length:Int)) (g:=[]) hn aa dS (Nat.le_refl 3) (Nat.zero_le _) (fun _=>rfl) rfl rfl (G5 n (fun i=>[.int .i64 (th i),.int .i64 (tm i)]) _ ?_) ?_ ?_ ?_ hK (by rw [PC];exact hi) hf hr
 ·exact⟨(by decide:3<=4),by rw [Nat.zero_min];exact aLM _ _ _⟩
 ·intro j u hu;have hj:j<xs.length:=(List.getElem?_eq_some_iff.1 hu).1;have e1:min j xs.length=j:=by omega
  have e2:min (j+1) xs.length=j+1:=by omega
  have:=aAX n (fun i=>[.int .i64 (th i),.int .i64 (tm i)]) (j:Int) u;rw [W2 hj omz]at this;show Ev (bX EU9 (fT EU9 LL 9) 16 (qG iM) (List.set _ 9 (.int .i64 u)) (TM (min j xs.length:Nat)) _);rw [e1,e2];exact this
 ·rw [Nat.min_self];exact G8 n (fun i=>[.int .i64 (th i),.int .i64 (tm i)]) (xs.length:Int) _ ⟨rfl,rfl,rfl⟩
 ·exact aF.pick [] rfl
def y22(k:Nat):AUS:=Nat.repeat (acN 0) k ⟨a22 0,⟨0,0,0,0,0⟩,[bF (a22 0)],lvI (a22 0) (Int.toNat (a22 0).s.n)⟩
def VL(k:Nat)(b:Bool)(j:Nat)(x:EGS)(u:Int)(c:CNT)(p q:Nat)(ss:List (List Int))(lv:List Int):Out Ob:=.pre (jZ p q ss lv/\(u=0/\x=a22 k)/\c=(y22 k).c /\ss=(y22 k).ss /\lv=(y22 k).lv) (.ret (.bool b) (auR (a22 j) (y22 j).c (y22 j).ss (y22 j).lv))
def au22S:aI Ob:=fun args h=>match args,h with
 | [.ptr 0 0,.int .i64 u],[some (.cells [.ptr 1 0,.int .i64 c1,.int .i64 c2,.int .i64 c3,.int .i64 c4,.int .i64 c5,.slice 2 0 p 1,.slice 3 0 q 1]),some (.abs (.engine x) []),some (.abs (.srow ss) []),some (.ints (some .u64) lv)]=>match x.k with
  | .ofNat k=>match k with
   | 0=>some (VL 0 true 1 x u ⟨c1,c2,c3,c4,c5⟩ p q ss lv)
   | 1=>some (VL 1 true 2 x u ⟨c1,c2,c3,c4,c5⟩ p q ss lv)
   | 2=>some (VL 2 true 3 x u ⟨c1,c2,c3,c4,c5⟩ p q ss lv)
   | 3=>some (VL 3 true 4 x u ⟨c1,c2,c3,c4,c5⟩ p q ss lv)
   | 4=>some (VL 4 true 5 x u ⟨c1,c2,c3,c4,c5⟩ p q ss lv)
   | 5=>some (VL 5 true 6 x u ⟨c1,c2,c3,c4,c5⟩ p q ss lv)
   | 6=>some (VL 6 true 7 x u ⟨c1,c2,c3,c4,c5⟩ p q ss lv)
   | 7=>some (VL 7 true 8 x u ⟨c1,c2,c3,c4,c5⟩ p q ss lv)
   | 8=>some (VL 8 true 9 x u ⟨c1,c2,c3,c4,c5⟩ p q ss lv)
   | 9=>some (VL 9 false 9 x u ⟨c1,c2,c3,c4,c5⟩ p q ss lv)
   | _=>none
  | _=>none
 | _,_=>none
theorem WG(k:Nat):y22 (k+1)=acN 0 (y22 k):=rfl
structure tE (k:Nat):Prop where
 w:acW 1 5 (y22 k)
 e:(y22 k).e =a22 k
theorem T5:tE 0:=⟨⟨K1,by kernel_rfl,Nat.le_refl _,by show((1:Nat):Int)<=Int.ofNat 0+1;decide,fun i hi=>by
 have:i=0:=by have:i<1:=hi;omega
 subst this;have sn:=K1.sn;exact gK (x:=a22 0) ⟨by omega,by omega⟩,by kernel_rfl,by kernel_rfl⟩,rfl⟩
theorem nC{k:Nat}(h:tE k)(h1:(pkF 0 (a22 k)).1=true)(h2:(pkF 0 (a22 k)).2=a22 (k+1)):tE (k+1):=by
 refine⟨?_,?_⟩
 ·rw [WG];refine BP h.w ?_;rw [h.e];exact h1
 ·rw [WG];show(pkF 0 (y22 k).e).2=_;rw [h.e];exact h2
theorem T6:tE 1:=nC T5 (by kernel_rfl) (by kernel_rfl)
theorem T7:tE 2:=nC T6 (by kernel_rfl) (by kernel_rfl)
theorem T8:tE 3:=nC T7 (by kernel_rfl) (by kernel_rfl)
theorem T9:tE 4:=nC T8 (by kernel_rfl) (by kernel_rfl)
theorem UA:tE 5:=nC T9 (by kernel_rfl) (by kernel_rfl)
theorem UB:tE 6:=nC UA (by kernel_rfl) (by kernel_rfl)
theorem UC:tE 7:=nC UB (by kernel_rfl) (by kernel_rfl)
theorem UD:tE 8:=nC UC (by kernel_rfl) (by kernel_rfl)
theorem aFW:tE 9:=nC UD (by kernel_rfl) (by kernel_rfl)
theorem mA{k j:Nat}{b:Bool}(h:tE k)(h1:(pkF 0 (a22 k)).1=b)(h2:(pkF 0 (a22 k)).2=a22 j)(hj:b=true/\j=k+1\/b=false/\j=k){x:EGS}{u:Int}{c1 c2 c3 c4 c5:Int}{p q:Nat}{ss:List (List Int)}{lv:List Int}{K:AVal->aC Ob->Prop}(hK:(VL k b j x u ⟨c1,c2,c3,c4,c5⟩ p q ss lv).run K):cT' 57 [.ptr 0 0,.I u] [cE' [.ptr 1 0,.I c1,.I c2,.I c3,.I c4,.I c5,.slice 2 0 p 1,.slice 3 0 q 1],some (.abs (.engine x) []),some (.abs (.srow ss) []),some (.ints (some .u64) lv)] K:=by
 obtain⟨⟨⟨rfl,rfl⟩,⟨rfl,rfl⟩,hc,rfl,rfl⟩,hK⟩:=hK;have hK:K (.bool b) (auR (a22 j) (y22 j).c (y22 j).ss (y22 j).lv):=hK;have ha:=aB9 h.w 0;rw [h.e]at ha;have hS:aupkS [.ptr 0 0,.I 0] [cE' [.ptr 1 0,.I c1,.I c2,.I c3,.I c4,.I c5,.slice 2 0 (y22 k).ss.length 1,.slice 3 0 (y22 k).lv.length 1],some (.abs (.engine (a22 k)) []),some (.abs (.srow (y22 k).ss) []),some (.ints (some .u64) (y22 k).lv)]=some (.pre (jZ (y22 k).ss.length (y22 k).lv.length (y22 k).ss (y22 k).lv /\QM 0 (a22 k) (y22 k).ss (y22 k).lv) (.ret (.bool (pkF 0 (a22 k)).1) (auR (pkF 0 (a22 k)).2 (apC 0 (a22 k) (y22 k).lv ⟨c1,c2,c3,c4,c5⟩) (apS 0 (a22 k) (y22 k).ss) (FP 0 (a22 k) (y22 k).lv)))):=rfl;refine JC _ _ _ hS K ⟨⟨⟨rfl,rfl⟩,ha⟩,?_⟩;show K (.bool (pkF 0 (a22 k)).1) (auR (pkF 0 (a22 k)).2 (apC 0 (a22 k) (y22 k).lv ⟨c1,c2,c3,c4,c5⟩) (apS 0 (a22 k) (y22 k).ss) (FP 0 (a22 k) (y22 k).lv));rw [hc,h1,h2];rcases hj with⟨rfl,rfl⟩ | ⟨rfl,rfl⟩
 ·have hd:(pkF 0 (y22 k).e).1=true:=by rw [h.e];exact h1
  obtain⟨a1,a2,a3⟩:=sT hd;rw [h.e,h2]at a1 a2 a3
  have e:y22 (k+1)=⟨a22 (k+1),naC (a22 (k+1)) (y22 k).lv (y22 k).c,naS (a22 (k+1)) (y22 k).ss,naL (a22 (k+1)) (y22 k).lv⟩:=by
   rw [WG];unfold acN;rw [h.e,h2]
  rw [a1,a2,a3];rw [e]at hK;exact hK
 ·have hd:(pkF 0 (y22 j).e).1=false:=by rw [h.e];exact h1
  obtain⟨a1,a2,a3⟩:=aB8 hd;rw [h.e]at a1 a2 a3;rw [a1,a2,a3];exact hK
theorem XQ:sT' 57 au22S:=by
 intro args h o ho K hK;unfold au22S at ho;split at ho
 case h_2=>cases ho
 split at ho
 case h_2=>cases ho
 split at ho
 ·cases ho;exact mA T5 (by kernel_rfl) (by kernel_rfl) (.inl ⟨rfl,rfl⟩) hK
 ·cases ho;exact mA T6 (by kernel_rfl) (by kernel_rfl) (.inl ⟨rfl,rfl⟩) hK
 ·cases ho;exact mA T7 (by kernel_rfl) (by kernel_rfl) (.inl ⟨rfl,rfl⟩) hK
 ·cases ho;exact mA T8 (by kernel_rfl) (by kernel_rfl) (.inl ⟨rfl,rfl⟩) hK
 ·cases ho;exact mA T9 (by kernel_rfl) (by kernel_rfl) (.inl ⟨rfl,rfl⟩) hK
 ·cases ho;exact mA UA (by kernel_rfl) (by kernel_rfl) (.inl ⟨rfl,rfl⟩) hK
 ·cases ho;exact mA UB (by kernel_rfl) (by kernel_rfl) (.inl ⟨rfl,rfl⟩) hK
 ·cases ho;exact mA UC (by kernel_rfl) (by kernel_rfl) (.inl ⟨rfl,rfl⟩) hK
 ·cases ho;exact mA UD (by kernel_rfl) (by kernel_rfl) (.inl ⟨rfl,rfl⟩) hK
 ·cases ho;exact mA aFW (by kernel_rfl) (by kernel_rfl) (.inr ⟨rfl,rfl⟩) hK
 ·cases ho
noncomputable def aJv:Env Ob Tryz.prog:=sN ((((((EAz.addS 25 new1S aA5).addR 26 cf1R X6).addS 57 au22S XQ).addR 60 sfR aGi).addS 58 (aI.or D3.spec (rF [(.slot 1,.ints (some .i64))] D3.spec)) (aL9 AN (tT AN)))) rfl
end Go.Sh
namespace Go.Sh
open Go Go.Proofs
variable [c:Con]
def yA(k:Nat):Prop:=jZ (List.length (AUS.ss (y22 k))) (List.length (AUS.lv (y22 k))) (y22 k).3 (y22 k).4/\((0:Int)=(0:Int)/\(a22 k)=(a22 k))/\ {ch:=(AUS.c (y22 k)).1,tk:=(AUS.c (y22 k)).2,gv:=(AUS.c (y22 k)).3,lo:=(AUS.c (y22 k)).4,tw:=(AUS.c (y22 k)).5} =(y22 k).2/\(y22 k).3=(y22 k).3/\(y22 k).4=(y22 k).4
theorem kG(k:Nat):yA k:=⟨⟨rfl,rfl⟩,⟨rfl,rfl⟩,rfl,rfl,rfl⟩
def zX(K:AVal->aC Ob->Prop):Prop:=True/\(((1=1/\1=1)/\((1:Int)=(1:Int)/\(1:Int)=(1:Int)/\(5:Int)=(5:Int)/\(0:Int)=(0:Int))/\(1:Int)=(1:Int)/\(3:Int)=(3:Int))/\True)/\B4 (a22 0)/\(jZ 1 (List.length (lvI (a22 0) (Int.toNat (MS.n (EGS.s (a22 0)))))) [bF (a22 0)] (lvI (a22 0) (Int.toNat (EGS.s (a22 0)).2))/\((0:Int)=(0:Int)/\(a22 0)=(a22 0))/\ {ch:=0,tk:=0,gv:=0,lo:=0,tw:=0} =(y22 0).2/\[bF (a22 0)]=(y22 0).3/\lvI (a22 0) (Int.toNat (EGS.s (a22 0)).2)=(y22 0).4)/\yA 1/\yA 2/\yA 3/\yA 4/\yA 5/\yA 6/\yA 7/\yA 8/\yA 9/\True/\bif !ieq (mH 0 (a22 9)) 0 then K (.bool false) []else(jZ (List.length (AUS.ss (y22 9))) (List.length (AUS.lv (y22 9))) (y22 9).3 (y22 9).4/\LE (y22 9).3)/\bif ieq (AUS.c (y22 9)).1 2 then bif ieq (AUS.c (y22 9)).2 1 then bif ieq (AUS.c (y22 9)).3 0 then True/\bif bif ieq (AUS.c (y22 9)).4 0 then ieq (AUS.c (y22 9)).5 0 else false then bif ieq (↑(List.length (y22 9).3):Int) 2 then((0:Int)<=(1:Int)/\(1:Int)<(↑(List.length (y22 9).3):Int))/\0+Int.toNat 1*(1:Nat)<List.length (y22 9).3/\((lE' (slAt (y22 9).3 1)/\1=1)/\List.length (slAt (y22 9).3 1)<=(4294967296:Nat))/\K (.bool (eE (slAt (y22 9).3 (0+Int.toNat 1*1)) [3])) []else K (.bool false) []else K (.bool false) []else K (.bool false) []else K (.bool false) []else K (.bool false) []
theorem GS(K:AVal->aC Ob->Prop)(h:zX K):cT' 51 [] [] (eJ 0 K):=by
 exact aD (E:=aJv) Tryz.checked.mixed (L:=L22) (n:=10) (aJ (by kernel_rfl) h)
theorem XY(K:AVal->aC Ob->Prop)(hK:K (.bool true) []):zX K:=by
 have hc:(y22 9).c =⟨2,1,0,0,0⟩:=by kernel_rfl
 have hs:(y22 9).ss =[[],[3]]:=by kernel_rfl
 have hl:mH 0 (a22 9)=0:=by kernel_rfl
 have sn:=K1.sn;have st:=K1.st;unfold zX;rw [hl,hc,hs];refine⟨trivial,⟨⟨⟨rfl,rfl⟩,⟨rfl,rfl,rfl,rfl⟩,rfl,rfl⟩,trivial⟩,⟨by omega,by omega,gK (x:=a22 0) ⟨by omega,by omega⟩⟩,⟨⟨rfl,rfl⟩,⟨rfl,rfl⟩,rfl,rfl,rfl⟩,kG 1,kG 2,kG 3,kG 4,kG 5,kG 6,kG 7,kG 8,kG 9,trivial,⟨⟨?_,?_⟩,?_⟩⟩
 ·exact⟨hs▸rfl,rfl⟩
 ·exact⟨by decide,by decide,fun i hi=>by
   match i,hi with
   | 0,_=>decide
   | 1,_=>decide
   | i+2,hi=>exact absurd hi (by show¬(i+2<2);omega)⟩
 ·exact⟨trivial,⟨by decide,by decide⟩,by decide,⟨⟨rfl,rfl⟩,by decide⟩,hK⟩
def aw22S:aI Ob:=fun args h=>match args,h with
 | [],[]=>some (.ret (.bool true) [])
 | _,_=>none
theorem XX:sT' 51 aw22S:=by
 intro args h o ho K hK;unfold aw22S at ho;split at ho
 case h_2=>cases ho
 cases ho;exact aLw (GS K (XY K hK))
end Go.Sh
