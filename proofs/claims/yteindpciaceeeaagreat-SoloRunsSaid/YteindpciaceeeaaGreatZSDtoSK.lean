import Derived.Test.YteindpciaceeeaaGreatZN17toSC
set_option linter.all false
set_option maxHeartbeats 8000000
namespace Go.Sh
open Go Go.Proofs
variable [Con]
abbrev bgE(sh th nd tr:Int)(T:List (List Int)):EGS:=eY sh th nd tr th.toNat (oL (opsT th T)) (oK (opsT th T)) (oY (opsT th T))
def d8(T:List (List Int))(x:EGS):EGS:=T.foldl (fun y r=>oO (List.headD r 0) y) x
def rnX(sh th nd tr:Int)(T:List (List Int)):EGS:=d8 T (bgE sh th nd tr T)
theorem sN(T:List (List Int))(r:List Int)(x:EGS):d8 (T++ [r]) x=oO (List.headD r 0) (d8 T x):=by
 unfold d8;rw [List.foldl_append];rfl
theorem RV{sh th nd tr:Int}{T:List (List Int)}(h:ieq (gnC sh th nd tr 0 (fun _=>0) (fun _ _=>0) (fun _ _=>0)) 0=false):trC sh th nd tr T=gnC sh th nd tr 0 (fun _=>0) (fun _ _=>0) (fun _ _=>0):=by unfold trC;rw [h];rfl
theorem RW{sh th nd tr:Int}{T:List (List Int)}(h:ieq (gnC sh th nd tr 0 (fun _=>0) (fun _ _=>0) (fun _ _=>0)) 0=true)(h2:mM th T=true):trC sh th nd tr T=2:=by unfold trC;rw [h,h2];rfl
theorem RX{sh th nd tr:Int}{T:List (List Int)}(h:ieq (gnC sh th nd tr 0 (fun _=>0) (fun _ _=>0) (fun _ _=>0)) 0=true)(h2:mM th T=false):trC sh th nd tr T=gnC sh th nd tr th.toNat (oL (opsT th T)) (oK (opsT th T)) (oY (opsT th T)):=by unfold trC;rw [h,h2];rfl
theorem FM{sh th nd tr:Int}{m:Nat}{ln:Nat→Nat}{f g:Nat→Nat→Int}(h:ieq (gnC sh th nd tr m ln f g) 0=true):(1≤sh∧sh≤4)∧(1≤th∧th≤8)∧(1≤nd∧nd≤200)∧0≤tr∧tr≤50:=by
 have e:ieq (wrE sh th nd tr) 0=true:=by
  cases e:ieq (wrE sh th nd tr) 0 with
  | true=>rfl
  | false=>
    unfold gnC at h;rw [e]at h;have h:ieq (wrE sh th nd tr) 0=true:=h;rw [e]at h;cases h
 have:=SL e;omega
theorem aFr{a b:Int}(h:ile a b=true):a≤b:=by rw [bX]at h;exact of_decide_eq_true h
theorem aFq{a b:Int}(h:ile a b=false):b<a:=by rw [bX]at h;exact Int.not_le.1 (of_decide_eq_false h)
theorem aCC{a b:Int}(h:ieq a b=true):a=b:=by rw [cF]at h;exact of_decide_eq_true h
theorem XG{a b:Int}(h:ieq a b=false):a≠b:=by rw [cF]at h;exact of_decide_eq_false h
theorem aEj(sh th nd tr:Int)(T:List (List Int))(K:AVal→aC Ob→Prop)(hT:T.length≤1000000)
 (hK:trC sh th nd tr T=0→K (.tup [.ptr 1 0,.int .i64 0]) [some (.tab tC T),some (.abs (.engine (bgE sh th nd tr T)) [])])
 (hE:trC sh th nd tr T≠0→K (.tup [.raw (.pointer none),.int .i64 (trC sh th nd tr T)]) [some (.tab tC T)]):aAL sh th nd tr T K:=by
 refine aR (fun e=>?_) (fun e=>aR (fun e2=>?_) (fun e2=>?_))
 ·obtain⟨h1,h2,h3,h4⟩:=FM e;unfold bgD;refine⟨⟨by omega,rfl,by omega⟩,aN (H:=MT sh th nd tr T) (0:Nat) (by simp only [MT,List.take_zero]<;>rfl) ⟨Nat.zero_le _,fun r hr=>by simp at hr⟩,?_⟩
  rintro x ⟨hj,hr⟩;refine aR (fun a1=>?_) (fun a1=>?_)
  ·have a1:=dW a1;have hx:x<T.length:=by omega
   refine⟨⟨by omega,a1⟩,by rw [Int.toNat_natCast,Nat.zero_add];exact hx,?_⟩
   rw [Int.toNat_natCast,Nat.zero_add];have hge:T[x]? =some (T.getD x []):=by rw [gD',gE' hx];rfl
   have htk:T.take (x+1)=T.take x++ [T.getD x []]:=by rw [List.take_add_one,hge];rfl
   have hm:T.getD x []∈T:=List.mem_of_getElem? hge;obtain⟨r,hrr⟩: ∃r,r=T.getD x []:=⟨_,rfl⟩;rw [←hrr]at htk hm⊢
   have key:(List.headD r 0<0∨th≤List.headD r 0)→K (.tup [.raw (.pointer none),.int .i64 2]) [some (.tab tC T)]:=by
    intro h;have ec:=RW (T:=T) e (I4 hm h);have:=hE (by rw [ec];decide)
    rw [ec]at this;exact this
   refine aR (fun b1=>key (.inl (dW b1))) (fun b1=>aR (fun b2=>key (.inr (aFr b2))) (fun b2=>?_));have b1:=dV b1;have b2:=aFq b2;have hi:(List.headD r 0).toNat <(opsT th (T.take x)).length :=by rw [nH];omega
   rw [Nat.zero_add,Nat.mul_one]
   have hlen:(opAt (opsT th (T.take x)) (List.headD r 0).toNat).length ≤x:=by
    rw [IS _ hr (by rw [nH]at hi;exact hi)]
    unfold ofL;rw [List.length_map];exact Nat.le_trans (List.length_filter_le _ _) (by rw [List.length_take];omega)
   refine⟨⟨by omega,by omega⟩,hi,⟨rfl,rfl,by omega⟩,⟨by omega,by omega⟩,⟨hi,rfl,rfl,rfl,by rw [List.length_append];rfl,rfl⟩,?_⟩
   refine aN (H:=MT sh th nd tr T) (x+1:Nat) ?_ ⟨⟨hx,?_⟩,by show T.length - (x+1)<T.length - x;omega⟩
   ·simp only [MT];rw [htk,LQ,W2 hx (by omega)]
    rfl
   ·intro q hq;rw [htk,List.mem_append,List.mem_singleton]at hq;rcases hq with hq | hq
    ·exact hr q hq
    ·rw [hq];omega
  ·have a1:=dV a1;have hx:x=T.length:=by omega
   subst hx;rw [List.take_length]at hr⊢;have ec:=RX e (I3 hr);rw [←ec];refine⟨⟨(nH _ _).symm,by omega⟩,aR (fun b=>hK (aCC b)) (fun b=>hE (XG b))⟩
 ·have e0:=RV (T:=T) e;rw [←e0];exact hE (by rw [e0];exact XG e)
 ·rw [e]at e2;cases e2
structure CN (tk:List Code1):Prop where
 h:tk=tC
def bgS:aH Ob:=fun args h=>match args,h with
 | [.agg [.int .i64 sh,.int .i64 th,.int .i64 nd,.int .i64 tr],.tslice 0 0 n 3],[some (.tab tk T)]=>some (.pre (n=T.length∧T.length≤1000000∧CN tk) (.ite (ieq (trC sh th nd tr T) 0) (.ret (.tup [.ptr 1 0,.int .i64 0]) [some (.tab tC T),some (.abs (.engine (bgE sh th nd tr T)) [])]) (.ret (.tup [.raw (.pointer none),.int .i64 (trC sh th nd tr T)]) [some (.tab tC T)])))
 | _,_=>none
theorem aEi:sT' 75 bgS:=by
 intro args h o ho K hK;unfold bgS at ho;split at ho<;>cases ho
 rename_i sh th nd tr n tk T;obtain⟨⟨rfl,h2,⟨rfl⟩⟩,hK⟩:=hK;have hK:bif ieq (trC sh th nd tr T) 0 then K (.tup [.ptr 1 0,.int .i64 0]) [some (.tab tC T),some (.abs (.engine (bgE sh th nd tr T)) [])]else K (.tup [.raw (.pointer none),.int .i64 (trC sh th nd tr T)]) [some (.tab tC T)]:=hK
 exact aIl (NM sh th nd tr T K (aEj sh th nd tr T K h2 (fun e=>by rw [e]at hK;exact hK) (fun e=>by
  rw [show ieq (trC sh th nd tr T) 0=false by rw [cF];exact decide_eq_false e]at hK
  exact hK)))
structure rn1 (T:List (List Int)) (j:Nat):Prop where
 hj:j≤T.length
def qO(sh th nd tr:Int)(T:List (List Int)):Hint Ob:= {X:=Nat,st:=fun j=>(List.replicate 7 .O ++ [.ptr 1 0]++List.replicate 15 .O ++ [.tslice 0 0 T.length 3,.int .i64 (T.length:Int),.int .i64 (j:Int)]++List.replicate 28 .O,[some (.tab tC T),some (.abs (.engine (d8 (T.take j) (bgE sh th nd tr T))) [])]),ok:=rn1 T,mu:=fun j=>T.length - j,keep:=[7,23,24,25] }
def mR(T:List (List Int))(x:EGS):Hint Ob:= {X:=Nat,st:=fun j=>(List.replicate 7 .O ++ [.ptr 1 0,.O,.O,.O,.tslice 2 0 (bP (x.h.cl.take j)).length 3]++List.replicate 24 .O ++ [.tslice 3 0 x.h.cl.length 9,.int .i64 (x.h.cl.length:Int),.int .i64 (j:Int)]++List.replicate 15 .O,[some (.tab tC T),some (.abs (.engine x) []),some (.tab rF (bP (x.h.cl.take j))),some (.tab clK x.h.cl)]),ok:=rn1 x.h.cl,mu:=fun j=>x.h.cl.length - j,keep:=[7,11,36,37,38],casts:=[(.slot 11,.tab rF)] }
def LRN(sh th nd tr:Int)(T:List (List Int)):FuncId→Nat→Option (lE Ob):=fun _ k=>match k with
 | 5=>some (.states (qO sh th nd tr T))
 | 11=>some (.states (mR T (rnX sh th nd tr T)))
 | _=>none
noncomputable def EUr:Env Ob Tryz.prog:=vZ (EUv.addS 75 bgS aEi) rfl
def rnD(sh th nd tr:Int)(T:List (List Int))(K:AVal→aC Ob→Prop):Prop:= ∀(x:Nat),rn1 T x→bif ilt (↑x:Int) (↑T.length:Int)then((0:Int)≤(↑x:Int)∧(↑x:Int)<(↑T.length:Int))∧0+Int.toNat (↑x:Int)<T.length∧aEI (d8 (List.take x T) (bgE sh th nd tr T))∧cN (qO sh th nd tr T) (fun x'=>Hint.ok (qO sh th nd tr T) x'∧Hint.mu (qO sh th nd tr T) x'<Hint.mu (qO sh th nd tr T) x) (.O::.O::.O::.O::.O::.O::.O::.ptr 1 0::(tO' 15 (.tslice 0 0 T.length 3::.int .i64 (↑T.length:Int)::.int .i64 (W ((↑x:Int)+1))::(tO' 28 [])))) [some (.tab cK3 T),some (.abs (.engine (oO (List.headD (List.getD T (0+Int.toNat (↑x:Int)) []) 0) (d8 (List.take x T) (eY sh th nd tr (Int.toNat th) (oL (opsT th T)) (oK (opsT th T)) (oY (opsT th T)))))) [])]else(List.length (EGS.h (d8 (List.take x T) (eY sh th nd tr (Int.toNat th) (oL (opsT th T)) (oK (opsT th T)) (oY (opsT th T))))).1≤(4294967296:Nat)∧List.length (EGS.h (d8 (List.take x T) (eY sh th nd tr (Int.toNat th) (oL (opsT th T)) (oK (opsT th T)) (oY (opsT th T))))).2≤(4294967296:Nat))∧List.length (EGS.h (d8 (List.take x T) (eY sh th nd tr (Int.toNat th) (oL (opsT th T)) (oK (opsT th T)) (oY (opsT th T))))).2≤(4294967296:Nat)∧cN (mR T (rnX sh th nd tr T)) (Hint.ok (mR T (rnX sh th nd tr T))) (.O::.O::.O::.O::.O::.O::.O::.ptr 1 0::.O::.O::.O::.tslice 2 0 0 3::(tO' 24 (.tslice 3 0 (List.length (EGS.h (d8 (List.take x T) (eY sh th nd tr (Int.toNat th) (oL (opsT th T)) (oK (opsT th T)) (oY (opsT th T))))).2) 9::.int .i64 (↑(List.length (EGS.h (d8 (List.take x T) (eY sh th nd tr (Int.toNat th) (oL (opsT th T)) (oK (opsT th T)) (oY (opsT th T))))).2):Int)::.int .i64 0::(tO' 15 [])))) [some (.tab cK3 T),some (.abs (.engine (d8 (List.take x T) (eY sh th nd tr (Int.toNat th) (oL (opsT th T)) (oK (opsT th T)) (oY (opsT th T))))) []),some (.tab [some .i64,none,some .i64] []),some (.tab cK9 (EGS.h (d8 (List.take x T) (eY sh th nd tr (Int.toNat th) (oL (opsT th T)) (oK (opsT th T)) (oY (opsT th T))))).2)]∧ ∀(x:Nat),rn1 (EGS.h (rnX sh th nd tr T)).2 x→bif ilt (↑x:Int) (↑(List.length (EGS.h (rnX sh th nd tr T)).2):Int)then((0:Int)≤(↑x:Int)∧(↑x:Int)<(↑(List.length (EGS.h (rnX sh th nd tr T)).2):Int))∧0+Int.toNat (↑x:Int)<List.length (EGS.h (rnX sh th nd tr T)).2∧bif !ilt (List.headD (List.tail (List.getD (EGS.h (rnX sh th nd tr T)).2 (0+Int.toNat (↑x:Int)) [])) 0) 0 then(0=0∧lE' (bP (List.take x (EGS.h (rnX sh th nd tr T)).2))∧List.length (bP (List.take x (EGS.h (rnX sh th nd tr T)).2))+(1:Nat)≤(4294967296:Nat))∧cN (mR T (rnX sh th nd tr T)) (fun x'=>Hint.ok (mR T (rnX sh th nd tr T)) x'∧Hint.mu (mR T (rnX sh th nd tr T)) x'<Hint.mu (mR T (rnX sh th nd tr T)) x) (.O::.O::.O::.O::.O::.O::.O::.ptr 1 0::.O::.O::.O::.tslice 2 0 (List.length (bP (List.take x (EGS.h (rnX sh th nd tr T)).2))+1) 3::(tO' 24 (.tslice 3 0 (List.length (EGS.h (rnX sh th nd tr T)).2) 9::.int .i64 (↑(List.length (EGS.h (rnX sh th nd tr T)).2):Int)::.int .i64 (W ((↑x:Int)+1))::(tO' 15 [])))) [some (.tab cK3 T),some (.abs (.engine (rnX sh th nd tr T)) []),some (.tab [some .i64,none,some .i64] (bP (List.take x (EGS.h (rnX sh th nd tr T)).2)++ [[List.headD (List.tail (List.tail (List.tail (List.tail (List.tail (List.tail (List.getD (EGS.h (rnX sh th nd tr T)).2 (0+Int.toNat (↑x:Int)) []))))))) 0,bif !ieq (List.headD (List.tail (List.tail (List.tail (List.tail (List.tail (List.tail (List.tail (List.getD (EGS.h (rnX sh th nd tr T)).2 (0+Int.toNat (↑x:Int)) [])))))))) 0) 0 then 1 else 0,List.headD (List.tail (List.tail (List.tail (List.tail (List.tail (List.tail (List.tail (List.tail (List.getD (EGS.h (rnX sh th nd tr T)).2 (0+Int.toNat (↑x:Int)) []))))))))) 0]])),some (.tab cK9 (EGS.h (rnX sh th nd tr T)).2)]else cN (mR T (rnX sh th nd tr T)) (fun x'=>Hint.ok (mR T (rnX sh th nd tr T)) x'∧Hint.mu (mR T (rnX sh th nd tr T)) x'<Hint.mu (mR T (rnX sh th nd tr T)) x) (.O::.O::.O::.O::.O::.O::.O::.ptr 1 0::.O::.O::.O::.tslice 2 0 (List.length (bP (List.take x (EGS.h (rnX sh th nd tr T)).2))) 3::(tO' 24 (.tslice 3 0 (List.length (EGS.h (rnX sh th nd tr T)).2) 9::.int .i64 (↑(List.length (EGS.h (rnX sh th nd tr T)).2):Int)::.int .i64 (W ((↑x:Int)+1))::(tO' 15 [])))) [some (.tab cK3 T),some (.abs (.engine (rnX sh th nd tr T)) []),some (.tab [some .i64,none,some .i64] (bP (List.take x (EGS.h (rnX sh th nd tr T)).2))),some (.tab cK9 (EGS.h (rnX sh th nd tr T)).2)]else K (.tup [.ptr 1 0,.tslice 2 0 (List.length (bP (List.take x (EGS.h (rnX sh th nd tr T)).2))) 3,.int .i64 0]) [some (.tab cK3 T),some (.abs (.engine (rnX sh th nd tr T)) []),some (.tab [some .i64,none,some .i64] (bP (List.take x (EGS.h (rnX sh th nd tr T)).2)))]
def aC9(sh th nd tr:Int)(T:List (List Int))(K:AVal→aC Ob→Prop):Prop:=(lE' T∧T.length≤(1000000:Nat)∧CN cK3)∧bif ieq (trC sh th nd tr T) 0 then cN (qO sh th nd tr T) (Hint.ok (qO sh th nd tr T)) (.O::.O::.O::.O::.O::.O::.O::.ptr 1 0::(tO' 15 (.tslice 0 0 T.length 3::.int .i64 (↑T.length:Int)::.int .i64 0::(tO' 28 [])))) [some (.tab cK3 T),some (.abs (.engine (eY sh th nd tr (Int.toNat th) (oL (opsT th T)) (oK (opsT th T)) (oY (opsT th T)))) [])]∧rnD sh th nd tr T K else bif !ieq (trC sh th nd tr T) 0 then K (.tup [.raw (Value.pointer none),.raw (Value.slice none 0 0),.int .i64 (trC sh th nd tr T)]) [some (.tab cK3 T)]else cN (qO sh th nd tr T) (Hint.ok (qO sh th nd tr T)) (.O::.O::.O::.O::.O::.O::.O::.raw (Value.pointer none)::(tO' 15 (.tslice 0 0 T.length 3::.int .i64 (↑T.length:Int)::.int .i64 0::(tO' 28 [])))) [some (.tab cK3 T)]∧rnD sh th nd tr T K
theorem QV(sh th nd tr:Int)(T:List (List Int))(K:AVal→aC Ob→Prop)(h:aC9 sh th nd tr T K):cT' 20 [.agg [.int .i64 sh,.int .i64 th,.int .i64 nd,.int .i64 tr],.tslice 0 0 T.length 3] [some (.tab tC T)] (f9 1 K):=by
 exact aD (E:=EUr) Tryz.checked.mixed (L:=LRN sh th nd tr T) (n:=10) (aK (by kernel_rfl) h)
theorem I0(cl:List (List Int))(j:Nat)(hj:j<cl.length):bP (cl.take (j+1))=bP (cl.take j)++(bif !ilt (List.headD (List.tail (cl.getD j [])) 0) 0 then [RN (cl.getD j [])]else []):=by
 have e:cl.take (j+1)=cl.take j++ [cl.getD j []]:=by
  rw [List.take_succ_eq_append_getElem hj,gD',gE' hj];rfl
 unfold bP;rw [e,List.filter_append,List.map_append,List.filter_cons];cases (!ilt (List.headD (List.tail (cl.getD j [])) 0) 0)<;>rfl
theorem rM(cl:List (List Int)):(bP cl).length ≤cl.length:=by
 unfold bP;rw [List.length_map];exact List.length_filter_le _ _
theorem I1{cl:List (List Int)}{j:Nat}(hj:j<cl.length)(h:(!ilt (List.headD (List.tail (cl.getD j [])) 0) 0)=true):bP (cl.take (j+1))=bP (cl.take j)++ [RN (cl.getD j [])]:=by
 rw [I0 cl j hj,h];rfl
theorem I2{cl:List (List Int)}{j:Nat}(hj:j<cl.length)(h:(!ilt (List.headD (List.tail (cl.getD j [])) 0) 0)=false):bP (cl.take (j+1))=bP (cl.take j):=by
 rw [I0 cl j hj,h];exact List.append_nil _
theorem aAj{sh th nd tr:Int}{T:List (List Int)}(h:trC sh th nd tr T=0):ieq (gnC sh th nd tr 0 (fun _=>0) (fun _ _=>0) (fun _ _=>0)) 0=true∧mM th T=false∧gnC sh th nd tr th.toNat (oL (opsT th T)) (oK (opsT th T)) (oY (opsT th T))=0:=by
 cases e:ieq (gnC sh th nd tr 0 (fun _=>0) (fun _ _=>0) (fun _ _=>0)) 0 with
 | false=>rw [RV e]at h;exact absurd h (XG e)
 | true=>
   cases e2:mM th T with
   | true=>rw [RW e e2]at h;cases h
   | false=>rw [RX e e2]at h;exact⟨rfl,rfl,h⟩
theorem DP{a b:Int}(T:List (List Int)): ∀x:EGS,egW a b x→egW a b (d8 T x):=by
 unfold d8
 induction T with
 | nil=>intro x h;exact h
 | cons r T ih=>intro x h;exact ih _ (aDB _ h)
theorem ZH{sh th nd tr:Int}{T:List (List Int)}(h:trC sh th nd tr T=0):egW th nd (bgE sh th nd tr T):=UW (aAj h).2.2
theorem aDu{T:List (List Int)}{x:Nat}(hx:x<T.length):T.take (x+1)=T.take x++ [T.getD x []]:=by
 have hge:T[x]? =some (T.getD x []):=by rw [gD',gE' hx];rfl
 rw [List.take_add_one,hge];rfl
theorem aFR(sh th nd tr:Int)(T:List (List Int))(K:AVal→aC Ob→Prop)(hT:T.length≤1000000)
 (hK:trC sh th nd tr T=0→K (.tup [.ptr 1 0,.tslice 2 0 (bP (rnX sh th nd tr T).h.cl).length 3,.int .i64 0]) [some (.tab tC T),some (.abs (.engine (rnX sh th nd tr T)) []),some (.tab rF (bP (rnX sh th nd tr T).h.cl))])
 (hE:trC sh th nd tr T≠0→K (.tup [.raw (.pointer none),.raw (.slice none 0 0),.int .i64 (trC sh th nd tr T)]) [some (.tab tC T)]):aC9 sh th nd tr T K:=by
 refine⟨⟨rfl,hT,⟨rfl⟩⟩,aR (fun e=>?_) (fun e=>aR (fun e2=>hE (XG e)) (fun e2=>by rw [e]at e2;cases e2))⟩
 have e0:=aCC e;have hK:=hK e0;refine⟨aN (H:=qO sh th nd tr T) (0:Nat) (by simp only [qO,List.take_zero]<;>rfl) ⟨Nat.zero_le _⟩,?_⟩
 unfold rnD;rintro x ⟨hj⟩;have wj:egW th nd (d8 (T.take x) (bgE sh th nd tr T)):=DP _ _ (ZH e0);refine aR (fun a1=>?_) (fun a1=>?_)
 ·have a1:=dW a1;have hx:x<T.length:=by omega
  refine⟨⟨by omega,a1⟩,by rw [Int.toNat_natCast,Nat.zero_add];exact hx,⟨⟨_,_,wj⟩⟩,?_⟩
  rw [Int.toNat_natCast,Nat.zero_add,W2 hx (by omega)]
  refine aN (H:=qO sh th nd tr T) (x+1:Nat) ?_ ⟨⟨hx⟩,by show T.length - (x+1)<T.length - x;omega⟩
  simp only [qO];rw [aDu hx,sN];rfl
 ·have a1:=dV a1;have hx:x=T.length:=by omega
  subst hx;rw [List.take_length]at wj⊢;have eX:d8 T (bgE sh th nd tr T)=rnX sh th nd tr T:=by unfold rnX;rfl
  rw [eX]at wj⊢;have hl:=uB wj;clear eX hE e e0 hj a1;generalize rnX sh th nd tr T=X at hl hK⊢;obtain⟨cl,hcl⟩: ∃cl,cl=X.h.cl:=⟨_,rfl⟩;have hl2:cl.length≤4294967296:=by rw [hcl];exact hl.2
  rw [←hcl]at hK;refine⟨hl,hl.2,aN (H:=mR T X) (0:Nat) (by simp only [mR,List.take_zero]<;>rfl) ⟨Nat.zero_le _⟩,?_⟩
  rintro j ⟨hj⟩;have hj:j≤cl.length:=by rw [hcl];exact hj
  show bif ilt (j:Int) (X.h.cl.length:Int)then _ else _;rw [←hcl];refine aR (fun a1=>?_) (fun a1=>?_)
  ·have a1:=dW a1;have hjl:j<cl.length:=by omega
   have hle:(bP (cl.take j)).length ≤j:=Nat.le_trans (rM _) (by rw [List.length_take];omega)
   refine⟨⟨by omega,a1⟩,by rw [Int.toNat_natCast,Nat.zero_add];exact hjl,?_⟩
   rw [Int.toNat_natCast,Nat.zero_add,W2 hjl hl2];refine aR (fun b1=>⟨⟨rfl,rfl,by show(bP (cl.take j)).length +1≤_;omega⟩,?_⟩) (fun b1=>?_)
   ·refine aN (H:=mR T X) (j+1:Nat) ?_ ⟨⟨by rw [←hcl];exact hjl⟩,by show X.h.cl.length - (j+1)<X.h.cl.length - j;rw [←hcl];omega⟩
    simp only [mR];rw [←hcl,I1 hjl b1,List.length_append];rfl
   ·refine aN (H:=mR T X) (j+1:Nat) ?_ ⟨⟨by rw [←hcl];exact hjl⟩,by show X.h.cl.length - (j+1)<X.h.cl.length - j;rw [←hcl];omega⟩
    simp only [mR];rw [←hcl,I2 hjl b1];rfl
  ·have a1:=dV a1;have hjl:j=cl.length:=by omega
   subst hjl;rw [List.take_length];exact hK
def rnS:aH Ob:=fun args h=>match args,h with
 | [.agg [.int .i64 sh,.int .i64 th,.int .i64 nd,.int .i64 tr],.tslice 0 0 n 3],[some (.tab tk T)]=>some (.pre (n=T.length∧T.length≤1000000∧CN tk) (.ite (ieq (trC sh th nd tr T) 0) (.ret (.tup [.ptr 1 0,.tslice 2 0 (bP (rnX sh th nd tr T).h.cl).length 3,.int .i64 0]) [some (.tab tC T),some (.abs (.engine (rnX sh th nd tr T)) []),some (.tab rF (bP (rnX sh th nd tr T).h.cl))]) (.ret (.tup [.raw (.pointer none),.raw (.slice none 0 0),.int .i64 (trC sh th nd tr T)]) [some (.tab tC T)])))
 | _,_=>none
theorem IZ:sT' 20 rnS:=by
 intro args h o ho K hK;unfold rnS at ho;split at ho<;>cases ho
 rename_i sh th nd tr n tk T;obtain⟨⟨rfl,h2,⟨rfl⟩⟩,hK⟩:=hK;have hK:bif ieq (trC sh th nd tr T) 0 then K _ _ else K _ _:=hK
 exact aIl (QV sh th nd tr T K (aFR sh th nd tr T K h2 (fun e=>by rw [e]at hK;exact hK) (fun e=>by
  rw [show ieq (trC sh th nd tr T) 0=false by rw [cF];exact decide_eq_false e]at hK
  exact hK)))
def tF(row:Nat→List AVal)(i:Nat):Int:=match row i with
 | [.int _ a,_,_]=>a
 | _=>0
def tG(row:Nat→List AVal)(i:Nat):Int:=match row i with
 | [_,.int _ a,_]=>a
 | _=>0
def tQ(row:Nat→List AVal)(i:Nat):Int:=match row i with
 | [_,_,.int _ a]=>a
 | _=>0
structure mN (row:Nat→List AVal):Prop where
 h:row=fun i=>[.int .i64 (tF row i),.int .i64 (tG row i),.int .i64 (tQ row i)]
def trT(p:Nat)(f g q:Nat→Int):List (List Int):=(List.range p).map fun i=>[f i,g i,q i]
theorem tD(p:Nat)(f g q:Nat→Int):(trT p f g q).length =p:=by unfold trT;rw [List.length_map,List.length_range]
theorem qM(p:Nat)(f g q:Nat→Int):trT (p+1) f g q=trT p f g q++ [[f p,g p,q p]]:=by
 unfold trT;rw [List.range_succ,List.map_append];rfl
theorem CY(u:Int)(T:List (List Int))(r:List Int):ofL u (T++ [r])=ofL u T++(bif ieq (List.headD r 0) u then [opR r]else []):=by
 unfold ofL;rw [List.filter_append,List.map_append,List.filter_cons];cases ieq (List.headD r 0) u<;>rfl
def u3(u:Nat)(T:List (List Int)):List (List (List Int)):=(List.range u).map fun(k:Nat)=>ofL (k:Int) T
theorem tA(u:Nat)(T:List (List Int)):(u3 u T).length =u:=by unfold u3;rw [List.length_map,List.length_range]
theorem CZ(u:Nat)(T:List (List Int)):u3 (u+1) T=u3 u T++ [ofL (u:Int) T]:=by
 unfold u3;rw [List.range_succ,List.map_append];rfl
theorem IR{th:Int}{T:List (List Int)}(hT: ∀r∈T,0≤List.headD r 0∧List.headD r 0<th):u3 th.toNat T=opsT th T:=(XU hT).symm
theorem aDx{p:Nat}{f g q:Nat→Int}{r:List Int}(h:r∈trT p f g q): ∃i,i<p∧r=[f i,g i,q i]:=by
 unfold trT at h;obtain⟨i,hi,rfl⟩:=List.mem_map.1 h;exact⟨i,List.mem_range.1 hi,rfl⟩
theorem YY{p:Nat}{f g q:Nat→Int}{i:Nat}(h:i<p): [f i,g i,q i]∈trT p f g q:=by
 unfold trT;exact List.mem_map.2 ⟨i,List.mem_range.2 h,rfl⟩
theorem vU{p:Nat}{f g q:Nat→Int}{i:Nat}(h:i≤p):(trT p f g q).take i=trT i f g q:=by
 unfold trT;rw [←List.map_take,List.take_range,Nat.min_eq_left h]
end Go.Sh
namespace Go.Sh
open Go Go.Proofs
variable [c:Con]
def erZS:aH Ob:=fun args h=>match args,h with
 | [.int .i64 sh,.int .i64 th,.int .i64 nd,.int .i64 tr,.raw (.slice none 0 0)],[]=>some (.pre True (.ret (.int .i64 (gnC sh th nd tr 0 (fun _=>0) (fun _ _=>0) (fun _ _=>0))) []))
 | _,_=>none
theorem aBC:sT' 78 erZS:=by
 intro args h o ho K hK;unfold erZS at ho;split at ho<;>cases ho
 rename_i sh th nd tr;obtain⟨_,hK⟩:=hK;refine aB.args (args2:=[.int .i64 sh,.int .i64 th,.int .i64 nd,.int .i64 tr,.view 0 1 (fun _=>[.view 0 2 (fun _=>[.int .i64 0,.int .i64 0])])]) ?_ ?_
 ·rintro V l ⟨v0,l0,rfl,r0,v1,l1,rfl,r1,v2,l2,rfl,r2,v3,l3,rfl,r3,v4,l4,rfl,r4,r5⟩;have r4:v4=.slice none 0 0:=r4;exact⟨v0,_,rfl,r0,v1,_,rfl,r1,v2,_,rfl,r2,v3,_,rfl,r3,v4,_,rfl,⟨none,0,r4,Nat.le_refl _,.inr rfl⟩,r5⟩
 ·have hS:erS [.int .i64 sh,.int .i64 th,.int .i64 nd,.int .i64 tr,.view 0 1 (fun _=>[.view 0 2 (fun _=>[.int .i64 0,.int .i64 0])])] []=some (.pre (0≤1000000∧pF (fun _=>[.view 0 2 (fun _=>[.int .i64 0,.int .i64 0])])) (.ret (.int .i64 (gnC sh th nd tr 0 (fun _=>0) (fun _ _=>0) (fun _ _=>0))) [])):=rfl;exact HO _ _ _ hS K ⟨⟨Nat.zero_le _,⟨rfl⟩⟩,hK⟩
def erRS:aH Ob:=fun args h=>match args,h with
 | [.int .i64 sh,.int .i64 th,.int .i64 nd,.int .i64 tr,.slice 0 0 m 1],[some (.abs (.orow ws) [])]=>some (.pre (m=ws.length∧m≤1000000) (.ret (.int .i64 (gnC sh th nd tr m (oL ws) (oK ws) (oY ws))) [some (.abs (.orow ws) [])]))
 | _,_=>none
theorem aBB:sT' 78 erRS:=by
 intro args h o ho K hK;unfold erRS at ho;split at ho<;>cases ho
 rename_i sh th nd tr m ws;obtain⟨⟨rfl,hm⟩,hK⟩:=hK;have hK:K (.int .i64 (gnC sh th nd tr ws.length (oL ws) (oK ws) (oY ws))) [some (.abs (.orow ws) [])]:=hK;refine aI3 (args2:=[.int .i64 sh,.int .i64 th,.int .i64 nd,.int .i64 tr,.view ws.length 1 (vrO ws)]) zN (fun _=>false) ?_ ?_
 ·rintro c' hc V l hm ⟨v0,l0,rfl,r0,v1,l1,rfl,r1,v2,l2,rfl,r2,v3,l3,rfl,r3,v4,l4,rfl,r4,r5⟩;obtain⟨p0,a1,a2⟩:=hm 0 _ rfl rfl;exact⟨v0,_,rfl,r0,v1,_,rfl,r1,v2,_,rfl,r2,v3,_,rfl,r3,v4,_,rfl,xL (Rep.con hc _ _ r4) a1 a2 (Nat.le_refl _),r5⟩
 ·intro c';have hS:erS [.int .i64 sh,.int .i64 th,.int .i64 nd,.int .i64 tr,.view ws.length 1 (vrO ws)] []=some (.pre (ws.length≤1000000∧pF (vrO ws)) (.ret (.int .i64 (gnC sh th nd tr ws.length (oL ws) (oK ws) (oY ws))) [])):=rfl;have h1:=@HO c' _ _ _ hS (fun v g=>v=.int .i64 (gnC sh th nd tr ws.length (oL ws) (oK ws) (oY ws))∧g=[]) ⟨⟨hm,⟨rfl⟩⟩,⟨rfl,rfl⟩⟩;refine aIU h1 [] rfl (by decide) (fun l hl=>by cases hl) ?_ rfl ?_
  ·intro i l hi;simp at hi
  ·rintro v g ⟨rfl,rfl⟩ _;refine⟨rfl,rfl,?_,hK⟩;intro l hl hS
   match l,hl with
   | 0,_=>rfl
   | l+1,hl=>simp at hl
abbrev vT(f g q:Nat→Int)(i:Nat):List AVal:=[.int .i64 (f i),.int .i64 (g i),.int .i64 (q i)]
structure tf1 (p:Nat) (i:Nat):Prop where
 hi:i≤p
def DT(u:Int)(p:Nat)(f g q:Nat→Int):Hint Ob:= {X:=Nat,st:=fun i=>([.int .i64 u,.view p 3 (vT f g q),.O,.O,.O,.tslice 0 0 (ofL u (trT i f g q)).length 2,.int .i64 (i:Int)]++List.replicate 22 .O,[some (.tab opK (ofL u (trT i f g q)))]),ok:=tf1 p,mu:=fun i=>p - i,keep:=[0,1,5,6],casts:=[(.slot 5,.tab opK)] }
def LTF(u:Int)(p:Nat)(f g q:Nat→Int):FuncId→Nat→Option (lE Ob):=fun _ k=>match k with
 | 3=>some (.states (DT u p f g q))
 | _=>none
def aDv(u:Int)(p:Nat)(f g q:Nat→Int)(K:AVal→aC Ob→Prop):Prop:=cN (DT u p f g q) (Hint.ok (DT u p f g q)) (.int .i64 u::.view p 3 (vT f g q)::.O::.O::.O::.tslice 0 0 0 2::.int .i64 0::(tO' 22 [])) [some (.tab [some .i64,some .i64] [])]∧ ∀(x:Nat),tf1 p x→bif ilt (↑x:Int) (↑p:Int)then((0:Int)≤(↑x:Int)∧(↑x:Int)<(↑p:Int))∧bif ieq (f (Int.toNat (↑x:Int))) u then((0:Int)≤(↑x:Int)∧(↑x:Int)<(↑p:Int))∧(0=0∧lE' (ofL u (trT x f g q))∧List.length (ofL u (trT x f g q))+(1:Nat)≤(4294967296:Nat))∧cN (DT u p f g q) (fun x'=>Hint.ok (DT u p f g q) x'∧Hint.mu (DT u p f g q) x'<Hint.mu (DT u p f g q) x) (.int .i64 u::.view p 3 (vT f g q)::.O::.O::.O::.tslice 0 0 (List.length (ofL u (trT x f g q))+1) 2::.int .i64 (W ((↑x:Int)+1))::(tO' 22 [])) [some (.tab [some .i64,some .i64] (ofL u (trT x f g q)++ [[g (Int.toNat (↑x:Int)),q (Int.toNat (↑x:Int))]]))]else cN (DT u p f g q) (fun x'=>Hint.ok (DT u p f g q) x'∧Hint.mu (DT u p f g q) x'<Hint.mu (DT u p f g q) x) (.int .i64 u::.view p 3 (vT f g q)::.O::.O::.O::.tslice 0 0 (List.length (ofL u (trT x f g q))) 2::.int .i64 (W ((↑x:Int)+1))::(tO' 22 [])) [some (.tab [some .i64,some .i64] (ofL u (trT x f g q)))]else K (.tslice 0 0 (List.length (ofL u (trT x f g q))) 2) [some (.tab [some .i64,some .i64] (ofL u (trT x f g q)))]
theorem RO(u:Int)(p:Nat)(f g q:Nat→Int)(K:AVal→aC Ob→Prop)(h:aDv u p f g q K):cT' 48 [.int .i64 u,.view p 3 (vT f g q)] [] (f9 0 K):=by
 exact aD (E:=EUv) Tryz.checked.mixed (L:=LTF u p f g q) (n:=10) (aK (by kernel_rfl) h)
structure tt1 (p:Nat) (i:Nat):Prop where
 hi:i≤p
def SU(p:Nat)(f g q:Nat→Int):Hint Ob:= {X:=Nat,st:=fun i=>([.O,.O,.O,.tslice 0 0 (trT i f g q).length 3,.O,.O,.view p 3 (vT f g q),.int .i64 (p:Int),.int .i64 (i:Int)]++List.replicate 13 .O,[some (.tab tC (trT i f g q))]),ok:=tt1 p,mu:=fun i=>p - i,keep:=[3,6,7,8],casts:=[(.slot 3,.tab tC)] }
def LTT(p:Nat)(f g q:Nat→Int):FuncId→Nat→Option (lE Ob):=fun _ k=>match k with
 | 3=>some (.states (SU p f g q))
 | _=>none
def aDz(p:Nat)(f g q:Nat→Int)(K:AVal→aC Ob→Prop):Prop:=cN (SU p f g q) (Hint.ok (SU p f g q)) [.O,.O,.O,.tslice 0 0 0 3,.O,.O,.view p 3 (vT f g q),.int .i64 (↑p:Int),.int .i64 0,.O,.O,.O,.O,.O,.O,.O,.O,.O,.O,.O,.O,.O] [some (.tab cK3 [])]∧ ∀(x:Nat),tt1 p x→bif ilt (↑x:Int) (↑p:Int)then((0:Int)≤(↑x:Int)∧(↑x:Int)<(↑p:Int))∧(0=0∧lE' (trT x f g q)∧List.length (trT x f g q)+(1:Nat)≤(4294967296:Nat))∧cN (SU p f g q) (fun x'=>Hint.ok (SU p f g q) x'∧Hint.mu (SU p f g q) x'<Hint.mu (SU p f g q) x) [.O,.O,.O,.tslice 0 0 (List.length (trT x f g q)+1) 3,.O,.O,.view p 3 (vT f g q),.int .i64 (↑p:Int),.int .i64 (W ((↑x:Int)+1)),.O,.O,.O,.O,.O,.O,.O,.O,.O,.O,.O,.O,.O] [some (.tab cK3 (trT x f g q++ [[f (Int.toNat (↑x:Int)),g (Int.toNat (↑x:Int)),q (Int.toNat (↑x:Int))]]))]else K (.tslice 0 0 (List.length (trT x f g q)) 3) [some (.tab cK3 (trT x f g q))]
theorem RZ(p:Nat)(f g q:Nat→Int)(K:AVal→aC Ob→Prop)(h:aDz p f g q K):cT' 18 [.view p 3 (vT f g q)] [] (f9 0 K):=by
 exact aD (E:=EUv) Tryz.checked.mixed (L:=LTT p f g q) (n:=10) (aK (by kernel_rfl) h)
end Go.Sh
namespace Go.Sh
open Go Go.Proofs
variable [Con]
theorem aFH{u:Int}{p:Nat}{f g q:Nat→Int}(h:ieq (f p) u=true):ofL u (trT (p+1) f g q)=ofL u (trT p f g q)++ [[g p,q p]]:=by
 rw [qM,CY,show ieq (List.headD [f p,g p,q p] 0) u=true from h];rfl
theorem aFG{u:Int}{p:Nat}{f g q:Nat→Int}(h:ieq (f p) u=false):ofL u (trT (p+1) f g q)=ofL u (trT p f g q):=by
 rw [qM,CY,show ieq (List.headD [f p,g p,q p] 0) u=false from h];exact List.append_nil _
theorem aCR(u:Int)(T:List (List Int)):(ofL u T).length ≤T.length:=by
 unfold ofL;rw [List.length_map];exact List.length_filter_le _ _
theorem aFX(u:Int)(p:Nat)(f g q:Nat→Int)(K:AVal→aC Ob→Prop)(hp:p≤1000000)(hK:K (.tslice 0 0 (ofL u (trT p f g q)).length 2) [some (.tab opK (ofL u (trT p f g q)))]):aDv u p f g q K:=by
 refine⟨aN (H:=DT u p f g q) (0:Nat) rfl ⟨Nat.zero_le _⟩,?_⟩;rintro x ⟨hj⟩;refine aR (fun a1=>?_) (fun a1=>?_)
 ·have a1:=dW a1;have hx:x<p:=by omega
  refine⟨⟨by omega,a1⟩,?_⟩
  rw [Int.toNat_natCast,W2 hx (by omega)]
  have hl:(ofL u (trT x f g q)).length ≤x:=by
   have:=aCR u (trT x f g q);rw [tD]at this;exact this
  refine aR (fun b1=>?_) (fun b1=>?_)
  ·refine⟨⟨by omega,a1⟩,⟨rfl,rfl,by omega⟩,aN (H:=DT u p f g q) (x+1:Nat) ?_ ⟨⟨hx⟩,by show p - (x+1)<p - x;omega⟩⟩
   simp only [DT];rw [aFH b1,List.length_append];rfl
  ·refine aN (H:=DT u p f g q) (x+1:Nat) ?_ ⟨⟨hx⟩,by show p - (x+1)<p - x;omega⟩
   simp only [DT];rw [aFG b1];rfl
 ·have a1:=dV a1;have hx:x=p:=by omega
  subst hx;exact hK
theorem aFZ(p:Nat)(f g q:Nat→Int)(K:AVal→aC Ob→Prop)(hp:p≤1000000)(hK:K (.tslice 0 0 (trT p f g q).length 3) [some (.tab tC (trT p f g q))]):aDz p f g q K:=by
 refine⟨aN (H:=SU p f g q) (0:Nat) rfl ⟨Nat.zero_le _⟩,?_⟩;rintro x ⟨hj⟩;refine aR (fun a1=>?_) (fun a1=>?_)
 ·have a1:=dW a1;have hx:x<p:=by omega
  refine⟨⟨by omega,a1⟩,⟨rfl,rfl,by rw [tD];omega⟩,aN (H:=SU p f g q) (x+1:Nat) ?_ ⟨⟨hx⟩,by show p - (x+1)<p - x;omega⟩⟩
  rw [Int.toNat_natCast,W2 hx (by omega)]
  simp only [SU];rw [qM,List.length_append];rfl
 ·have a1:=dV a1;have hx:x=p:=by omega
  subst hx;exact hK
def tfS:aH Ob:=fun args h=>match args,h with
 | [.int .i64 u,.view p 3 row],[]=>some (.pre (p≤1000000∧mN row) (.ret (.tslice 0 0 (ofL u (trT p (tF row) (tG row) (tQ row))).length 2) [some (.tab opK (ofL u (trT p (tF row) (tG row) (tQ row))))]))
 | _,_=>none
theorem aFW:sT' 48 tfS:=by
 intro args h o ho K hK;unfold tfS at ho;split at ho<;>cases ho
 rename_i u p row;obtain⟨⟨h2,⟨hr⟩⟩,hK⟩:=hK;have e:(AVal.view p 3 row)=.view p 3 (vT (tF row) (tG row) (tQ row)):=congrArg (AVal.view p 3) hr;rw [e];exact aIl (RO u p _ _ _ K (aFX u p _ _ _ K h2 hK))
def ttS:aH Ob:=fun args h=>match args,h with
 | [.view p 3 row],[]=>some (.pre (p≤1000000∧mN row) (.ret (.tslice 0 0 (trT p (tF row) (tG row) (tQ row)).length 3) [some (.tab tC (trT p (tF row) (tG row) (tQ row)))]))
 | _,_=>none
theorem aFY:sT' 18 ttS:=by
 intro args h o ho K hK;unfold ttS at ho;split at ho<;>cases ho
 rename_i p row;obtain⟨⟨h2,⟨hr⟩⟩,hK⟩:=hK;have e:(AVal.view p 3 row)=.view p 3 (vT (tF row) (tG row) (tQ row)):=congrArg (AVal.view p 3) hr;rw [e];exact aIl (RZ p _ _ _ K (aFZ p _ _ _ K h2 hK))
noncomputable def EUw:Env Ob Tryz.prog:=vZ (((EUv.addS 78 (aH.or erZS (aH.or erRS erS)) (aIJ aBC (aIJ aBB HO))).addS 48 tfS aFW).addS 18 ttS aFY) rfl
structure ee1 (th:Int) (p:Nat) (f:Nat→Int) (i:Nat):Prop where
 hi:i≤p
 hr: ∀j,j<i→0≤f j∧f j<th
structure ee2 (th:Int) (u:Nat):Prop where
 h1:1≤u
 h2:(u:Int)≤th
def x8(sh th nd tr:Int)(p:Nat)(f g q:Nat→Int):Hint Ob:= {X:=Nat,st:=fun i=>([.int .i64 sh,.int .i64 th,.int .i64 nd,.int .i64 tr,.view p 3 (vT f g q),.O,.O,.O,.O,.O,.O,.O,.int .i64 (i:Int)]++List.replicate 48 .O,[]),ok:=ee1 th p f,mu:=fun i=>p - i,keep:=[0,1,2,3,4,12] }
def aFS(k:Nat)(tm:List AVal)(_:aC Ob):Bool:=match tm.getD k .O with
 | .raw (.slice none 0 0)=>true
 | _=>false
def HE25(sh th nd tr:Int)(p:Nat)(f g q:Nat→Int):Hint Ob:= {X:=Unit,st:=fun _=>([.int .i64 sh,.int .i64 th,.int .i64 nd,.int .i64 tr,.view p 3 (vT f g q),.O,.O,.O,.O,.O,.O,.O,.O,.raw (.slice none 0 0),.int .i64 0]++List.replicate 46 .O,[]),ok:=fun _=>True,mu:=fun _=>th.toNat+1,keep:=[0,1,2,3,4,13,14],sel:=aFS 13}
def tI(sh th nd tr:Int)(p:Nat)(f g q:Nat→Int):Hint Ob:= {X:=Nat,st:=fun u=>([.int .i64 sh,.int .i64 th,.int .i64 nd,.int .i64 tr,.view p 3 (vT f g q),.O,.O,.O,.O,.O,.O,.O,.O,.slice 0 0 u 1,.int .i64 (u:Int)]++List.replicate 46 .O,[some (.abs (.orow (u3 u (trT p f g q))) [])]),ok:=ee2 th,mu:=fun u=>th.toNat - u,keep:=[0,1,2,3,4,13,14] }
def aGw(sh th nd tr:Int)(p:Nat)(f g q:Nat→Int):FuncId→Nat→Option (lE Ob):=fun _ k=>match k with
 | 5=>some (.states (x8 sh th nd tr p f g q))
 | 11=>some (.cases [HE25 sh th nd tr p f g q,tI sh th nd tr p f g q])
 | _=>none
abbrev w3x(f g:Nat→Int)(p:Nat)(q:Nat→Int):=trT p (tF (vT f g q)) (tG (vT f g q)) (tQ (vT f g q))
def OE(sh th nd tr:Int)(p:Nat)(f g q:Nat→Int)(K:AVal→aC Ob→Prop):Prop:=True∧bif !ieq (gnC sh th nd tr 0 (fun x=>(0:Nat)) (fun x x_1=>(0:Int)) fun x x_1=>(0:Int)) 0 then K (.int .i64 (gnC sh th nd tr 0 (fun x=>(0:Nat)) (fun x x_1=>(0:Int)) fun x x_1=>(0:Int))) []else cN (x8 sh th nd tr p f g q) (Hint.ok (x8 sh th nd tr p f g q)) (.int .i64 sh::.int .i64 th::.int .i64 nd::.int .i64 tr::.view p 3 (vT f g q)::.O::.O::.O::.O::.O::.O::.O::.int .i64 0::(tO' 48 [])) []∧ ∀(x:Nat),ee1 th p f x→bif ilt (↑x:Int) (↑p:Int)then((0:Int)≤(↑x:Int)∧(↑x:Int)<(↑p:Int))∧bif ilt (f (Int.toNat (↑x:Int))) 0 then K (.int .i64 2) []else((0:Int)≤(↑x:Int)∧(↑x:Int)<(↑p:Int))∧bif ile th (f (Int.toNat (↑x:Int)))then K (.int .i64 2) []else cN (x8 sh th nd tr p f g q) (fun x'=>Hint.ok (x8 sh th nd tr p f g q) x'∧Hint.mu (x8 sh th nd tr p f g q) x'<Hint.mu (x8 sh th nd tr p f g q) x) (.int .i64 sh::.int .i64 th::.int .i64 nd::.int .i64 tr::.view p 3 (vT f g q)::.O::.O::.O::.O::.O::.O::.O::.int .i64 (W ((↑x:Int)+1))::(tO' 48 [])) []else cN (HE25 sh th nd tr p f g q) (fun x=>Hint.ok (HE25 sh th nd tr p f g q) x∧mH none (Hint.mu (HE25 sh th nd tr p f g q) x)) (.int .i64 sh::.int .i64 th::.int .i64 nd::.int .i64 tr::.view p 3 (vT f g q)::.O::.O::.O::.O::.O::.O::.O::.O::.raw (Value.slice none 0 0)::.int .i64 0::(tO' 46 [])) []∧(∀(x:Unit),True→bif ilt 0 th then(p≤(1000000:Nat)∧mN (vT f g q))∧(1=1∧0=0∧0=0∧lE' (ofL 0 (w3x f g p q))∧2=2)∧cN (tI sh th nd tr p f g q) (fun x_1=>Hint.ok (tI sh th nd tr p f g q) x_1∧mH (some (Hint.mu (HE25 sh th nd tr p f g q) x)) (Hint.mu (tI sh th nd tr p f g q) x_1)) (.int .i64 sh::.int .i64 th::.int .i64 nd::.int .i64 tr::.view p 3 (vT f g q)::.O::.O::.O::.O::.O::.O::.O::.O::.slice 0 0 1 1::.int .i64 (W (0+1))::(tO' 46 [])) [some (.abs (.orow [ofL 0 (w3x f g p q)]) [])]else True∧K (.int .i64 (gnC sh th nd tr 0 (fun x=>(0:Nat)) (fun x x_1=>(0:Int)) fun x x_1=>(0:Int))) [])∧(∀(x:Nat),ee2 th x→bif ilt (↑x:Int) th then(p≤(1000000:Nat)∧mN (vT f g q))∧(1=1∧0=0∧1=1∧x=List.length (u3 x (trT p f g q))∧x+(1:Nat)≤(4294967296:Nat)∧1=1∧0=0∧lE' (ofL (↑x:Int) (w3x f g p q))∧2=2)∧cN (tI sh th nd tr p f g q) (fun x_1=>Hint.ok (tI sh th nd tr p f g q) x_1∧mH (some (Hint.mu (tI sh th nd tr p f g q) x)) (Hint.mu (tI sh th nd tr p f g q) x_1)) (.int .i64 sh::.int .i64 th::.int .i64 nd::.int .i64 tr::.view p 3 (vT f g q)::.O::.O::.O::.O::.O::.O::.O::.O::.slice 0 0 (x+1) 1::.int .i64 (W ((↑x:Int)+1))::(tO' 46 [])) [some (.abs (.orow (u3 x (trT p f g q)++ [ofL (↑x:Int) (w3x f g p q)])) [])]else(x=List.length (u3 x (trT p f g q))∧x≤(1000000:Nat))∧K (.int .i64 (gnC sh th nd tr x (oL (u3 x (trT p f g q))) (oK (u3 x (trT p f g q))) (oY (u3 x (trT p f g q))))) [])∧True
theorem J0(sh th nd tr:Int)(p:Nat)(f g q:Nat→Int)(K:AVal→aC Ob→Prop)(h:OE sh th nd tr p f g q K):cT' 74 [.int .i64 sh,.int .i64 th,.int .i64 nd,.int .i64 tr,.view p 3 (vT f g q)] [] (f9 0 K):=by
 exact aD (E:=EUw) Tryz.checked.mixed (L:=aGw sh th nd tr p f g q) (n:=10) (aK (by kernel_rfl) h)
theorem aG0{b:Bool}(h:(!b)=true):b=false:=by cases b<;>simp_all
theorem aFA{b:Bool}(h:(!b)=false):b=true:=by cases b<;>simp_all
theorem aBk(sh th nd tr:Int)(p:Nat)(f g q:Nat→Int)(K:AVal→aC Ob→Prop)(hp:p≤1000000)(hK:K (.int .i64 (trC sh th nd tr (trT p f g q))) []):OE sh th nd tr p f g q K:=by
 refine⟨trivial,aR (fun e=>?_) (fun e=>?_)⟩
 ·rw [RV (aG0 e)]at hK;exact hK
 have e:=aFA e;obtain⟨h1,h2,h3,h4⟩:=FM e;refine⟨aN (H:=x8 sh th nd tr p f g q) (0:Nat) rfl ⟨Nat.zero_le _,fun j hj=>absurd hj (Nat.not_lt_zero j)⟩,?_⟩;rintro x ⟨hj,hr⟩;refine aR (fun a1=>?_) (fun a1=>?_)
 ·have a1:=dW a1;have hx:x<p:=by omega
  have key:(f x<0∨th≤f x)→K (.int .i64 2) []:=by
   intro h;have ec:=RW (T:=trT p f g q) e (I4 (YY hx) h);rw [ec]at hK;exact hK
  refine⟨⟨by omega,a1⟩,?_⟩
  rw [Int.toNat_natCast,W2 hx (by omega)]
  refine aR (fun b1=>key (.inl (dW b1))) (fun b1=>⟨⟨by omega,a1⟩,aR (fun b2=>key (.inr (aFr b2))) (fun b2=>?_)⟩)
  have b1:=dV b1;have b2:=aFq b2;refine aN (H:=x8 sh th nd tr p f g q) (x+1:Nat) rfl ⟨⟨hx,fun j hj=>?_⟩,by show p - (x+1)<p - x;omega⟩
  by_cases h:j=x
  ·rw [h];omega
  ·exact hr j (by omega)
 ·have a1:=dV a1;have hx:x=p:=by omega
  subst hx
  have hT: ∀r∈trT x f g q,0≤List.headD r 0∧List.headD r 0<th:=by
   intro r hm;obtain⟨i,hi,rfl⟩:=aDx hm;exact hr i hi
  rw [RX e (I3 hT),←IR hT]at hK;obtain⟨T,hTe⟩: ∃T,T=trT x f g q:=⟨_,rfl⟩;refine⟨aN (H:=HE25 sh th nd tr x f g q) () rfl ⟨trivial,trivial⟩,?_,?_,trivial⟩
  ·rintro _ _;refine aR (fun b1=>?_) (fun b1=>absurd (dV b1) (by omega))
   refine⟨⟨hp,⟨rfl⟩⟩,⟨rfl,rfl,rfl,rfl,rfl⟩,aN (H:=tI sh th nd tr x f g q) (1:Nat) rfl ⟨⟨Nat.le_refl _,by omega⟩,by show th.toNat - 1<th.toNat+1;omega⟩⟩
  ·rintro u ⟨u1,u2⟩;refine aR (fun b1=>?_) (fun b1=>?_)
   ·have b1:=dW b1;refine⟨⟨hp,⟨rfl⟩⟩,⟨rfl,rfl,rfl,(tA _ _).symm,by omega,rfl,rfl,rfl,rfl⟩,aN (H:=tI sh th nd tr x f g q) (u+1:Nat) ?_ ⟨⟨Nat.le_add_left _ _,by omega⟩,by show th.toNat - (u+1)<th.toNat - u;omega⟩⟩
    rw [W2 (m:=100) (by omega) (by omega)]
    simp only [tI];rw [CZ];rfl
   ·have b1:=dV b1;have hu:u=th.toNat:=by omega
    subst hu;exact⟨⟨(tA _ _).symm,by omega⟩,hK⟩
def e24S:aH Ob:=fun args h=>match args,h with
 | [.int .i64 sh,.int .i64 th,.int .i64 nd,.int .i64 tr,.view p 3 row],[]=>some (.pre (p≤1000000∧mN row) (.ret (.int .i64 (trC sh th nd tr (trT p (tF row) (tG row) (tQ row)))) []))
 | _,_=>none
theorem OF:sT' 74 e24S:=by
 intro args h o ho K hK;unfold e24S at ho;split at ho<;>cases ho
 rename_i sh th nd tr p row;obtain⟨⟨h2,⟨hr⟩⟩,hK⟩:=hK;have e:(AVal.view p 3 row)=.view p 3 (vT (tF row) (tG row) (tQ row)):=congrArg (AVal.view p 3) hr;rw [e];exact aIl (J0 sh th nd tr p _ _ _ K (aBk sh th nd tr p _ _ _ K h2 hK))
noncomputable def EUq:Env Ob Tryz.prog:=vZ (EUw.addS 20 (aH.or rnS (pO [(.slot 1,.tab tC)] rnS)) (aIJ IZ (rS IZ))) rfl
def LAW:FuncId→Nat→Option (lE Ob):=fun _ k=>match k with
 | 3=>some (.rounds 3)
 | _=>none
def EP(K:AVal→aC Ob→Prop):Prop:=((0:Int)≤(0:Int)∧(0:Int)<(↑1:Int))∧(1:Nat)≤(4294967296:Nat)∧((0:Int)≤(0:Int)∧(0:Int)<(↑2:Int))∧(1:Nat)≤(4294967296:Nat)∧((0:Int)≤W (0+1)∧W (0+1)<(↑2:Int))∧1+(1:Nat)≤(4294967296:Nat)∧1+(1+1)≤(4294967296:Nat)∧(3=3∧List.length [[0,4,5],[1,5,0],[1,5,0]]≤(1000000:Nat)∧CN cK3)∧bif ieq (trC 3 2 6 0 [[0,4,5],[1,5,0],[1,5,0]]) 0 then bif ieq (↑(List.length (bP (EGS.h (rnX 3 2 6 0 [[0,4,5],[1,5,0],[1,5,0]])).2)):Int) 3 then((0:Int)≤(0:Int)∧(0:Int)<(↑(List.length (bP (EGS.h (rnX 3 2 6 0 [[0,4,5],[1,5,0],[1,5,0]])).2)):Int))∧0+Int.toNat (0:Int)<List.length (bP (EGS.h (rnX 3 2 6 0 [[0,4,5],[1,5,0],[1,5,0]])).2)∧bif !ieq (List.headD (List.tail (List.getD (bP (EGS.h (rnX 3 2 6 0 [[0,4,5],[1,5,0],[1,5,0]])).2) (0+Int.toNat 0) [])) 0) 0 then((0:Int)≤(1:Int)∧(1:Int)<(↑(List.length (bP (EGS.h (rnX 3 2 6 0 [[0,4,5],[1,5,0],[1,5,0]])).2)):Int))∧0+Int.toNat (1:Int)<List.length (bP (EGS.h (rnX 3 2 6 0 [[0,4,5],[1,5,0],[1,5,0]])).2)∧bif bif ieq (List.headD (List.getD (bP (EGS.h (rnX 3 2 6 0 [[0,4,5],[1,5,0],[1,5,0]])).2) (0+Int.toNat 1) []) 0) 0 then bif bif !ieq (List.headD (List.tail (List.getD (bP (EGS.h (rnX 3 2 6 0 [[0,4,5],[1,5,0],[1,5,0]])).2) (0+Int.toNat 1) [])) 0) 0 then true else false then bif ieq (List.headD (List.tail (List.tail (List.getD (bP (EGS.h (rnX 3 2 6 0 [[0,4,5],[1,5,0],[1,5,0]])).2) (0+Int.toNat 1) []))) 0) 5 then true else false else false else false then((0:Int)≤(2:Int)∧(2:Int)<(↑(List.length (bP (EGS.h (rnX 3 2 6 0 [[0,4,5],[1,5,0],[1,5,0]])).2)):Int))∧0+Int.toNat (2:Int)<List.length (bP (EGS.h (rnX 3 2 6 0 [[0,4,5],[1,5,0],[1,5,0]])).2)∧K (.bool (bif ieq (List.headD (List.getD (bP (EGS.h (rnX 3 2 6 0 [[0,4,5],[1,5,0],[1,5,0]])).2) (0+Int.toNat 2) []) 0) 0 then bif !!ieq (List.headD (List.tail (List.getD (bP (EGS.h (rnX 3 2 6 0 [[0,4,5],[1,5,0],[1,5,0]])).2) (0+Int.toNat 2) [])) 0) 0 then bif ieq (List.headD (List.tail (List.tail (List.getD (bP (EGS.h (rnX 3 2 6 0 [[0,4,5],[1,5,0],[1,5,0]])).2) (0+Int.toNat 2) []))) 0) 0 then true else false else false else false)) []else K (.bool false) []else K (.bool false) []else K (.bool false) []else bif ieq (trC 3 2 6 0 [[0,4,5],[1,5,0],[1,5,0]]) 0 then K (.bool false) []else K (.bool false) []
theorem ES(K:AVal→aC Ob→Prop)(h:EP K):cT' 15 [] [] (f9 0 K):=by
 exact aD (E:=EUq) Tryz.checked.mixed (L:=LAW) (n:=10) (aK (by kernel_rfl) h)
theorem aH.weak{f:FuncId}{F G:aH Ob}{P:Program}{I:Itp Ob}(hF:aH.ok I P f F)(h: ∀args h o,G args h=some o→ ∃o',F args h=some o'∧ ∀K,o.run K→o'.run K):aH.ok I P f G:=by
 intro args g o ho K hK;obtain⟨o',h1,h2⟩:=h args g o ho;exact hF args g o' h1 K (h2 K hK)
theorem TI(K:AVal→aC Ob→Prop)(hK:K (.bool true) []):EP K:=by
 refine⟨by decide,by decide,by decide,by decide,by decide,by decide,by decide,⟨rfl,by decide,⟨rfl⟩⟩,?_⟩
 rw [show trC 3 2 6 0 [[0,4,5],[1,5,0],[1,5,0]]=0 by kernel_rfl,show bP (rnX 3 2 6 0 [[0,4,5],[1,5,0],[1,5,0]]).h.cl =[[0,1,0],[0,1,5],[0,0,0]] by kernel_rfl]
 exact⟨by decide,by decide,by decide,by decide,by decide,by decide,hK⟩
def aw24S:aH Ob:=fun args h=>match args,h with
 | [],[]=>some (.ret (.bool true) [])
 | _,_=>none
theorem TH:sT' 15 aw24S:=by
 intro args h o ho K hK;unfold aw24S at ho;split at ho
 case h_2=>cases ho
 simp only [sI']at ho;subst ho;exact aIl (ES K (TI K hK))
def rnAS:aH Ob:=fun args h=>match args,h with
 | [.agg [.int .i64 sh,.int .i64 th,.int .i64 nd,.int .i64 tr],.tslice 0 0 n 3],[some (.tab tk T)]=>some (.pre ((n=T.length∧T.length≤1000000∧CN tk)∧trC sh th nd tr T=0) (.ret (.tup [.ptr 1 0,.tslice 2 0 (bP (rnX sh th nd tr T).h.cl).length 3,.int .i64 0]) [some (.tab tC T),some (.abs (.engine (rnX sh th nd tr T)) []),some (.tab rF (bP (rnX sh th nd tr T).h.cl))]))
 | _,_=>none
theorem aC7:sT' 20 rnAS:=by
 refine aH.weak IZ ?_;intro args h o ho;unfold rnAS at ho;split at ho<;>cases ho
 rename_i sh th nd tr n tk T;refine⟨_,rfl,fun K hK=>?_⟩;obtain⟨⟨h1,h2⟩,hK⟩:=hK
 exact⟨h1,by
  show bif ieq (trC sh th nd tr T) 0 then _ else _;rw [h2];exact hK⟩
def rnBS:aH Ob:=fun args h=>match args,h with
 | [.agg [.int .i64 sh,.int .i64 th,.int .i64 nd,.int .i64 tr],.tslice 0 0 n 3],[some (.tab tk T)]=>some (.pre ((n=T.length∧T.length≤1000000∧CN tk)∧trC sh th nd tr T≠0) (.ret (.tup [.raw (.pointer none),.raw (.slice none 0 0),.int .i64 (trC sh th nd tr T)]) [some (.tab tC T)]))
 | _,_=>none
theorem aC8:sT' 20 rnBS:=by
 refine aH.weak IZ ?_;intro args h o ho;unfold rnBS at ho;split at ho<;>cases ho
 rename_i sh th nd tr n tk T;refine⟨_,rfl,fun K hK=>?_⟩;obtain⟨⟨h1,h2⟩,hK⟩:=hK
 exact⟨h1,by
  show bif ieq (trC sh th nd tr T) 0 then _ else _;rw [show ieq (trC sh th nd tr T) 0=false by rw [cF];exact decide_eq_false h2];exact hK⟩
def e24AS:aH Ob:=fun args h=>match args,h with
 | [.int .i64 sh,.int .i64 th,.int .i64 nd,.int .i64 tr,.view p 3 row],[]=>some (.pre ((p≤1000000∧mN row)∧trC sh th nd tr (trT p (tF row) (tG row) (tQ row))=0) (.ret (.int .i64 0) []))
 | _,_=>none
theorem UV:sT' 74 e24AS:=by
 refine aH.weak OF ?_;intro args h o ho;unfold e24AS at ho;split at ho<;>cases ho
 rename_i sh th nd tr p row;refine⟨_,rfl,fun K hK=>?_⟩;obtain⟨⟨h1,h2⟩,hK⟩:=hK
 exact⟨h1,by
  show K (.int .i64 (trC sh th nd tr (trT p (tF row) (tG row) (tQ row)))) [];rw [h2];exact hK⟩
def newAS:aH Ob:=fun args h=>match args,h with
 | [.agg [.int .i64 sh,.int .i64 th,.int .i64 nd,.int .i64 tr],.slice 0 0 m 1],[some (.abs (.orow ws) [])]=>some (.pre ((m=ws.length∧m≤1000000)∧gnC sh th nd tr m (oL ws) (oK ws) (oY ws)=0) (.ret (.tup [.ptr 1 0,.int .i64 0]) [some (.abs (.orow ws) []),some (.abs (.engine (eY sh th nd tr m (oL ws) (oK ws) (oY ws))) [])]))
 | _,_=>none
theorem XM:sT' 25 newAS:=by
 refine aH.weak IM ?_;intro args h o ho;unfold newAS at ho;split at ho<;>cases ho
 rename_i sh th nd tr m ws;refine⟨_,rfl,fun K hK=>?_⟩;obtain⟨⟨h1,h2⟩,hK⟩:=hK
 exact⟨h1,by
  show bif ieq (gnC sh th nd tr m (oL ws) (oK ws) (oY ws)) 0 then _ else _;rw [h2];exact hK⟩
def lfY(sh th nd tr:Int)(p:Nat)(f g q:Nat→Int)(j:Nat):EGS:=d8 ((trT p f g q).take j) (bgE sh th nd tr (trT p f g q))
noncomputable def EUx:Env Ob Tryz.prog:=vZ (EUw.addS 15 aw24S TH) rfl
noncomputable def aGu:Env Ob Tryz.prog:=vZ ((((EUx.addS 20 rnAS aC7).addS 74 e24AS UV).addS 25 newAS XM).addS 42 onS aFM) rfl
noncomputable def aGv:Env Ob Tryz.prog:=vZ ((EUx.addS 20 rnBS aC8).addS 74 e24S OF) rfl
abbrev dE(sh th nd tr:Int)(T:List (List Int)):List (List Int):=bP (rnX sh th nd tr T).h.cl
structure lf1 (th:Int) (u:Nat):Prop where
 h1:1≤u
 h2:(u:Int)≤th
abbrev lfS(sh th nd tr:Int)(p:Nat)(f g q:Nat→Int)(a b:AVal):List AVal:=[.O,.view p 3 (vT f g q),.ptr 0 0,.O,.O,.ptr 1 0,.tslice 2 0 (dE sh th nd tr (trT p f g q)).length 3,.int .i64 0,.O,a,b]++List.replicate 137 .O
abbrev lfH(sh th nd tr:Int)(T:List (List Int)):aC Ob:=[some (.cells [.int .i64 sh,.int .i64 th,.int .i64 nd,.int .i64 tr]),some (.abs (.engine (rnX sh th nd tr T)) []),some (.tab rF (dE sh th nd tr T))]
def HF1(sh th nd tr:Int)(p:Nat)(f g q:Nat→Int):Hint Ob:= {X:=Unit,st:=fun _=>(lfS sh th nd tr p f g q (.raw (.slice none 0 0)) (.int .i64 0),lfH sh th nd tr (trT p f g q)),ok:=fun _=>True,mu:=fun _=>th.toNat+1,keep:=[1,2,5,6,7,9,10],sel:=aFS 9}
def MU(sh th nd tr:Int)(p:Nat)(f g q:Nat→Int):Hint Ob:= {X:=Nat,st:=fun u=>(lfS sh th nd tr p f g q (.slice 3 0 u 1) (.int .i64 (u:Int)),lfH sh th nd tr (trT p f g q)++ [some (.abs (.orow (u3 u (trT p f g q))) [])]),ok:=lf1 th,mu:=fun u=>th.toNat - u,keep:=[1,2,5,6,7,9,10] }
structure lf3 (sh th nd tr:Int) (p:Nat) (f g q:Nat→Int) (j:Nat):Prop where
 hj:j≤p
def z1(sh th nd tr:Int)(p:Nat)(f g q:Nat→Int):Hint Ob:= {X:=Nat,st:=fun j=>([.O,.O,.O,.O,.O,.ptr 0 0,.tslice 1 0 (dE sh th nd tr (trT p f g q)).length 3,.O,.O,.O,.O,.ptr 2 0]++List.replicate 72 .O ++ [.view p 3 (vT f g q),.int .i64 (p:Int),.int .i64 (j:Int)]++List.replicate 61 .O,[some (.abs (.engine (rnX sh th nd tr (trT p f g q))) []),some (.tab rF (dE sh th nd tr (trT p f g q))),some (.abs (.engine (lfY sh th nd tr p f g q j)) [])]),ok:=lf3 sh th nd tr p f g q,mu:=fun j=>p - j,keep:=[5,6,11,84,85,86] }
structure lf4 (sh th nd tr:Int) (p:Nat) (f g q:Nat→Int) (i0:Int) (x:Nat×EGS):Prop where
 hj:x.1<p
 hi:(x.1:Int)=i0
 w: ∃a b:Int,egW a b x.2
 h:kT (cY (f x.1) (lfY sh th nd tr p f g q x.1)) (f x.1) x.2=oO (f x.1) (lfY sh th nd tr p f g q x.1)
def S3(sh th nd tr:Int)(p:Nat)(f g q:Nat→Int)(i0:Int):Hint Ob:= {X:=Nat×EGS,st:=fun x=>([.O,.O,.O,.O,.O,.ptr 0 0,.tslice 1 0 (dE sh th nd tr (trT p f g q)).length 3,.O,.O,.O,.O,.ptr 2 0,.O,.O,.ptr 3 0,.int .i64 (cY (f x.1) (lfY sh th nd tr p f g q x.1))]++List.replicate 68 .O ++ [.view p 3 (vT f g q),.int .i64 (p:Int),.int .i64 (x.1:Int)]++List.replicate 61 .O,[some (.abs (.engine (rnX sh th nd tr (trT p f g q))) []),some (.tab rF (dE sh th nd tr (trT p f g q))),some (.abs (.engine x.2) []),some (.cells [.int .i64 (f x.1),.int .i64 (g x.1),.int .i64 (q x.1)])]),ok:=lf4 sh th nd tr p f g q i0,mu:=fun x=>(60000 - x.2.k).toNat,keep:=[5,6,11,14,15,84,85,86] }
structure lf5 (cl:List (List Int)) (j:Nat):Prop where
 hj:j≤cl.length
def z6(sh th nd tr:Int)(p:Nat)(f g q:Nat→Int)(y:EGS):Hint Ob:= {X:=Nat,st:=fun j=>([.O,.O,.O,.O,.O,.ptr 0 0,.tslice 1 0 (dE sh th nd tr (trT p f g q)).length 3,.O,.O,.O,.O,.ptr 2 0,.O,.O,.O,.O,.tslice 3 0 (bP (y.h.cl.take j)).length 3]++List.replicate 92 .O ++ [.tslice 4 0 y.h.cl.length 9,.int .i64 (y.h.cl.length:Int),.int .i64 (j:Int)]++List.replicate 36 .O,[some (.abs (.engine (rnX sh th nd tr (trT p f g q))) []),some (.tab rF (dE sh th nd tr (trT p f g q))),some (.abs (.engine y) []),some (.tab rF (bP (y.h.cl.take j))),some (.tab clK y.h.cl)]),ok:=lf5 y.h.cl,mu:=fun j=>y.h.cl.length - j,keep:=[5,6,11,16,109,110,111],casts:=[(.slot 16,.tab rF)] }
def MV(sh th nd tr:Int)(p:Nat)(f g q:Nat→Int)(y:EGS):Hint Ob:= {X:=Nat,st:=fun i=>([.O,.O,.O,.O,.O,.ptr 0 0,.tslice 1 0 (dE sh th nd tr (trT p f g q)).length 3,.O,.O,.O,.O,.ptr 2 0,.O,.O,.O,.O,.tslice 3 0 (bP (y.h.cl)).length 3]++List.replicate 114 .O ++ [.int .i64 ((dE sh th nd tr (trT p f g q)).length :Int),.int .i64 (i:Int)]++List.replicate 15 .O,[some (.abs (.engine (rnX sh th nd tr (trT p f g q))) []),some (.tab rF (dE sh th nd tr (trT p f g q))),some (.abs (.engine y) []),some (.tab rF (bP (y.h.cl)))]),ok:=lf5 (dE sh th nd tr (trT p f g q)),mu:=fun i=>(dE sh th nd tr (trT p f g q)).length - i,keep:=[5,6,11,16,131,132] }
def LFA(sh th nd tr:Int)(p:Nat)(f g q:Nat→Int)(y:EGS):FuncId→Nat→Option (lE Ob):=fun _ k=>match k with
 | 11=>some (.cases [HF1 sh th nd tr p f g q,MU sh th nd tr p f g q])
 | 18=>some (.states (z1 sh th nd tr p f g q))
 | 21=>some (.statesAt 86 (S3 sh th nd tr p f g q))
 | 25=>some (.states (z6 sh th nd tr p f g q y))
 | 33=>some (.states (MV sh th nd tr p f g q y))
 | _=>none
def PQ(sh th nd tr:Int)(p:Nat)(f g q:Nat→Int)(y:EGS)(K:AVal→Prop):Prop:=bif ilt 50 (↑p:Int)then K (.bool true)else(p≤(1000000:Nat)∧mN (vT f g q))∧((lE' (trT p (tF (vT f g q)) (tG (vT f g q)) (tQ (vT f g q)))∧List.length (trT p (tF (vT f g q)) (tG (vT f g q)) (tQ (vT f g q)))≤(1000000:Nat)∧CN cK3)∧trC sh th nd tr (trT p (tF (vT f g q)) (tG (vT f g q)) (tQ (vT f g q)))=(0:Int))∧((p≤(1000000:Nat)∧mN (vT f g q))∧trC sh th nd tr (trT p (tF (vT f g q)) (tG (vT f g q)) (tQ (vT f g q)))=(0:Int))∧cN (HF1 sh th nd tr p f g q) (fun x=>Hint.ok (HF1 sh th nd tr p f g q) x∧mH none (Hint.mu (HF1 sh th nd tr p f g q) x)) (.O::.view p 3 (vT f g q)::.ptr 0 0::.O::.O::.ptr 1 0::.tslice 2 0 (List.length (bP (EGS.h (rnX sh th nd tr (trT p (tF (vT f g q)) (tG (vT f g q)) (tQ (vT f g q))))).2)) 3::.int .i64 0::.O::.raw (Value.slice none 0 0)::.int .i64 0::(tO' 137 [])) [some (.cells [.int .i64 sh,.int .i64 th,.int .i64 nd,.int .i64 tr]),some (.abs (.engine (rnX sh th nd tr (trT p (tF (vT f g q)) (tG (vT f g q)) (tQ (vT f g q))))) []),some (.tab [some .i64,none,some .i64] (bP (EGS.h (rnX sh th nd tr (trT p (tF (vT f g q)) (tG (vT f g q)) (tQ (vT f g q))))).2))]∧(∀(x:Unit),True→bif ilt 0 th then(p≤(1000000:Nat)∧mN (vT f g q))∧(1=1∧3=3∧0=0∧lE' (ofL 0 (trT p (tF (vT f g q)) (tG (vT f g q)) (tQ (vT f g q))))∧2=2)∧cN (MU sh th nd tr p f g q) (fun x_1=>Hint.ok (MU sh th nd tr p f g q) x_1∧mH (some (Hint.mu (HF1 sh th nd tr p f g q) x)) (Hint.mu (MU sh th nd tr p f g q) x_1)) (.O::.view p 3 (vT f g q)::.ptr 0 0::.O::.O::.ptr 1 0::.tslice 2 0 (List.length (dE sh th nd tr (trT p f g q))) 3::.int .i64 0::.O::.slice 3 0 1 1::.int .i64 (W (0+1))::(tO' 137 [])) [some (.cells [.int .i64 sh,.int .i64 th,.int .i64 nd,.int .i64 tr]),some (.abs (.engine (rnX sh th nd tr (trT p f g q))) []),some (.tab [some .i64,none,some .i64] (dE sh th nd tr (trT p f g q))),some (.abs (.orow [ofL 0 (trT p (tF (vT f g q)) (tG (vT f g q)) (tQ (vT f g q)))]) [])]else False)∧(∀(x:Nat),lf1 th x→bif ilt (↑x:Int) th then(p≤(1000000:Nat)∧mN (vT f g q))∧(1=1∧0=0∧1=1∧x=List.length (u3 x (trT p f g q))∧x+(1:Nat)≤(4294967296:Nat)∧4=4∧0=0∧lE' (ofL (↑x:Int) (trT p (tF (vT f g q)) (tG (vT f g q)) (tQ (vT f g q))))∧2=2)∧cN (MU sh th nd tr p f g q) (fun x_1=>Hint.ok (MU sh th nd tr p f g q) x_1∧mH (some (Hint.mu (MU sh th nd tr p f g q) x)) (Hint.mu (MU sh th nd tr p f g q) x_1)) (.O::.view p 3 (vT f g q)::.ptr 0 0::.O::.O::.ptr 1 0::.tslice 2 0 (List.length (dE sh th nd tr (trT p f g q))) 3::.int .i64 0::.O::.slice 3 0 (x+1) 1::.int .i64 (W ((↑x:Int)+1))::(tO' 137 [])) [some (.cells [.int .i64 sh,.int .i64 th,.int .i64 nd,.int .i64 tr]),some (.abs (.engine (rnX sh th nd tr (trT p f g q))) []),some (.tab [some .i64,none,some .i64] (dE sh th nd tr (trT p f g q))),some (.abs (.orow (u3 x (trT p f g q)++ [ofL (↑x:Int) (trT p (tF (vT f g q)) (tG (vT f g q)) (tQ (vT f g q)))])) [])]else((x=List.length (u3 x (trT p f g q))∧x≤(1000000:Nat))∧gnC sh th nd tr x (oL (u3 x (trT p f g q))) (oK (u3 x (trT p f g q))) (oY (u3 x (trT p f g q)))=(0:Int))∧cN (z1 sh th nd tr p f g q) (Hint.ok (z1 sh th nd tr p f g q)) (.O::.O::.O::.O::.O::.ptr 0 0::.tslice 1 0 (List.length (dE sh th nd tr (trT p f g q))) 3::.O::.O::.O::.O::.ptr 2 0::(tO' 72 (.view p 3 (vT f g q)::.int .i64 (↑p:Int)::.int .i64 0::(tO' 61 [])))) [some (.abs (.engine (rnX sh th nd tr (trT p f g q))) []),some (.tab [some .i64,none,some .i64] (dE sh th nd tr (trT p f g q))),some (.abs (.engine (eY sh th nd tr x (oL (u3 x (trT p f g q))) (oK (u3 x (trT p f g q))) (oY (u3 x (trT p f g q))))) [])]∧ ∀(x:Nat),lf3 sh th nd tr p f g q x→bif ilt (↑x:Int) (↑p:Int)then((0:Int)≤(↑x:Int)∧(↑x:Int)<(↑p:Int))∧True∧cN (S3 sh th nd tr p f g q (↑x:Int)) (Hint.ok (S3 sh th nd tr p f g q (↑x:Int))) (.O::.O::.O::.O::.O::.ptr 0 0::.tslice 1 0 (List.length (dE sh th nd tr (trT p f g q))) 3::.O::.O::.O::.O::.ptr 2 0::.O::.O::.ptr 3 0::.int .i64 (cY (f (Int.toNat (↑x:Int))) (lfY sh th nd tr p f g q x))::(tO' 68 (.view p 3 (vT f g q)::.int .i64 (↑p:Int)::.int .i64 (↑x:Int)::(tO' 61 [])))) [some (.abs (.engine (rnX sh th nd tr (trT p f g q))) []),some (.tab [some .i64,none,some .i64] (dE sh th nd tr (trT p f g q))),some (.abs (.engine (lfY sh th nd tr p f g q x)) []),some (.cells [.int .i64 (f (Int.toNat (↑x:Int))),.int .i64 (g (Int.toNat (↑x:Int))),.int .i64 (q (Int.toNat (↑x:Int)))])]∧ ∀(x_1:(Nat×EGS)),lf4 sh th nd tr p f g q (↑x:Int) x_1→True∧bif ieq (cY (f x_1.1) x_1.2) (cY (f x_1.1) (lfY sh th nd tr p f g q x_1.1))then XX (f x_1.1) x_1.2∧bif (pkF (f x_1.1) x_1.2).1 then cN (S3 sh th nd tr p f g q (↑x:Int)) (fun x'=>Hint.ok (S3 sh th nd tr p f g q (↑x:Int)) x'∧Hint.mu (S3 sh th nd tr p f g q (↑x:Int)) x'<Hint.mu (S3 sh th nd tr p f g q (↑x:Int)) x_1) (.O::.O::.O::.O::.O::.ptr 0 0::.tslice 1 0 (List.length (dE sh th nd tr (trT p f g q))) 3::.O::.O::.O::.O::.ptr 2 0::.O::.O::.ptr 3 0::.int .i64 (cY (f x_1.1) (lfY sh th nd tr p f g q x_1.1))::(tO' 68 (.view p 3 (vT f g q)::.int .i64 (↑p:Int)::.int .i64 (↑x_1.1:Int)::(tO' 61 [])))) [some (.abs (.engine (rnX sh th nd tr (trT p f g q))) []),some (.tab [some .i64,none,some .i64] (dE sh th nd tr (trT p f g q))),some (.abs (.engine (pkF (f x_1.1) x_1.2).2) []),some (.cells [.int .i64 (f x_1.1),.int .i64 (g x_1.1),.int .i64 (q x_1.1)])]else cN (z1 sh th nd tr p f g q) (fun x'=>Hint.ok (z1 sh th nd tr p f g q) x'∧Hint.mu (z1 sh th nd tr p f g q) x'<Hint.mu (z1 sh th nd tr p f g q) x) (.O::.O::.O::.O::.O::.ptr 0 0::.tslice 1 0 (List.length (dE sh th nd tr (trT p f g q))) 3::.O::.O::.O::.O::.ptr 2 0::(tO' 72 (.view p 3 (vT f g q)::.int .i64 (↑p:Int)::.int .i64 (W ((↑x_1.1:Int)+1))::(tO' 61 [])))) [some (.abs (.engine (rnX sh th nd tr (trT p f g q))) []),some (.tab [some .i64,none,some .i64] (dE sh th nd tr (trT p f g q))),some (.abs (.engine (pkF (f x_1.1) x_1.2).2) [])]else cN (z1 sh th nd tr p f g q) (fun x'=>Hint.ok (z1 sh th nd tr p f g q) x'∧Hint.mu (z1 sh th nd tr p f g q) x'<Hint.mu (z1 sh th nd tr p f g q) x) (.O::.O::.O::.O::.O::.ptr 0 0::.tslice 1 0 (List.length (dE sh th nd tr (trT p f g q))) 3::.O::.O::.O::.O::.ptr 2 0::(tO' 72 (.view p 3 (vT f g q)::.int .i64 (↑p:Int)::.int .i64 (W ((↑x_1.1:Int)+1))::(tO' 61 [])))) [some (.abs (.engine (rnX sh th nd tr (trT p f g q))) []),some (.tab [some .i64,none,some .i64] (dE sh th nd tr (trT p f g q))),some (.abs (.engine x_1.2) [])]else(List.length (EGS.h (lfY sh th nd tr p f g q x)).1≤(4294967296:Nat)∧List.length (EGS.h (lfY sh th nd tr p f g q x)).2≤(4294967296:Nat))∧List.length (EGS.h (lfY sh th nd tr p f g q x)).2≤(4294967296:Nat)∧cN (z6 sh th nd tr p f g q y) (Hint.ok (z6 sh th nd tr p f g q y)) (.O::.O::.O::.O::.O::.ptr 0 0::.tslice 1 0 (List.length (dE sh th nd tr (trT p f g q))) 3::.O::.O::.O::.O::.ptr 2 0::.O::.O::.O::.O::.tslice 3 0 0 3::(tO' 92 (.tslice 4 0 (List.length (EGS.h (lfY sh th nd tr p f g q x)).2) 9::.int .i64 (↑(List.length (EGS.h (lfY sh th nd tr p f g q x)).2):Int)::.int .i64 0::(tO' 36 [])))) [some (.abs (.engine (rnX sh th nd tr (trT p f g q))) []),some (.tab [some .i64,none,some .i64] (dE sh th nd tr (trT p f g q))),some (.abs (.engine (lfY sh th nd tr p f g q x)) []),some (.tab [some .i64,none,some .i64] []),some (.tab cK9 (EGS.h (lfY sh th nd tr p f g q x)).2)]∧ ∀(x:Nat),lf5 (EGS.h y).2 x→bif ilt (↑x:Int) (↑(List.length (EGS.h y).2):Int)then((0:Int)≤(↑x:Int)∧(↑x:Int)<(↑(List.length (EGS.h y).2):Int))∧0+Int.toNat (↑x:Int)<List.length (EGS.h y).2∧bif !ilt (List.headD (List.tail (List.getD (EGS.h y).2 (0+Int.toNat (↑x:Int)) [])) 0) 0 then(0=0∧lE' (bP (List.take x (EGS.h y).2))∧List.length (bP (List.take x (EGS.h y).2))+(1:Nat)≤(4294967296:Nat))∧cN (z6 sh th nd tr p f g q y) (fun x'=>Hint.ok (z6 sh th nd tr p f g q y) x'∧Hint.mu (z6 sh th nd tr p f g q y) x'<Hint.mu (z6 sh th nd tr p f g q y) x) (.O::.O::.O::.O::.O::.ptr 0 0::.tslice 1 0 (List.length (dE sh th nd tr (trT p f g q))) 3::.O::.O::.O::.O::.ptr 2 0::.O::.O::.O::.O::.tslice 3 0 (List.length (bP (List.take x (EGS.h y).2))+1) 3::(tO' 92 (.tslice 4 0 (List.length (EGS.h y).2) 9::.int .i64 (↑(List.length (EGS.h y).2):Int)::.int .i64 (W ((↑x:Int)+1))::(tO' 36 [])))) [some (.abs (.engine (rnX sh th nd tr (trT p f g q))) []),some (.tab [some .i64,none,some .i64] (dE sh th nd tr (trT p f g q))),some (.abs (.engine y) []),some (.tab [some .i64,none,some .i64] (bP (List.take x (EGS.h y).2)++ [[List.headD (List.tail (List.tail (List.tail (List.tail (List.tail (List.tail (List.getD (EGS.h y).2 (0+Int.toNat (↑x:Int)) []))))))) 0,bif !ieq (List.headD (List.tail (List.tail (List.tail (List.tail (List.tail (List.tail (List.tail (List.getD (EGS.h y).2 (0+Int.toNat (↑x:Int)) [])))))))) 0) 0 then 1 else 0,List.headD (List.tail (List.tail (List.tail (List.tail (List.tail (List.tail (List.tail (List.tail (List.getD (EGS.h y).2 (0+Int.toNat (↑x:Int)) []))))))))) 0]])),some (.tab cK9 (EGS.h y).2)]else cN (z6 sh th nd tr p f g q y) (fun x'=>Hint.ok (z6 sh th nd tr p f g q y) x'∧Hint.mu (z6 sh th nd tr p f g q y) x'<Hint.mu (z6 sh th nd tr p f g q y) x) (.O::.O::.O::.O::.O::.ptr 0 0::.tslice 1 0 (List.length (dE sh th nd tr (trT p f g q))) 3::.O::.O::.O::.O::.ptr 2 0::.O::.O::.O::.O::.tslice 3 0 (List.length (bP (List.take x (EGS.h y).2))) 3::(tO' 92 (.tslice 4 0 (List.length (EGS.h y).2) 9::.int .i64 (↑(List.length (EGS.h y).2):Int)::.int .i64 (W ((↑x:Int)+1))::(tO' 36 [])))) [some (.abs (.engine (rnX sh th nd tr (trT p f g q))) []),some (.tab [some .i64,none,some .i64] (dE sh th nd tr (trT p f g q))),some (.abs (.engine y) []),some (.tab [some .i64,none,some .i64] (bP (List.take x (EGS.h y).2))),some (.tab cK9 (EGS.h y).2)]else bif !ieq (↑(List.length (dE sh th nd tr (trT p f g q))):Int) (↑(List.length (bP (List.take x (EGS.h y).2))):Int)then K (.bool false)else cN (MV sh th nd tr p f g q y) (Hint.ok (MV sh th nd tr p f g q y)) (.O::.O::.O::.O::.O::.ptr 0 0::.tslice 1 0 (List.length (dE sh th nd tr (trT p f g q))) 3::.O::.O::.O::.O::.ptr 2 0::.O::.O::.O::.O::.tslice 3 0 (List.length (bP (List.take x (EGS.h y).2))) 3::(tO' 114 (.int .i64 (↑(List.length (dE sh th nd tr (trT p f g q))):Int)::.int .i64 0::(tO' 15 [])))) [some (.abs (.engine (rnX sh th nd tr (trT p f g q))) []),some (.tab [some .i64,none,some .i64] (dE sh th nd tr (trT p f g q))),some (.abs (.engine y) []),some (.tab [some .i64,none,some .i64] (bP (List.take x (EGS.h y).2)))]∧ ∀(x:Nat),lf5 (dE sh th nd tr (trT p f g q)) x→bif ilt (↑x:Int) (↑(List.length (dE sh th nd tr (trT p f g q))):Int)then((0:Int)≤(↑x:Int)∧(↑x:Int)<(↑(List.length (dE sh th nd tr (trT p f g q))):Int))∧0+Int.toNat (↑x:Int)<List.length (dE sh th nd tr (trT p f g q))∧((0:Int)≤(↑x:Int)∧(↑x:Int)<(↑(List.length (bP (EGS.h y).2)):Int))∧0+Int.toNat (↑x:Int)<List.length (bP (EGS.h y).2)∧bif !bif ieq (List.headD (List.getD (dE sh th nd tr (trT p f g q)) (0+Int.toNat (↑x:Int)) []) 0) (List.headD (List.getD (bP (EGS.h y).2) (0+Int.toNat (↑x:Int)) []) 0)then bif bif !ieq (List.headD (List.tail (List.getD (dE sh th nd tr (trT p f g q)) (0+Int.toNat (↑x:Int)) [])) 0) 0 then !ieq (List.headD (List.tail (List.getD (bP (EGS.h y).2) (0+Int.toNat (↑x:Int)) [])) 0) 0 else !!ieq (List.headD (List.tail (List.getD (bP (EGS.h y).2) (0+Int.toNat (↑x:Int)) [])) 0) 0 then bif ieq (List.headD (List.tail (List.tail (List.getD (dE sh th nd tr (trT p f g q)) (0+Int.toNat (↑x:Int)) []))) 0) (List.headD (List.tail (List.tail (List.getD (bP (EGS.h y).2) (0+Int.toNat (↑x:Int)) []))) 0)then true else false else false else false then K (.bool false)else cN (MV sh th nd tr p f g q y) (fun x'=>Hint.ok (MV sh th nd tr p f g q y) x'∧Hint.mu (MV sh th nd tr p f g q y) x'<Hint.mu (MV sh th nd tr p f g q y) x) (.O::.O::.O::.O::.O::.ptr 0 0::.tslice 1 0 (List.length (dE sh th nd tr (trT p f g q))) 3::.O::.O::.O::.O::.ptr 2 0::.O::.O::.O::.O::.tslice 3 0 (List.length (bP (EGS.h y).2)) 3::(tO' 114 (.int .i64 (↑(List.length (dE sh th nd tr (trT p f g q))):Int)::.int .i64 (W ((↑x:Int)+1))::(tO' 15 [])))) [some (.abs (.engine (rnX sh th nd tr (trT p f g q))) []),some (.tab [some .i64,none,some .i64] (dE sh th nd tr (trT p f g q))),some (.abs (.engine y) []),some (.tab [some .i64,none,some .i64] (bP (EGS.h y).2))]else(rnX sh th nd tr (trT p f g q)=y∧P3 (rnX sh th nd tr (trT p f g q)))∧K (.bool true))∧True
theorem LD(sh th nd tr:Int)(p:Nat)(f g q:Nat→Int)(y:EGS)(K:AVal→Prop)(h:PQ sh th nd tr p f g q y K):cT' 8 [.agg [.int .i64 sh,.int .i64 th,.int .i64 nd,.int .i64 tr],.view p 3 (vT f g q)] ([]:aC Ob) (fun v _=>K v):=by
 exact aD (E:=aGu) Tryz.checked.mixed (L:=LFA sh th nd tr p f g q y) (n:=10) (aK (by kernel_rfl) h)
def LFB:FuncId→Nat→Option (lE Ob):=fun _ _=>none
def PR(sh th nd tr:Int)(p:Nat)(f g q:Nat→Int)(K:AVal→Prop):Prop:=bif ilt 50 (↑p:Int)then K (.bool true)else(p≤(1000000:Nat)∧mN (vT f g q))∧((lE' (trT p (tF (vT f g q)) (tG (vT f g q)) (tQ (vT f g q)))∧List.length (trT p (tF (vT f g q)) (tG (vT f g q)) (tQ (vT f g q)))≤(1000000:Nat)∧CN cK3)∧trC sh th nd tr (trT p (tF (vT f g q)) (tG (vT f g q)) (tQ (vT f g q)))≠(0:Int))∧(p≤(1000000:Nat)∧mN (vT f g q))∧bif !ieq (trC sh th nd tr (trT p (tF (vT f g q)) (tG (vT f g q)) (tQ (vT f g q)))) 0 then K (.bool (ieq (trC sh th nd tr (trT p (tF (vT f g q)) (tG (vT f g q)) (tQ (vT f g q)))) (trC sh th nd tr (trT p (tF (vT f g q)) (tG (vT f g q)) (tQ (vT f g q))))))else False
theorem LE(sh th nd tr:Int)(p:Nat)(f g q:Nat→Int)(K:AVal→Prop)(h:PR sh th nd tr p f g q K):cT' 8 [.agg [.int .i64 sh,.int .i64 th,.int .i64 nd,.int .i64 tr],.view p 3 (vT f g q)] ([]:aC Ob) (fun v _=>K v):=by
 exact aD (E:=aGv) Tryz.checked.mixed (L:=LFB) (n:=10) (aK (by kernel_rfl) h)
theorem aFw(sh th nd tr:Int)(p:Nat)(f g q:Nat→Int):lfY sh th nd tr p f g q 0=bgE sh th nd tr (trT p f g q):=by
 unfold lfY;rw [List.take_zero];unfold d8;rfl
theorem PP{sh th nd tr:Int}{p:Nat}{f g q:Nat→Int}{x:Nat}(hx:x<p):lfY sh th nd tr p f g q (x+1)=oO (f x) (lfY sh th nd tr p f g q x):=by
 unfold lfY;rw [vU (show x+1≤p from hx),vU (show x≤p by omega),qM,sN];rfl
theorem aFx(sh th nd tr:Int)(p:Nat)(f g q:Nat→Int):lfY sh th nd tr p f g q p=rnX sh th nd tr (trT p f g q):=by
 unfold lfY rnX;rw [vU (Nat.le_refl p)]
theorem aCF(sh th nd tr:Int)(p:Nat)(f g q:Nat→Int)(K:AVal→Prop)(hK:K (.bool true))(e0:trC sh th nd tr (trT p f g q)=0):PQ sh th nd tr p f g q (rnX sh th nd tr (trT p f g q)) K:=by
 obtain⟨eg,eb,ez⟩:=aAj e0;obtain⟨h1,h2,h3,h4⟩:=FM eg;have hT:=YX eb;have lt:=tD p f g q;refine aR (fun _=>hK) (fun a0=>?_);have a0:=dV a0;refine⟨⟨by omega,⟨rfl⟩⟩,⟨⟨rfl,Nat.le_trans (Nat.le_of_eq lt) (by omega),⟨rfl⟩⟩,e0⟩,⟨⟨by omega,⟨rfl⟩⟩,e0⟩,aN (H:=HF1 sh th nd tr p f g q) () rfl ⟨trivial,trivial⟩,?_,?_,trivial⟩
 ·rintro _ _;refine aR (fun b1=>?_) (fun b1=>absurd (dV b1) (by omega))
  exact⟨⟨by omega,⟨rfl⟩⟩,⟨rfl,rfl,rfl,rfl,rfl⟩,aN (H:=MU sh th nd tr p f g q) (1:Nat) rfl ⟨⟨Nat.le_refl _,by omega⟩,by show th.toNat - 1<th.toNat+1;omega⟩⟩
 ·rintro u ⟨u1,u2⟩;refine aR (fun b1=>?_) (fun b1=>?_)
  ·have b1:=dW b1;refine⟨⟨by omega,⟨rfl⟩⟩,⟨rfl,rfl,rfl,(tA _ _).symm,by omega,rfl,rfl,rfl,rfl⟩,aN (H:=MU sh th nd tr p f g q) (u+1:Nat) ?_ ⟨⟨Nat.le_add_left _ _,by omega⟩,by show th.toNat - (u+1)<th.toNat - u;omega⟩⟩
   rw [W2 (m:=100) (by omega) (by omega)]
   simp only [MU];rw [CZ];rfl
  ·have b1:=dV b1;have hu:u=th.toNat:=by omega
   subst hu;have eW:=IR hT;refine⟨⟨⟨(tA _ _).symm,by omega⟩,by rw [eW];exact ez⟩,aN (H:=z1 sh th nd tr p f g q) (0:Nat) (by simp only [z1];rw [eW,aFw];rfl) ⟨Nat.zero_le _⟩,?_⟩
   rintro x ⟨hj⟩;have wx:egW th nd (lfY sh th nd tr p f g q x):=by unfold lfY;exact DP _ _ (ZH e0)
   refine aR (fun a1=>?_) (fun a1=>?_)
   ·have a1:=dW a1;have hx:x<p:=by omega
    rw [Int.toNat_natCast];refine⟨⟨by omega,a1⟩,trivial,aN (H:=S3 sh th nd tr p f g q (x:Int)) ((x,lfY sh th nd tr p f g q x):Nat×EGS) rfl ⟨hx,rfl,⟨_,_,wx⟩,rfl⟩,?_⟩
    rintro⟨x1,z⟩ ⟨hx1,hi,⟨a,b,hz⟩,hh⟩;have hxx:x1=x:=by have hi:(x1:Int)=(x:Int):=hi;omega
    subst hxx;have hz:egW a b z:=hz;have hh:kT (cY (f x1) (lfY sh th nd tr p f g q x1)) (f x1) z=oO (f x1) (lfY sh th nd tr p f g q x1):=hh;have hk:=hz.k;have key: ∀z',kT (cY (f x1) (lfY sh th nd tr p f g q x1)) (f x1) z=z'→z'=lfY sh th nd tr p f g q (x1+1):=fun z' hz'=>hz'.symm.trans (hh.trans (PP hx).symm);refine⟨trivial,aR (fun e1=>⟨P7 (f x1) hz,aR (fun e2=>?_) (fun e2=>?_)⟩) (fun e1=>?_)⟩
    ·obtain⟨h1,h2,_,_⟩:=(y9 (f x1) hz).yes e2;refine aN (H:=S3 sh th nd tr p f g q (x1:Int)) ((x1,(pkF (f x1) z).2):Nat×EGS) rfl ⟨⟨hx,rfl,⟨a,b,h1⟩,(DN hk.2 e1 e2 h2).symm.trans hh⟩,?_⟩;have:=h1.k;show(60000 - (pkF (f x1) z).2.k).toNat <(60000 - z.k).toNat;omega
    ·refine aN (H:=z1 sh th nd tr p f g q) (x1+1:Nat) ?_ ⟨⟨hx⟩,by show p - (x1+1)<p - x1;omega⟩
     rw [W2 hx (by omega)]
     simp only [z1];rw [←key _ (DO hk.2 e1 e2)];rfl
    ·refine aN (H:=z1 sh th nd tr p f g q) (x1+1:Nat) ?_ ⟨⟨hx⟩,by show p - (x1+1)<p - x1;omega⟩
     rw [W2 hx (by omega)]
     simp only [z1];rw [←key _ (xW hk.2 e1)];rfl
   ·have a1:=dV a1;have hx:x=p:=by omega
    subst hx;rw [aFx]at wx⊢;have hl:=uB wx;obtain⟨X,hX⟩: ∃X,X=rnX sh th nd tr (trT x f g q):=⟨_,rfl⟩;obtain⟨L,hL⟩: ∃L,L=dE sh th nd tr (trT x f g q):=⟨_,rfl⟩;have hLX:L=bP X.h.cl:=by rw [hL,hX]
    rw [←hX,←hL];rw [←hX]at hl wx;obtain⟨cl,hcl⟩: ∃cl,cl=X.h.cl:=⟨_,rfl⟩;have hl2:cl.length≤4294967296:=by rw [hcl];exact hl.2
    have hLc:L=bP cl:=by rw [hLX,hcl]
    refine⟨hl,hl.2,aN (H:=z6 sh th nd tr x f g q X) (0:Nat) (by simp only [z6,List.take_zero];rw [←hX,←hL];rfl) ⟨Nat.zero_le _⟩,?_⟩
    rintro j ⟨hj⟩;have hj:j≤cl.length:=by rw [hcl];exact hj
    show bif ilt (j:Int) (X.h.cl.length:Int)then _ else _;rw [←hcl];refine aR (fun a1=>?_) (fun a1=>?_)
    ·have a1:=dW a1;have hjl:j<cl.length:=by omega
     have hle:(bP (cl.take j)).length ≤j:=Nat.le_trans (rM _) (by rw [List.length_take];omega)
     refine⟨⟨by omega,a1⟩,by rw [Int.toNat_natCast,Nat.zero_add];exact hjl,?_⟩
     rw [Int.toNat_natCast,Nat.zero_add,W2 hjl hl2];refine aR (fun b1=>⟨⟨rfl,rfl,by show(bP (cl.take j)).length +1≤_;omega⟩,?_⟩) (fun b1=>?_)
     ·refine aN (H:=z6 sh th nd tr x f g q X) (j+1:Nat) ?_ ⟨⟨by rw [←hcl];exact hjl⟩,by show X.h.cl.length - (j+1)<X.h.cl.length - j;rw [←hcl];omega⟩
      simp only [z6];rw [←hX,←hL,←hcl,I1 hjl b1,List.length_append];rfl
     ·refine aN (H:=z6 sh th nd tr x f g q X) (j+1:Nat) ?_ ⟨⟨by rw [←hcl];exact hjl⟩,by show X.h.cl.length - (j+1)<X.h.cl.length - j;rw [←hcl];omega⟩
      simp only [z6];rw [←hX,←hL,←hcl,I2 hjl b1];rfl
    ·have a1:=dV a1;have hjl:j=cl.length:=by omega
     subst hjl;rw [List.take_length,←hLc];refine aR (fun b1=>?_) (fun b1=>?_)
     ·rw [iM]at b1;cases b1
     refine⟨aN (H:=MV sh th nd tr x f g q X) (0:Nat) (by simp only [MV];rw [←hX,←hL,←hcl,←hLc];rfl) ⟨Nat.zero_le _⟩,?_⟩
     rintro i ⟨hi⟩;have hi:i≤L.length:=hi
     have hLl:L.length≤4294967296:=by
      rw [hLc];exact Nat.le_trans (rM _) hl2
     refine aR (fun c1=>?_) (fun c1=>?_)
     ·have c1:=dW c1;have hil:i<L.length:=by omega
      rw [Int.toNat_natCast,Nat.zero_add];refine⟨⟨by omega,c1⟩,hil,⟨by omega,c1⟩,hil,?_⟩
      refine aR (fun d1=>?_) (fun d1=>?_)
      ·rw [iM,iM]at d1;cases hb:ieq (List.headD (List.tail (L.getD i [])) 0) 0<;>rw [hb]at d1<;>cases d1
      ·refine aN (H:=MV sh th nd tr x f g q X) (i+1:Nat) ?_ ⟨⟨by rw [←hL];exact hil⟩,by show(dE sh th nd tr (trT x f g q)).length - (i+1)<(dE sh th nd tr (trT x f g q)).length - i;rw [←hL];omega⟩
       rw [W2 hil hLl];simp only [MV];rw [←hX,←hL,←hcl,←hLc];rfl
     ·exact⟨⟨rfl,⟨⟨_,_,wx⟩⟩⟩,hK⟩
theorem aCG(sh th nd tr:Int)(p:Nat)(f g q:Nat→Int)(K:AVal→Prop)(hK:K (.bool true))(e0:trC sh th nd tr (trT p f g q)≠0):PR sh th nd tr p f g q K:=by
 refine aR (fun _=>hK) (fun a0=>?_);have a0:=dV a0;refine⟨⟨by omega,⟨rfl⟩⟩,⟨⟨rfl,Nat.le_trans (Nat.le_of_eq (tD p f g q)) (by omega),⟨rfl⟩⟩,e0⟩,⟨by omega,⟨rfl⟩⟩,aR (fun b=>?_) (fun b=>absurd (aCC (aFA b)) e0)⟩
 rw [iM];exact hK
theorem aCE(sh th nd tr:Int)(p:Nat)(f g q:Nat→Int):cT' 8 [.agg [.int .i64 sh,.int .i64 th,.int .i64 nd,.int .i64 tr],.view p 3 (vT f g q)] ([]:aC Ob) (fun v _=>v=.bool true):=by
 by_cases h:trC sh th nd tr (trT p f g q)=0
 ·exact LD sh th nd tr p f g q _ (fun v=>v=.bool true) (aCF sh th nd tr p f g q _ rfl h)
 ·exact LE sh th nd tr p f g q (fun v=>v=.bool true) (aCG sh th nd tr p f g q _ rfl h)
end Go.Sh
