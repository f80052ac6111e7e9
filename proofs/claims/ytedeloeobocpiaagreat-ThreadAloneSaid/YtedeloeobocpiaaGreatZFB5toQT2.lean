import Derived.Test.YtedeloeobocpiaaGreatZGHtoFB4
set_option linter.all false
set_option maxHeartbeats 8000000
namespace Go.Sh
open Go Go.Proofs
variable [Con]
def gT(f g:Nat→Int)(m k:Nat):List Int:=((List.range k).map fun i:Nat=>(i:Int)).filter fun k=>inF f g k m
structure aEs (x:Nat):Prop where
 h1:x≤1000
def F2(sh:Int)(m:Nat)(f g:Nat→Int):Hint Ob:= {X:=Nat,st:=fun x=>([.int .i64 sh,.view m 2 (fun i=>[.int .i64 (f i),.int .i64 (g i)]),.O,.O,.O,.slice 0 0 (gT f g m x).length 1,.int .i64 (x:Int)]++List.replicate 20 .O,[some (.ints (some .i64) (gT f g m x))]),ok:=aEs,mu:=fun x=>1000 - x,keep:=[0,1,5,6],casts:=[(.slot 5,.ints (some .i64))] }
def J5(sh:Int)(m:Nat)(f g:Nat→Int)(K:AVal→aD Ob→Prop):Prop:=bif ieq sh 3 then(m≤(1000000:Nat)∧dM fun i=>[.int .i64 (f i),.int .i64 (g i)])∧K (.slice 0 (Int.toNat ((↑(List.length (cN (rK fun i=>[.int .i64 (f i),.int .i64 (g i)]) (rY fun i=>[.int .i64 (f i),.int .i64 (g i)]) m)):Int) - bH (rK fun i=>[.int .i64 (f i),.int .i64 (g i)]) m)) (List.length (l0 (rK fun i=>[.int .i64 (f i),.int .i64 (g i)]) (rY fun i=>[.int .i64 (f i),.int .i64 (g i)]) m)) 1) [some (.ints (some .i64) (cN (rK fun i=>[.int .i64 (f i),.int .i64 (g i)]) (rY fun i=>[.int .i64 (f i),.int .i64 (g i)]) m))]else bif ieq sh 4 then(m≤(1000000:Nat)∧dM fun i=>[.int .i64 (f i),.int .i64 (g i)])∧K (.slice 0 0 (List.length (kF (rK fun i=>[.int .i64 (f i),.int .i64 (g i)]) (rY fun i=>[.int .i64 (f i),.int .i64 (g i)]) m)) 1) [some (.ints (some .i64) (kF (rK fun i=>[.int .i64 (f i),.int .i64 (g i)]) (rY fun i=>[.int .i64 (f i),.int .i64 (g i)]) m))]else okSt (F2 sh m f g) (Hint.ok (F2 sh m f g)) (.int .i64 sh::(.view m 2 fun i=>[.int .i64 (f i),.int .i64 (g i)])::.O::.O::.O::.slice 0 0 0 1::.int .i64 0::(tO' 20 [])) [some (.ints (some .i64) [])]∧ ∀(x:Nat),aEs x→bif ile (↑x:Int) 999 then(m≤(4611686018427387904:Nat)∧dM fun i=>[.int .i64 (f i),.int .i64 (g i)])∧bif inO (rK fun i=>[.int .i64 (f i),.int .i64 (g i)]) (rY fun i=>[.int .i64 (f i),.int .i64 (g i)]) (↑x:Int) m then(0=0∧lE' (gT f g m x)∧1=1∧List.length (gT f g m x)+(1:Nat)≤(4294967296:Nat))∧okSt (F2 sh m f g) (fun x'=>Hint.ok (F2 sh m f g) x'∧Hint.mu (F2 sh m f g) x'<Hint.mu (F2 sh m f g) x) (.int .i64 sh::(.view m 2 fun i=>[.int .i64 (f i),.int .i64 (g i)])::.O::.O::.O::.slice 0 0 (List.length (gT f g m x)+1) 1::.int .i64 (W ((↑x:Int)+1))::(tO' 20 [])) [some (.ints (some .i64) (gT f g m x++ [(↑x:Int)]))]else okSt (F2 sh m f g) (fun x'=>Hint.ok (F2 sh m f g) x'∧Hint.mu (F2 sh m f g) x'<Hint.mu (F2 sh m f g) x) (.int .i64 sh::(.view m 2 fun i=>[.int .i64 (f i),.int .i64 (g i)])::.O::.O::.O::.slice 0 0 (List.length (gT f g m x)) 1::.int .i64 (W ((↑x:Int)+1))::(tO' 20 [])) [some (.ints (some .i64) (gT f g m x))]else K (.slice 0 0 (List.length (gT f g m x)) 1) [some (.ints (some .i64) (gT f g m x))]
theorem NP(sh:Int)(m:Nat)(f g:Nat→Int)(K:AVal→aD Ob→Prop)(h:J5 sh m f g K):cT' 35 [.int .i64 sh,.view m 2 (fun i=>[.int .i64 (f i),.int .i64 (g i)])] [] K:=by
 refine aFQ (aE (E:=EV2) Tryz.checked.mixed (L:=(fun _ _=>some (.states (F2 sh m f g)))) (n:=10) (aN (by kernel_rfl) h))
theorem aB4(sh:Int)(m:Nat)(f g:Nat→Int)(K:AVal→aD Ob→Prop)(hm:m≤1000000)(hK:K (.slice 0 (eQ sh f g m) (bT sh f g m).length 1) [some (.ints (some .i64) (fP sh f g m))]):J5 sh m f g K:=by
 have rk0:rK (fun i=>[.int .i64 (f i),.int .i64 (g i)])=f:=rfl
 have ry0:rY (fun i=>[.int .i64 (f i),.int .i64 (g i)])=g:=rfl
 unfold J5
 unfold eQ fP bT at hK
 refine aL (fun a=>?_) (fun a=>aL (fun b=>?_) (fun b=>?_))
 ·rw [a]at hK
  exact⟨⟨hm,iG f g⟩,hK⟩
 ·rw [a,b]at hK
  exact⟨⟨hm,iG f g⟩,hK⟩
 ·rw [a,b]at hK
  refine⟨aK (H:=F2 sh m f g) (0:Nat) rfl ⟨Nat.zero_le _⟩,?_⟩
  rintro x ⟨h1⟩
  refine uQ (fun e=>?_) (fun e=>?_)
  ·have e4:W ((x:Int)+1)=((x+1:Nat):Int):=(cJ (by omega)).trans rfl
   have hs:gT f g m (x+1)=gT f g m x++(if inF f g x m then [(x:Int)]else []):=by
    unfold gT
    rw [List.range_succ,List.map_append,List.filter_append]
    congr 1
    cases q:inF f g x m<;>simp [q]
   have hlen:(gT f g m x).length ≤x:=by
    unfold gT
    refine Nat.le_trans (List.length_filter_le _ _) ?_
    simp
   rw [e4]
   refine⟨⟨by omega,iG f g⟩,aL (fun c=>?_) (fun c=>?_)⟩
   ·have c:inF f g x m=true:=c
    rw [c]at hs
    refine⟨⟨rfl,rfl,rfl,by omega⟩,aK (H:=F2 sh m f g) (x+1:Nat) ?_ ⟨⟨by omega⟩,by show 1000 - (x+1)<1000 - x;omega⟩⟩
    simp only [F2,hs,if_true,List.length_append,List.length_singleton]
    rfl
   ·have c:inF f g x m=false:=c
    rw [c]at hs
    simp only [Bool.false_eq_true,if_false,List.append_nil]at hs
    refine aK (H:=F2 sh m f g) (x+1:Nat) ?_ ⟨⟨by omega⟩,by show 1000 - (x+1)<1000 - x;omega⟩
    simp only [F2,hs]
    rfl
  ·have hx:x=1000:=by omega
   subst hx
   have hto:setF f g m=gT f g m 1000:=by unfold setF gT;rfl
   simp only [cond_false,hto]at hK
   exact hK
def itsS:aG Ob:=fun args h=>match args,h with
 | [.int .i64 sh,.view m 2 row],[]=>some (.pre (m≤1000000∧dM row) (.ret (.slice 0 (eQ sh (rK row) (rY row) m) (bT sh (rK row) (rY row) m).length 1) [some (.ints (some .i64) (fP sh (rK row) (rY row) m))]))
 | _,_=>none
theorem aB3:sT' 35 itsS:=by
 intro args h o ho K hK
 unfold itsS at ho
 split at ho<;>cases ho
 rename_i sh m row
 obtain⟨⟨hm,⟨hr⟩⟩,hK⟩:=hK
 rw [hr]
 exact NP sh m (rK row) (rY row) K (aB4 sh m (rK row) (rY row) K hm hK)
noncomputable def EV3:=EV2.addS 35 itsS aB3
def KJ(sh:Int)(m:Nat)(f g:Nat→Int)(kd ky:Int)(K:AVal→aD Ob→Prop):Prop:=bif ieq kd 1 then(m≤(4611686018427387904:Nat)∧dM fun i=>[.int .i64 (f i),.int .i64 (g i)])∧K (.agg [.int .i64 0,.bool !inO (rK fun i=>[.int .i64 (f i),.int .i64 (g i)]) (rY fun i=>[.int .i64 (f i),.int .i64 (g i)]) ky m,.int .i64 0]) []else bif ieq kd 2 then(m≤(4611686018427387904:Nat)∧dM fun i=>[.int .i64 (f i),.int .i64 (g i)])∧K (.agg [.int .i64 0,.bool (inO (rK fun i=>[.int .i64 (f i),.int .i64 (g i)]) (rY fun i=>[.int .i64 (f i),.int .i64 (g i)]) ky m),.int .i64 0]) []else bif ieq kd 3 then(m≤(4611686018427387904:Nat)∧dM fun i=>[.int .i64 (f i),.int .i64 (g i)])∧K (.agg [.int .i64 0,.bool (inO (rK fun i=>[.int .i64 (f i),.int .i64 (g i)]) (rY fun i=>[.int .i64 (f i),.int .i64 (g i)]) ky m),.int .i64 0]) []else bif ieq kd 4 then K (.agg [.int .i64 0,.bool true,.int .i64 0]) []else(m≤(1000000:Nat)∧dM fun i=>[.int .i64 (f i),.int .i64 (g i)])∧bif ieq (↑(List.length (bT sh (rK fun i=>[.int .i64 (f i),.int .i64 (g i)]) (rY fun i=>[.int .i64 (f i),.int .i64 (g i)]) m)):Int) 0 then K (.agg [.int .i64 0,.bool false,.int .i64 0]) []else((0:Int)≤(0:Int)∧(0:Int)<(↑(List.length (bT sh (rK fun i=>[.int .i64 (f i),.int .i64 (g i)]) (rY fun i=>[.int .i64 (f i),.int .i64 (g i)]) m)):Int))∧eQ sh (rK fun i=>[.int .i64 (f i),.int .i64 (g i)]) (rY fun i=>[.int .i64 (f i),.int .i64 (g i)]) m+Int.toNat 0*(1:Nat)<List.length (fP sh (rK fun i=>[.int .i64 (f i),.int .i64 (g i)]) (rY fun i=>[.int .i64 (f i),.int .i64 (g i)]) m)∧K (.agg [.int .i64 0,.bool true,.int .i64 (List.getD (fP sh (rK fun i=>[.int .i64 (f i),.int .i64 (g i)]) (rY fun i=>[.int .i64 (f i),.int .i64 (g i)]) m) (eQ sh (rK fun i=>[.int .i64 (f i),.int .i64 (g i)]) (rY fun i=>[.int .i64 (f i),.int .i64 (g i)]) m+Int.toNat 0*1) 0)]) []
theorem ON(sh:Int)(m:Nat)(f g:Nat→Int)(kd ky:Int)(K:AVal→aD Ob→Prop)(h:KJ sh m f g kd ky K):cT' 32 [.int .i64 sh,.view m 2 (fun i=>[.int .i64 (f i),.int .i64 (g i)]),.agg [.int .i64 kd,.int .i64 ky]] [] K:=by
 refine aFQ (cM' (E:=EV3) (by kernel_rfl) h)
theorem aCx(sh:Int)(m:Nat)(f g:Nat→Int)(kd ky:Int)(K:AVal→aD Ob→Prop)(hm:m≤1000000)(hK:K (.agg [.int .i64 0,.bool (resB sh f g m kd ky),.int .i64 (tQ sh f g m kd ky)]) []):KJ sh m f g kd ky K:=by
 have hp:m≤4611686018427387904:=by omega
 unfold KJ
 unfold resB tQ resR at hK
 refine aL (fun a=>⟨⟨hp,iG f g⟩,?_⟩) (fun a=>aL (fun b=>⟨⟨hp,iG f g⟩,?_⟩) (fun b=>aL (fun c=>⟨⟨hp,iG f g⟩,?_⟩) (fun c=>aL (fun d=>?_) (fun d=>⟨⟨hm,iG f g⟩,aL (fun e=>?_) (fun e=>?_)⟩))))
 ·rw [a]at hK;exact hK
 ·rw [a,b]at hK;exact hK
 ·rw [a,b,c]at hK;exact hK
 ·rw [a,b,c,d]at hK;exact hK
 ·rw [a,b,c,d]at hK
  have e:ieq ((bT sh f g m).length :Int) 0=true:=e
  have h0:bT sh f g m=[]:=by
   rw [bI,beq_iff_eq]at e
   exact List.length_eq_zero_iff.1 (by omega)
  simp only [h0]at hK
  exact hK
 ·rw [a,b,c,d]at hK
  have e:ieq ((bT sh f g m).length :Int) 0=false:=e
  obtain⟨q1,q2⟩:=EJ sh f g m
  have rk0:rK (fun i=>[.int .i64 (f i),.int .i64 (g i)])=f:=rfl
  have ry0:rY (fun i=>[.int .i64 (f i),.int .i64 (g i)])=g:=rfl
  rw [rk0,ry0]
  cases hi:bT sh f g m with
  | nil=>rw [hi]at e;cases e
  | cons x v=>
    rw [hi]at q1 q2
    simp only [hi]at hK
    simp only [List.length_cons]at q2⊢
    have e2:eQ sh f g m+Int.toNat 0*1=eQ sh f g m:=by simp
    have e3:List.getD (fP sh f g m) (eQ sh f g m) 0=x:=by
     have:(fP sh f g m)[eQ sh f g m]? =some x:=by
      have h2:=congrArg (fun l:List Int=>l[0]?) q1
      simpa [List.getElem?_drop]using h2
     rw [gD',this];rfl
    rw [e2,e3]
    exact⟨⟨by omega,by omega⟩,by omega,hK⟩
def resS:aG Ob:=fun args h=>match args,h with
 | [.int .i64 sh,.view m 2 row,.agg [.int .i64 kd,.int .i64 ky]],[]=>some (.pre (m≤1000000∧dM row) (.ret (.agg [.int .i64 0,.bool (resB sh (rK row) (rY row) m kd ky),.int .i64 (tQ sh (rK row) (rY row) m kd ky)]) []))
 | _,_=>none
theorem aCw:sT' 32 resS:=by
 intro args h o ho K hK
 unfold resS at ho
 split at ho<;>cases ho
 rename_i sh m row kd ky
 obtain⟨⟨hm,⟨hr⟩⟩,hK⟩:=hK
 rw [hr]
 exact ON sh m (rK row) (rY row) kd ky K (aCx sh m (rK row) (rY row) kd ky K hm hK)
noncomputable def EV4:=EV3.addS 32 resS aCw
def tH(xs:List Int)(nd:Int):Nat→Int→List Int→List Int
 | 0,_,out=>out
 | k+1,n,out=>bif bK nd n then bif !hasB out n then tH xs nd k (aA (aB xs n) 10 9) (out++ [n])else out else out
def ndF(xs:List Int)(nd hd:Int):List Int:=tH xs nd (nd.toNat+1) (aA (aB xs (nd+1+hd)) 10 9) []
def iZ(nd:Int)(out:List Int):Nat:=((List.range nd.toNat).filter (fun(j:Nat)=>!hasB out ((j:Int)+1))).length
theorem H4{p q:Nat→Bool}(hpq: ∀j,p j=true→q j=true)(l:List Nat):(l.filter p).length ≤(l.filter q).length :=by
 induction l with
 | nil=>exact Nat.le_refl _
 | cons b l ih=>
   simp only [List.filter_cons]
   cases hp:p b with
   | true=>rw [hpq b hp];simp;exact ih
   | false=>cases hq:q b<;>simp<;>omega
theorem H5{p q:Nat→Bool}(l:List Nat)(hpq: ∀j,p j=true→q j=true)(h: ∃j,j∈l∧q j=true∧p j=false):(l.filter p).length <(l.filter q).length :=by
 induction l with
 | nil=>obtain⟨j,hj,_⟩:=h;cases hj
 | cons a l ih=>
   have hle:=H4 hpq l
   simp only [List.filter_cons]
   obtain⟨j,hj,hq,hp⟩:=h
   rcases List.mem_cons.1 hj with rfl | hj
   ·rw [hp,hq];simp;omega
   ·have:=ih ⟨j,hj,hq,hp⟩
    cases hp2:p a with
    | true=>rw [hpq a hp2];simp;exact this
    | false=>cases hq2:q a<;>simp<;>omega
theorem NX{nd n:Int}{out:List Int}(h1:bK nd n=true)(h2:hasB out n=false):iZ nd (out++ [n])<iZ nd out:=by
 have h1:=kD.1 h1
 have h2:n∉out:=by intro hm;rw [gX.2 hm]at h2;cases h2
 unfold iZ
 refine H5 _ (fun j hj=>?_) ⟨(n - 1).toNat,?_,?_,?_⟩
 ·cases e:hasB out ((j:Int)+1)with
  | false=>rfl
  | true=>
    have:hasB (out++ [n]) ((j:Int)+1)=true:=gX.2 (List.mem_append_left _ (gX.1 e))
    rw [this]at hj;cases hj
 ·rw [List.mem_range];omega
 ·have e:(((n - 1).toNat :Nat):Int)+1=n:=by omega
  rw [e]
  cases e2:hasB out n with
  | false=>rfl
  | true=>exact absurd (gX.1 e2) h2
 ·have e:(((n - 1).toNat :Nat):Int)+1=n:=by omega
  rw [e,gX.2 (List.mem_append_right _ (List.mem_singleton.2 rfl))];rfl
theorem EW(nd:Int):iZ nd []≤nd.toNat:=by
 unfold iZ
 exact Nat.le_trans (List.length_filter_le _ _) (by simp)
structure aEd (xs:List Int) (nd:Int) (R:List Int) (x:Int×List Int):Prop where
 hb:(x.2.length:Int)≤nd.toNat
 ex: ∃k,iZ nd x.2<k∧tH xs nd k x.1 x.2=R
 hc:x.2.length+iZ nd x.2≤nd.toNat
def TQ(s:MS)(lt ln:Int)(R:List Int):Hint Ob:= {X:=Int×List Int,st:=fun x=>([.ptr 0 0,.O,.O,.O,.ptr 2 0,.O,.O,.slice 3 0 x.2.length 1,.int .i64 x.1]++List.replicate 26 .O,[aY 1 s,aZ s,some (.cells [.int .i64 lt,.int .i64 ln]),some (.ints (some .i64) x.2)]),ok:=aEd s.xs ln R,mu:=fun x=>iZ ln x.2,keep:=[0,4,7,8],casts:=[(.slot 7,.ints (some .i64))] }
def aCd(s:MS)(lt ln hd:Int)(R:List Int)(K:AVal→aD Ob→Prop):Prop:=(((0:Int)≤ln∧ln≤(100000:Int))∧(-1000000:Int)≤hd∧hd≤(1000000:Int))∧(lE' s.3∧True)∧True∧okSt (TQ s lt ln R) (Hint.ok (TQ s lt ln R)) (.ptr 0 0::.O::.O::.O::.ptr 2 0::.O::.O::.slice 3 0 0 1::.int .i64 (aA (aB s.3 (ln+1+hd)) 10 9)::(tO' 26 [])) [some (.cells [.int .i64 s.1,.int .i64 s.2,.slice 1 0 (List.length s.3) 1,.int .i64 s.4,.int .i64 s.5,.int .i64 s.6,.int .u64 s.7,.int .u64 s.8,.bool s.9]),some (.ints (some .u64) s.3),some (.cells [.int .i64 lt,.int .i64 ln]),some (.ints (some .i64) [])]∧ ∀(x:(Int×List Int)),aEd s.3 ln R x→True∧bif bK ln x.1 then(lE' x.2∧List.length x.2≤(4294967296:Nat))∧bif !hasB x.2 x.1 then(0=0∧lE' x.2∧1=1∧List.length x.2+(1:Nat)≤(4294967296:Nat))∧(lE' s.3∧True)∧True∧okSt (TQ s lt ln R) (fun x'=>Hint.ok (TQ s lt ln R) x'∧Hint.mu (TQ s lt ln R) x'<Hint.mu (TQ s lt ln R) x) (.ptr 0 0::.O::.O::.O::.ptr 2 0::.O::.O::.slice 3 0 (List.length x.2+1) 1::.int .i64 (aA (aB s.3 x.1) 10 9)::(tO' 26 [])) [some (.cells [.int .i64 s.1,.int .i64 s.2,.slice 1 0 (List.length s.3) 1,.int .i64 s.4,.int .i64 s.5,.int .i64 s.6,.int .u64 s.7,.int .u64 s.8,.bool s.9]),some (.ints (some .u64) s.3),some (.cells [.int .i64 lt,.int .i64 ln]),some (.ints (some .i64) (x.2++ [x.1]))]else K (.slice 2 0 (List.length x.2) 1) [some (.cells [.int .i64 s.1,.int .i64 s.2,.slice 1 0 (List.length s.3) 1,.int .i64 s.4,.int .i64 s.5,.int .i64 s.6,.int .u64 s.7,.int .u64 s.8,.bool s.9]),some (.ints (some .u64) s.3),some (.ints (some .i64) x.2)]else K (.slice 2 0 (List.length x.2) 1) [some (.cells [.int .i64 s.1,.int .i64 s.2,.slice 1 0 (List.length s.3) 1,.int .i64 s.4,.int .i64 s.5,.int .i64 s.6,.int .u64 s.7,.int .u64 s.8,.bool s.9]),some (.ints (some .u64) s.3),some (.ints (some .i64) x.2)]
theorem RV(s:MS)(lt ln hd:Int)(R:List Int)(K:AVal→aD Ob→Prop)(h:aCd s lt ln hd R K):cT' 58 [.ptr 0 0,.agg [.int .i64 lt,.int .i64 ln],.int .i64 hd] [aY 1 s,aZ s] K:=by
 exact aFQ (aE (E:=EV4) Tryz.checked.mixed (L:=fun _ _=>some (.states (TQ s lt ln R))) (n:=10) (aN (by kernel_rfl) h))
theorem aEf(s:MS)(lt ln hd:Int)(K:AVal→aD Ob→Prop)(h1:0≤ln∧ln≤100000)(h2: -1000000≤hd∧hd≤1000000)(hK:K (.slice 2 0 (ndF s.xs ln hd).length 1) [aY 1 s,aZ s,some (.ints (some .i64) (ndF s.xs ln hd))]):aCd s lt ln hd (ndF s.xs ln hd) K:=by
 refine⟨⟨h1,h2⟩,⟨rfl,trivial⟩,trivial,aK (H:=TQ s lt ln (ndF s.xs ln hd)) (aA (aB s.xs (ln+1+hd)) 10 9,[]) rfl ⟨by show((0:Nat):Int)≤_;omega,⟨ln.toNat+1,by have:=EW ln;show iZ ln []<ln.toNat+1;omega,rfl⟩,by have:=EW ln;show 0+iZ ln []≤ln.toNat;omega⟩,?_⟩
 rintro⟨n,out⟩ ⟨hb,⟨k,hk,hR⟩,hc⟩
 dsimp only at hb hk hR hc⊢
 have stop: ∀(h:bif bK ln n then !hasB out n else false),True:=fun _=>trivial
 refine⟨trivial,aL (fun e1=>⟨⟨rfl,by omega⟩,aL (fun e2=>?_) (fun e2=>?_)⟩) (fun e1=>?_)⟩
 ·have e2':hasB out n=false:=by simpa using e2
  have hlt:=NX (nd:=ln) e1 e2'
  cases k with
  | zero=>omega
  | succ k=>
    unfold tH at hR
    rw [e1,e2]at hR
    simp only [cond_true]at hR
    refine⟨⟨rfl,rfl,rfl,by omega⟩,⟨rfl,trivial⟩,trivial,aK (H:=TQ s lt ln (ndF s.xs ln hd)) (aA (aB s.xs n) 10 9,out++ [n]) (by simp only [TQ,List.length_append,List.length_singleton]<;>rfl) ⟨⟨?_,⟨k,by show iZ ln (out++ [n])<k;omega,hR⟩,?_⟩,hlt⟩⟩
    ·show((out++ [n]).length :Int)≤_
     rw [List.length_append,List.length_singleton];omega
    ·show(out++ [n]).length +iZ ln (out++ [n])≤_
     rw [List.length_append,List.length_singleton];omega
 ·have hR2:out=ndF s.xs ln hd:=by
   cases k with
   | zero=>omega
   | succ k=>
     unfold tH at hR
     rw [e1,e2]at hR
     exact hR
  rw [←hR2]at hK
  exact hK
 ·have hR2:out=ndF s.xs ln hd:=by
   cases k with
   | zero=>omega
   | succ k=>
     unfold tH at hR
     rw [e1]at hR
     exact hR
  rw [←hR2]at hK
  exact hK
theorem RU(xs:List Int)(nd:Int)(k:Nat): ∀(n:Int) (out:List Int),(tH xs nd k n out).length ≤out.length+k:=by
 induction k with
 | zero=>intro n out;unfold tH;omega
 | succ k ih=>
   intro n out
   unfold tH
   cases bK nd n<;>cases hasB out n<;>simp only [cond_true,cond_false,Bool.not_true,Bool.not_false]<;>try omega
   have:=ih (aA (aB xs n) 10 9) (out++ [n])
   rw [List.length_append,List.length_singleton]at this
   omega
theorem J9(xs:List Int)(nd hd:Int):(ndF xs nd hd).length ≤nd.toNat+1:=by
 have:=RU xs nd (nd.toNat+1) (aA (aB xs (nd+1+hd)) 10 9) []
 unfold ndF
 simpa using this
def ndS:aG Ob:=fun args h=>match args,h with
 | [.ptr 0 0,.agg [.int .i64 lt,.int .i64 ln],.int .i64 hd],[e1,e2]=>(match cU 1 [e1,e2]with
   | some (l,s)=>some (.pre (l=s.xs.length∧(0≤ln∧ln≤100000)∧(-1000000≤hd∧hd≤1000000)) (.ret (.slice 2 0 (ndF s.xs ln hd).length 1) [aY 1 s,aZ s,some (.ints (some .i64) (ndF s.xs ln hd))]))
   | none=>none)
 | _,_=>none
theorem aEe:sT' 58 ndS:=by
 intro args h o ho K hK
 unfold ndS at ho
 split at ho
 case h_2=>cases ho
 rename_i lt ln hd e1 e2
 split at ho<;>cases ho
 rename_i l s hm
 obtain⟨⟨hl,h1,h2⟩,hK⟩:=hK
 have hh:=bB hm hl
 cases hh
 exact RV s lt ln hd _ K (aEf s lt ln hd K h1 h2 hK)
noncomputable def EV5:=EV4.addS 58 ndS aEe
def kyL(xs ns:List Int):List Int:=(ns.filter fun a=>!ieq (aA (aB xs a) 19 1) 1).map fun a=>aA (aB xs a) 0 10
structure aD8 (xs ns:List Int) (x:Nat×List Int):Prop where
 hi:x.1≤ns.length
 eq:x.2=kyL xs (ns.take x.1)
def HKY(s:MS)(ns:List Int):Hint Ob:= {X:=Nat×List Int,st:=fun x=>([.ptr 0 0,.O,.O,.O,.O,.O,.O,.slice 2 0 x.2.length 1,.O,.O,.O,.O,.O,.O,.slice 3 0 ns.length 1,.int .i64 (ns.length:Int),.int .i64 (x.1:Int)]++List.replicate 17 .O,[aY 1 s,aZ s,some (.ints (some .i64) x.2),some (.ints (some .i64) ns)]),ok:=aD8 s.xs ns,mu:=fun x=>ns.length - x.1,keep:=[0,7,14,15,16],casts:=[(.slot 7,.ints (some .i64))] }
def aB5(s:MS)(lt ln hd:Int)(K:AVal→aD Ob→Prop):Prop:=(lE' s.3∧((0:Int)≤ln∧ln≤(100000:Int))∧(-1000000:Int)≤hd∧hd≤(1000000:Int))∧okSt (HKY s (ndF (MS.xs s) ln hd)) (Hint.ok (HKY s (ndF (MS.xs s) ln hd))) (.ptr 0 0::.O::.O::.O::.O::.O::.O::.slice 2 0 0 1::.O::.O::.O::.O::.O::.O::.slice 3 0 (List.length (ndF s.3 ln hd)) 1::.int .i64 (↑(List.length (ndF s.3 ln hd)):Int)::.int .i64 0::(tO' 17 [])) [some (.cells [.int .i64 s.1,.int .i64 s.2,.slice 1 0 (List.length s.3) 1,.int .i64 s.4,.int .i64 s.5,.int .i64 s.6,.int .u64 s.7,.int .u64 s.8,.bool s.9]),some (.ints (some .u64) s.3),some (.ints (some .i64) []),some (.ints (some .i64) (ndF s.3 ln hd))]∧ ∀(x:Hint.X (HKY s (ndF (MS.xs s) ln hd))),aD8 s.3 (ndF s.3 ln hd) x→bif ilt (↑x.1:Int) (↑(List.length (ndF s.3 ln hd)):Int)then((0:Int)≤(↑x.1:Int)∧(↑x.1:Int)<(↑(List.length (ndF s.3 ln hd)):Int))∧0+Int.toNat (↑x.1:Int)*(1:Nat)<List.length (ndF s.3 ln hd)∧(lE' s.3∧True)∧True∧bif !ieq (aA (aB s.3 (List.getD (ndF s.3 ln hd) (0+Int.toNat (↑x.1:Int)*1) 0)) 19 1) 1 then(0=0∧lE' x.2∧1=1∧List.length x.2+(1:Nat)≤(4294967296:Nat))∧okSt (HKY s (ndF (MS.xs s) ln hd)) (fun x'=>Hint.ok (HKY s (ndF (MS.xs s) ln hd)) x'∧Hint.mu (HKY s (ndF (MS.xs s) ln hd)) x'<Hint.mu (HKY s (ndF (MS.xs s) ln hd)) x) (.ptr 0 0::.O::.O::.O::.O::.O::.O::.slice 2 0 (List.length x.2+1) 1::.O::.O::.O::.O::.O::.O::.slice 3 0 (List.length (ndF s.3 ln hd)) 1::.int .i64 (↑(List.length (ndF s.3 ln hd)):Int)::.int .i64 (W ((↑x.1:Int)+1))::(tO' 17 [])) [some (.cells [.int .i64 s.1,.int .i64 s.2,.slice 1 0 (List.length s.3) 1,.int .i64 s.4,.int .i64 s.5,.int .i64 s.6,.int .u64 s.7,.int .u64 s.8,.bool s.9]),some (.ints (some .u64) s.3),some (.ints (some .i64) (x.2++ [aA (aB s.3 (List.getD (ndF s.3 ln hd) (0+Int.toNat (↑x.1:Int)*1) 0)) 0 10])),some (.ints (some .i64) (ndF s.3 ln hd))]else okSt (HKY s (ndF (MS.xs s) ln hd)) (fun x'=>Hint.ok (HKY s (ndF (MS.xs s) ln hd)) x'∧Hint.mu (HKY s (ndF (MS.xs s) ln hd)) x'<Hint.mu (HKY s (ndF (MS.xs s) ln hd)) x) (.ptr 0 0::.O::.O::.O::.O::.O::.O::.slice 2 0 (List.length x.2) 1::.O::.O::.O::.O::.O::.O::.slice 3 0 (List.length (ndF s.3 ln hd)) 1::.int .i64 (↑(List.length (ndF s.3 ln hd)):Int)::.int .i64 (W ((↑x.1:Int)+1))::(tO' 17 [])) [some (.cells [.int .i64 s.1,.int .i64 s.2,.slice 1 0 (List.length s.3) 1,.int .i64 s.4,.int .i64 s.5,.int .i64 s.6,.int .u64 s.7,.int .u64 s.8,.bool s.9]),some (.ints (some .u64) s.3),some (.ints (some .i64) x.2),some (.ints (some .i64) (ndF s.3 ln hd))]else K (.slice 2 0 (List.length x.2) 1) [some (.cells [.int .i64 s.1,.int .i64 s.2,.slice 1 0 (List.length s.3) 1,.int .i64 s.4,.int .i64 s.5,.int .i64 s.6,.int .u64 s.7,.int .u64 s.8,.bool s.9]),some (.ints (some .u64) s.3),some (.ints (some .i64) x.2)]
theorem RK(s:MS)(lt ln hd:Int)(K:AVal→aD Ob→Prop)(h:aB5 s lt ln hd K):cT' 59 [.ptr 0 0,.agg [.int .i64 lt,.int .i64 ln],.int .i64 hd] [aY 1 s,aZ s] K:=by
 exact aFQ (aE (E:=EV5) Tryz.checked.mixed (L:=fun _ _=>some (.states (HKY s (ndF s.xs ln hd)))) (n:=10) (aN (by kernel_rfl) h))
theorem TA{ns:List Int}{i:Nat}(hi:i<ns.length):ns.take (i+1)=ns.take i++ [ns.getD i 0]:=by
 rw [List.take_succ,gD',gE' hi];rfl
theorem ZK{xs ns:List Int}{i:Nat}(hi:i<ns.length)(h:(!ieq (aA (aB xs (ns.getD i 0)) 19 1) 1)=true):kyL xs (ns.take (i+1))=kyL xs (ns.take i)++ [aA (aB xs (ns.getD i 0)) 0 10]:=by
 unfold kyL
 rw [TA hi,List.filter_append,List.map_append]
 simp only [List.filter_cons,List.filter_nil,h,if_true,List.map_cons,List.map_nil]
theorem aD9{xs ns:List Int}{i:Nat}(hi:i<ns.length)(h:(!ieq (aA (aB xs (ns.getD i 0)) 19 1) 1)=false):kyL xs (ns.take (i+1))=kyL xs (ns.take i):=by
 unfold kyL
 rw [TA hi,List.filter_append,List.map_append]
 simp only [List.filter_cons,List.filter_nil,h,Bool.false_eq_true,if_false,List.map_nil,List.append_nil]
theorem XK(xs ns:List Int):(kyL xs ns).length ≤ns.length:=by
 unfold kyL
 rw [List.length_map];exact List.length_filter_le _ _
def keyF(xs:List Int)(nd hd:Int):List Int:=kyL xs (ndF xs nd hd)
theorem aEb(s:MS)(lt ln hd:Int)(K:AVal→aD Ob→Prop)(h1:0≤ln∧ln≤100000)(h2: -1000000≤hd∧hd≤1000000)(hK:K (.slice 2 0 (keyF s.xs ln hd).length 1) [aY 1 s,aZ s,some (.ints (some .i64) (keyF s.xs ln hd))]):aB5 s lt ln hd K:=by
 have hlen:=J9 s.xs ln hd
 unfold keyF at hK
 refine⟨⟨rfl,h1,h2⟩,aK (H:=HKY s (ndF s.xs ln hd)) ((0:Nat),[]) rfl ⟨Nat.zero_le _,rfl⟩,?_⟩
 have hlen':(ndF s.3 ln hd).length ≤ln.toNat+1:=hlen
 generalize ndF s.xs ln hd=ns at hK hlen⊢
 rintro⟨i,out⟩ ⟨hi,heq⟩
 dsimp only at hi heq
 subst heq
 have hkl:(kyL s.xs (ns.take i)).length ≤i:=Nat.le_trans (XK _ _) (List.length_take_le _ _)
 refine aL (fun e=>?_) (fun e=>?_)
 ·rw [bJ,dT']at e
  have e:(i:Int)<(ns.length:Int):=e
  have hil:i<ns.length:=by omega
  have e4:W ((i:Int)+1)=((i+1:Nat):Int):=by rw [W,cJ (by omega)];rfl
  have e0:0+Int.toNat (i:Int)*1=i:=by omega
  have hk1:(kyL s.xs (ns.take i)).length +1≤4294967296:=by omega
  refine⟨⟨by show(0:Int)≤(i:Int);omega,e⟩,by show 0+Int.toNat (i:Int)*1<ns.length;omega,⟨rfl,trivial⟩,trivial,aL (fun e2=>⟨⟨rfl,rfl,rfl,hk1⟩,?_⟩) (fun e2=>?_)⟩
  ·have e2:(!ieq (aA (aB s.xs (ns.getD (0+Int.toNat (i:Int)*1) 0)) 19 1) 1)=true:=e2
   rw [e0]at e2
   refine aK (H:=HKY s ns) (i+1,kyL s.xs (ns.take (i+1))) ?_ ⟨⟨hil,rfl⟩,by show ns.length - (i+1)<ns.length - i;omega⟩
   show((HKY s ns).st (i+1,kyL s.xs (ns.take (i+1))))=_
   have hl:(kyL s.xs (ns.take (i+1))).length =(kyL s.xs (ns.take i)).length +1:=by rw [ZK hil e2];simp
   simp only [HKY,hl]
   rw [ZK hil e2]
   simp only [e4,e0]
   rfl
  ·have e2:(!ieq (aA (aB s.xs (ns.getD (0+Int.toNat (i:Int)*1) 0)) 19 1) 1)=false:=e2
   rw [e0]at e2
   refine aK (H:=HKY s ns) (i+1,kyL s.xs (ns.take (i+1))) ?_ ⟨⟨hil,rfl⟩,by show ns.length - (i+1)<ns.length - i;omega⟩
   rw [aD9 hil e2]
   simp only [HKY,e4]
   rfl
 ·rw [bJ,dF']at e
  have e: ¬(i:Int)<(ns.length:Int):=e
  have hil:i=ns.length:=by omega
  subst hil
  rw [List.take_length]
  exact hK
def kyS:aG Ob:=fun args h=>match args,h with
 | [.ptr 0 0,.agg [.int .i64 lt,.int .i64 ln],.int .i64 hd],[e1,e2]=>(match cU 1 [e1,e2]with
   | some (l,s)=>some (.pre (l=s.xs.length∧(0≤ln∧ln≤100000)∧(-1000000≤hd∧hd≤1000000)) (.ret (.slice 2 0 (keyF s.xs ln hd).length 1) [aY 1 s,aZ s,some (.ints (some .i64) (keyF s.xs ln hd))]))
   | none=>none)
 | _,_=>none
theorem aEa:sT' 59 kyS:=by
 intro args h o ho K hK
 unfold kyS at ho
 split at ho
 case h_2=>cases ho
 rename_i lt ln hd e1 e2
 split at ho<;>cases ho
 rename_i l s hm
 obtain⟨⟨hl,h1,h2⟩,hK⟩:=hK
 have hh:=bB hm hl
 cases hh
 exact RK s lt ln hd K (aEb s lt ln hd K h1 h2 hK)
noncomputable def EV6:=EV5.addS 59 kyS aEa
def gF:List Int→List (Int×Int)→List (Int×Int)
 | [],m=>m
 | k::ks,m=>gF ks (cL m k (W ((mget m k).getD 0+1)))
def eL(m:List (Int×Int)):Nat→List Int
 | 0=>[]
 | k+1=>eL m k++List.replicate ((mget m (k:Int)).getD 0).toNat (k:Int)
def cntM(xs:List Int)(n:Int):List (Int×Int):=gF (keyF xs n 3) (gF (keyF xs n 2) (gF (keyF xs n 1) (gF (keyF xs n 0) [])))
def d0(xs:List Int)(n sh:Int):List Int:=bif ilt 2 sh then keyF xs n 0 else eL (cntM xs n) 1024
def cZ(xs:List Int)(n b:Int):Bool:=bK n b&&ieq (Int.tmod (aB xs (n+4+b)) 2) 1
def dX(xs:List Int)(n:Int):List Int→List (Int×Int)→Option (List (Int×Int))
 | [],m=>some m
 | b::bs,m=>bif ilt 1 (W ((mget m b).getD 0+1))|| !cZ xs n b then none else dX xs n bs (cL m b (W ((mget m b).getD 0+1)))
def i5(xs:List Int)(n:Int):List Int:=((List.range n.toNat).map fun i:Nat=>(i:Int)+1).filter fun b=>!cZ xs n b
noncomputable def EV7:qR Ob Tryz.prog:=EV6
def cQ(xs:List Int)(n:Int):Nat→List (Int×Int)
 | 0=>[]
 | h+1=>gF (keyF xs n h) (cQ xs n h)
structure aEn (xs:List Int) (n:Int) (x:Nat×List (Int×Int)):Prop where
 h0:x.1≤4
 eq:x.2=cQ xs n x.1
structure aEo (xs:List Int) (n h:Int) (x:Nat×List (Int×Int)):Prop where
 h0:0≤h∧h<4
 hi:x.1≤(keyF xs n h).length
 eq:x.2=gF ((keyF xs n h).take x.1) (cQ xs n h.toNat)
structure aEp (x:Nat):Prop where
 k0:x≤1024
structure aEq (k:Int) (m:List (Int×Int)) (x:Nat×Nat):Prop where
 k0:0≤k∧k<1024
 eq:x.1+x.2=((mget m k).getD 0).toNat
def TX(t n:Int)(s:MS):Hint Ob:= {X:=Nat×List (Int×Int),st:=fun x=>([.ptr 0 0,.O,.O,.O,.ptr 2 0,.O,.O,.map 3,.int .i64 (x.1:Int)]++List.replicate 45 .O,[aY 1 s,aZ s,some (.cells [.int .i64 t,.int .i64 n]),some (.imap .i64 (some .i64) x.2)]),ok:=aEn s.xs n,mu:=fun x=>4 - x.1,keep:=[0,4,7,8] }
def HI2(t n:Int)(s:MS)(h:Int):Hint Ob:= {X:=Nat×List (Int×Int),st:=fun x=>([.ptr 0 0,.O,.O,.O,.ptr 2 0,.O,.O,.map 3,.int .i64 h]++List.replicate 18 .O ++ [.slice 4 0 (keyF s.xs n h).length 1,.int .i64 ((keyF s.xs n h).length :Int),.int .i64 (x.1:Int)]++List.replicate 24 .O,[aY 1 s,aZ s,some (.cells [.int .i64 t,.int .i64 n]),some (.imap .i64 (some .i64) x.2),some (.ints (some .i64) (keyF s.xs n h))]),ok:=aEo s.xs n h,mu:=fun x=>(keyF s.xs n h).length - x.1,keep:=[0,4,7,8,27,28,29] }
def TP(s:MS)(m:List (Int×Int)):Hint Ob:= {X:=Nat,st:=fun x=>([.ptr 0 0,.O,.O,.O,.O,.O,.O,.map 2,.O,.O,.O,.slice 3 0 (eL m x).length 1,.int .i64 (x:Int)]++List.replicate 41 .O,[aY 1 s,aZ s,some (.imap .i64 (some .i64) m),some (.ints (some .i64) (eL m x))]),ok:=aEp,mu:=fun x=>1024 - x,keep:=[0,7,11,12],casts:=[(.slot 11,.ints (some .i64))] }
def HI4(s:MS)(m:List (Int×Int))(k:Int):Hint Ob:= {X:=Nat×Nat,st:=fun x=>([.ptr 0 0,.O,.O,.O,.O,.O,.O,.map 2,.O,.O,.O,.slice 3 0 (eL m k.toNat++List.replicate x.1 k).length 1,.int .i64 k,.int .i64 (x.2:Int)]++List.replicate 40 .O,[aY 1 s,aZ s,some (.imap .i64 (some .i64) m),some (.ints (some .i64) (eL m k.toNat++List.replicate x.1 k))]),ok:=aEq k m,mu:=fun x=>x.2,keep:=[0,7,11,12,13],casts:=[(.slot 11,.ints (some .i64))] }
def aFh(t n:Int)(s:MS):FuncId→Nat→Option (p7 Ob):=fun _ k=>if k=5 then some (.states (TX t n s))else if k=8 then some (.statesAt 8 (HI2 t n s))else if k=14 then some (.states (TP s (cQ s.xs n 4)))else if k=17 then some (.statesAt 12 (HI4 s (cQ s.xs n 4)))else none
def J4(t n sh:Int)(s:MS)(K:AVal→aD Ob→Prop):Prop:=bif ilt 2 sh then(lE' s.3∧((0:Int)≤n∧n≤(100000:Int))∧(-1000000:Int)≤(0:Int)∧(0:Int)≤(1000000:Int))∧K (.slice 2 0 (List.length (keyF s.3 n 0)) 1) [some (.cells [.int .i64 s.1,.int .i64 s.2,.slice 1 0 (List.length s.3) 1,.int .i64 s.4,.int .i64 s.5,.int .i64 s.6,.int .u64 s.7,.int .u64 s.8,.bool s.9]),some (.ints (some .u64) s.3),some (.ints (some .i64) (keyF s.3 n 0))]else okSt (TX t n s) (Hint.ok (TX t n s)) (.ptr 0 0::.O::.O::.O::.ptr 2 0::.O::.O::.map 3::.int .i64 0::(tO' 45 [])) [some (.cells [.int .i64 s.1,.int .i64 s.2,.slice 1 0 (List.length s.3) 1,.int .i64 s.4,.int .i64 s.5,.int .i64 s.6,.int .u64 s.7,.int .u64 s.8,.bool s.9]),some (.ints (some .u64) s.3),some (.cells [.int .i64 t,.int .i64 n]),some (.imap .i64 (some .i64) [])]∧ ∀(x:(Nat×List (Int×Int))),aEn s.3 n x→bif ilt (↑x.1:Int) 4 then(lE' s.3∧((0:Int)≤n∧n≤(100000:Int))∧(-1000000:Int)≤(↑x.1:Int)∧(↑x.1:Int)≤(1000000:Int))∧okSt (HI2 t n s (↑(Prod.fst x):Int)) (Hint.ok (HI2 t n s (↑(Prod.fst x):Int))) (.ptr 0 0::.O::.O::.O::.ptr 2 0::.O::.O::.map 3::.int .i64 (↑x.1:Int)::(tO' 18 (.slice 4 0 (List.length (keyF s.3 n (↑x.1:Int))) 1::.int .i64 (↑(List.length (keyF s.3 n (↑x.1:Int))):Int)::.int .i64 0::(tO' 24 [])))) [some (.cells [.int .i64 s.1,.int .i64 s.2,.slice 1 0 (List.length s.3) 1,.int .i64 s.4,.int .i64 s.5,.int .i64 s.6,.int .u64 s.7,.int .u64 s.8,.bool s.9]),some (.ints (some .u64) s.3),some (.cells [.int .i64 t,.int .i64 n]),some (.imap .i64 (some .i64) x.2),some (.ints (some .i64) (keyF s.3 n (↑x.1:Int)))]∧ ∀(x_1:Hint.X (HI2 t n s (↑(Prod.fst x):Int))),aEo s.3 n (↑x.1:Int) x_1→bif ilt (↑x_1.1:Int) (↑(List.length (keyF s.3 n (↑x.1:Int))):Int)then((0:Int)≤(↑x_1.1:Int)∧(↑x_1.1:Int)<(↑(List.length (keyF s.3 n (↑x.1:Int))):Int))∧0+Int.toNat (↑x_1.1:Int)*(1:Nat)<List.length (keyF s.3 n (↑x.1:Int))∧okSt (HI2 t n s (↑(Prod.fst x):Int)) (fun x'=>Hint.ok (HI2 t n s (↑(Prod.fst x):Int)) x'∧Hint.mu (HI2 t n s (↑(Prod.fst x):Int)) x'<Hint.mu (HI2 t n s (↑(Prod.fst x):Int)) x_1) (.ptr 0 0::.O::.O::.O::.ptr 2 0::.O::.O::.map 3::.int .i64 (↑x.1:Int)::(tO' 18 (.slice 4 0 (List.length (keyF s.3 n (↑x.1:Int))) 1::.int .i64 (↑(List.length (keyF s.3 n (↑x.1:Int))):Int)::.int .i64 (W ((↑x_1.1:Int)+1))::(tO' 24 [])))) [some (.cells [.int .i64 s.1,.int .i64 s.2,.slice 1 0 (List.length s.3) 1,.int .i64 s.4,.int .i64 s.5,.int .i64 s.6,.int .u64 s.7,.int .u64 s.8,.bool s.9]),some (.ints (some .u64) s.3),some (.cells [.int .i64 t,.int .i64 n]),some (.imap .i64 (some .i64) (cL x_1.2 (List.getD (keyF s.3 n (↑x.1:Int)) (0+Int.toNat (↑x_1.1:Int)*1) 0) (W (Option.getD (mget (Prod.snd x_1) (List.getD (keyF s.3 n (↑x.1:Int)) (0+Int.toNat (↑x_1.1:Int)*1) 0)) 0+1)))),some (.ints (some .i64) (keyF s.3 n (↑x.1:Int)))]else okSt (TX t n s) (fun x'=>Hint.ok (TX t n s) x'∧Hint.mu (TX t n s) x'<Hint.mu (TX t n s) x) (.ptr 0 0::.O::.O::.O::.ptr 2 0::.O::.O::.map 3::.int .i64 (W ((↑x.1:Int)+1))::(tO' 45 [])) [some (.cells [.int .i64 s.1,.int .i64 s.2,.slice 1 0 (List.length s.3) 1,.int .i64 s.4,.int .i64 s.5,.int .i64 s.6,.int .u64 s.7,.int .u64 s.8,.bool s.9]),some (.ints (some .u64) s.3),some (.cells [.int .i64 t,.int .i64 n]),some (.imap .i64 (some .i64) x_1.2)]else okSt (TP s (cQ (MS.xs s) n 4)) (Hint.ok (TP s (cQ (MS.xs s) n 4))) (.ptr 0 0::.O::.O::.O::.O::.O::.O::.map 2::.O::.O::.O::.slice 3 0 0 1::.int .i64 0::(tO' 41 [])) [some (.cells [.int .i64 s.1,.int .i64 s.2,.slice 1 0 (List.length s.3) 1,.int .i64 s.4,.int .i64 s.5,.int .i64 s.6,.int .u64 s.7,.int .u64 s.8,.bool s.9]),some (.ints (some .u64) s.3),some (.imap .i64 (some .i64) x.2),some (.ints (some .i64) [])]∧ ∀(x:Nat),aEp x→bif ile (↑x:Int) 1023 then okSt (HI4 s (cQ (MS.xs s) n 4) (↑x:Int)) (Hint.ok (HI4 s (cQ (MS.xs s) n 4) (↑x:Int))) (.ptr 0 0::.O::.O::.O::.O::.O::.O::.map 2::.O::.O::.O::.slice 3 0 (List.length (eL (cQ s.3 n 4) x)) 1::.int .i64 (↑x:Int)::.int .i64 (Option.getD (mget (cQ (MS.xs s) n 4) (↑x:Int)) 0)::(tO' 40 [])) [some (.cells [.int .i64 s.1,.int .i64 s.2,.slice 1 0 (List.length s.3) 1,.int .i64 s.4,.int .i64 s.5,.int .i64 s.6,.int .u64 s.7,.int .u64 s.8,.bool s.9]),some (.ints (some .u64) s.3),some (.imap .i64 (some .i64) (cQ s.3 n 4)),some (.ints (some .i64) (eL (cQ s.3 n 4) x))]∧ ∀(x_1:Hint.X (HI4 s (cQ (MS.xs s) n 4) (↑x:Int))),aEq (↑x:Int) (cQ s.3 n 4) x_1→bif ilt 0 (↑x_1.2:Int)then(0=0∧lE' (eL (cQ s.3 n 4) (Int.toNat (↑x:Int))++List.replicate x_1.1 (↑x:Int))∧1=1∧List.length (eL (cQ s.3 n 4) (Int.toNat (↑x:Int))++List.replicate x_1.1 (↑x:Int))+(1:Nat)≤(4294967296:Nat))∧okSt (HI4 s (cQ (MS.xs s) n 4) (↑x:Int)) (fun x'=>Hint.ok (HI4 s (cQ (MS.xs s) n 4) (↑x:Int)) x'∧Hint.mu (HI4 s (cQ (MS.xs s) n 4) (↑x:Int)) x'<Hint.mu (HI4 s (cQ (MS.xs s) n 4) (↑x:Int)) x_1) (.ptr 0 0::.O::.O::.O::.O::.O::.O::.map 2::.O::.O::.O::.slice 3 0 (List.length (eL (cQ s.3 n 4) (Int.toNat (↑x:Int))++List.replicate x_1.1 (↑x:Int))+1) 1::.int .i64 (↑x:Int)::.int .i64 (W ((↑x_1.2:Int) - 1))::(tO' 40 [])) [some (.cells [.int .i64 s.1,.int .i64 s.2,.slice 1 0 (List.length s.3) 1,.int .i64 s.4,.int .i64 s.5,.int .i64 s.6,.int .u64 s.7,.int .u64 s.8,.bool s.9]),some (.ints (some .u64) s.3),some (.imap .i64 (some .i64) (cQ s.3 n 4)),some (.ints (some .i64) (eL (cQ s.3 n 4) (Int.toNat (↑x:Int))++List.replicate x_1.1 (↑x:Int)++ [(↑x:Int)]))]else okSt (TP s (cQ (MS.xs s) n 4)) (fun x'=>Hint.ok (TP s (cQ (MS.xs s) n 4)) x'∧Hint.mu (TP s (cQ (MS.xs s) n 4)) x'<Hint.mu (TP s (cQ (MS.xs s) n 4)) x) (.ptr 0 0::.O::.O::.O::.O::.O::.O::.map 2::.O::.O::.O::.slice 3 0 (List.length (eL (cQ s.3 n 4) (Int.toNat (↑x:Int))++List.replicate x_1.1 (↑x:Int))) 1::.int .i64 (W ((↑x:Int)+1))::(tO' 41 [])) [some (.cells [.int .i64 s.1,.int .i64 s.2,.slice 1 0 (List.length s.3) 1,.int .i64 s.4,.int .i64 s.5,.int .i64 s.6,.int .u64 s.7,.int .u64 s.8,.bool s.9]),some (.ints (some .u64) s.3),some (.imap .i64 (some .i64) (cQ s.3 n 4)),some (.ints (some .i64) (eL (cQ s.3 n 4) (Int.toNat (↑x:Int))++List.replicate x_1.1 (↑x:Int)))]else K (.slice 2 0 (List.length (eL (cQ s.3 n 4) x)) 1) [some (.cells [.int .i64 s.1,.int .i64 s.2,.slice 1 0 (List.length s.3) 1,.int .i64 s.4,.int .i64 s.5,.int .i64 s.6,.int .u64 s.7,.int .u64 s.8,.bool s.9]),some (.ints (some .u64) s.3),some (.ints (some .i64) (eL (cQ s.3 n 4) x))]
theorem NO(t n sh:Int)(s:MS)(K:AVal→aD Ob→Prop)(h:J4 t n sh s K):cT' 34 [.ptr 0 0,.agg [.int .i64 t,.int .i64 n],.int .i64 sh] [aY 1 s,aZ s] K:=by
 refine aFQ (aE (E:=EV7) Tryz.checked.mixed (L:=(aFh t n s)) (n:=10) (aN (by kernel_rfl) h))
theorem EX(xs:List Int)(n:Int): ∀(k:Nat) (a:Int) (out:List Int),(tH xs n k a out).length ≤out.length+k
 | 0,a,out=>Nat.le_refl _
 | k+1,a,out=>by
   show(bif bK n a then bif !hasB out a then tH xs n k (aA (aB xs a) 10 9) (out++ [a])else out else out:List Int).length ≤_
   cases bK n a with
   | false=>rw [cond_false];omega
   | true=>
     cases hasB out a with
     | true=>simp only [cond_true,Bool.not_true,cond_false];omega
     | false=>
       simp only [cond_true,Bool.not_false]
       have:=EX xs n k (aA (aB xs a) 10 9) (out++ [a])
       rw [List.length_append]at this
       simp at this;omega
theorem EL(xs:List Int)(n h:Int)(hn:0≤n∧n≤100000):(keyF xs n h).length ≤100001:=by
 have:=EX xs n (n.toNat+1) (aA (aB xs (n+1+h)) 10 9) []
 unfold keyF kyL ndF
 rw [List.length_map]
 refine Nat.le_trans (List.length_filter_le _ _) ?_
 simp only [List.length_nil]at this
 omega
def BV(B:Int)(m:List (Int×Int)):Prop:= ∀k,0≤(mget m k).getD 0∧(mget m k).getD 0≤B
theorem uC: ∀(ks:List Int) (m:List (Int×Int)) (B:Int),BV B m→B+ks.length≤1000000→BV (B+ks.length) (gF ks m)
 | [],m,B,h,_=>by
   intro k
   have:=h k
   show 0≤(mget m k).getD 0∧(mget m k).getD 0≤B+((0:Nat):Int)
   omega
 | a::ks,m,B,h,hb=>by
   simp only [List.length_cons]at hb
   have ha:=h a
   have hw:W ((mget m a).getD 0+1)=(mget m a).getD 0+1:=cJ (by omega)
   have:=uC ks (cL m a (W ((mget m a).getD 0+1))) (B+1) (by
    intro k
    rw [gC,hw]
    by_cases e:k=a
    ·rw [if_pos e];exact⟨by show 0≤(mget m a).getD 0+1;omega,by show(mget m a).getD 0+1≤_;omega⟩
    ·rw [if_neg e];have:=h k;omega) (by omega)
   have e:B+((a::ks).length :Int)=B+1+ks.length:=by simp only [List.length_cons];omega
   rw [e];exact this
theorem uD(xs:List Int)(n:Int)(hn:0≤n∧n≤100000): ∀h:Nat,h≤4→BV (100001*h) (cQ xs n h)
 | 0,_=>fun k=>⟨Int.le_refl 0,Int.le_refl 0⟩
 | h+1,hh=>by
   have ih:=uD xs n hn h (by omega)
   have hk:=EL xs n h hn
   have:=uC (keyF xs n h) _ _ ih (by omega)
   intro k
   have:=this k
   exact⟨this.1,by have:=this.2;show(mget (gF (keyF xs n h) (cQ xs n h)) k).getD 0≤_;omega⟩
theorem zO(m:List (Int×Int))(h:BV 400004 m): ∀k,(eL m k).length ≤400004*k
 | 0=>Nat.le_refl 0
 | k+1=>by
   have ih:=zO m h k
   have:=h k
   show(eL m k++List.replicate ((mget m (k:Int)).getD 0).toNat (k:Int)).length ≤_
   rw [List.length_append,List.length_replicate]
   omega
theorem aB2(t n sh:Int)(s:MS)(K:AVal→aD Ob→Prop)(hn:0≤n∧n≤100000)(hK:K (.slice 2 0 (d0 s.xs n sh).length 1) [aY 1 s,aZ s,some (.ints (some .i64) (d0 s.xs n sh))]):J4 t n sh s K:=by
 unfold J4
 unfold d0 at hK
 refine aL (fun a=>?_) (fun a=>?_)
 ·rw [a]at hK
  exact⟨⟨rfl,hn,by decide,by decide⟩,hK⟩
 ·rw [a]at hK
  have hsm:=uD s.xs n hn 4 (Nat.le_refl _)
  refine⟨aK (H:=TX t n s) (0,[]) rfl ⟨Nat.zero_le _,rfl⟩,?_⟩
  rintro⟨h,m⟩ ⟨h0,heq⟩
  dsimp only at h0 heq⊢
  refine nE (fun e=>?_) (fun e=>?_)
  ·refine⟨⟨rfl,hn,by omega,by omega⟩,aK (H:=HI2 t n s h) (0,m) rfl ⟨⟨by omega,by omega⟩,Nat.zero_le _,by rw [heq];rfl⟩,?_⟩
   rintro⟨i,m2⟩ ⟨b0,bi,beq⟩
   dsimp only at b0 bi beq⊢
   refine nE (fun e2=>?_) (fun e2=>?_)
   ·have hi:i<(keyF s.xs n h).length :=by omega
    have hkl:=EL s.xs n h hn
    have e4:W ((i:Int)+1)=((i+1:Nat):Int):=(cJ (by omega)).trans rfl
    have e0:0+(i:Int).toNat *1=i:=by omega
    rw [e4,e0]
    refine⟨⟨by omega,by omega⟩,hi,aK (H:=HI2 t n s h) (i+1,cL m2 (keyF s.xs n h)[i] (W ((mget m2 (keyF s.xs n h)[i]).getD 0+1))) ?_ ⟨⟨b0,hi,?_⟩,by show(keyF s.xs n h).length - (i+1)<(keyF s.xs n h).length - i;omega⟩⟩
    ·have hg:List.getD (keyF s.xs n h) i 0=(keyF s.xs n h)[i]:=by rw [gD',gE' hi];rfl
     simp only [HI2,←hg]
     rfl
    ·have ht:(keyF s.xs n h).take (i+1)=(keyF s.xs n h).take i++ [(keyF s.xs n h)[i]]:=List.take_succ_eq_append_getElem hi
     rw [ht,show∀a b m,gF (a++b) m=gF b (gF a m)from fun a b=>by
      induction a with
      | nil=>intro m;rfl
      | cons x a ih=>intro m;exact ih _]
     rw [←beq];rfl
   ·have hi:i=(keyF s.xs n h).length :=by omega
    have e4:W ((h:Int)+1)=((h+1:Nat):Int):=(cJ (by omega)).trans rfl
    rw [e4]
    refine aK (H:=TX t n s) (h+1,m2) rfl ⟨⟨by show h+1≤4;omega,?_⟩,by show 4 - (h+1)<4 - h;omega⟩
    rw [hi,List.take_length]at beq
    exact beq
  ·have h4:h=4:=by omega
   subst h4
   subst heq
   refine⟨aK (H:=TP s (cQ s.xs n 4)) (0:Nat) rfl ⟨Nat.zero_le _⟩,?_⟩
   rintro k ⟨k0⟩
   have hrl:=zO _ hsm
   refine uQ (fun e3=>?_) (fun e3=>?_)
   ·have hc:=hsm k
    have hv:(mget (cQ s.xs n 4) (k:Int)).getD 0=((((mget (cQ s.xs n 4) (k:Int)).getD 0).toNat :Nat):Int):=by omega
    have hk4:W ((k:Int)+1)=((k+1:Nat):Int):=(cJ (by omega)).trans rfl
    rw [hv,hk4]
    generalize hcc:((mget (cQ s.xs n 4) (k:Int)).getD 0).toNat =c at*
    refine⟨aK (H:=HI4 s (cQ s.xs n 4) k) (0,c) (by simp only [HI4,List.replicate_zero,List.append_nil]<;>rfl) ⟨⟨by omega,by omega⟩,by show 0+c=_;rw [hcc];omega⟩,?_⟩
    rintro⟨j,l⟩ ⟨c0,ceq⟩
    dsimp only at c0 ceq⊢
    rw [hcc]at ceq
    have hr:=hrl k
    have hkt:((k:Nat):Int).toNat =k:=rfl
    refine nE (fun e5=>?_) (fun e5=>?_)
    ·obtain⟨l,rfl⟩: ∃y,l=y+1:=⟨l - 1,by omega⟩
     have e6:W (((l+1:Nat):Int) - 1)=(l:Int):=(cJ (by omega)).trans (by omega)
     rw [e6]
     refine⟨⟨rfl,rfl,rfl,by rw [List.length_append,List.length_replicate,hkt];omega⟩,aK (H:=HI4 s (cQ s.xs n 4) k) (j+1,l) ?_ ⟨⟨c0,by show j+1+l=_;rw [hcc];omega⟩,Nat.lt_succ_self l⟩⟩
     have hrep:List.replicate (j+1) ((k:Nat):Int)=List.replicate j ((k:Nat):Int)++ [((k:Nat):Int)]:=List.replicate_succ'
     simp only [HI4,hrep,List.length_append,List.length_singleton,←List.append_assoc]
     rfl
    ·have hl:l=0:=by omega
     subst hl
     have hj:j=c:=by omega
     subst hj
     refine aK (H:=TP s (cQ s.xs n 4)) (k+1:Nat) ?_ ⟨⟨by show k+1≤1024;omega⟩,by show 1024 - (k+1)<1024 - k;omega⟩
     have hrs:eL (cQ s.xs n 4) (k+1)=eL (cQ s.xs n 4) k++List.replicate j ((k:Nat):Int):=by
      show eL (cQ s.xs n 4) k++List.replicate ((mget (cQ s.xs n 4) (k:Int)).getD 0).toNat (k:Int)=_
      rw [hcc]
     simp only [TP,hrs]
     rfl
   ·have hk:k=1024:=by omega
    subst hk
    have he:cntM s.xs n=cQ s.xs n 4:=rfl
    rw [he]at hK
    exact hK
def itmS:aG Ob:=fun args h=>match args,h with
 | [.ptr 0 0,.agg [.int .i64 t,.int .i64 n],.int .i64 sh],[e1,e2]=>(match cU 1 [e1,e2]with
   | some (l,s)=>some (.pre (l=s.xs.length∧0≤n∧n≤100000) (.ret (.slice 2 0 (d0 s.xs n sh).length 1) [aY 1 s,aZ s,some (.ints (some .i64) (d0 s.xs n sh))]))
   | none=>none)
 | _,_=>none
theorem aB1:sT' 34 itmS:=by
 intro args h o ho K hK
 unfold itmS at ho
 split at ho
 case h_2=>cases ho
 rename_i t n sh e1 e2
 split at ho<;>cases ho
 rename_i l s hm
 obtain⟨⟨hl,h1⟩,hK⟩:=hK
 have hh:=bB hm hl
 cases hh
 exact NO t n sh s K (aB2 t n sh s K h1 hK)
noncomputable def EV8:=EV7.addS 34 itmS aB1
def dqNSA:aG Ob:=fun args h=>match args,h with
 | [.ptr 0 0,.agg [.int .i64 sh,.int .i64 kd,.int .i64 ky],.int .i64 lim],[some (.abs (.store t n st) [])]=>some (.pre (uF t n sh kd ky lim st) (.ret (.ptr 1 0) [some (.abs (.store t n (dqNF t n sh kd ky lim st).2) []),some (.abs (.doer t n (dqNF t n sh kd ky lim st).1) [0])]))
 | _,_=>none
theorem U0:sT' 56 dqNSA:=by
 intro args h o ho K hK
 unfold dqNSA at ho
 split at ho<;>cases ho
 rename_i sh kd ky lim t n st
 obtain⟨ok,hK⟩:=hK
 refine aC.pack (tb:=tbl) (aC.unpack (tb:=tbl) (Mc.store t n st) 0 0 (dJ t n st) [] rfl rfl rfl rfl ?_)
 refine G5 [.ptr 0 0,.agg [.int .i64 sh,.int .i64 kd,.int .i64 ky],.int .i64 lim] [stC 1 t n st,hO st] _ rfl _ ⟨⟨rfl,ok⟩,⟨[0,2,1],[some (.abs (.store t n (dqNF t n sh kd ky lim st).2) []),some (.abs (.doer t n (dqNF t n sh kd ky lim st).1) [0])],.store t n (dqNF t n sh kd ky lim st).2,0,0,dJ t n (dqNF t n sh kd ky lim st).2,[],by kernel_rfl,by kernel_rfl,rfl,rfl,hK⟩⟩
noncomputable def EV9:=EV8.addS 56 (aG.or dqNSA dqNS) (aF6 U0 G5)
def v9(t n:Int):Nat→DOS→STS→MS→Prop
 | 0,_,_,_=>False
 | f+1,x,st,s=>dqOk t n x st s∧((dqF t n x st s).d =false→v9 t n f (dqF t n x st s).x (dqF t n x st s).st (dqF t n x st s).s)
def nD(t n:Int):Nat→DOS→STS→MS→Nat×DOS×STS×MS
 | 0,x,st,s=>(0,x,st,s)
 | f+1,x,st,s=>bif (dqF t n x st s).d then(1,(dqF t n x st s).x,(dqF t n x st s).st,(dqF t n x st s).s)else((nD t n f (dqF t n x st s).x (dqF t n x st s).st (dqF t n x st s).s).1+1,(nD t n f (dqF t n x st s).x (dqF t n x st s).st (dqF t n x st s).s).2)
def xV(t n lim:Int)(N:Nat)(r:List Int)(st:STS)(s:MS):Nat×DOS×STS×MS:=nD t n N (dqNF t n (r0 r) (r1 r) (r2 r) lim st).1 (dqNF t n (r0 r) (r1 r) (r2 r) lim st).2 s
def PA(t n lim:Int)(N:Nat)(r:List Int)(st:STS)(s:MS):Prop:=uF t n (r0 r) (r1 r) (r2 r) lim st∧v9 t n N (dqNF t n (r0 r) (r1 r) (r2 r) lim st).1 (dqNF t n (r0 r) (r1 r) (r2 r) lim st).2 s
def IT(x:DOS):List Int:=[x.code,bitI x.okk,x.val]
def alF(t n lim:Int)(N:Nat):List (List Int)→STS→MS→List (List Int)×Nat×STS×MS
 | [],st,s=>([],0,st,s)
 | r::T,st,s=>(IT (xV t n lim N r st s).2.1::(alF t n lim N T (xV t n lim N r st s).2.2.1 (xV t n lim N r st s).2.2.2).1,(xV t n lim N r st s).1+(alF t n lim N T (xV t n lim N r st s).2.2.1 (xV t n lim N r st s).2.2.2).2.1,(alF t n lim N T (xV t n lim N r st s).2.2.1 (xV t n lim N r st s).2.2.2).2.2)
def alOk(t n lim:Int)(N:Nat):List (List Int)→STS→MS→Prop
 | [],_,_=>True
 | r::T,st,s=>PA t n lim N r st s∧alOk t n lim N T (xV t n lim N r st s).2.2.1 (xV t n lim N r st s).2.2.2
structure alA (t n lim:Int) (N:Nat) (T:List (List Int)) (st0:STS) (s0:MS) (x:Nat×List (List Int)×Nat×STS×MS):Prop where
 h1:x.1≤T.length
 hl:x.2.1.length=x.1
 hk:x.2.2.1≤N*x.1
 ok:alOk t n lim N (T.drop x.1) x.2.2.2.1 x.2.2.2.2
 eq:alF t n lim N T st0 s0=(x.2.1++(alF t n lim N (T.drop x.1) x.2.2.2.1 x.2.2.2.2).1,x.2.2.1+(alF t n lim N (T.drop x.1) x.2.2.2.1 x.2.2.2.2).2.1,(alF t n lim N (T.drop x.1) x.2.2.2.1 x.2.2.2.2).2.2)
structure alC (t n lim:Int) (N:Nat) (T:List (List Int)) (st0:STS) (s0:MS) (i:Int) (x:Nat×List (List Int)×Nat×Nat×STS×MS×DOS×STS×MS):Prop where
 i0:0≤i∧i<T.length
 a:alA t n lim N T st0 s0 (i.toNat,x.2.1,x.2.2.1,x.2.2.2.2.1,x.2.2.2.2.2.1)
 hj:x.2.2.2.1+x.1=N
 ok:v9 t n x.1 x.2.2.2.2.2.2.1 x.2.2.2.2.2.2.2.1 x.2.2.2.2.2.2.2.2
 eq:xV t n lim N (List.getD T i.toNat []) x.2.2.2.2.1 x.2.2.2.2.2.1=((nD t n x.1 x.2.2.2.2.2.2.1 x.2.2.2.2.2.2.2.1 x.2.2.2.2.2.2.2.2).1+x.2.2.2.1,(nD t n x.1 x.2.2.2.2.2.2.1 x.2.2.2.2.2.2.2.1 x.2.2.2.2.2.2.2.2).2)
def TO(t n lim:Int)(N:Nat)(T:List (List Int))(st0:STS)(s0:MS):Hint Ob:= {X:=Nat×List (List Int)×Nat×STS×MS,st:=fun x=>([.ptr 0 0,.ptr 2 0,.int .i64 lim]++List.replicate 7 .O ++ [.tslice 4 0 x.2.1.length 3,.int .i64 (x.2.2.1:Int),.O,.O,.O,.tslice 3 0 T.length 3,.int .i64 (T.length:Int),.int .i64 (x.1:Int)]++List.replicate 25 .O,[aY 1 x.2.2.2.2,aZ x.2.2.2.2,some (.abs (.store t n x.2.2.2.1) []),some (.tab KT T),some (.tab KR x.2.1)]),ok:=alA t n lim N T st0 s0,mu:=fun x=>T.length - x.1,keep:=[0,1,2,10,11,15,16,17],casts:=[(.slot 10,.tab KR)] }
def HAc(t n lim:Int)(N:Nat)(T:List (List Int))(st0:STS)(s0:MS)(i:Int):Hint Ob:= {X:=Nat×List (List Int)×Nat×Nat×STS×MS×DOS×STS×MS,st:=fun x=>([.ptr 0 0,.ptr 2 0,.int .i64 lim]++List.replicate 7 .O ++ [.tslice 4 0 x.2.1.length 3,.int .i64 (((x.2.2.1+x.2.2.2.1+1:Nat)):Int),.O,.O,.ptr 5 0,.tslice 3 0 T.length 3,.int .i64 (T.length:Int),.int .i64 i]++List.replicate 25 .O,[aY 1 x.2.2.2.2.2.2.2.2,aZ x.2.2.2.2.2.2.2.2,some (.abs (.store t n x.2.2.2.2.2.2.2.1) []),some (.tab KT T),some (.tab KR x.2.1),some (.abs (.doer t n x.2.2.2.2.2.2.1) [2])]),ok:=alC t n lim N T st0 s0 i,mu:=fun x=>x.1,keep:=[0,1,2,10,11,14,15,16,17],casts:=[(.slot 10,.tab KR)] }
def aE1(t n lim:Int)(N:Nat)(T:List (List Int))(st0:STS)(s0:MS):FuncId→Nat→Option (p7 Ob):=fun _ k=>if k=4 then some (.states (TO t n lim N T st0 s0))else if k=8 then some (.statesAt 17 (HAc t n lim N T st0 s0))else none
def IU(t n lim:Int)(N:Nat)(T:List (List Int))(st:STS)(s:MS)(K:AVal→aD Ob→Prop):Prop:=okSt (TO t n lim N T st s) (Hint.ok (TO t n lim N T st s)) (.ptr 0 0::.ptr 2 0::.int .i64 lim::.O::.O::.O::.O::.O::.O::.O::.tslice 4 0 0 3::.int .i64 0::.O::.O::.O::.tslice 3 0 (List.length T) 3::.int .i64 (↑(List.length T):Int)::.int .i64 0::(tO' 25 [])) [some (.cells [.int .i64 s.1,.int .i64 s.2,.slice 1 0 (List.length s.3) 1,.int .i64 s.4,.int .i64 s.5,.int .i64 s.6,.int .u64 s.7,.int .u64 s.8,.bool s.9]),some (.ints (some .u64) s.3),some (.abs (.store t n st) []),some (.tab cK3 T),some (.tab [some .i64,none,some .i64] [])]∧ ∀(x:(Nat×List (List Int)×Nat×STS×MS)),alA t n lim N T st s x→bif ilt (↑x.1:Int) (↑(List.length T):Int)then((0:Int)≤(↑x.1:Int)∧(↑x.1:Int)<(↑(List.length T):Int))∧0+Int.toNat (↑x.1:Int)<List.length T∧uF t n (List.headD (List.getD T (0+Int.toNat (↑x.1:Int)) []) 0) (List.headD (List.tail (List.getD T (0+Int.toNat (↑x.1:Int)) [])) 0) (List.headD (List.tail (List.tail (List.getD T (0+Int.toNat (↑x.1:Int)) []))) 0) lim (Prod.snd (Prod.snd x).2).1∧okSt (HAc t n lim N T st s (↑(Prod.fst x):Int)) (Hint.ok (HAc t n lim N T st s (↑(Prod.fst x):Int))) (.ptr 0 0::.ptr 2 0::.int .i64 lim::.O::.O::.O::.O::.O::.O::.O::.tslice 4 0 (List.length (Prod.snd x).1) 3::.int .i64 (W ((↑(Prod.snd x.2).1:Int)+1))::.O::.O::.ptr 5 0::.tslice 3 0 (List.length T) 3::.int .i64 (↑(List.length T):Int)::.int .i64 (↑x.1:Int)::(tO' 25 [])) [some (.cells [.int .i64 (Prod.snd (Prod.snd x.2).2).1,.int .i64 (Prod.snd (Prod.snd x.2).2).2,.slice 1 0 (List.length (Prod.snd (Prod.snd x.2).2).3) 1,.int .i64 (Prod.snd (Prod.snd x.2).2).4,.int .i64 (Prod.snd (Prod.snd x.2).2).5,.int .i64 (Prod.snd (Prod.snd x.2).2).6,.int .u64 (Prod.snd (Prod.snd x.2).2).7,.int .u64 (Prod.snd (Prod.snd x.2).2).8,.bool (Prod.snd (Prod.snd x.2).2).9]),some (.ints (some .u64) (Prod.snd (Prod.snd x.2).2).3),some (.abs (.store t n (dqNF t n (List.headD (List.getD T (0+Int.toNat (↑x.1:Int)) []) 0) (List.headD (List.tail (List.getD T (0+Int.toNat (↑x.1:Int)) [])) 0) (List.headD (List.tail (List.tail (List.getD T (0+Int.toNat (↑x.1:Int)) []))) 0) lim (Prod.snd (Prod.snd x).2).1).2) []),some (.tab cK3 T),some (.tab [some .i64,none,some .i64] (Prod.snd x).1),some (.abs (.doer t n (dqNF t n (List.headD (List.getD T (0+Int.toNat (↑x.1:Int)) []) 0) (List.headD (List.tail (List.getD T (0+Int.toNat (↑x.1:Int)) [])) 0) (List.headD (List.tail (List.tail (List.getD T (0+Int.toNat (↑x.1:Int)) []))) 0) lim (Prod.snd (Prod.snd x).2).1).1) [2])]∧ ∀(x_1:Hint.X (HAc t n lim N T st s (↑(Prod.fst x):Int))),alC t n lim N T st s (↑x.1:Int) x_1→((lE' (Prod.snd (Prod.snd (Prod.snd (Prod.snd x_1.2).2).2).2).3∧t=t∧n=n)∧dqOk t n (Prod.snd (Prod.snd (Prod.snd x_1.2).2).2).1 (Prod.snd (Prod.snd (Prod.snd (Prod.snd x_1).2).2).2).1 (Prod.snd (Prod.snd (Prod.snd x_1.2).2).2).2.2)∧bif (dqF t n (Prod.snd (Prod.snd (Prod.snd x_1.2).2).2).1 (Prod.snd (Prod.snd (Prod.snd (Prod.snd x_1).2).2).2).1 (Prod.snd (Prod.snd (Prod.snd x_1.2).2).2).2.2).1 then(0=0∧lE' (Prod.snd x_1).1∧List.length (Prod.snd x_1).1+(1:Nat)≤(4294967296:Nat))∧okSt (TO t n lim N T st s) (fun x'=>Hint.ok (TO t n lim N T st s) x'∧Hint.mu (TO t n lim N T st s) x'<Hint.mu (TO t n lim N T st s) x) (.ptr 0 0::.ptr 2 0::.int .i64 lim::.O::.O::.O::.O::.O::.O::.O::.tslice 4 0 (List.length (Prod.snd x_1).1+1) 3::.int .i64 (↑((Prod.snd x_1.2).1+(Prod.snd (Prod.snd x_1).2).1+1):Int)::.O::.O::.O::.tslice 3 0 (List.length T) 3::.int .i64 (↑(List.length T):Int)::.int .i64 (W ((↑x.1:Int)+1))::(tO' 25 [])) [some (.cells [.int .i64 (DqO.s (dqF t n (Prod.snd (Prod.snd (Prod.snd x_1.2).2).2).1 (Prod.snd (Prod.snd (Prod.snd (Prod.snd x_1).2).2).2).1 (Prod.snd (Prod.snd (Prod.snd x_1.2).2).2).2.2)).1,.int .i64 (DqO.s (dqF t n (Prod.snd (Prod.snd (Prod.snd x_1.2).2).2).1 (Prod.snd (Prod.snd (Prod.snd (Prod.snd x_1).2).2).2).1 (Prod.snd (Prod.snd (Prod.snd x_1.2).2).2).2.2)).2,.slice 1 0 (List.length (DqO.s (dqF t n (Prod.snd (Prod.snd (Prod.snd x_1.2).2).2).1 (Prod.snd (Prod.snd (Prod.snd (Prod.snd x_1).2).2).2).1 (Prod.snd (Prod.snd (Prod.snd x_1.2).2).2).2.2)).3) 1,.int .i64 (DqO.s (dqF t n (Prod.snd (Prod.snd (Prod.snd x_1.2).2).2).1 (Prod.snd (Prod.snd (Prod.snd (Prod.snd x_1).2).2).2).1 (Prod.snd (Prod.snd (Prod.snd x_1.2).2).2).2.2)).4,.int .i64 (DqO.s (dqF t n (Prod.snd (Prod.snd (Prod.snd x_1.2).2).2).1 (Prod.snd (Prod.snd (Prod.snd (Prod.snd x_1).2).2).2).1 (Prod.snd (Prod.snd (Prod.snd x_1.2).2).2).2.2)).5,.int .i64 (DqO.s (dqF t n (Prod.snd (Prod.snd (Prod.snd x_1.2).2).2).1 (Prod.snd (Prod.snd (Prod.snd (Prod.snd x_1).2).2).2).1 (Prod.snd (Prod.snd (Prod.snd x_1.2).2).2).2.2)).6,.int .u64 (DqO.s (dqF t n (Prod.snd (Prod.snd (Prod.snd x_1.2).2).2).1 (Prod.snd (Prod.snd (Prod.snd (Prod.snd x_1).2).2).2).1 (Prod.snd (Prod.snd (Prod.snd x_1.2).2).2).2.2)).7,.int .u64 (DqO.s (dqF t n (Prod.snd (Prod.snd (Prod.snd x_1.2).2).2).1 (Prod.snd (Prod.snd (Prod.snd (Prod.snd x_1).2).2).2).1 (Prod.snd (Prod.snd (Prod.snd x_1.2).2).2).2.2)).8,.bool (DqO.s (dqF t n (Prod.snd (Prod.snd (Prod.snd x_1.2).2).2).1 (Prod.snd (Prod.snd (Prod.snd (Prod.snd x_1).2).2).2).1 (Prod.snd (Prod.snd (Prod.snd x_1.2).2).2).2.2)).9]),some (.ints (some .u64) (DqO.s (dqF t n (Prod.snd (Prod.snd (Prod.snd x_1.2).2).2).1 (Prod.snd (Prod.snd (Prod.snd (Prod.snd x_1).2).2).2).1 (Prod.snd (Prod.snd (Prod.snd x_1.2).2).2).2.2)).3),some (.abs (.store t n (dqF t n (Prod.snd (Prod.snd (Prod.snd x_1.2).2).2).1 (Prod.snd (Prod.snd (Prod.snd (Prod.snd x_1).2).2).2).1 (Prod.snd (Prod.snd (Prod.snd x_1.2).2).2).2.2).3) []),some (.tab cK3 T),some (.tab [some .i64,none,some .i64] ((Prod.snd x_1).1++ [[(DqO.x (dqF t n (Prod.snd (Prod.snd (Prod.snd x_1.2).2).2).1 (Prod.snd (Prod.snd (Prod.snd (Prod.snd x_1).2).2).2).1 (Prod.snd (Prod.snd (Prod.snd x_1.2).2).2).2.2)).1,bif (DqO.x (dqF t n (Prod.snd (Prod.snd (Prod.snd x_1.2).2).2).1 (Prod.snd (Prod.snd (Prod.snd (Prod.snd x_1).2).2).2).1 (Prod.snd (Prod.snd (Prod.snd x_1.2).2).2).2.2)).2 then 1 else 0,(DqO.x (dqF t n (Prod.snd (Prod.snd (Prod.snd x_1.2).2).2).1 (Prod.snd (Prod.snd (Prod.snd (Prod.snd x_1).2).2).2).1 (Prod.snd (Prod.snd (Prod.snd x_1.2).2).2).2.2)).3]]))]else okSt (HAc t n lim N T st s (↑(Prod.fst x):Int)) (fun x'=>Hint.ok (HAc t n lim N T st s (↑(Prod.fst x):Int)) x'∧Hint.mu (HAc t n lim N T st s (↑(Prod.fst x):Int)) x'<Hint.mu (HAc t n lim N T st s (↑(Prod.fst x):Int)) x_1) (.ptr 0 0::.ptr 2 0::.int .i64 lim::.O::.O::.O::.O::.O::.O::.O::.tslice 4 0 (List.length (Prod.snd x_1).1) 3::.int .i64 (W ((↑((Prod.snd x_1.2).1+(Prod.snd (Prod.snd x_1).2).1+1):Int)+1))::.O::.O::.ptr 5 0::.tslice 3 0 (List.length T) 3::.int .i64 (↑(List.length T):Int)::.int .i64 (↑x.1:Int)::(tO' 25 [])) [some (.cells [.int .i64 (DqO.s (dqF t n (Prod.snd (Prod.snd (Prod.snd x_1.2).2).2).1 (Prod.snd (Prod.snd (Prod.snd (Prod.snd x_1).2).2).2).1 (Prod.snd (Prod.snd (Prod.snd x_1.2).2).2).2.2)).1,.int .i64 (DqO.s (dqF t n (Prod.snd (Prod.snd (Prod.snd x_1.2).2).2).1 (Prod.snd (Prod.snd (Prod.snd (Prod.snd x_1).2).2).2).1 (Prod.snd (Prod.snd (Prod.snd x_1.2).2).2).2.2)).2,.slice 1 0 (List.length (DqO.s (dqF t n (Prod.snd (Prod.snd (Prod.snd x_1.2).2).2).1 (Prod.snd (Prod.snd (Prod.snd (Prod.snd x_1).2).2).2).1 (Prod.snd (Prod.snd (Prod.snd x_1.2).2).2).2.2)).3) 1,.int .i64 (DqO.s (dqF t n (Prod.snd (Prod.snd (Prod.snd x_1.2).2).2).1 (Prod.snd (Prod.snd (Prod.snd (Prod.snd x_1).2).2).2).1 (Prod.snd (Prod.snd (Prod.snd x_1.2).2).2).2.2)).4,.int .i64 (DqO.s (dqF t n (Prod.snd (Prod.snd (Prod.snd x_1.2).2).2).1 (Prod.snd (Prod.snd (Prod.snd (Prod.snd x_1).2).2).2).1 (Prod.snd (Prod.snd (Prod.snd x_1.2).2).2).2.2)).5,.int .i64 (DqO.s (dqF t n (Prod.snd (Prod.snd (Prod.snd x_1.2).2).2).1 (Prod.snd (Prod.snd (Prod.snd (Prod.snd x_1).2).2).2).1 (Prod.snd (Prod.snd (Prod.snd x_1.2).2).2).2.2)).6,.int .u64 (DqO.s (dqF t n (Prod.snd (Prod.snd (Prod.snd x_1.2).2).2).1 (Prod.snd (Prod.snd (Prod.snd (Prod.snd x_1).2).2).2).1 (Prod.snd (Prod.snd (Prod.snd x_1.2).2).2).2.2)).7,.int .u64 (DqO.s (dqF t n (Prod.snd (Prod.snd (Prod.snd x_1.2).2).2).1 (Prod.snd (Prod.snd (Prod.snd (Prod.snd x_1).2).2).2).1 (Prod.snd (Prod.snd (Prod.snd x_1.2).2).2).2.2)).8,.bool (DqO.s (dqF t n (Prod.snd (Prod.snd (Prod.snd x_1.2).2).2).1 (Prod.snd (Prod.snd (Prod.snd (Prod.snd x_1).2).2).2).1 (Prod.snd (Prod.snd (Prod.snd x_1.2).2).2).2.2)).9]),some (.ints (some .u64) (DqO.s (dqF t n (Prod.snd (Prod.snd (Prod.snd x_1.2).2).2).1 (Prod.snd (Prod.snd (Prod.snd (Prod.snd x_1).2).2).2).1 (Prod.snd (Prod.snd (Prod.snd x_1.2).2).2).2.2)).3),some (.abs (.store t n (dqF t n (Prod.snd (Prod.snd (Prod.snd x_1.2).2).2).1 (Prod.snd (Prod.snd (Prod.snd (Prod.snd x_1).2).2).2).1 (Prod.snd (Prod.snd (Prod.snd x_1.2).2).2).2.2).3) []),some (.tab cK3 T),some (.tab [some .i64,none,some .i64] (Prod.snd x_1).1),some (.abs (.doer t n (dqF t n (Prod.snd (Prod.snd (Prod.snd x_1.2).2).2).1 (Prod.snd (Prod.snd (Prod.snd (Prod.snd x_1).2).2).2).1 (Prod.snd (Prod.snd (Prod.snd x_1.2).2).2).2.2).2) [2])]else K (.tup [.tslice 4 0 (List.length (Prod.snd x).1) 3,.int .i64 (↑(Prod.snd x.2).1:Int)]) [some (.cells [.int .i64 (Prod.snd (Prod.snd x.2).2).1,.int .i64 (Prod.snd (Prod.snd x.2).2).2,.slice 1 0 (List.length (Prod.snd (Prod.snd x.2).2).3) 1,.int .i64 (Prod.snd (Prod.snd x.2).2).4,.int .i64 (Prod.snd (Prod.snd x.2).2).5,.int .i64 (Prod.snd (Prod.snd x.2).2).6,.int .u64 (Prod.snd (Prod.snd x.2).2).7,.int .u64 (Prod.snd (Prod.snd x.2).2).8,.bool (Prod.snd (Prod.snd x.2).2).9]),some (.ints (some .u64) (Prod.snd (Prod.snd x.2).2).3),some (.abs (.store t n (Prod.snd (Prod.snd x).2).1) []),some (.tab cK3 T),some (.tab [some .i64,none,some .i64] (Prod.snd x).1)]
theorem K4(t n lim:Int)(N:Nat)(T:List (List Int))(st:STS)(s:MS)(K:AVal→aD Ob→Prop)(h:IU t n lim N T st s K):cT' 55 [.ptr 0 0,.ptr 2 0,.int .i64 lim,.tslice 3 0 T.length 3] [aY 1 s,aZ s,some (.abs (.store t n st) []),some (.tab KT T)] K:=by
 refine aFQ (aE (E:=EV9) Tryz.checked.mixed (L:=(aE1 t n lim N T st s)) (n:=10) (aN (by kernel_rfl) h))
theorem AQ(t n:Int)(f:Nat)(x:DOS)(st:STS)(s:MS):nD t n (f+1) x st s=bif (dqF t n x st s).d then(1,(dqF t n x st s).x,(dqF t n x st s).st,(dqF t n x st s).s)else((nD t n f (dqF t n x st s).x (dqF t n x st s).st (dqF t n x st s).s).1+1,(nD t n f (dqF t n x st s).x (dqF t n x st s).st (dqF t n x st s).s).2):=rfl
theorem YY(t n lim:Int)(N:Nat)(r:List Int)(T:List (List Int))(st:STS)(s:MS):alF t n lim N (r::T) st s=(IT (xV t n lim N r st s).2.1::(alF t n lim N T (xV t n lim N r st s).2.2.1 (xV t n lim N r st s).2.2.2).1,(xV t n lim N r st s).1+(alF t n lim N T (xV t n lim N r st s).2.2.1 (xV t n lim N r st s).2.2.2).2.1,(alF t n lim N T (xV t n lim N r st s).2.2.1 (xV t n lim N r st s).2.2.2).2.2):=rfl
theorem Z5(t n lim:Int)(N:Nat)(T:List (List Int))(st:STS)(s:MS)(K:AVal→aD Ob→Prop)(hN:N≤1000000)(hT:T.length≤1000000)(ok:alOk t n lim N T st s)
 (hK:K (.tup [.tslice 4 0 (alF t n lim N T st s).1.length 3,.int .i64 ((alF t n lim N T st s).2.1:Int)]) [aY 1 (alF t n lim N T st s).2.2.2,aZ (alF t n lim N T st s).2.2.2,some (.abs (.store t n (alF t n lim N T st s).2.2.1) []),some (.tab KT T),some (.tab KR (alF t n lim N T st s).1)]):IU t n lim N T st s K:=by
 unfold IU
 refine⟨aK (H:=TO t n lim N T st s) (0,[],0,st,s) rfl ⟨Nat.zero_le _,rfl,Nat.zero_le _,ok,by simp⟩,?_⟩
 rintro⟨i,R,k,st1,s1⟩ ⟨h1,hl,hk,ok1,eq1⟩
 dsimp only at h1 hl hk ok1 eq1⊢
 have hti:((i:Nat):Int).toNat =i:=rfl
 refine nE (fun hi=>?_) (fun hi=>?_)
 ·have hi':i<T.length:=by omega
  have e0:0+Int.toNat ((i:Nat):Int)=i:=by omega
  have e4:W ((i:Int)+1)=((i+1:Nat):Int):=(cJ (by omega)).trans rfl
  have hki:N*i≤1000000*1000000:=Nat.mul_le_mul hN (by omega)
  have hdr:T.drop i=T[i]::T.drop (i+1):=List.drop_eq_getElem_cons hi'
  have hg:List.getD T i []=T[i]:=by rw [gD',gE' hi'];rfl
  have a0:alA t n lim N T st s (i,R,k,st1,s1):=⟨h1,hl,hk,ok1,eq1⟩
  have okr:=ok1
  rw [hdr]at okr
  have okr:PA t n lim N T[i] st1 s1∧_:=okr
  obtain⟨⟨okN,okF⟩,_⟩:=okr
  have w1:W ((k:Int)+1)=((k+0+1:Nat):Int):=(cJ (by omega)).trans rfl
  rw [e0,e4]
  refine⟨⟨by omega,by omega⟩,hi',by rw [hg];exact okN,aK (H:=HAc t n lim N T st s i) (N,R,k,0,st1,s1,(dqNF t n (r0 T[i]) (r1 T[i]) (r2 T[i]) lim st1).1,(dqNF t n (r0 T[i]) (r1 T[i]) (r2 T[i]) lim st1).2,s1) (by simp only [w1,hg,HAc]<;>rfl) ⟨⟨by omega,by omega⟩,a0,by simp,okF,by dsimp only;rw [hti,hg];simp only [Nat.add_zero]<;>rfl⟩,?_⟩
  rintro⟨f,R2,k2,j,sa,ma,y,sb,mb⟩ ⟨i0,a,hj,okf,eqf⟩
  dsimp only at a hj okf eqf⊢
  cases f with
  | zero=>exact okf.elim
  | succ f=>
    have okf:dqOk t n y sb mb∧((dqF t n y sb mb).d =false→v9 t n f (dqF t n y sb mb).x (dqF t n y sb mb).st (dqF t n y sb mb).s):=okf
    rw [hti]at a eqf
    rw [hg]at eqf
    obtain⟨g1,gl,gk,gok,geq⟩:=a
    dsimp only at g1 gl gk gok geq
    rw [hdr,YY]at geq
    rw [hdr]at gok
    have gok:PA t n lim N T[i] sa ma∧alOk t n lim N (T.drop (i+1)) (xV t n lim N T[i] sa ma).2.2.1 (xV t n lim N T[i] sa ma).2.2.2:=gok
    refine⟨⟨⟨rfl,rfl,rfl⟩,okf.1⟩,aL (fun hd=>?_) (fun hd=>?_)⟩
    ·have hd:(dqF t n y sb mb).d =true:=hd
     rw [AQ,hd,cond_true]at eqf
     rw [eqf]at geq gok
     dsimp only at geq gok
     have hNi:N*(i+1)=N*i+N:=Nat.mul_succ N i
     refine⟨⟨rfl,rfl,by omega⟩,aK (H:=TO t n lim N T st s) (i+1,R2++ [IT (dqF t n y sb mb).x],k2+j+1,(dqF t n y sb mb).st,(dqF t n y sb mb).s) ?_ ⟨⟨hi',by show(R2++ [IT _]).length =i+1;rw [List.length_append,gl];rfl,by show k2+j+1≤N*(i+1);omega,gok.2,?_⟩,by show T.length - (i+1)<T.length - i;omega⟩⟩
     ·simp only [TO,List.length_append,List.length_singleton]
      rfl
     ·rw [geq]
      simp only [List.append_assoc,List.singleton_append,pI',true_and,and_true]
      omega
    ·have hd:(dqF t n y sb mb).d =false:=hd
     rw [AQ,hd,cond_false]at eqf
     have w2:W (((k2+j+1:Nat):Int)+1)=((k2+(j+1)+1:Nat):Int):=(cJ (by omega)).trans (by omega)
     rw [w2]
     exact aK (H:=HAc t n lim N T st s i) (f,R2,k2,j+1,sa,ma,(dqF t n y sb mb).x,(dqF t n y sb mb).st,(dqF t n y sb mb).s) rfl ⟨⟨i0,⟨g1,gl,gk,by dsimp only;rw [hti,hdr];exact gok,by dsimp only;rw [hti,hdr,YY];exact geq⟩,by show j+1+f=N;omega,okf.2 hd,by dsimp only;rw [hti,hg,eqf];simp only [pI',and_true];omega⟩,by show f<f+1;omega⟩
 ·have hi':T.length=i:=by omega
  rw [show T.drop i=[]from List.drop_eq_nil_of_le (by omega)]at eq1
  have eq1:alF t n lim N T st s=(R++ [],k+0,st1,s1):=eq1
  rw [List.append_nil,Nat.add_zero]at eq1
  rw [eq1]at hK
  exact hK
def sS(t n lim:Int)(T:List (List Int))(st:STS)(s:MS):List (List Int)×Nat×STS×MS:=alF t n lim 100000 T st s
def O9(t n lim:Int)(T:List (List Int))(st:STS)(s:MS):Prop:=alOk t n lim 100000 T st s
noncomputable def aloS:aG Ob:=fun args h=>match args,h with
 | [.ptr 0 0,.ptr 2 0,.int .i64 lim,.tslice 3 0 l 3],[e1,e2,some (.abs (.store t n st) []),some (.tab [some .i64,some .i64,some .i64] T)]=>(match cU 1 [e1,e2]with
   | some (l2,s)=>some (.pre ((l2=s.xs.length∧l=T.length)∧T.length≤1000000∧O9 t n lim T st s) (.ret (.tup [.tslice 4 0 (sS t n lim T st s).1.length 3,.int .i64 ((sS t n lim T st s).2.1:Int)]) [aY 1 (sS t n lim T st s).2.2.2,aZ (sS t n lim T st s).2.2.2,some (.abs (.store t n (sS t n lim T st s).2.2.1) []),some (.tab cK3 T),some (.tab [some .i64,none,some .i64] (sS t n lim T st s).1)]))
   | none=>none)
 | _,_=>none
theorem PE:sT' 55 aloS:=by
 intro args h o ho K hK
 unfold aloS at ho
 split at ho
 case h_2=>cases ho
 rename_i lim l e1 e2 t n st T
 split at ho<;>cases ho
 rename_i l2 s hm
 obtain⟨⟨⟨hl2,rfl⟩,hT,ok⟩,hK⟩:=hK
 have hh:=bB hm hl2
 cases hh
 exact K4 t n lim 100000 T st s K (Z5 t n lim 100000 T st s K (by decide) hT ok hK)
noncomputable def EW0:=EV9.addS 55 (aG.or aloS (nP [(.slot 3,.tab cK3)] aloS)) (aF6 PE (nQ PE))
def AE(K:AVal→aD Ob→Prop):Prop:=True∧bif !mZ 2 3 then K (.bool false) []else(((0:Int)≤(2:Int)∧(2:Int)≤(100000:Int))∧(0:Int)≤(3:Int)∧(3:Int)≤(100000:Int))∧((((0:Int)≤(2:Int)∧(2:Int)≤(100000:Int))∧(0:Int)≤(3:Int)∧(3:Int)≤(100000:Int))∧True)∧((0:Int)≤(2:Int)*3+5*2+6∧2*3+5*2+(6:Int)=(2:Int)*3+5*2+6∧2*3+5*2+(6:Int)≤(4294967296:Int))∧True∧((22=22∧1=1)∧List.length [[1,3,1]]≤(1000000:Nat)∧O9 2 3 0 [[1,3,1]] {me:=1,sp:=0,R:=[] } {t:=2,n:=3,xs:=List.replicate (Int.toNat (2*3+5*2+6)) 0,c:=0,k:=0,a:=0,o:=0,w:=0,ok:=false})∧True∧((lE' (Prod.snd (Prod.snd (sS 2 3 0 [[1,3,1]] {me:=1,sp:=0,R:=[] } {t:=2,n:=3,xs:=List.replicate (Int.toNat (2*3+5*2+6)) 0,c:=0,k:=0,a:=0,o:=0,w:=0,ok:=false})).2).3∧1=1)∧List.length [[1,1,1]]≤(1000000:Nat)∧O9 2 3 0 [[1,1,1]] {me:=0,sp:=0,R:=[] } (Prod.snd (sS 2 3 0 [[1,3,1]] {me:=1,sp:=0,R:=[] } {t:=2,n:=3,xs:=List.replicate (Int.toNat (2*3+5*2+6)) 0,c:=0,k:=0,a:=0,o:=0,w:=0,ok:=false})).2.2)∧bif ieq (↑(Prod.snd (sS 2 3 0 [[1,3,1]] {me:=1,sp:=0,R:=[] } {t:=2,n:=3,xs:=List.replicate (Int.toNat (2*3+5*2+6)) 0,c:=0,k:=0,a:=0,o:=0,w:=0,ok:=false})).1:Int) 5 then bif ieq (↑(List.length (sS 2 3 0 [[1,3,1]] {me:=1,sp:=0,R:=[] } {t:=2,n:=3,xs:=List.replicate (Int.toNat (2*3+5*2+6)) 0,c:=0,k:=0,a:=0,o:=0,w:=0,ok:=false}).1):Int) 1 then((0:Int)≤(0:Int)∧(0:Int)<(↑(List.length (sS 2 3 0 [[1,3,1]] {me:=1,sp:=0,R:=[] } {t:=2,n:=3,xs:=List.replicate (Int.toNat (2*3+5*2+6)) 0,c:=0,k:=0,a:=0,o:=0,w:=0,ok:=false}).1):Int))∧0+Int.toNat (0:Int)<List.length (sS 2 3 0 [[1,3,1]] {me:=1,sp:=0,R:=[] } {t:=2,n:=3,xs:=List.replicate (Int.toNat (2*3+5*2+6)) 0,c:=0,k:=0,a:=0,o:=0,w:=0,ok:=false}).1∧bif bif ieq (List.headD (List.getD (sS 2 3 0 [[1,3,1]] {me:=1,sp:=0,R:=[] } {t:=2,n:=3,xs:=List.replicate (Int.toNat (2*3+5*2+6)) 0,c:=0,k:=0,a:=0,o:=0,w:=0,ok:=false}).1 (0+Int.toNat 0) []) 0) 0 then bif !!ieq (List.headD (List.tail (List.getD (sS 2 3 0 [[1,3,1]] {me:=1,sp:=0,R:=[] } {t:=2,n:=3,xs:=List.replicate (Int.toNat (2*3+5*2+6)) 0,c:=0,k:=0,a:=0,o:=0,w:=0,ok:=false}).1 (0+Int.toNat 0) [])) 0) 0 then bif ieq (List.headD (List.tail (List.tail (List.getD (sS 2 3 0 [[1,3,1]] {me:=1,sp:=0,R:=[] } {t:=2,n:=3,xs:=List.replicate (Int.toNat (2*3+5*2+6)) 0,c:=0,k:=0,a:=0,o:=0,w:=0,ok:=false}).1 (0+Int.toNat 0) []))) 0) 0 then true else false else false else false then bif ieq (↑(List.length (sS 2 3 0 [[1,1,1]] {me:=0,sp:=0,R:=[] } (Prod.snd (sS 2 3 0 [[1,3,1]] {me:=1,sp:=0,R:=[] } {t:=2,n:=3,xs:=List.replicate (Int.toNat (2*3+5*2+6)) 0,c:=0,k:=0,a:=0,o:=0,w:=0,ok:=false})).2.2).1):Int) 1 then((0:Int)≤(0:Int)∧(0:Int)<(↑(List.length (sS 2 3 0 [[1,1,1]] {me:=0,sp:=0,R:=[] } (Prod.snd (sS 2 3 0 [[1,3,1]] {me:=1,sp:=0,R:=[] } {t:=2,n:=3,xs:=List.replicate (Int.toNat (2*3+5*2+6)) 0,c:=0,k:=0,a:=0,o:=0,w:=0,ok:=false})).2.2).1):Int))∧0+Int.toNat (0:Int)<List.length (sS 2 3 0 [[1,1,1]] {me:=0,sp:=0,R:=[] } (Prod.snd (sS 2 3 0 [[1,3,1]] {me:=1,sp:=0,R:=[] } {t:=2,n:=3,xs:=List.replicate (Int.toNat (2*3+5*2+6)) 0,c:=0,k:=0,a:=0,o:=0,w:=0,ok:=false})).2.2).1∧K (.bool (bif ieq (List.headD (List.getD (sS 2 3 0 [[1,1,1]] {me:=0,sp:=0,R:=[] } (Prod.snd (sS 2 3 0 [[1,3,1]] {me:=1,sp:=0,R:=[] } {t:=2,n:=3,xs:=List.replicate (Int.toNat (2*3+5*2+6)) 0,c:=0,k:=0,a:=0,o:=0,w:=0,ok:=false})).2.2).1 (0+Int.toNat 0) []) 0) 0 then bif bif !ieq (List.headD (List.tail (List.getD (sS 2 3 0 [[1,1,1]] {me:=0,sp:=0,R:=[] } (Prod.snd (sS 2 3 0 [[1,3,1]] {me:=1,sp:=0,R:=[] } {t:=2,n:=3,xs:=List.replicate (Int.toNat (2*3+5*2+6)) 0,c:=0,k:=0,a:=0,o:=0,w:=0,ok:=false})).2.2).1 (0+Int.toNat 0) [])) 0) 0 then true else false then bif ieq (List.headD (List.tail (List.tail (List.getD (sS 2 3 0 [[1,1,1]] {me:=0,sp:=0,R:=[] } (Prod.snd (sS 2 3 0 [[1,3,1]] {me:=1,sp:=0,R:=[] } {t:=2,n:=3,xs:=List.replicate (Int.toNat (2*3+5*2+6)) 0,c:=0,k:=0,a:=0,o:=0,w:=0,ok:=false})).2.2).1 (0+Int.toNat 0) []))) 0) 0 then true else false else false else false)) []else K (.bool false) []else K (.bool false) []else K (.bool false) []else K (.bool false) []
theorem GV(K:AVal→aD Ob→Prop)(h:AE K):cT' 53 [] [] K:=by
 refine aFQ (cM' (E:=EW0) (by kernel_rfl) h)
set_option maxRecDepth 100000 in
theorem UB(K:AVal→aD Ob→Prop)(hK:K (.bool true) []):AE K:=by
 unfold AE
 with_unfolding_all repeat' (first | exact hK | trivial | decide | apply And.intro | apply okE.mk | apply okAl.mk | (intro h;exact absurd h (by decide)) | intro _)
def aw19S:aG Ob:=fun args h=>match args,h with
 | [],[]=>some (.pre True (.ret (.bool true) ([])))
 | _,_=>none
theorem UA:sT' 53 aw19S:=by
 intro args h o ho K hK
 unfold aw19S at ho
 split at ho
 case h_2=>cases ho
 simp only [sI']at ho;subst ho
 obtain⟨_,hK⟩:=hK
 exact GV K (UB K hK)
noncomputable def EW1:=EW0.addS 53 aw19S UA
def TZ(k:Int)(m:Nat)(f g:Nat→Int):Hint Ob:= {X:=Nat,st:=fun x=>([.int .i64 k,.O,.O,.O,.O,.O,.O,.view m 2 (fun i=>[.int .i64 (f i),.int .i64 (g i)]),.int .i64 (m:Int),.int .i64 (x:Int)]++List.replicate 8 .O,[]),ok:=fun x=>x≤m∧ ∀j,j<x→a8 k (f j) (g j)=true,mu:=fun x=>m - x,keep:=[0,7,8,9] }
def SU(k:Int)(m:Nat)(f g:Nat→Int)(K:AVal→aD Ob→Prop):Prop:=okSt (TZ k m f g) (Hint.ok (TZ k m f g)) [.int .i64 k,.O,.O,.O,.O,.O,.O,.view m 2 fun i=>[.int .i64 (f i),.int .i64 (g i)],.int .i64 (↑m:Int),.int .i64 0,.O,.O,.O,.O,.O,.O,.O,.O] []∧ ∀(x:Nat),(x≤m∧ ∀(j:Nat),j<x→a8 k (f j) (g j)=true)→bif ilt (↑x:Int) (↑m:Int)then((0:Int)≤(↑x:Int)∧(↑x:Int)<(↑m:Int))∧True∧bif !a8 k (f (Int.toNat (↑x:Int))) (g (Int.toNat (↑x:Int)))then K (.bool false) []else okSt (TZ k m f g) (fun x'=>Hint.ok (TZ k m f g) x'∧Hint.mu (TZ k m f g) x'<Hint.mu (TZ k m f g) x) [.int .i64 k,.O,.O,.O,.O,.O,.O,.view m 2 fun i=>[.int .i64 (f i),.int .i64 (g i)],.int .i64 (↑m:Int),.int .i64 (W ((↑x:Int)+1)),.O,.O,.O,.O,.O,.O,.O,.O] []else K (.bool true) []
theorem OO(k:Int)(m:Nat)(f g:Nat→Int)(K:AVal→aD Ob→Prop)(h:SU k m f g K):cT' 54 [.int .i64 k,.view m 2 (fun i=>[.int .i64 (f i),.int .i64 (g i)])] [] K:=by
 refine aFQ (aE (E:=EW1) Tryz.checked.mixed (L:=(fun _ _=>some (.states (TZ k m f g)))) (n:=10) (aN (by kernel_rfl) h))
def TY(xs ys:List Int)(off k:Nat):Hint Ob:= {X:=Nat,st:=fun i=>([.slice 0 0 xs.length 1,.slice 1 off k 1,.O,.O,.O,.int .i64 (i:Int)]++List.replicate 20 .O,[some (.ints (some .i64) xs),some (.ints (some .i64) ys)]),ok:=okI xs (ys.drop off),mu:=fun i=>xs.length - i,keep:=[0,1,5] }
def RG(xs ys:List Int)(off k:Nat)(K:AVal→aD Ob→Prop):Prop:=bif !ieq (↑(List.length xs):Int) (↑k:Int)then K (.bool false) [some (.ints (some .i64) xs),some (.ints (some .i64) ys)]else okSt (TY xs ys off k) (Hint.ok (TY xs ys off k)) (.slice 0 0 (List.length xs) 1::.slice 1 off k 1::.O::.O::.O::.int .i64 0::(tO' 20 [])) [some (.ints (some .i64) xs),some (.ints (some .i64) ys)]∧ ∀(x:Nat),okI xs (List.drop off ys) x→bif ilt (↑x:Int) (↑(List.length xs):Int)then((0:Int)≤(↑x:Int)∧(↑x:Int)<(↑(List.length xs):Int))∧0+Int.toNat (↑x:Int)*(1:Nat)<List.length xs∧((0:Int)≤(↑x:Int)∧(↑x:Int)<(↑k:Int))∧off+Int.toNat (↑x:Int)*(1:Nat)<List.length ys∧bif !ieq (List.getD xs (0+Int.toNat (↑x:Int)*1) 0) (List.getD ys (off+Int.toNat (↑x:Int)*1) 0)then K (.bool false) [some (.ints (some .i64) xs),some (.ints (some .i64) ys)]else okSt (TY xs ys off k) (fun x'=>Hint.ok (TY xs ys off k) x'∧Hint.mu (TY xs ys off k) x'<Hint.mu (TY xs ys off k) x) (.slice 0 0 (List.length xs) 1::.slice 1 off k 1::.O::.O::.O::.int .i64 (W ((↑x:Int)+1))::(tO' 20 [])) [some (.ints (some .i64) xs),some (.ints (some .i64) ys)]else K (.bool true) [some (.ints (some .i64) xs),some (.ints (some .i64) ys)]
theorem NN(xs ys:List Int)(off k:Nat)(K:AVal→aD Ob→Prop)(h:RG xs ys off k K):cT' 33 [.slice 0 0 xs.length 1,.slice 1 off k 1] [some (.ints (some .i64) xs),some (.ints (some .i64) ys)] K:=by
 refine aFQ (aE (E:=EW1) Tryz.checked.mixed (L:=(fun _ _=>some (.states (TY xs ys off k)))) (n:=10) (aN (by kernel_rfl) h))
theorem aCA(k:Int)(m:Nat)(f g:Nat→Int)(K:AVal→aD Ob→Prop)(hm:m≤4611686018427387904)(hK:K (.bool (lK k m f g)) []):SU k m f g K:=by
 refine⟨aK (H:=TZ k m f g) (0:Nat) rfl ⟨Nat.zero_le _,fun j hj=>by omega⟩,?_⟩
 rintro x ⟨hx,hj⟩
 refine aL (fun e=>?_) (fun e=>?_)
 ·rw [bJ,dT']at e
  refine⟨⟨by omega,by omega⟩,trivial,aL (fun e2=>?_) (fun e2=>?_)⟩
  ·have hf:lK k m f g=false:=by
    cases h:lK k m f g with
    | false=>rfl
    | true=>
      have:=qL.1 h x (by omega)
      rw [Int.toNat_natCast]at e2
      rw [this]at e2;cases e2
   rw [hf]at hK;exact hK
  ·have e4:W ((x:Int)+1)=((x+1:Nat):Int):=by rw [W,cJ (by omega)];rfl
   refine aK (H:=TZ k m f g) (x+1:Nat) (by simp only [e4]<;>rfl) ⟨⟨by show x+1≤m;omega,?_⟩,by show m - (x+1)<m - x;omega⟩
   intro j hj2
   by_cases hjx:j=x
   ·subst hjx
    rw [Int.toNat_natCast]at e2
    simpa using e2
   ·exact hj j (by omega)
 ·rw [bJ,dF']at e
  have ht:lK k m f g=true:=qL.2 fun j hj3=>hj j (by omega)
  rw [ht]at hK;exact hK
def ritS:aG Ob:=fun args h=>match args,h with
 | [.int .i64 k,.view m 2 row],[]=>some (.pre (m≤4611686018427387904∧dM row) (.ret (.bool (lK k m (rK row) (rY row))) []))
 | _,_=>none
theorem aCz:sT' 54 ritS:=by
 intro args h o ho K hK
 unfold ritS at ho
 split at ho<;>cases ho
 rename_i k m row
 obtain⟨⟨hm,⟨hr⟩⟩,hK⟩:=hK
 have hK:K (.bool (lK k m (rK row) (rY row))) []:=hK
 rw [hr]
 exact OO k m (rK row) (rY row) K (aCA k m (rK row) (rY row) K hm hK)
theorem VK{ys:List Int}{off k i:Nat}(ho:off+k=ys.length)(hi:i<k):ys.getD (off+(i:Int).toNat *1) 0=(ys.drop off)[i]'(by rw [List.length_drop];omega):=by
 have e:off+(i:Int).toNat *1=off+i:=by omega
 rw [e,List.getElem_drop,gD',gE' (by omega)];rfl
theorem aB0(xs ys:List Int)(off k:Nat)(K:AVal→aD Ob→Prop)(ho:off+k=ys.length)(hp:xs.length≤4294967296)(hK:K (.bool (nG xs (ys.drop off))) [some (.ints (some .i64) xs),some (.ints (some .i64) ys)]):RG xs ys off k K:=by
 have hd:(ys.drop off).length =k:=by rw [List.length_drop];omega
 have hS:nG xs (ys.drop off)=decide (xs=ys.drop off):=rfl
 refine aL (fun e=>?_) (fun e=>⟨aK (H:=TY xs ys off k) (0:Nat) rfl ⟨Nat.zero_le _,?_,rfl⟩,?_⟩)
 ·rw [bI]at e
  have:xs≠ys.drop off:=by intro h;rw [h,hd]at e;simp at e
  rw [hS,decide_eq_false this]at hK;exact hK
 ·rw [bI]at e;simp at e;omega
 ·rintro i ⟨h1,h2,h3⟩
  refine aL (fun e1=>?_) (fun e1=>?_)
  ·rw [bJ,dT']at e1
   have hi:i<xs.length:=by omega
   have hj:i<(ys.drop off).length :=by omega
   have e2:0+(i:Int).toNat *1=i:=by omega
   rw [e2,VK ho (show i<k by omega)]
   refine⟨by omega,hi,by omega,by omega,aL (fun e3=>?_) (fun e3=>?_)⟩
   ·rw [bI]at e3
    have:xs≠ys.drop off:=by
     intro h
     have:xs.getD i 0=(ys.drop off)[i]:=by rw [gD',gE' hi];simp only [h]<;>rfl
     rw [this]at e3;simp at e3
    rw [hS,decide_eq_false this]at hK;exact hK
   ·rw [bI]at e3
    have e3:xs.getD i 0=(ys.drop off)[i]:=by simpa using e3
    have e4:IntKind.wrap .i64 ((i:Int)+1)=((i+1:Nat):Int):=by rw [cJ (by omega)];rfl
    refine aK (H:=TY xs ys off k) (i+1:Nat) (by simp only [W,e4]<;>rfl) ⟨⟨hi,h2,?_⟩,by show xs.length - (i+1)<xs.length - i;omega⟩
    rw [gD',gE' hi]at e3
    rw [List.take_succ_eq_append_getElem hi,List.take_succ_eq_append_getElem hj,h3]
    have e5:xs[i]=(ys.drop off)[i]:=by simpa using e3
    rw [e5]
  ·rw [bJ,dF']at e1
   have:xs=ys.drop off:=by
    rw [List.take_of_length_le (by omega),List.take_of_length_le (by omega)]at h3;exact h3
   rw [hS,decide_eq_true this]at hK;exact hK
def iofS:aG Ob:=fun args h=>match args,h with
 | [.slice 0 0 n 1,.slice 1 off k 1],[some (.ints (some .i64) xs),some (.ints (some .i64) ys)]=>some (.pre ((n=xs.length∧off+k=ys.length)∧n≤4294967296) (.ret (.bool (nG xs (ys.drop off))) [some (.ints (some .i64) xs),some (.ints (some .i64) ys)]))
 | _,_=>none
theorem aBZ:sT' 33 iofS:=by
 intro args h o ho K hK
 unfold iofS at ho
 split at ho<;>cases ho
 rename_i n off k xs ys
 obtain⟨⟨⟨rfl,hf⟩,hp⟩,hK⟩:=hK
 exact NN xs ys off k K (aB0 xs ys off k K hf hp hK)
noncomputable def EW2:=((EW1.addS 54 ritS aCz).addS 33 iofS aBZ).addS 15 fillSb DP
def D3(S:List STS):List Int:=S.flatMap fun st=>aO st.sp st.R
def d7(xs:List Int)(n:Int):List Int:=ndF xs n 0++(ndF xs n 1++(ndF xs n 2++ndF xs n 3))
def jY(xs:List Int)(n:Int)(S:List STS):Bool:=match dX xs n (D3 S++d7 xs n) []with
 | none=>false
 | some m=>ieq (m.length:Int) (n - (i5 xs n).length)
def KU(t n nd:Int)(s:MS)(K:AVal→aD Ob→Prop):Prop:=True∧bif bK n nd then(((0:Int)≤t∧t≤(100000:Int))∧((0:Int)≤n∧n≤(100000:Int))∧(-1099511627776:Int)≤nd∧nd≤(1099511627776:Int))∧(lE' s.3∧True)∧(2:Int)≠(0:Int)∧K (.bool (ieq (Int.tmod (aB s.3 (n+4+nd)) 2) 1)) [some (.cells [.int .i64 s.1,.int .i64 s.2,.slice 1 0 (List.length s.3) 1,.int .i64 s.4,.int .i64 s.5,.int .i64 s.6,.int .u64 s.7,.int .u64 s.8,.bool s.9]),some (.ints (some .u64) s.3)]else K (.bool false) [some (.cells [.int .i64 s.1,.int .i64 s.2,.slice 1 0 (List.length s.3) 1,.int .i64 s.4,.int .i64 s.5,.int .i64 s.6,.int .u64 s.7,.int .u64 s.8,.bool s.9]),some (.ints (some .u64) s.3)]
theorem OR(t n nd:Int)(s:MS)(K:AVal→aD Ob→Prop)(h:KU t n nd s K):cT' 90 [.ptr 0 0,.agg [.int .i64 t,.int .i64 n],.int .i64 nd] [aY 1 s,aZ s] K:=by
 refine aFQ (cM' (E:=EW2) (by kernel_rfl) h)
theorem aCS(t n nd:Int)(s:MS)(K:AVal→aD Ob→Prop)(ht:0≤t∧t≤100000)(hn:0≤n∧n≤100000)(hK:K (.bool (cZ s.xs n nd)) [aY 1 s,aZ s]):KU t n nd s K:=by
 unfold KU
 unfold cZ at hK
 cases hb:bK n nd with
 | true=>
   rw [hb]at hK
   have hb2:1≤nd∧nd≤n:=by
    unfold bK at hb
    rw [bX,bX]at hb
    simpa using hb
   exact⟨trivial,⟨ht,hn,by omega,by omega⟩,⟨rfl,trivial⟩,by decide,hK⟩
 | false=>rw [hb]at hK;exact⟨trivial,hK⟩
def takS:aG Ob:=fun args h=>match args,h with
 | [.ptr 0 0,.agg [.int .i64 t,.int .i64 n],.int .i64 nd],[e1,e2]=>(match cU 1 [e1,e2]with
   | some (l,s)=>some (.pre (l=s.xs.length∧(0≤t∧t≤100000)∧(0≤n∧n≤100000)) (.ret (.bool (cZ s.xs n nd)) [aY 1 s,aZ s]))
   | none=>none)
 | _,_=>none
theorem aCR:sT' 90 takS:=by
 intro args h o ho K hK
 unfold takS at ho
 split at ho
 case h_2=>cases ho
 rename_i t n nd e1 e2
 split at ho<;>cases ho
 rename_i l s hm
 obtain⟨⟨hl,h0,h1⟩,hK⟩:=hK
 have hh:=bB hm hl
 cases hh
 exact OR t n nd s K (aCS t n nd s K h0 h1 hK)
noncomputable def EJ0:=EW2.addS 90 takS aCR
def gS(xs:List Int)(n:Int)(k:Nat):List Int:=((List.range k).map fun(i:Nat)=>(i:Int)+1).filter fun r=>!cZ xs n r
theorem HL(xs:List Int)(n:Int)(k:Nat):gS xs n (k+1)=gS xs n k++(bif cZ xs n ((k:Int)+1)then []else [(k:Int)+1]):=by
 unfold gS
 rw [List.range_succ,List.map_append,List.filter_append]
 cases h:cZ xs n ((k:Int)+1)<;>simp [h]
theorem yZ(xs:List Int)(n:Int)(k:Nat):(gS xs n k).length ≤k:=by
 unfold gS
 exact Nat.le_trans (List.length_filter_le _ _) (by simp)
structure aEj (n:Int) (i:Nat):Prop where
 h:(i:Int)≤n
def F1(t n:Int)(s:MS):Hint Ob:= {X:=Nat,st:=fun i=>([.ptr 0 0,.O,.O,.ptr 2 0,.O,.slice 3 0 (gS s.xs n i).length 1,.int .i64 ((i:Int)+1)]++List.replicate 15 .O,[aY 1 s,aZ s,some (.cells [.int .i64 t,.int .i64 n]),some (.ints (some .i64) (gS s.xs n i))]),ok:=aEj n,mu:=fun i=>n.toNat - i,keep:=[0,3,5,6],casts:=[(.slot 5,.ints (some .i64))] }
def JR(t n:Int)(s:MS)(K:AVal→aD Ob→Prop):Prop:=okSt (F1 t n s) (Hint.ok (F1 t n s)) (.ptr 0 0::.O::.O::.ptr 2 0::.O::.slice 3 0 0 1::.int .i64 1::(tO' 15 [])) [some (.cells [.int .i64 s.1,.int .i64 s.2,.slice 1 0 (List.length s.3) 1,.int .i64 s.4,.int .i64 s.5,.int .i64 s.6,.int .u64 s.7,.int .u64 s.8,.bool s.9]),some (.ints (some .u64) s.3),some (.cells [.int .i64 t,.int .i64 n]),some (.ints (some .i64) [])]∧ ∀(x:Nat),aEj n x→True∧bif bK n ((↑x:Int)+1)then(lE' s.3∧((0:Int)≤t∧t≤(100000:Int))∧(0:Int)≤n∧n≤(100000:Int))∧bif !cZ s.3 n ((↑x:Int)+1)then(0=0∧lE' (gS s.3 n x)∧1=1∧List.length (gS s.3 n x)+(1:Nat)≤(4294967296:Nat))∧okSt (F1 t n s) (fun x'=>Hint.ok (F1 t n s) x'∧Hint.mu (F1 t n s) x'<Hint.mu (F1 t n s) x) (.ptr 0 0::.O::.O::.ptr 2 0::.O::.slice 3 0 (List.length (gS s.3 n x)+1) 1::.int .i64 (W ((↑x:Int)+1+1))::(tO' 15 [])) [some (.cells [.int .i64 s.1,.int .i64 s.2,.slice 1 0 (List.length s.3) 1,.int .i64 s.4,.int .i64 s.5,.int .i64 s.6,.int .u64 s.7,.int .u64 s.8,.bool s.9]),some (.ints (some .u64) s.3),some (.cells [.int .i64 t,.int .i64 n]),some (.ints (some .i64) (gS s.3 n x++ [(↑x:Int)+1]))]else okSt (F1 t n s) (fun x'=>Hint.ok (F1 t n s) x'∧Hint.mu (F1 t n s) x'<Hint.mu (F1 t n s) x) (.ptr 0 0::.O::.O::.ptr 2 0::.O::.slice 3 0 (List.length (gS s.3 n x)) 1::.int .i64 (W ((↑x:Int)+1+1))::(tO' 15 [])) [some (.cells [.int .i64 s.1,.int .i64 s.2,.slice 1 0 (List.length s.3) 1,.int .i64 s.4,.int .i64 s.5,.int .i64 s.6,.int .u64 s.7,.int .u64 s.8,.bool s.9]),some (.ints (some .u64) s.3),some (.cells [.int .i64 t,.int .i64 n]),some (.ints (some .i64) (gS s.3 n x))]else K (.slice 2 0 (List.length (gS s.3 n x)) 1) [some (.cells [.int .i64 s.1,.int .i64 s.2,.slice 1 0 (List.length s.3) 1,.int .i64 s.4,.int .i64 s.5,.int .i64 s.6,.int .u64 s.7,.int .u64 s.8,.bool s.9]),some (.ints (some .u64) s.3),some (.ints (some .i64) (gS s.3 n x))]
theorem MQ(t n:Int)(s:MS)(K:AVal→aD Ob→Prop)(h:JR t n s K):cT' 91 [.ptr 0 0,.agg [.int .i64 t,.int .i64 n]] [aY 1 s,aZ s] K:=by
 refine aFQ (aE (E:=EJ0) Tryz.checked.mixed (L:=(fun _ _=>some (.states (F1 t n s)))) (n:=10) (aN (by kernel_rfl) h))
theorem zB(n a:Int):bK n a=decide (1≤a∧a≤n):=by
 unfold bK
 cases h1:(ile 1 a)<;>cases h2:ile a n<;>rw [bX]at h1 h2<;>simp at h1 h2<;>simp<;>omega
theorem aBk(t n:Int)(s:MS)(K:AVal→aD Ob→Prop)(ht:0≤t∧t≤100000)(hn:0≤n∧n≤100000)(hK:K (.slice 2 0 (i5 s.xs n).length 1) [aY 1 s,aZ s,some (.ints (some .i64) (i5 s.xs n))]):JR t n s K:=by
 unfold JR
 have eT:i5 s.xs n=gS s.xs n n.toNat:=rfl
 rw [eT]at hK
 refine⟨aK (H:=F1 t n s) (0:Nat) rfl ⟨by show((0:Nat):Int)≤n;omega⟩,?_⟩
 rintro i ⟨hi⟩
 refine⟨trivial,?_⟩
 have e1:W ((i:Int)+1+1)=((i+1:Nat):Int)+1:=by rw [vM (by omega)];omega
 have hs:=HL s.xs n i
 have hfl:=yZ s.xs n i
 rw [e1]
 cases hb:bK n ((i:Int)+1)with
 | true=>
   have hb':1≤(i:Int)+1∧(i:Int)+1≤n:=by
    rw [zB]at hb
    exact of_decide_eq_true hb
   refine⟨⟨rfl,ht,hn⟩,?_⟩
   have hmu:n.toNat - (i+1)<n.toNat - i:=by omega
   cases h:cZ s.xs n ((i:Int)+1)with
   | true=>
     rw [h]at hs
     simp only [cond_true,List.append_nil]at hs
     exact aK (H:=F1 t n s) (i+1:Nat) (by simp only [F1,hs]<;>rfl) ⟨⟨by show((i+1:Nat):Int)≤n;omega⟩,hmu⟩
   | false=>
     rw [h]at hs
     simp only [cond_false]at hs
     exact⟨⟨rfl,rfl,rfl,by omega⟩,aK (H:=F1 t n s) (i+1:Nat) (by simp only [F1,hs,List.length_append]<;>rfl) ⟨⟨by show((i+1:Nat):Int)≤n;omega⟩,hmu⟩⟩
 | false=>
   have hb': ¬(1≤(i:Int)+1∧(i:Int)+1≤n):=by
    rw [zB]at hb
    exact of_decide_eq_false hb
   have:i=n.toNat:=by omega
   subst this
   exact hK
def freS:aG Ob:=fun args h=>match args,h with
 | [.ptr 0 0,.agg [.int .i64 t,.int .i64 n]],[e1,e2]=>(match cU 1 [e1,e2]with
   | some (l,s)=>some (.pre (l=s.xs.length∧(0≤t∧t≤100000)∧(0≤n∧n≤100000)) (.ret (.slice 2 0 (i5 s.xs n).length 1) [aY 1 s,aZ s,some (.ints (some .i64) (i5 s.xs n))]))
   | none=>none)
 | _,_=>none
theorem aBj:sT' 91 freS:=by
 intro args h o ho K hK
 unfold freS at ho
 split at ho
 case h_2=>cases ho
 rename_i t n e1 e2
 split at ho<;>cases ho
 rename_i l s hm
 obtain⟨⟨hl,h0,h1⟩,hK⟩:=hK
 have hh:=bB hm hl
 cases hh
 exact MQ t n s K (aBk t n s K h0 h1 hK)
noncomputable def EJ1:=EJ0.addS 91 freS aBj
def hstS:aG Ob:=fun args h=>match args,h with
 | [.ptr 0 0],[some (.abs (.store t n st) [])]=>some (.pre (st.R.length≤1000000) (.ret (.slice 1 0 (aO st.sp st.R).length 1) [some (.abs (.store t n st) []),some (.ints (some .i64) (aO st.sp st.R))]))
 | _,_=>none
theorem aBW:sT' 89 hstS:=by
 intro args h o ho K hK
 unfold hstS at ho
 split at ho<;>cases ho
 rename_i t n st
 obtain⟨ok,hK⟩:=hK
 refine aC.pack (tb:=tbl) (aC.unpack (tb:=tbl) (Mc.store t n st) 0 0 (dJ t n st) [] rfl rfl rfl rfl ?_)
 exact JV [.ptr 0 0] [stC 1 t n st,hO st] _ rfl _ ⟨⟨rfl,ok⟩,⟨[0,2,1],[some (.abs (.store t n st) []),some (.ints (some .i64) (aO st.sp st.R))],.store t n st,0,0,dJ t n st,[],by kernel_rfl,by kernel_rfl,rfl,rfl,hK⟩⟩
noncomputable def EJ2:=EJ1.addS 89 hstS aBW
def ndsT(xs:List Int)(n:Int):Nat→Nat→List Int
 | _,0=>[]
 | h,k+1=>ndF xs n h++ndsT xs n (h+1) k
theorem BR(xs:List Int)(n b:Int)(bs:List Int)(m:List (Int×Int)):dX xs n (b::bs) m=bif ilt 1 (W ((mget m b).getD 0+1))|| !cZ xs n b then none else dX xs n bs (cL m b (W ((mget m b).getD 0+1))):=rfl
theorem vG(m:List (Int×Int))(b v:Int):(mget (cL m b v) b).getD 0=v:=by
 rw [gC,if_pos rfl];rfl
theorem aEg(xs:List Int)(n:Int)(h:Nat)(hh:h<4):ndsT xs n h (4 - h)=ndF xs n h++ndsT xs n (h+1) (3 - h):=by
 have:4 - h=(3 - h)+1:=by omega
 rw [this];rfl
theorem vC{B:List Int}{i:Nat}(hi:i<B.length):List.getD B (0+Int.toNat (i:Int)*1) 0=B[i]:=by
 have e:0+Int.toNat (i:Int)*1=i:=by omega
 rw [e,gD',gE' hi];rfl
noncomputable def EJ3:=EJ2
def gdT(xs:List Int)(n nd:Int)(k:Nat):Bool:=(List.range k).any fun i=>ieq (aB xs (2*n+5+2*0+(i:Int))) nd
structure aEm (t n nd:Int) (xs:List Int) (i:Nat):Prop where
 h:(i:Int)≤2*t
 f:gdT xs n nd i=false
def KZ(t n nd:Int)(s:MS):Hint Ob:= {X:=Nat,st:=fun i=>([.ptr 0 0,.O,.int .i64 nd,.O,.ptr 2 0,.O,.O,.O,.O,.int .i64 (2*t),.int .i64 (i:Int)]++List.replicate 15 .O,[aY 1 s,aZ s,some (.cells [.int .i64 t,.int .i64 n])]),ok:=aEm t n nd s.xs,mu:=fun i=>(2*t).toNat - i,keep:=[0,2,4,9,10] }
def JT(t n nd:Int)(s:MS)(K:AVal→aD Ob→Prop):Prop:=(((0:Int)≤t∧t≤(100000:Int))∧(0:Int)≤n∧n≤(100000:Int))∧okSt (KZ t n nd s) (Hint.ok (KZ t n nd s)) (.ptr 0 0::.O::.int .i64 nd::.O::.ptr 2 0::.O::.O::.O::.O::.int .i64 (2*t)::.int .i64 0::(tO' 15 [])) [some (.cells [.int .i64 s.1,.int .i64 s.2,.slice 1 0 (List.length s.3) 1,.int .i64 s.4,.int .i64 s.5,.int .i64 s.6,.int .u64 s.7,.int .u64 s.8,.bool s.9]),some (.ints (some .u64) s.3),some (.cells [.int .i64 t,.int .i64 n])]∧ ∀(x:Nat),aEm t n nd s.3 x→bif ilt (↑x:Int) (2*t)then bif ilt 0 nd then(((0:Int)≤t∧t≤(100000:Int))∧((0:Int)≤n∧n≤(100000:Int))∧((-1099511627776:Int)≤(0:Int)∧(0:Int)≤(1099511627776:Int))∧(-1099511627776:Int)≤(↑x:Int)∧(↑x:Int)≤(1099511627776:Int))∧(lE' s.3∧True)∧bif ieq (aB s.3 (2*n+5+2*0+(↑x:Int))) (WU nd)then K (.bool true) [some (.cells [.int .i64 s.1,.int .i64 s.2,.slice 1 0 (List.length s.3) 1,.int .i64 s.4,.int .i64 s.5,.int .i64 s.6,.int .u64 s.7,.int .u64 s.8,.bool s.9]),some (.ints (some .u64) s.3)]else okSt (KZ t n nd s) (fun x'=>Hint.ok (KZ t n nd s) x'∧Hint.mu (KZ t n nd s) x'<Hint.mu (KZ t n nd s) x) (.ptr 0 0::.O::.int .i64 nd::.O::.ptr 2 0::.O::.O::.O::.O::.int .i64 (2*t)::.int .i64 (W ((↑x:Int)+1))::(tO' 15 [])) [some (.cells [.int .i64 s.1,.int .i64 s.2,.slice 1 0 (List.length s.3) 1,.int .i64 s.4,.int .i64 s.5,.int .i64 s.6,.int .u64 s.7,.int .u64 s.8,.bool s.9]),some (.ints (some .u64) s.3),some (.cells [.int .i64 t,.int .i64 n])]else okSt (KZ t n nd s) (fun x'=>Hint.ok (KZ t n nd s) x'∧Hint.mu (KZ t n nd s) x'<Hint.mu (KZ t n nd s) x) (.ptr 0 0::.O::.int .i64 nd::.O::.ptr 2 0::.O::.O::.O::.O::.int .i64 (2*t)::.int .i64 (W ((↑x:Int)+1))::(tO' 15 [])) [some (.cells [.int .i64 s.1,.int .i64 s.2,.slice 1 0 (List.length s.3) 1,.int .i64 s.4,.int .i64 s.5,.int .i64 s.6,.int .u64 s.7,.int .u64 s.8,.bool s.9]),some (.ints (some .u64) s.3),some (.cells [.int .i64 t,.int .i64 n])]else K (.bool false) [some (.cells [.int .i64 s.1,.int .i64 s.2,.slice 1 0 (List.length s.3) 1,.int .i64 s.4,.int .i64 s.5,.int .i64 s.6,.int .u64 s.7,.int .u64 s.8,.bool s.9]),some (.ints (some .u64) s.3)]
theorem MY(t n nd:Int)(s:MS)(K:AVal→aD Ob→Prop)(h:JT t n nd s K):cT' 120 [.ptr 0 0,.agg [.int .i64 t,.int .i64 n],.int .i64 nd] [aY 1 s,aZ s] K:=by
 refine aFQ (aE (E:=EJ3) Tryz.checked.mixed (L:=(fun _ _=>some (.states (KZ t n nd s)))) (n:=10) (aN (by kernel_rfl) h))
theorem aDW(xs:List Int)(n nd:Int)(k:Nat):gdT xs n nd (k+1)=(gdT xs n nd k||ieq (aB xs (2*n+5+2*0+(k:Int))) nd):=by
 unfold gdT
 rw [List.range_succ,List.any_append]
 simp
theorem QZ{xs:List Int}{n nd:Int}{i k:Nat}(h:i≤k)(e:gdT xs n nd i=true):gdT xs n nd k=true:=by
 unfold gdT at e⊢
 rw [List.any_eq_true]at e⊢
 obtain⟨y,hy,hy2⟩:=e
 exact⟨y,List.mem_range.2 (by have:=List.mem_range.1 hy;omega),hy2⟩
theorem aBw(t n nd:Int)(s:MS)(K:AVal→aD Ob→Prop)(ht:0≤t∧t≤100000)(hn:0≤n∧n≤100000)(hd:1≤nd∧nd≤100000)(hK:K (.bool (gdT s.xs n nd (2*t).toNat)) [aY 1 s,aZ s]):JT t n nd s K:=by
 unfold JT
 refine⟨⟨ht,hn⟩,aK (H:=KZ t n nd s) (0:Nat) rfl ⟨by show((0:Nat):Int)≤2*t;omega,rfl⟩,?_⟩
 rintro i ⟨hi,hf⟩
 have e1:W ((i:Int)+1)=((i+1:Nat):Int):=by rw [vM (by omega)];rfl
 have e2:WU nd=nd:=i4 ⟨by omega,by omega⟩
 have hs:=aDW s.xs n nd i
 rw [hf,Bool.false_or]at hs
 refine aL (fun h1=>aL (fun _=>⟨⟨ht,hn,by omega,by omega,by omega⟩,⟨rfl,trivial⟩,?_⟩) (fun h=>?_)) (fun h1=>?_)
 ·rw [bJ,dT']at h1
  rw [e2]
  refine aL (fun h2=>?_) (fun h2=>?_)
  ·rw [h2]at hs
   rw [QZ (show i+1≤(2*t).toNat by omega) hs]at hK
   exact hK
  ·rw [h2]at hs
   rw [e1]
   exact aK (H:=KZ t n nd s) (i+1:Nat) rfl ⟨⟨by show((i+1:Nat):Int)≤2*t;omega,hs⟩,by show(2*t).toNat - (i+1)<(2*t).toNat - i;omega⟩
 ·rw [bJ,dF']at h;omega
 ·rw [bJ,dF']at h1
  have:i=(2*t).toNat :=by omega
  subst this
  rw [hf]at hK
  exact hK
def gdtS:aG Ob:=fun args h=>match args,h with
 | [.ptr 0 0,.agg [.int .i64 t,.int .i64 n],.int .i64 nd],[e1,e2]=>(match cU 1 [e1,e2]with
   | some (l,s)=>some (.pre (l=s.xs.length∧(0≤t∧t≤100000)∧(0≤n∧n≤100000)∧(1≤nd∧nd≤100000)) (.ret (.bool (gdT s.xs n nd (2*t).toNat)) [aY 1 s,aZ s]))
   | none=>none)
 | _,_=>none
theorem aBv:sT' 120 gdtS:=by
 intro args h o ho K hK
 unfold gdtS at ho
 split at ho
 case h_2=>cases ho
 rename_i t n nd e1 e2
 split at ho<;>cases ho
 rename_i l s hm
 obtain⟨⟨hl,h0,h1,h2⟩,hK⟩:=hK
 have hh:=bB hm hl
 cases hh
 exact MY t n nd s K (aBw t n nd s K h0 h1 h2 hK)
noncomputable def EK0:=EJ3.addS 120 gdtS aBv
def dL(t n:Int):Nat→DOS→STS→MS→Nat×Bool×DOS×STS×MS
 | 0,x,st,s=>(0,false,x,st,s)
 | f+1,x,st,s=>bif (dqF t n x st s).d then(1,true,(dqF t n x st s).x,(dqF t n x st s).st,(dqF t n x st s).s)else
   ((dL t n f (dqF t n x st s).x (dqF t n x st s).st (dqF t n x st s).s).1+1,(dL t n f (dqF t n x st s).x (dqF t n x st s).st (dqF t n x st s).s).2)
def mQ(t n:Int):Nat→DOS→STS→MS→Prop
 | 0,_,_,_=>True
 | f+1,x,st,s=>dqOk t n x st s∧((dqF t n x st s).d =false→mQ t n f (dqF t n x st s).x (dqF t n x st s).st (dqF t n x st s).s)
theorem VD(t n:Int)(x:DOS)(st:STS)(s:MS):dL t n 0 x st s=(0,false,x,st,s):=rfl
theorem JA(t n:Int)(f:Nat)(x:DOS)(st:STS)(s:MS):dL t n (f+1) x st s=bif (dqF t n x st s).d then(1,true,(dqF t n x st s).x,(dqF t n x st s).st,(dqF t n x st s).s)else((dL t n f (dqF t n x st s).x (dqF t n x st s).st (dqF t n x st s).s).1+1,(dL t n f (dqF t n x st s).x (dqF t n x st s).st (dqF t n x st s).s).2):=rfl
theorem yS(t n:Int)(f:Nat)(x:DOS)(st:STS)(s:MS):mQ t n (f+1) x st s=(dqOk t n x st s∧((dqF t n x st s).d =false→mQ t n f (dqF t n x st s).x (dqF t n x st s).st (dqF t n x st s).s)):=rfl
structure aDs (t n:Int) (N:Nat) (x0:DOS) (st0:STS) (s0:MS) (x:Nat×DOS×STS×MS):Prop where
 hk:x.1≤N
 ok:mQ t n (N - x.1) x.2.1 x.2.2.1 x.2.2.2
 eq:dL t n N x0 st0 s0=((dL t n (N - x.1) x.2.1 x.2.2.1 x.2.2.2).1+x.1,(dL t n (N - x.1) x.2.1 x.2.2.1 x.2.2.2).2)
structure aDt (t n:Int) (N:Nat) (x0:DOS) (st0:STS) (s0:MS) (x:Nat×DOS×STS×MS):Prop where
 hk:x.1≤N
 eq:dL t n N x0 st0 s0=(x.1,true,x.2)
def wA(t n:Int)(N:Nat)(most:Int)(x0:DOS)(st0:STS)(s0:MS):Hint Ob:= {X:=Nat×DOS×STS×MS,st:=fun x=>([.ptr 0 0,.int .i64 most,.O,.O,.O,.O,.O,.O,.int .i64 (x.1:Int),.O,.iface 129 (.ptr 3 0),.bool false,.O,.int .i64 1,.int .i64 0]++List.replicate 16 .O,[aY 1 x.2.2.2,aZ x.2.2.2,some (.cells [.iface 129 (.ptr 3 0)]),some (.abs (.doer t n x.2.1) [4]),some (.abs (.store t n x.2.2.1) [])]),ok:=aDs t n N x0 st0 s0,mu:=fun x=>2*(N - x.1)+1,keep:=[0,1,8,10,11,13,14] }
def dqHb(t n:Int)(N:Nat)(most:Int)(x0:DOS)(st0:STS)(s0:MS):Hint Ob:= {X:=Nat×DOS×STS×MS,st:=fun x=>([.ptr 0 0,.int .i64 most,.O,.O,.O,.O,.O,.O,.int .i64 (x.1:Int),.O,.iface 129 (.ptr 3 0),.bool true,.O,.int .i64 1,.int .i64 0]++List.replicate 16 .O,[aY 1 x.2.2.2,aZ x.2.2.2,some (.cells [.iface 129 (.ptr 3 0)]),some (.cells [.ptr 4 0,.int .i64 (x.2.1).code,.bool (x.2.1).okk,.int .i64 (x.2.1).val,.bool (x.2.1).slow,.int .i64 (x.2.1).sh,.int .i64 (x.2.1).kd,.int .i64 (x.2.1).ky,.int .i64 (x.2.1).limit,.int .i64 (x.2.1).at',.O,.O,.O,.O,.O,.O,.O,.O,.O]),some (.abs (.store t n x.2.2.1) [])]),ok:=aDt t n N x0 st0 s0,mu:=fun x=>2*(N - x.1),keep:=[0,1,8,10,11,13,14],sel:=fun tm _=>match tm.getD 11 .O with | .bool b=>b | _=>false}
def aE7(t n:Int)(N:Nat)(most:Int)(x0:DOS)(st0:STS)(s0:MS):FuncId→Nat→Option (p7 Ob):=fun _ k=>if k=3 then some (.rounds 2)else some (.cases [dqHb t n N most x0 st0 s0,wA t n N most x0 st0 s0])
def I9(t n:Int)(N:Nat)(most:Int)(x0:DOS)(st0:STS)(s0:MS)(K:AVal→aD Ob→Prop):Prop:=((0:Int)≤(0:Int)∧(0:Int)<(↑1:Int))∧okSt (wA t n N most x0 st0 s0) (fun x=>Hint.ok (wA t n N most x0 st0 s0) x∧IW none (Hint.mu (wA t n N most x0 st0 s0) x)) (.ptr 0 0::.int .i64 most::.O::.O::.O::.O::.O::.O::.int .i64 0::.O::.iface 129 (.ptr 3 0)::.bool false::.O::.int .i64 (↑1:Int)::.int .i64 0::(tO' 16 [])) [some (.cells [.int .i64 s0.1,.int .i64 s0.2,.slice 1 0 (List.length s0.3) 1,.int .i64 s0.4,.int .i64 s0.5,.int .i64 s0.6,.int .u64 s0.7,.int .u64 s0.8,.bool s0.9]),some (.ints (some .u64) s0.3),some (.cells [.iface 129 (.ptr 3 0)]),some (.abs (.doer t n x0) [4]),some (.abs (.store t n st0) [])]∧(∀(x:(Nat×DOS×STS×MS)),aDt t n N x0 st0 s0 x→K (.tup [.int .i64 (↑x.1:Int),.bool true]) [some (.cells [.int .i64 (Prod.snd (Prod.snd x).2).1,.int .i64 (Prod.snd (Prod.snd x).2).2,.slice 1 0 (List.length (Prod.snd (Prod.snd x).2).3) 1,.int .i64 (Prod.snd (Prod.snd x).2).4,.int .i64 (Prod.snd (Prod.snd x).2).5,.int .i64 (Prod.snd (Prod.snd x).2).6,.int .u64 (Prod.snd (Prod.snd x).2).7,.int .u64 (Prod.snd (Prod.snd x).2).8,.bool (Prod.snd (Prod.snd x).2).9]),some (.ints (some .u64) (Prod.snd (Prod.snd x).2).3),some (.cells [.iface 129 (.ptr 3 0)]),some (.cells [.ptr 4 0,.int .i64 (Prod.fst x.2).1,.bool (Prod.fst x.2).2,.int .i64 (Prod.fst x.2).3,.bool (Prod.fst x.2).4,.int .i64 (Prod.fst x.2).5,.int .i64 (Prod.fst x.2).6,.int .i64 (Prod.fst x.2).7,.int .i64 (Prod.fst x.2).8,.int .i64 (Prod.fst x.2).9,.O,.O,.O,.O,.O,.O,.O,.O,.O]),some (.abs (.store t n (Prod.snd x.2).1) [])])∧(∀(x:(Nat×DOS×STS×MS)),aDs t n N x0 st0 s0 x→bif ile most (↑x.1:Int)then K (.tup [.int .i64 (↑x.1:Int),.bool false]) [some (.cells [.int .i64 (Prod.snd (Prod.snd x).2).1,.int .i64 (Prod.snd (Prod.snd x).2).2,.slice 1 0 (List.length (Prod.snd (Prod.snd x).2).3) 1,.int .i64 (Prod.snd (Prod.snd x).2).4,.int .i64 (Prod.snd (Prod.snd x).2).5,.int .i64 (Prod.snd (Prod.snd x).2).6,.int .u64 (Prod.snd (Prod.snd x).2).7,.int .u64 (Prod.snd (Prod.snd x).2).8,.bool (Prod.snd (Prod.snd x).2).9]),some (.ints (some .u64) (Prod.snd (Prod.snd x).2).3),some (.cells [.iface 129 (.ptr 3 0)]),some (.abs (.doer t n (Prod.snd x).1) [4]),some (.abs (.store t n (Prod.snd x.2).1) [])]else((lE' (Prod.snd (Prod.snd x).2).3∧t=t∧n=n)∧dqOk t n (Prod.snd x).1 (Prod.snd x.2).1 (Prod.snd x).2.2)∧bif (dqF t n (Prod.snd x).1 (Prod.snd x.2).1 (Prod.snd x).2.2).1 then okSt (dqHb t n N most x0 st0 s0) (fun x_1=>Hint.ok (dqHb t n N most x0 st0 s0) x_1∧IW (some (Hint.mu (wA t n N most x0 st0 s0) x)) (Hint.mu (dqHb t n N most x0 st0 s0) x_1)) (.ptr 0 0::.int .i64 most::.O::.O::.O::.O::.O::.O::.int .i64 (W ((↑x.1:Int)+1))::.O::.iface 129 (.ptr 3 0)::.bool true::.O::.int .i64 1::.int .i64 0::(tO' 16 [])) [some (.cells [.int .i64 (DqO.s (dqF t n (Prod.snd x).1 (Prod.snd x.2).1 (Prod.snd x).2.2)).1,.int .i64 (DqO.s (dqF t n (Prod.snd x).1 (Prod.snd x.2).1 (Prod.snd x).2.2)).2,.slice 1 0 (List.length (DqO.s (dqF t n (Prod.snd x).1 (Prod.snd x.2).1 (Prod.snd x).2.2)).3) 1,.int .i64 (DqO.s (dqF t n (Prod.snd x).1 (Prod.snd x.2).1 (Prod.snd x).2.2)).4,.int .i64 (DqO.s (dqF t n (Prod.snd x).1 (Prod.snd x.2).1 (Prod.snd x).2.2)).5,.int .i64 (DqO.s (dqF t n (Prod.snd x).1 (Prod.snd x.2).1 (Prod.snd x).2.2)).6,.int .u64 (DqO.s (dqF t n (Prod.snd x).1 (Prod.snd x.2).1 (Prod.snd x).2.2)).7,.int .u64 (DqO.s (dqF t n (Prod.snd x).1 (Prod.snd x.2).1 (Prod.snd x).2.2)).8,.bool (DqO.s (dqF t n (Prod.snd x).1 (Prod.snd x.2).1 (Prod.snd x).2.2)).9]),some (.ints (some .u64) (DqO.s (dqF t n (Prod.snd x).1 (Prod.snd x.2).1 (Prod.snd x).2.2)).3),some (.cells [.iface 129 (.ptr 3 0)]),some (.cells [.ptr 4 0,.int .i64 (DqO.x (dqF t n (Prod.snd x).1 (Prod.snd x.2).1 (Prod.snd x).2.2)).1,.bool (DqO.x (dqF t n (Prod.snd x).1 (Prod.snd x.2).1 (Prod.snd x).2.2)).2,.int .i64 (DqO.x (dqF t n (Prod.snd x).1 (Prod.snd x.2).1 (Prod.snd x).2.2)).3,.bool (DqO.x (dqF t n (Prod.snd x).1 (Prod.snd x.2).1 (Prod.snd x).2.2)).4,.int .i64 (DqO.x (dqF t n (Prod.snd x).1 (Prod.snd x.2).1 (Prod.snd x).2.2)).5,.int .i64 (DqO.x (dqF t n (Prod.snd x).1 (Prod.snd x.2).1 (Prod.snd x).2.2)).6,.int .i64 (DqO.x (dqF t n (Prod.snd x).1 (Prod.snd x.2).1 (Prod.snd x).2.2)).7,.int .i64 (DqO.x (dqF t n (Prod.snd x).1 (Prod.snd x.2).1 (Prod.snd x).2.2)).8,.int .i64 (DqO.x (dqF t n (Prod.snd x).1 (Prod.snd x.2).1 (Prod.snd x).2.2)).9,.O,.O,.O,.O,.O,.O,.O,.O,.O]),some (.abs (.store t n (dqF t n (Prod.snd x).1 (Prod.snd x.2).1 (Prod.snd x).2.2).3) [])]else okSt (wA t n N most x0 st0 s0) (fun x_1=>Hint.ok (wA t n N most x0 st0 s0) x_1∧IW (some (Hint.mu (wA t n N most x0 st0 s0) x)) (Hint.mu (wA t n N most x0 st0 s0) x_1)) (.ptr 0 0::.int .i64 most::.O::.O::.O::.O::.O::.O::.int .i64 (W ((↑x.1:Int)+1))::.O::.iface 129 (.ptr 3 0)::.bool false::.O::.int .i64 1::.int .i64 0::(tO' 16 [])) [some (.cells [.int .i64 (DqO.s (dqF t n (Prod.snd x).1 (Prod.snd x.2).1 (Prod.snd x).2.2)).1,.int .i64 (DqO.s (dqF t n (Prod.snd x).1 (Prod.snd x.2).1 (Prod.snd x).2.2)).2,.slice 1 0 (List.length (DqO.s (dqF t n (Prod.snd x).1 (Prod.snd x.2).1 (Prod.snd x).2.2)).3) 1,.int .i64 (DqO.s (dqF t n (Prod.snd x).1 (Prod.snd x.2).1 (Prod.snd x).2.2)).4,.int .i64 (DqO.s (dqF t n (Prod.snd x).1 (Prod.snd x.2).1 (Prod.snd x).2.2)).5,.int .i64 (DqO.s (dqF t n (Prod.snd x).1 (Prod.snd x.2).1 (Prod.snd x).2.2)).6,.int .u64 (DqO.s (dqF t n (Prod.snd x).1 (Prod.snd x.2).1 (Prod.snd x).2.2)).7,.int .u64 (DqO.s (dqF t n (Prod.snd x).1 (Prod.snd x.2).1 (Prod.snd x).2.2)).8,.bool (DqO.s (dqF t n (Prod.snd x).1 (Prod.snd x.2).1 (Prod.snd x).2.2)).9]),some (.ints (some .u64) (DqO.s (dqF t n (Prod.snd x).1 (Prod.snd x.2).1 (Prod.snd x).2.2)).3),some (.cells [.iface 129 (.ptr 3 0)]),some (.abs (.doer t n (dqF t n (Prod.snd x).1 (Prod.snd x.2).1 (Prod.snd x).2.2).2) [4]),some (.abs (.store t n (dqF t n (Prod.snd x).1 (Prod.snd x.2).1 (Prod.snd x).2.2).3) [])])∧True
theorem LX(t n:Int)(N:Nat)(most:Int)(x0:DOS)(st0:STS)(s0:MS)(K:AVal→aD Ob→Prop)(h:I9 t n N most x0 st0 s0 K):cT' 20 [.ptr 0 0,.int .i64 most,.slice 2 0 1 1] [aY 1 s0,aZ s0,some (.cells [.iface 129 (.ptr 3 0)]),some (.abs (.doer t n x0) [4]),some (.abs (.store t n st0) [])] K:=by
 refine aFQ (aE (E:=ED) Tryz.checked.mixed (L:=aE7 t n N most x0 st0 s0) (n:=10) (aN (by kernel_rfl) h))
theorem aDF(t n:Int)(N:Nat)(most:Int)(x0:DOS)(st0:STS)(s0:MS)(K:AVal→aD Ob→Prop)(hN:most=(N:Int))(hb:N≤1000000)(ok:mQ t n N x0 st0 s0)
 (hK:(Out.ite (dL t n N x0 st0 s0).2.1 (.ret (.tup [.int .i64 ((dL t n N x0 st0 s0).1:Int),.bool true]) [aY 1 (dL t n N x0 st0 s0).2.2.2.2,aZ (dL t n N x0 st0 s0).2.2.2.2,some (.cells [.iface 129 (.ptr 3 0)]),some (.cells [.ptr 4 0,.int .i64 (dL t n N x0 st0 s0).2.2.1.code,.bool (dL t n N x0 st0 s0).2.2.1.okk,.int .i64 (dL t n N x0 st0 s0).2.2.1.val,.bool (dL t n N x0 st0 s0).2.2.1.slow,.int .i64 (dL t n N x0 st0 s0).2.2.1.sh,.int .i64 (dL t n N x0 st0 s0).2.2.1.kd,.int .i64 (dL t n N x0 st0 s0).2.2.1.ky,.int .i64 (dL t n N x0 st0 s0).2.2.1.limit,.int .i64 (dL t n N x0 st0 s0).2.2.1.at',.O,.O,.O,.O,.O,.O,.O,.O,.O]),some (.abs (.store t n (dL t n N x0 st0 s0).2.2.2.1) [])]) (.ret (.tup [.int .i64 ((dL t n N x0 st0 s0).1:Int),.bool false]) [aY 1 (dL t n N x0 st0 s0).2.2.2.2,aZ (dL t n N x0 st0 s0).2.2.2.2,some (.cells [.iface 129 (.ptr 3 0)]),some (.abs (.doer t n (dL t n N x0 st0 s0).2.2.1) [4]),some (.abs (.store t n (dL t n N x0 st0 s0).2.2.2.1) [])])).run K):I9 t n N most x0 st0 s0 K:=by
 unfold I9
 subst hN
 refine⟨by omega,aK (H:=wA t n N N x0 st0 s0) (0,x0,st0,s0) rfl ⟨⟨Nat.zero_le _,ok,rfl⟩,trivial⟩,?_,?_,trivial⟩
 ·rintro⟨k,x,st,s⟩ ⟨hk,heq⟩
  rw [heq]at hK
  exact hK
 ·rintro⟨k,x,st,s⟩ ⟨hk,ok,heq⟩
  dsimp only at hk ok heq⊢
  refine aL (fun e=>?_) (fun e=>?_)
  ·rw [bX,dT']at e
   have hkN:k=N:=by omega
   subst hkN
   rw [Nat.sub_self]at heq
   rw [heq,VD,Nat.zero_add]at hK
   exact hK
  ·rw [bX,dF']at e
   have hkN:N - k=(N - (k+1))+1:=by omega
   rw [hkN]at ok heq
   rw [yS]at ok
   rw [JA]at heq
   have e4:W ((k:Int)+1)=((k+1:Nat):Int):=by rw [W,cJ (by omega)];rfl
   refine⟨⟨⟨rfl,rfl,rfl⟩,ok.1⟩,aL (fun hd=>?_) (fun hd=>?_)⟩
   ·refine aK (H:=dqHb t n N N x0 st0 s0) (k+1,(dqF t n x st s).x,(dqF t n x st s).st,(dqF t n x st s).s) (by simp only [e4]<;>rfl) ⟨⟨by show k+1≤N;omega,?_⟩,by show 2*(N - (k+1))<2*(N - k)+1;omega⟩
    have hd':(dqF t n x st s).d =true:=hd
    rw [heq,hd']
    simp only [cond_true]
    rw [Nat.add_comm]
   ·refine aK (H:=wA t n N N x0 st0 s0) (k+1,(dqF t n x st s).x,(dqF t n x st s).st,(dqF t n x st s).s) (by simp only [e4]<;>rfl) ⟨⟨by show k+1≤N;omega,ok.2 hd,?_⟩,by show 2*(N - (k+1))+1<2*(N - k)+1;omega⟩
    have hd':(dqF t n x st s).d =false:=hd
    rw [heq,hd']
    simp only [cond_false]
    rw [Nat.add_assoc,Nat.add_comm 1 k]
def kZ(t n:Int)(f:Nat)(x:DOS)(st:STS)(s:MS):Nat×Bool×DOS×STS×MS:=dL t n f x st s
def yR(t n:Int)(f:Nat)(x:DOS)(st:STS)(s:MS):Prop:=mQ t n f x st s
noncomputable def dqRunZ:aG Ob:=fun args h=>match args,h with
 | [.ptr 0 0,.int .i64 most,.slice 2 0 1 1],[e1,e2,some (.cells [.iface 129 (.ptr 3 0)]),some (.abs (.doer t n x) [4]),some (.abs (.store t2 n2 st) [])]=>(match cU 1 [e1,e2]with
   | some (l,s)=>some (.pre ((l=s.xs.length∧t2=t∧n2=n)∧(0≤most∧most≤1000000)∧yR t n most.toNat x st s) (.ite (kZ t n most.toNat x st s).2.1 (.ret (.tup [.int .i64 ((kZ t n most.toNat x st s).1:Int),.bool true]) [aY 1 (kZ t n most.toNat x st s).2.2.2.2,aZ (kZ t n most.toNat x st s).2.2.2.2,some (.cells [.iface 129 (.ptr 3 0)]),some (.cells [.ptr 4 0,.int .i64 (kZ t n most.toNat x st s).2.2.1.code,.bool (kZ t n most.toNat x st s).2.2.1.okk,.int .i64 (kZ t n most.toNat x st s).2.2.1.val,.bool (kZ t n most.toNat x st s).2.2.1.slow,.int .i64 (kZ t n most.toNat x st s).2.2.1.sh,.int .i64 (kZ t n most.toNat x st s).2.2.1.kd,.int .i64 (kZ t n most.toNat x st s).2.2.1.ky,.int .i64 (kZ t n most.toNat x st s).2.2.1.limit,.int .i64 (kZ t n most.toNat x st s).2.2.1.at',.O,.O,.O,.O,.O,.O,.O,.O,.O]),some (.abs (.store t n (kZ t n most.toNat x st s).2.2.2.1) [])]) (.ret (.tup [.int .i64 ((kZ t n most.toNat x st s).1:Int),.bool false]) [aY 1 (kZ t n most.toNat x st s).2.2.2.2,aZ (kZ t n most.toNat x st s).2.2.2.2,some (.cells [.iface 129 (.ptr 3 0)]),some (.abs (.doer t n (kZ t n most.toNat x st s).2.2.1) [4]),some (.abs (.store t n (kZ t n most.toNat x st s).2.2.2.1) [])])))
   | none=>none)
 | _,_=>none
theorem LM:sT' 20 dqRunZ:=by
 intro args h o ho K hK
 unfold dqRunZ at ho
 split at ho
 case h_2=>cases ho
 rename_i most e1 e2 t n x t2 n2 st
 split at ho<;>cases ho
 rename_i l s hm
 obtain⟨⟨⟨hl,rfl,rfl⟩,hb,ok⟩,hK⟩:=hK
 unfold yR at ok
 unfold kZ at hK
 have hh:=bB hm hl
 cases hh
 refine LX t2 n2 most.toNat most x st s _ (aDF t2 n2 most.toNat most x st s _ (by omega) (by omega) ok ?_)
 generalize dL t2 n2 most.toNat x st s=r at hK⊢
 obtain⟨c,b,y,sy,my⟩:=r
 cases b with
 | true=>exact hK
 | false=>exact hK
noncomputable def EK1:=EK0.addS 20 dqRunZ LM
def fulL:List STS→List Int→List Int
 | [],N=>N
 | st::S,N=>aO st.sp st.R++fulL S N
def dZ(S:List STS)(i:Int):STS:=List.getD S i.toNat ⟨0,0,[]⟩
structure XR (xs:List Int) (n:Int) (S:List STS) (i:Int) (x:Nat×List (Int×Int)):Prop where
 hi:x.1≤(aO (dZ S i).sp (dZ S i).R).length
 eq:dX xs n (fulL S (d7 xs n)) []=dX xs n ((aO (dZ S i).sp (dZ S i).R).drop x.1++fulL (S.drop (i.toNat+1)) (d7 xs n)) x.2
structure aEk (xs:List Int) (n:Int) (S:List STS) (x:Nat×List (Int×Int)):Prop where
 hi:x.1≤4
 eq:dX xs n (fulL S (d7 xs n)) []=dX xs n (ndsT xs n x.1 (4 - x.1)) x.2
structure aEl (xs:List Int) (n:Int) (S:List STS) (h:Int) (x:Nat×List (Int×Int)):Prop where
 h4:0≤h∧h<4
 hi:x.1≤(ndF xs n h).length
 eq:dX xs n (fulL S (d7 xs n)) []=dX xs n ((ndF xs n h).drop x.1++ndsT xs n (h.toNat+1) (3 - h.toNat)) x.2
def HG1'(t n:Int)(a b c:STS)(s:MS)(i:Int):Hint Ob:= {X:=Nat×List (Int×Int),st:=fun x=>([.ptr 0 0,.O,.slice 2 0 3 1,.O,.ptr 6 0,.O,.O,.map 7]++List.replicate 8 .O ++ [.slice 2 0 3 1,.int .i64 3,.int .i64 i,.O,.O,.O,.O,.slice 8 0 (aO (dZ [a,b,c] i).sp (dZ [a,b,c] i).R).length 1,.int .i64 ((aO (dZ [a,b,c] i).sp (dZ [a,b,c] i).R).length :Int),.int .i64 (x.1:Int)]++List.replicate 59 .O,[aY 1 s,aZ s,some (.cells [.ptr 3 0,.ptr 4 0,.ptr 5 0]),some (.abs (.store t n a) []),some (.abs (.store t n b) []),some (.abs (.store t n c) []),some (.cells [.int .i64 t,.int .i64 n]),some (.imap .i64 (some .i64) x.2),some (.ints (some .i64) (aO (dZ [a,b,c] i).sp (dZ [a,b,c] i).R))]),ok:=XR s.xs n [a,b,c] i,mu:=fun x=>(aO (dZ [a,b,c] i).sp (dZ [a,b,c] i).R).length - x.1,keep:=[0,2,4,7,16,17,18,23,24,25] }
def xS(t n:Int)(a b c:STS)(s:MS):Hint Ob:= {X:=Nat×List (Int×Int),st:=fun x=>([.ptr 0 0,.O,.slice 2 0 3 1,.O,.ptr 6 0,.O,.O,.map 7,.O,.O,.O,.O,.int .i64 (x.1:Int)]++List.replicate 72 .O,[aY 1 s,aZ s,some (.cells [.ptr 3 0,.ptr 4 0,.ptr 5 0]),some (.abs (.store t n a) []),some (.abs (.store t n b) []),some (.abs (.store t n c) []),some (.cells [.int .i64 t,.int .i64 n]),some (.imap .i64 (some .i64) x.2)]),ok:=aEk s.xs n [a,b,c],mu:=fun x=>4 - x.1,keep:=[0,2,4,7,12] }
def xT(t n:Int)(a b c:STS)(s:MS)(h:Int):Hint Ob:= {X:=Nat×List (Int×Int),st:=fun x=>([.ptr 0 0,.O,.slice 2 0 3 1,.O,.ptr 6 0,.O,.O,.map 7,.O,.O,.O,.O,.int .i64 h]++List.replicate 40 .O ++ [.slice 8 0 (ndF s.xs n h).length 1,.int .i64 ((ndF s.xs n h).length :Int),.int .i64 (x.1:Int)]++List.replicate 29 .O,[aY 1 s,aZ s,some (.cells [.ptr 3 0,.ptr 4 0,.ptr 5 0]),some (.abs (.store t n a) []),some (.abs (.store t n b) []),some (.abs (.store t n c) []),some (.cells [.int .i64 t,.int .i64 n]),some (.imap .i64 (some .i64) x.2),some (.ints (some .i64) (ndF s.xs n h))]),ok:=aEl s.xs n [a,b,c] h,mu:=fun x=>(ndF s.xs n h).length - x.1,keep:=[0,2,4,7,12,53,54,55] }
def aD1(t n:Int)(a b c:STS)(s:MS):FuncId→Nat→Option (p7 Ob):=fun _ k=>if k=6 then some (.statesAt 18 (HG1' t n a b c s))else if k=14 then some (.states (xS t n a b c s))else if k=17 then some (.statesAt 12 (xT t n a b c s))else some (.rounds 4)
def J1(t n:Int)(a b c:STS)(s:MS)(K:AVal→aD Ob→Prop):Prop:=((0:Int)≤(0:Int)∧(0:Int)<(↑3:Int))∧List.length a.3≤(1000000:Nat)∧okSt (HG1' t n a b c s 0) (Hint.ok (HG1' t n a b c s 0)) (.ptr 0 0::.O::.slice 2 0 3 1::.O::.ptr 6 0::.O::.O::.map 7::.O::.O::.O::.O::.O::.O::.O::.O::.slice 2 0 3 1::.int .i64 (↑3:Int)::.int .i64 0::.O::.O::.O::.O::.slice 8 0 (List.length (aO a.2 a.3)) 1::.int .i64 (↑(List.length (aO a.2 a.3)):Int)::.int .i64 0::(tO' 59 [])) [some (.cells [.int .i64 s.1,.int .i64 s.2,.slice 1 0 (List.length s.3) 1,.int .i64 s.4,.int .i64 s.5,.int .i64 s.6,.int .u64 s.7,.int .u64 s.8,.bool s.9]),some (.ints (some .u64) s.3),some (.cells [.ptr 3 0,.ptr 4 0,.ptr 5 0]),some (.abs (.store t n a) []),some (.abs (.store t n b) []),some (.abs (.store t n c) []),some (.cells [.int .i64 t,.int .i64 n]),some (.imap .i64 (some .i64) []),some (.ints (some .i64) (aO a.2 a.3))]∧ ∀(x:(Nat×List (Int×Int))),XR s.3 n [a,b,c] 0 x→bif ilt (↑x.1:Int) (↑(List.length (aO (dZ [a,b,c] 0).2 (dZ [a,b,c] 0).3)):Int)then((0:Int)≤(↑x.1:Int)∧(↑x.1:Int)<(↑(List.length (aO (dZ [a,b,c] 0).2 (dZ [a,b,c] 0).3)):Int))∧0+Int.toNat (↑x.1:Int)*(1:Nat)<List.length (aO (dZ [a,b,c] 0).2 (dZ [a,b,c] 0).3)∧bif ilt 1 (Option.getD (mget (cL (Prod.snd x) (List.getD (aO (STS.sp (dZ [a,b,c] 0)) (STS.R (dZ [a,b,c] 0))) (0+Int.toNat (↑(Prod.fst x):Int)*1) 0) (W (Option.getD (mget (Prod.snd x) (List.getD (aO (STS.sp (dZ [a,b,c] 0)) (STS.R (dZ [a,b,c] 0))) (0+Int.toNat (↑(Prod.fst x):Int)*1) 0)) 0+1))) (List.getD (aO (dZ [a,b,c] 0).2 (dZ [a,b,c] 0).3) (0+Int.toNat (↑x.1:Int)*1) 0)) 0)then K (.bool false) [some (.cells [.int .i64 s.1,.int .i64 s.2,.slice 1 0 (List.length s.3) 1,.int .i64 s.4,.int .i64 s.5,.int .i64 s.6,.int .u64 s.7,.int .u64 s.8,.bool s.9]),some (.ints (some .u64) s.3),some (.cells [.ptr 3 0,.ptr 4 0,.ptr 5 0]),some (.abs (.store t n a) []),some (.abs (.store t n b) []),some (.abs (.store t n c) [])]else(lE' s.3∧((0:Int)≤t∧t≤(100000:Int))∧(0:Int)≤n∧n≤(100000:Int))∧bif !cZ s.3 n (List.getD (aO (dZ [a,b,c] 0).2 (dZ [a,b,c] 0).3) (0+Int.toNat (↑x.1:Int)*1) 0)then K (.bool false) [some (.cells [.int .i64 s.1,.int .i64 s.2,.slice 1 0 (List.length s.3) 1,.int .i64 s.4,.int .i64 s.5,.int .i64 s.6,.int .u64 s.7,.int .u64 s.8,.bool s.9]),some (.ints (some .u64) s.3),some (.cells [.ptr 3 0,.ptr 4 0,.ptr 5 0]),some (.abs (.store t n a) []),some (.abs (.store t n b) []),some (.abs (.store t n c) [])]else okSt (HG1' t n a b c s 0) (fun x'=>Hint.ok (HG1' t n a b c s 0) x'∧Hint.mu (HG1' t n a b c s 0) x'<Hint.mu (HG1' t n a b c s 0) x) (.ptr 0 0::.O::.slice 2 0 3 1::.O::.ptr 6 0::.O::.O::.map 7::.O::.O::.O::.O::.O::.O::.O::.O::.slice 2 0 3 1::.int .i64 3::.int .i64 0::.O::.O::.O::.O::.slice 8 0 (List.length (aO (dZ [a,b,c] 0).2 (dZ [a,b,c] 0).3)) 1::.int .i64 (↑(List.length (aO (dZ [a,b,c] 0).2 (dZ [a,b,c] 0).3)):Int)::.int .i64 (W ((↑x.1:Int)+1))::(tO' 59 [])) [some (.cells [.int .i64 s.1,.int .i64 s.2,.slice 1 0 (List.length s.3) 1,.int .i64 s.4,.int .i64 s.5,.int .i64 s.6,.int .u64 s.7,.int .u64 s.8,.bool s.9]),some (.ints (some .u64) s.3),some (.cells [.ptr 3 0,.ptr 4 0,.ptr 5 0]),some (.abs (.store t n a) []),some (.abs (.store t n b) []),some (.abs (.store t n c) []),some (.cells [.int .i64 t,.int .i64 n]),some (.imap .i64 (some .i64) (cL x.2 (List.getD (aO (dZ [a,b,c] 0).2 (dZ [a,b,c] 0).3) (0+Int.toNat (↑x.1:Int)*1) 0) (W (Option.getD (mget (Prod.snd x) (List.getD (aO (dZ [a,b,c] 0).2 (dZ [a,b,c] 0).3) (0+Int.toNat (↑x.1:Int)*1) 0)) 0+1)))),some (.ints (some .i64) (aO (dZ [a,b,c] 0).2 (dZ [a,b,c] 0).3))]else((0:Int)≤W (0+1)∧W (0+1)<(↑3:Int))∧List.length b.3≤(1000000:Nat)∧okSt (HG1' t n a b c s (W (0+1))) (Hint.ok (HG1' t n a b c s (W (0+1)))) (.ptr 0 0::.O::.slice 2 0 3 1::.O::.ptr 6 0::.O::.O::.map 7::.O::.O::.O::.O::.O::.O::.O::.O::.slice 2 0 3 1::.int .i64 3::.int .i64 (W (0+1))::.O::.O::.O::.O::.slice 8 0 (List.length (aO b.2 b.3)) 1::.int .i64 (↑(List.length (aO b.2 b.3)):Int)::.int .i64 0::(tO' 59 [])) [some (.cells [.int .i64 s.1,.int .i64 s.2,.slice 1 0 (List.length s.3) 1,.int .i64 s.4,.int .i64 s.5,.int .i64 s.6,.int .u64 s.7,.int .u64 s.8,.bool s.9]),some (.ints (some .u64) s.3),some (.cells [.ptr 3 0,.ptr 4 0,.ptr 5 0]),some (.abs (.store t n a) []),some (.abs (.store t n b) []),some (.abs (.store t n c) []),some (.cells [.int .i64 t,.int .i64 n]),some (.imap .i64 (some .i64) x.2),some (.ints (some .i64) (aO b.2 b.3))]∧ ∀(x:Hint.X (HG1' t n a b c s (W (0+1)))),XR s.3 n [a,b,c] (W (0+1)) x→bif ilt (↑x.1:Int) (↑(List.length (aO (dZ [a,b,c] (W (0+1))).2 (dZ [a,b,c] (W (0+1))).3)):Int)then((0:Int)≤(↑x.1:Int)∧(↑x.1:Int)<(↑(List.length (aO (dZ [a,b,c] (W (0+1))).2 (dZ [a,b,c] (W (0+1))).3)):Int))∧0+Int.toNat (↑x.1:Int)*(1:Nat)<List.length (aO (dZ [a,b,c] (W (0+1))).2 (dZ [a,b,c] (W (0+1))).3)∧bif ilt 1 (Option.getD (mget (cL (Prod.snd x) (List.getD (aO (STS.sp (dZ [a,b,c] (W (0+1)))) (STS.R (dZ [a,b,c] (W (0+1))))) (0+Int.toNat (↑(Prod.fst x):Int)*1) 0) (W (Option.getD (mget (Prod.snd x) (List.getD (aO (STS.sp (dZ [a,b,c] (W (0+1)))) (STS.R (dZ [a,b,c] (W (0+1))))) (0+Int.toNat (↑(Prod.fst x):Int)*1) 0)) 0+1))) (List.getD (aO (dZ [a,b,c] (W (0+1))).2 (dZ [a,b,c] (W (0+1))).3) (0+Int.toNat (↑x.1:Int)*1) 0)) 0)then K (.bool false) [some (.cells [.int .i64 s.1,.int .i64 s.2,.slice 1 0 (List.length s.3) 1,.int .i64 s.4,.int .i64 s.5,.int .i64 s.6,.int .u64 s.7,.int .u64 s.8,.bool s.9]),some (.ints (some .u64) s.3),some (.cells [.ptr 3 0,.ptr 4 0,.ptr 5 0]),some (.abs (.store t n a) []),some (.abs (.store t n b) []),some (.abs (.store t n c) [])]else(lE' s.3∧((0:Int)≤t∧t≤(100000:Int))∧(0:Int)≤n∧n≤(100000:Int))∧bif !cZ s.3 n (List.getD (aO (dZ [a,b,c] (W (0+1))).2 (dZ [a,b,c] (W (0+1))).3) (0+Int.toNat (↑x.1:Int)*1) 0)then K (.bool false) [some (.cells [.int .i64 s.1,.int .i64 s.2,.slice 1 0 (List.length s.3) 1,.int .i64 s.4,.int .i64 s.5,.int .i64 s.6,.int .u64 s.7,.int .u64 s.8,.bool s.9]),some (.ints (some .u64) s.3),some (.cells [.ptr 3 0,.ptr 4 0,.ptr 5 0]),some (.abs (.store t n a) []),some (.abs (.store t n b) []),some (.abs (.store t n c) [])]else okSt (HG1' t n a b c s (W (0+1))) (fun x'=>Hint.ok (HG1' t n a b c s (W (0+1))) x'∧Hint.mu (HG1' t n a b c s (W (0+1))) x'<Hint.mu (HG1' t n a b c s (W (0+1))) x) (.ptr 0 0::.O::.slice 2 0 3 1::.O::.ptr 6 0::.O::.O::.map 7::.O::.O::.O::.O::.O::.O::.O::.O::.slice 2 0 3 1::.int .i64 3::.int .i64 (W (0+1))::.O::.O::.O::.O::.slice 8 0 (List.length (aO (dZ [a,b,c] (W (0+1))).2 (dZ [a,b,c] (W (0+1))).3)) 1::.int .i64 (↑(List.length (aO (dZ [a,b,c] (W (0+1))).2 (dZ [a,b,c] (W (0+1))).3)):Int)::.int .i64 (W ((↑x.1:Int)+1))::(tO' 59 [])) [some (.cells [.int .i64 s.1,.int .i64 s.2,.slice 1 0 (List.length s.3) 1,.int .i64 s.4,.int .i64 s.5,.int .i64 s.6,.int .u64 s.7,.int .u64 s.8,.bool s.9]),some (.ints (some .u64) s.3),some (.cells [.ptr 3 0,.ptr 4 0,.ptr 5 0]),some (.abs (.store t n a) []),some (.abs (.store t n b) []),some (.abs (.store t n c) []),some (.cells [.int .i64 t,.int .i64 n]),some (.imap .i64 (some .i64) (cL x.2 (List.getD (aO (dZ [a,b,c] (W (0+1))).2 (dZ [a,b,c] (W (0+1))).3) (0+Int.toNat (↑x.1:Int)*1) 0) (W (Option.getD (mget (Prod.snd x) (List.getD (aO (dZ [a,b,c] (W (0+1))).2 (dZ [a,b,c] (W (0+1))).3) (0+Int.toNat (↑x.1:Int)*1) 0)) 0+1)))),some (.ints (some .i64) (aO (dZ [a,b,c] (W (0+1))).2 (dZ [a,b,c] (W (0+1))).3))]else((0:Int)≤W (W (0+1)+1)∧W (W (0+1)+1)<(↑3:Int))∧List.length c.3≤(1000000:Nat)∧okSt (HG1' t n a b c s (W (W (0+1)+1))) (Hint.ok (HG1' t n a b c s (W (W (0+1)+1)))) (.ptr 0 0::.O::.slice 2 0 3 1::.O::.ptr 6 0::.O::.O::.map 7::.O::.O::.O::.O::.O::.O::.O::.O::.slice 2 0 3 1::.int .i64 3::.int .i64 (W (W (0+1)+1))::.O::.O::.O::.O::.slice 8 0 (List.length (aO c.2 c.3)) 1::.int .i64 (↑(List.length (aO c.2 c.3)):Int)::.int .i64 0::(tO' 59 [])) [some (.cells [.int .i64 s.1,.int .i64 s.2,.slice 1 0 (List.length s.3) 1,.int .i64 s.4,.int .i64 s.5,.int .i64 s.6,.int .u64 s.7,.int .u64 s.8,.bool s.9]),some (.ints (some .u64) s.3),some (.cells [.ptr 3 0,.ptr 4 0,.ptr 5 0]),some (.abs (.store t n a) []),some (.abs (.store t n b) []),some (.abs (.store t n c) []),some (.cells [.int .i64 t,.int .i64 n]),some (.imap .i64 (some .i64) x.2),some (.ints (some .i64) (aO c.2 c.3))]∧ ∀(x:Hint.X (HG1' t n a b c s (W (W (0+1)+1)))),XR s.3 n [a,b,c] (W (W (0+1)+1)) x→bif ilt (↑x.1:Int) (↑(List.length (aO (dZ [a,b,c] (W (W (0+1)+1))).2 (dZ [a,b,c] (W (W (0+1)+1))).3)):Int)then((0:Int)≤(↑x.1:Int)∧(↑x.1:Int)<(↑(List.length (aO (dZ [a,b,c] (W (W (0+1)+1))).2 (dZ [a,b,c] (W (W (0+1)+1))).3)):Int))∧0+Int.toNat (↑x.1:Int)*(1:Nat)<List.length (aO (dZ [a,b,c] (W (W (0+1)+1))).2 (dZ [a,b,c] (W (W (0+1)+1))).3)∧bif ilt 1 (Option.getD (mget (cL (Prod.snd x) (List.getD (aO (STS.sp (dZ [a,b,c] (W (W (0+1)+1)))) (STS.R (dZ [a,b,c] (W (W (0+1)+1))))) (0+Int.toNat (↑(Prod.fst x):Int)*1) 0) (W (Option.getD (mget (Prod.snd x) (List.getD (aO (STS.sp (dZ [a,b,c] (W (W (0+1)+1)))) (STS.R (dZ [a,b,c] (W (W (0+1)+1))))) (0+Int.toNat (↑(Prod.fst x):Int)*1) 0)) 0+1))) (List.getD (aO (dZ [a,b,c] (W (W (0+1)+1))).2 (dZ [a,b,c] (W (W (0+1)+1))).3) (0+Int.toNat (↑x.1:Int)*1) 0)) 0)then K (.bool false) [some (.cells [.int .i64 s.1,.int .i64 s.2,.slice 1 0 (List.length s.3) 1,.int .i64 s.4,.int .i64 s.5,.int .i64 s.6,.int .u64 s.7,.int .u64 s.8,.bool s.9]),some (.ints (some .u64) s.3),some (.cells [.ptr 3 0,.ptr 4 0,.ptr 5 0]),some (.abs (.store t n a) []),some (.abs (.store t n b) []),some (.abs (.store t n c) [])]else(lE' s.3∧((0:Int)≤t∧t≤(100000:Int))∧(0:Int)≤n∧n≤(100000:Int))∧bif !cZ s.3 n (List.getD (aO (dZ [a,b,c] (W (W (0+1)+1))).2 (dZ [a,b,c] (W (W (0+1)+1))).3) (0+Int.toNat (↑x.1:Int)*1) 0)then K (.bool false) [some (.cells [.int .i64 s.1,.int .i64 s.2,.slice 1 0 (List.length s.3) 1,.int .i64 s.4,.int .i64 s.5,.int .i64 s.6,.int .u64 s.7,.int .u64 s.8,.bool s.9]),some (.ints (some .u64) s.3),some (.cells [.ptr 3 0,.ptr 4 0,.ptr 5 0]),some (.abs (.store t n a) []),some (.abs (.store t n b) []),some (.abs (.store t n c) [])]else okSt (HG1' t n a b c s (W (W (0+1)+1))) (fun x'=>Hint.ok (HG1' t n a b c s (W (W (0+1)+1))) x'∧Hint.mu (HG1' t n a b c s (W (W (0+1)+1))) x'<Hint.mu (HG1' t n a b c s (W (W (0+1)+1))) x) (.ptr 0 0::.O::.slice 2 0 3 1::.O::.ptr 6 0::.O::.O::.map 7::.O::.O::.O::.O::.O::.O::.O::.O::.slice 2 0 3 1::.int .i64 3::.int .i64 (W (W (0+1)+1))::.O::.O::.O::.O::.slice 8 0 (List.length (aO (dZ [a,b,c] (W (W (0+1)+1))).2 (dZ [a,b,c] (W (W (0+1)+1))).3)) 1::.int .i64 (↑(List.length (aO (dZ [a,b,c] (W (W (0+1)+1))).2 (dZ [a,b,c] (W (W (0+1)+1))).3)):Int)::.int .i64 (W ((↑x.1:Int)+1))::(tO' 59 [])) [some (.cells [.int .i64 s.1,.int .i64 s.2,.slice 1 0 (List.length s.3) 1,.int .i64 s.4,.int .i64 s.5,.int .i64 s.6,.int .u64 s.7,.int .u64 s.8,.bool s.9]),some (.ints (some .u64) s.3),some (.cells [.ptr 3 0,.ptr 4 0,.ptr 5 0]),some (.abs (.store t n a) []),some (.abs (.store t n b) []),some (.abs (.store t n c) []),some (.cells [.int .i64 t,.int .i64 n]),some (.imap .i64 (some .i64) (cL x.2 (List.getD (aO (dZ [a,b,c] (W (W (0+1)+1))).2 (dZ [a,b,c] (W (W (0+1)+1))).3) (0+Int.toNat (↑x.1:Int)*1) 0) (W (Option.getD (mget (Prod.snd x) (List.getD (aO (dZ [a,b,c] (W (W (0+1)+1))).2 (dZ [a,b,c] (W (W (0+1)+1))).3) (0+Int.toNat (↑x.1:Int)*1) 0)) 0+1)))),some (.ints (some .i64) (aO (dZ [a,b,c] (W (W (0+1)+1))).2 (dZ [a,b,c] (W (W (0+1)+1))).3))]else okSt (xS t n a b c s) (Hint.ok (xS t n a b c s)) (.ptr 0 0::.O::.slice 2 0 3 1::.O::.ptr 6 0::.O::.O::.map 7::.O::.O::.O::.O::.int .i64 0::(tO' 72 [])) [some (.cells [.int .i64 s.1,.int .i64 s.2,.slice 1 0 (List.length s.3) 1,.int .i64 s.4,.int .i64 s.5,.int .i64 s.6,.int .u64 s.7,.int .u64 s.8,.bool s.9]),some (.ints (some .u64) s.3),some (.cells [.ptr 3 0,.ptr 4 0,.ptr 5 0]),some (.abs (.store t n a) []),some (.abs (.store t n b) []),some (.abs (.store t n c) []),some (.cells [.int .i64 t,.int .i64 n]),some (.imap .i64 (some .i64) x.2)]∧ ∀(x:(Nat×List (Int×Int))),aEk s.3 n [a,b,c] x→bif ilt (↑x.1:Int) 4 then(lE' s.3∧((0:Int)≤n∧n≤(100000:Int))∧(-1000000:Int)≤(↑x.1:Int)∧(↑x.1:Int)≤(1000000:Int))∧okSt (xT t n a b c s (↑(Prod.fst x):Int)) (Hint.ok (xT t n a b c s (↑(Prod.fst x):Int))) (.ptr 0 0::.O::.slice 2 0 3 1::.O::.ptr 6 0::.O::.O::.map 7::.O::.O::.O::.O::.int .i64 (↑x.1:Int)::(tO' 40 (.slice 8 0 (List.length (ndF s.3 n (↑x.1:Int))) 1::.int .i64 (↑(List.length (ndF s.3 n (↑x.1:Int))):Int)::.int .i64 0::(tO' 29 [])))) [some (.cells [.int .i64 s.1,.int .i64 s.2,.slice 1 0 (List.length s.3) 1,.int .i64 s.4,.int .i64 s.5,.int .i64 s.6,.int .u64 s.7,.int .u64 s.8,.bool s.9]),some (.ints (some .u64) s.3),some (.cells [.ptr 3 0,.ptr 4 0,.ptr 5 0]),some (.abs (.store t n a) []),some (.abs (.store t n b) []),some (.abs (.store t n c) []),some (.cells [.int .i64 t,.int .i64 n]),some (.imap .i64 (some .i64) x.2),some (.ints (some .i64) (ndF s.3 n (↑x.1:Int)))]∧ ∀(x_1:(Nat×List (Int×Int))),aEl s.3 n [a,b,c] (↑x.1:Int) x_1→bif ilt (↑x_1.1:Int) (↑(List.length (ndF s.3 n (↑x.1:Int))):Int)then((0:Int)≤(↑x_1.1:Int)∧(↑x_1.1:Int)<(↑(List.length (ndF s.3 n (↑x.1:Int))):Int))∧0+Int.toNat (↑x_1.1:Int)*(1:Nat)<List.length (ndF s.3 n (↑x.1:Int))∧bif ilt 1 (Option.getD (mget (cL (Prod.snd x_1) (List.getD (ndF (MS.xs s) n (↑(Prod.fst x):Int)) (0+Int.toNat (↑(Prod.fst x_1):Int)*1) 0) (W (Option.getD (mget (Prod.snd x_1) (List.getD (ndF (MS.xs s) n (↑(Prod.fst x):Int)) (0+Int.toNat (↑(Prod.fst x_1):Int)*1) 0)) 0+1))) (List.getD (ndF s.3 n (↑x.1:Int)) (0+Int.toNat (↑x_1.1:Int)*1) 0)) 0)then K (.bool false) [some (.cells [.int .i64 s.1,.int .i64 s.2,.slice 1 0 (List.length s.3) 1,.int .i64 s.4,.int .i64 s.5,.int .i64 s.6,.int .u64 s.7,.int .u64 s.8,.bool s.9]),some (.ints (some .u64) s.3),some (.cells [.ptr 3 0,.ptr 4 0,.ptr 5 0]),some (.abs (.store t n a) []),some (.abs (.store t n b) []),some (.abs (.store t n c) [])]else(lE' s.3∧((0:Int)≤t∧t≤(100000:Int))∧(0:Int)≤n∧n≤(100000:Int))∧bif !cZ s.3 n (List.getD (ndF s.3 n (↑x.1:Int)) (0+Int.toNat (↑x_1.1:Int)*1) 0)then K (.bool false) [some (.cells [.int .i64 s.1,.int .i64 s.2,.slice 1 0 (List.length s.3) 1,.int .i64 s.4,.int .i64 s.5,.int .i64 s.6,.int .u64 s.7,.int .u64 s.8,.bool s.9]),some (.ints (some .u64) s.3),some (.cells [.ptr 3 0,.ptr 4 0,.ptr 5 0]),some (.abs (.store t n a) []),some (.abs (.store t n b) []),some (.abs (.store t n c) [])]else okSt (xT t n a b c s (↑(Prod.fst x):Int)) (fun x'=>Hint.ok (xT t n a b c s (↑(Prod.fst x):Int)) x'∧Hint.mu (xT t n a b c s (↑(Prod.fst x):Int)) x'<Hint.mu (xT t n a b c s (↑(Prod.fst x):Int)) x_1) (.ptr 0 0::.O::.slice 2 0 3 1::.O::.ptr 6 0::.O::.O::.map 7::.O::.O::.O::.O::.int .i64 (↑x.1:Int)::(tO' 40 (.slice 8 0 (List.length (ndF s.3 n (↑x.1:Int))) 1::.int .i64 (↑(List.length (ndF s.3 n (↑x.1:Int))):Int)::.int .i64 (W ((↑x_1.1:Int)+1))::(tO' 29 [])))) [some (.cells [.int .i64 s.1,.int .i64 s.2,.slice 1 0 (List.length s.3) 1,.int .i64 s.4,.int .i64 s.5,.int .i64 s.6,.int .u64 s.7,.int .u64 s.8,.bool s.9]),some (.ints (some .u64) s.3),some (.cells [.ptr 3 0,.ptr 4 0,.ptr 5 0]),some (.abs (.store t n a) []),some (.abs (.store t n b) []),some (.abs (.store t n c) []),some (.cells [.int .i64 t,.int .i64 n]),some (.imap .i64 (some .i64) (cL x_1.2 (List.getD (ndF s.3 n (↑x.1:Int)) (0+Int.toNat (↑x_1.1:Int)*1) 0) (W (Option.getD (mget (Prod.snd x_1) (List.getD (ndF s.3 n (↑x.1:Int)) (0+Int.toNat (↑x_1.1:Int)*1) 0)) 0+1)))),some (.ints (some .i64) (ndF s.3 n (↑x.1:Int)))]else okSt (xS t n a b c s) (fun x'=>Hint.ok (xS t n a b c s) x'∧Hint.mu (xS t n a b c s) x'<Hint.mu (xS t n a b c s) x) (.ptr 0 0::.O::.slice 2 0 3 1::.O::.ptr 6 0::.O::.O::.map 7::.O::.O::.O::.O::.int .i64 (W ((↑x.1:Int)+1))::(tO' 72 [])) [some (.cells [.int .i64 s.1,.int .i64 s.2,.slice 1 0 (List.length s.3) 1,.int .i64 s.4,.int .i64 s.5,.int .i64 s.6,.int .u64 s.7,.int .u64 s.8,.bool s.9]),some (.ints (some .u64) s.3),some (.cells [.ptr 3 0,.ptr 4 0,.ptr 5 0]),some (.abs (.store t n a) []),some (.abs (.store t n b) []),some (.abs (.store t n c) []),some (.cells [.int .i64 t,.int .i64 n]),some (.imap .i64 (some .i64) x_1.2)]else((lE' s.3∧((0:Int)≤t∧t≤(100000:Int))∧(0:Int)≤n∧n≤(100000:Int))∧True)∧K (.bool (ieq (↑(List.length x.2):Int) (W (n - (↑(List.length (i5 s.3 n)):Int))))) [some (.cells [.int .i64 s.1,.int .i64 s.2,.slice 1 0 (List.length s.3) 1,.int .i64 s.4,.int .i64 s.5,.int .i64 s.6,.int .u64 s.7,.int .u64 s.8,.bool s.9]),some (.ints (some .u64) s.3),some (.cells [.ptr 3 0,.ptr 4 0,.ptr 5 0]),some (.abs (.store t n a) []),some (.abs (.store t n b) []),some (.abs (.store t n c) [])]
theorem NA(t n:Int)(a b c:STS)(s:MS)(K:AVal→aD Ob→Prop)(h:J1 t n a b c s K):cT' 36 [.ptr 0 0,.agg [.int .i64 t,.int .i64 n],.slice 2 0 3 1] [aY 1 s,aZ s,some (.cells [.ptr 3 0,.ptr 4 0,.ptr 5 0]),some (.abs (.store t n a) []),some (.abs (.store t n b) []),some (.abs (.store t n c) [])] K:=by
 refine aFQ (aE (E:=EK1) Tryz.checked.mixed (L:=(aD1 t n a b c s)) (n:=10) (aN (by kernel_rfl) h))
theorem A5: ∀(S:List STS) (N:List Int),fulL S N=D3 S++N
 | [],N=>rfl
 | st::S,N=>by
   show aO st.sp st.R++fulL S N=_
   rw [A5 S N];unfold D3;simp
theorem Q8(sp:Int)(R:List Int):(aO sp R).length ≤R.length+1:=by
 unfold aO
 cases ieq sp 0 with
 | true=>exact Nat.le_succ _
 | false=>exact Nat.le_refl _
theorem aBJ(t n:Int)(a b c:STS)(s:MS)(K:AVal→aD Ob→Prop)(ht:0≤t∧t≤100000)(hn:0≤n∧n≤100000)(hRa:a.R.length≤1000000)(hRb:b.R.length≤1000000)(hRc:c.R.length≤1000000)(hK:K (.bool (jY s.xs n [a,b,c])) [aY 1 s,aZ s,some (.cells [.ptr 3 0,.ptr 4 0,.ptr 5 0]),some (.abs (.store t n a) []),some (.abs (.store t n b) []),some (.abs (.store t n c) [])]):J1 t n a b c s K:=by
 unfold J1
 have hlF:(i5 s.xs n).length ≤n.toNat:=by
  have eT:i5 s.xs n=gS s.xs n n.toNat:=rfl
  rw [eT];exact yZ _ _ _
 have hK0:dX s.xs n (fulL [a,b,c] (d7 s.xs n)) []=none→K (.bool false) [aY 1 s,aZ s,some (.cells [.ptr 3 0,.ptr 4 0,.ptr 5 0]),some (.abs (.store t n a) []),some (.abs (.store t n b) []),some (.abs (.store t n c) [])]:=by
  intro h
  rw [A5]at h
  have:jY s.xs n [a,b,c]=false:=by unfold jY;rw [h]
  rw [this]at hK;exact hK
 have hK1: ∀m,dX s.xs n (fulL [a,b,c] (d7 s.xs n)) []=some m→K (.bool (ieq (m.length:Int) (W (n - ((i5 s.xs n).length :Int))))) [aY 1 s,aZ s,some (.cells [.ptr 3 0,.ptr 4 0,.ptr 5 0]),some (.abs (.store t n a) []),some (.abs (.store t n b) []),some (.abs (.store t n c) [])]:=by
  intro m h
  rw [A5]at h
  have:jY s.xs n [a,b,c]=ieq (m.length:Int) (n - ((i5 s.xs n).length :Int)):=by unfold jY;rw [h]
  rw [this]at hK
  have e:W (n - ((i5 s.xs n).length :Int))=n - ((i5 s.xs n).length :Int):=cJ (by omega)
  rw [e];exact hK
 clear hK
 refine⟨⟨by decide,by decide⟩,hRa,aK (H:=HG1' t n a b c s 0) ((0:Nat),[]) rfl ⟨Nat.zero_le _,rfl⟩,?_⟩
 rintro⟨i,m⟩ ⟨hi,heq⟩
 have hi:i≤(aO a.sp a.R).length :=hi
 have heq:dX s.xs n (fulL [a,b,c] (d7 s.xs n)) []=dX s.xs n ((aO a.sp a.R).drop i++fulL [b,c] (d7 s.xs n)) m:=heq
 have hlB:=Q8 a.sp a.R
 refine aL (fun e=>?_) (fun e=>?_)
 ·rw [bJ,dT']at e
  have e:(i:Int)<((aO a.sp a.R).length :Int):=e
  have hi2:i<(aO a.sp a.R).length :=by omega
  have e4:W ((i:Int)+1)=((i+1:Nat):Int):=(cJ (by omega)).trans rfl
  rw [List.drop_eq_getElem_cons hi2,List.cons_append,BR]at heq
  refine⟨⟨by omega,e⟩,by show 0+Int.toNat (i:Int)*1<(aO a.sp a.R).length;omega,?_⟩
  show bif ilt 1 ((mget (cL m (List.getD (aO a.sp a.R) (0+Int.toNat (i:Int)*1) 0) (W ((mget m (List.getD (aO a.sp a.R) (0+Int.toNat (i:Int)*1) 0)).getD 0+1))) (List.getD (aO a.sp a.R) (0+Int.toNat (i:Int)*1) 0)).getD 0)then _ else _
  rw [vG]
  have hat:=vC hi2
  refine aL (fun e2=>?_) (fun e2=>⟨⟨rfl,ht,hn⟩,aL (fun e3=>?_) (fun e3=>?_)⟩)
  ·rw [hat]at e2
   exact hK0 (heq.trans (by rw [e2];rfl))
  ·have e3:(!cZ s.xs n (List.getD (aO a.sp a.R) (0+Int.toNat (i:Int)*1) 0))=true:=e3
   rw [hat]at e3
   exact hK0 (heq.trans (by rw [e3,Bool.or_true];rfl))
  ·have e3:(!cZ s.xs n (List.getD (aO a.sp a.R) (0+Int.toNat (i:Int)*1) 0))=false:=e3
   rw [hat]at e3 e2
   rw [e2,e3]at heq
   refine aK (H:=HG1' t n a b c s 0) ((i+1:Nat),cL m (aO a.sp a.R)[i] (W ((mget m (aO a.sp a.R)[i]).getD 0+1))) ?_ ⟨⟨hi2,heq⟩,by show(aO a.sp a.R).length - (i+1)<(aO a.sp a.R).length - i;omega⟩
   simp only [HG1',←hat,←e4]
   rfl
 ·rw [bJ,dF']at e
  have e: ¬(i:Int)<((aO a.sp a.R).length :Int):=e
  rw [List.drop_eq_nil_of_le (by omega),List.nil_append]at heq
  refine⟨⟨by decide,by decide⟩,hRb,aK (H:=HG1' t n a b c s 1) ((0:Nat),m) rfl ⟨Nat.zero_le _,heq⟩,?_⟩
  clear heq
  rintro⟨i,m⟩ ⟨hi,heq⟩
  have hi:i≤(aO b.sp b.R).length :=hi
  have heq:dX s.xs n (fulL [a,b,c] (d7 s.xs n)) []=dX s.xs n ((aO b.sp b.R).drop i++fulL [c] (d7 s.xs n)) m:=heq
  have hlB:=Q8 b.sp b.R
  refine aL (fun e=>?_) (fun e=>?_)
  ·rw [bJ,dT']at e
   have e:(i:Int)<((aO b.sp b.R).length :Int):=e
   have hi2:i<(aO b.sp b.R).length :=by omega
   have e4:W ((i:Int)+1)=((i+1:Nat):Int):=(cJ (by omega)).trans rfl
   rw [List.drop_eq_getElem_cons hi2,List.cons_append,BR]at heq
   refine⟨⟨by omega,e⟩,by show 0+Int.toNat (i:Int)*1<(aO b.sp b.R).length;omega,?_⟩
   show bif ilt 1 ((mget (cL m (List.getD (aO b.sp b.R) (0+Int.toNat (i:Int)*1) 0) (W ((mget m (List.getD (aO b.sp b.R) (0+Int.toNat (i:Int)*1) 0)).getD 0+1))) (List.getD (aO b.sp b.R) (0+Int.toNat (i:Int)*1) 0)).getD 0)then _ else _
   rw [vG]
   have hat:=vC hi2
   refine aL (fun e2=>?_) (fun e2=>⟨⟨rfl,ht,hn⟩,aL (fun e3=>?_) (fun e3=>?_)⟩)
   ·rw [hat]at e2
    exact hK0 (heq.trans (by rw [e2];rfl))
   ·have e3:(!cZ s.xs n (List.getD (aO b.sp b.R) (0+Int.toNat (i:Int)*1) 0))=true:=e3
    rw [hat]at e3
    exact hK0 (heq.trans (by rw [e3,Bool.or_true];rfl))
   ·have e3:(!cZ s.xs n (List.getD (aO b.sp b.R) (0+Int.toNat (i:Int)*1) 0))=false:=e3
    rw [hat]at e3 e2
    rw [e2,e3]at heq
    refine aK (H:=HG1' t n a b c s 1) ((i+1:Nat),cL m (aO b.sp b.R)[i] (W ((mget m (aO b.sp b.R)[i]).getD 0+1))) ?_ ⟨⟨hi2,heq⟩,by show(aO b.sp b.R).length - (i+1)<(aO b.sp b.R).length - i;omega⟩
    simp only [HG1',←hat,←e4]
    rfl
  ·rw [bJ,dF']at e
   have e: ¬(i:Int)<((aO b.sp b.R).length :Int):=e
   rw [List.drop_eq_nil_of_le (by omega),List.nil_append]at heq
   refine⟨⟨by decide,by decide⟩,hRc,aK (H:=HG1' t n a b c s 2) ((0:Nat),m) rfl ⟨Nat.zero_le _,heq⟩,?_⟩
   clear heq
   rintro⟨i,m⟩ ⟨hi,heq⟩
   have hi:i≤(aO c.sp c.R).length :=hi
   have heq:dX s.xs n (fulL [a,b,c] (d7 s.xs n)) []=dX s.xs n ((aO c.sp c.R).drop i++fulL [] (d7 s.xs n)) m:=heq
   have hlB:=Q8 c.sp c.R
   refine aL (fun e=>?_) (fun e=>?_)
   ·rw [bJ,dT']at e
    have e:(i:Int)<((aO c.sp c.R).length :Int):=e
    have hi2:i<(aO c.sp c.R).length :=by omega
    have e4:W ((i:Int)+1)=((i+1:Nat):Int):=(cJ (by omega)).trans rfl
    rw [List.drop_eq_getElem_cons hi2,List.cons_append,BR]at heq
    refine⟨⟨by omega,e⟩,by show 0+Int.toNat (i:Int)*1<(aO c.sp c.R).length;omega,?_⟩
    show bif ilt 1 ((mget (cL m (List.getD (aO c.sp c.R) (0+Int.toNat (i:Int)*1) 0) (W ((mget m (List.getD (aO c.sp c.R) (0+Int.toNat (i:Int)*1) 0)).getD 0+1))) (List.getD (aO c.sp c.R) (0+Int.toNat (i:Int)*1) 0)).getD 0)then _ else _
    rw [vG]
    have hat:=vC hi2
    refine aL (fun e2=>?_) (fun e2=>⟨⟨rfl,ht,hn⟩,aL (fun e3=>?_) (fun e3=>?_)⟩)
    ·rw [hat]at e2
     exact hK0 (heq.trans (by rw [e2];rfl))
    ·have e3:(!cZ s.xs n (List.getD (aO c.sp c.R) (0+Int.toNat (i:Int)*1) 0))=true:=e3
     rw [hat]at e3
     exact hK0 (heq.trans (by rw [e3,Bool.or_true];rfl))
    ·have e3:(!cZ s.xs n (List.getD (aO c.sp c.R) (0+Int.toNat (i:Int)*1) 0))=false:=e3
     rw [hat]at e3 e2
     rw [e2,e3]at heq
     refine aK (H:=HG1' t n a b c s 2) ((i+1:Nat),cL m (aO c.sp c.R)[i] (W ((mget m (aO c.sp c.R)[i]).getD 0+1))) ?_ ⟨⟨hi2,heq⟩,by show(aO c.sp c.R).length - (i+1)<(aO c.sp c.R).length - i;omega⟩
     simp only [HG1',←hat,←e4]
     rfl
   ·rw [bJ,dF']at e
    have e: ¬(i:Int)<((aO c.sp c.R).length :Int):=e
    rw [List.drop_eq_nil_of_le (by omega),List.nil_append]at heq
    have hN:fulL [] (d7 s.xs n)=ndsT s.xs n 0 4:=by
     show d7 s.xs n=_
     unfold d7
     show _=ndF s.xs n 0++(ndF s.xs n 1++(ndF s.xs n 2++(ndF s.xs n 3++ [])))
     rw [List.append_nil]
    refine⟨aK (H:=xS t n a b c s) ((0:Nat),m) rfl ⟨Nat.zero_le _,by exact heq.trans (by rw [hN];rfl)⟩,?_⟩
    clear heq e hi
    rintro⟨h,m⟩ ⟨hh,heq⟩
    simp only at hh heq
    refine aL (fun e=>?_) (fun e=>?_)
    ·rw [bJ,dT']at e
     have e:(h:Int)<4:=e
     have e5:W ((h:Int)+1)=((h+1:Nat):Int):=(cJ (by omega)).trans rfl
     refine⟨⟨rfl,hn,by show(-1000000:Int)≤(h:Int);omega,by show(h:Int)≤1000000;omega⟩,aK (H:=xT t n a b c s (h:Int)) ((0:Nat),m) rfl ⟨⟨by omega,e⟩,Nat.zero_le _,?_⟩,?_⟩
     ·rw [aEg _ _ _ (by omega)]at heq
      exact heq
     ·rintro⟨i,m⟩ ⟨_,hi,heq⟩
      simp only [Int.toNat_natCast]at hi heq
      have hlC:=J9 s.xs n (h:Int)
      generalize hC:ndF s.xs n (h:Int)=C at*
      refine aL (fun e2=>?_) (fun e2=>?_)
      ·rw [bJ,dT']at e2
       have e2:(i:Int)<(C.length:Int):=e2
       have hi2:i<C.length:=by omega
       have e4:W ((i:Int)+1)=((i+1:Nat):Int):=(cJ (by omega)).trans rfl
       rw [List.drop_eq_getElem_cons hi2,List.cons_append,BR]at heq
       refine⟨⟨by omega,e2⟩,by show 0+Int.toNat (i:Int)*1<C.length;omega,?_⟩
       show bif ilt 1 ((mget (cL m (List.getD C (0+Int.toNat (i:Int)*1) 0) (W ((mget m (List.getD C (0+Int.toNat (i:Int)*1) 0)).getD 0+1))) (List.getD C (0+Int.toNat (i:Int)*1) 0)).getD 0)then _ else _
       rw [vG]
       have hat:=vC hi2
       refine aL (fun e2=>?_) (fun e2=>⟨⟨rfl,ht,hn⟩,aL (fun e3=>?_) (fun e3=>?_)⟩)
       ·rw [hat]at e2
        exact hK0 (heq.trans (by rw [e2];rfl))
       ·have e3:(!cZ s.xs n (List.getD C (0+Int.toNat (i:Int)*1) 0))=true:=e3
        rw [hat]at e3
        exact hK0 (heq.trans (by rw [e3,Bool.or_true];rfl))
       ·have e3:(!cZ s.xs n (List.getD C (0+Int.toNat (i:Int)*1) 0))=false:=e3
        rw [hat]at e3 e2
        rw [e2,e3]at heq
        refine aK (H:=xT t n a b c s (h:Int)) ((i+1:Nat),cL m C[i] (W ((mget m C[i]).getD 0+1))) ?_ ⟨⟨⟨by omega,e⟩,by rw [hC];exact hi2,by rw [hC,Int.toNat_natCast];exact heq⟩,by show(ndF s.xs n (h:Int)).length - (i+1)<(ndF s.xs n (h:Int)).length - i;rw [hC];omega⟩
        simp only [xT,hC,←hat,←e4]
        rfl
      ·rw [bJ,dF']at e2
       have e2: ¬(i:Int)<(C.length:Int):=e2
       rw [List.drop_eq_nil_of_le (by omega),List.nil_append]at heq
       refine aK (H:=xS t n a b c s) ((h+1:Nat),m) ?_ ⟨⟨by show h+1≤4;omega,?_⟩,by show 4 - (h+1)<4 - h;omega⟩
       ·simp only [xS,←e5]
        rfl
       ·rw [heq]
        show _=dX s.xs n (ndsT s.xs n (h+1) (4 - (h+1))) m
        rw [show 4 - (h+1)=3 - h by omega]
    ·rw [bJ,dF']at e
     have e: ¬(h:Int)<4:=e
     have h4:h=4:=by omega
     subst h4
     exact⟨⟨⟨rfl,ht,hn⟩,trivial⟩,hK1 m heq⟩
def hltS:aG Ob:=fun args h=>match args,h with
 | [.ptr 0 0,.agg [.int .i64 t,.int .i64 n],.slice 2 0 3 1],[e1,e2,some (.cells [.ptr 3 0,.ptr 4 0,.ptr 5 0]),some (.abs (.store ta na a) []),some (.abs (.store tb nb b) []),some (.abs (.store tc nc c) [])]=>(match cU 1 [e1,e2]with
   | some (l,s)=>some (.pre ((l=s.xs.length∧ta=t∧na=n∧tb=t∧nb=n∧tc=t∧nc=n)∧(0≤t∧t≤100000)∧(0≤n∧n≤100000)∧a.R.length≤1000000∧b.R.length≤1000000∧c.R.length≤1000000) (.ret (.bool (jY s.xs n [a,b,c])) [aY 1 s,aZ s,some (.cells [.ptr 3 0,.ptr 4 0,.ptr 5 0]),some (.abs (.store t n a) []),some (.abs (.store t n b) []),some (.abs (.store t n c) [])]))
   | none=>none)
 | _,_=>none
theorem aBI:sT' 36 hltS:=by
 intro args h o ho K hK
 unfold hltS at ho
 split at ho
 case h_2=>cases ho
 rename_i t n e1 e2 ta na a tb nb b tc nc c
 split at ho<;>cases ho
 rename_i l s hm
 obtain⟨⟨⟨hl,rfl,rfl,rfl,rfl,rfl,rfl⟩,h0,h1,h2,h3,h4⟩,hK⟩:=hK
 have hh:=bB hm hl
 cases hh
 exact NA _ _ a b c s K (aBJ _ _ a b c s K h0 h1 h2 h3 h4 hK)
noncomputable def EK2:=EK1.addS 36 hltS aBI
structure OI (xs:List Int) (t n:Int):Prop where
 g: ∀nd:Int,1≤nd→nd≤n→gdT xs n nd (2*t).toNat =false
 p: ∀u:Int,0≤u→u<t→pndB xs t n u=false
structure aEx (n:Int) (i:Nat):Prop where
 h:(i:Int)≤n
structure aEy (t:Int) (i:Nat):Prop where
 h:(i:Int)≤t
def TR(t n:Int)(a b c:STS)(s:MS):Hint Ob:= {X:=Nat,st:=fun i=>([.ptr 0 0,.O,.slice 2 0 3 1,.O,.ptr 6 0,.O,.O,.int .i64 ((i:Int)+1)]++List.replicate 25 .O,[aY 1 s,aZ s,some (.cells [.ptr 3 0,.ptr 4 0,.ptr 5 0]),some (.abs (.store t n a) []),some (.abs (.store t n b) []),some (.abs (.store t n c) []),some (.cells [.int .i64 t,.int .i64 n])]),ok:=aEx n,mu:=fun i=>n.toNat - i,keep:=[0,2,4,7] }
def TT(t n:Int)(a b c:STS)(s:MS):Hint Ob:= {X:=Nat,st:=fun i=>([.ptr 0 0,.O,.slice 2 0 3 1,.O,.ptr 6 0,.O,.O,.O,.int .i64 (i:Int)]++List.replicate 24 .O,[aY 1 s,aZ s,some (.cells [.ptr 3 0,.ptr 4 0,.ptr 5 0]),some (.abs (.store t n a) []),some (.abs (.store t n b) []),some (.abs (.store t n c) []),some (.cells [.int .i64 t,.int .i64 n])]),ok:=aEy t,mu:=fun i=>t.toNat - i,keep:=[0,2,4,8] }
def aEC(t n:Int)(a b c:STS)(s:MS):FuncId→Nat→Option (p7 Ob):=fun _ k=>if k=2 then some (.states (TR t n a b c s))else if k=7 then some (.states (TT t n a b c s))else none
def KH(t n:Int)(a b c:STS)(s:MS)(K:AVal→aD Ob→Prop):Prop:=okSt (TR t n a b c s) (Hint.ok (TR t n a b c s)) (.ptr 0 0::.O::.slice 2 0 3 1::.O::.ptr 6 0::.O::.O::.int .i64 1::(tO' 25 [])) [some (.cells [.int .i64 s.1,.int .i64 s.2,.slice 1 0 (List.length s.3) 1,.int .i64 s.4,.int .i64 s.5,.int .i64 s.6,.int .u64 s.7,.int .u64 s.8,.bool s.9]),some (.ints (some .u64) s.3),some (.cells [.ptr 3 0,.ptr 4 0,.ptr 5 0]),some (.abs (.store t n a) []),some (.abs (.store t n b) []),some (.abs (.store t n c) []),some (.cells [.int .i64 t,.int .i64 n])]∧ ∀(x:Nat),aEx n x→bif ile ((↑x:Int)+1) n then(lE' s.3∧((0:Int)≤t∧t≤(100000:Int))∧((0:Int)≤n∧n≤(100000:Int))∧(1:Int)≤(↑x:Int)+1∧(↑x:Int)+(1:Int)≤(100000:Int))∧bif gdT s.3 n ((↑x:Int)+1) (Int.toNat (2*t))then K (.bool false) [some (.cells [.int .i64 s.1,.int .i64 s.2,.slice 1 0 (List.length s.3) 1,.int .i64 s.4,.int .i64 s.5,.int .i64 s.6,.int .u64 s.7,.int .u64 s.8,.bool s.9]),some (.ints (some .u64) s.3),some (.cells [.ptr 3 0,.ptr 4 0,.ptr 5 0]),some (.abs (.store t n a) []),some (.abs (.store t n b) []),some (.abs (.store t n c) [])]else okSt (TR t n a b c s) (fun x'=>Hint.ok (TR t n a b c s) x'∧Hint.mu (TR t n a b c s) x'<Hint.mu (TR t n a b c s) x) (.ptr 0 0::.O::.slice 2 0 3 1::.O::.ptr 6 0::.O::.O::.int .i64 (W ((↑x:Int)+1+1))::(tO' 25 [])) [some (.cells [.int .i64 s.1,.int .i64 s.2,.slice 1 0 (List.length s.3) 1,.int .i64 s.4,.int .i64 s.5,.int .i64 s.6,.int .u64 s.7,.int .u64 s.8,.bool s.9]),some (.ints (some .u64) s.3),some (.cells [.ptr 3 0,.ptr 4 0,.ptr 5 0]),some (.abs (.store t n a) []),some (.abs (.store t n b) []),some (.abs (.store t n c) []),some (.cells [.int .i64 t,.int .i64 n])]else okSt (TT t n a b c s) (Hint.ok (TT t n a b c s)) (.ptr 0 0::.O::.slice 2 0 3 1::.O::.ptr 6 0::.O::.O::.O::.int .i64 0::(tO' 24 [])) [some (.cells [.int .i64 s.1,.int .i64 s.2,.slice 1 0 (List.length s.3) 1,.int .i64 s.4,.int .i64 s.5,.int .i64 s.6,.int .u64 s.7,.int .u64 s.8,.bool s.9]),some (.ints (some .u64) s.3),some (.cells [.ptr 3 0,.ptr 4 0,.ptr 5 0]),some (.abs (.store t n a) []),some (.abs (.store t n b) []),some (.abs (.store t n c) []),some (.cells [.int .i64 t,.int .i64 n])]∧ ∀(x:Nat),aEy t x→bif ilt (↑x:Int) t then(lE' s.3∧((0:Int)≤t∧t≤(100000:Int))∧(0:Int)≤n∧n≤(100000:Int))∧bif pndB s.3 t n (↑x:Int)then K (.bool false) [some (.cells [.int .i64 s.1,.int .i64 s.2,.slice 1 0 (List.length s.3) 1,.int .i64 s.4,.int .i64 s.5,.int .i64 s.6,.int .u64 s.7,.int .u64 s.8,.bool s.9]),some (.ints (some .u64) s.3),some (.cells [.ptr 3 0,.ptr 4 0,.ptr 5 0]),some (.abs (.store t n a) []),some (.abs (.store t n b) []),some (.abs (.store t n c) [])]else okSt (TT t n a b c s) (fun x'=>Hint.ok (TT t n a b c s) x'∧Hint.mu (TT t n a b c s) x'<Hint.mu (TT t n a b c s) x) (.ptr 0 0::.O::.slice 2 0 3 1::.O::.ptr 6 0::.O::.O::.O::.int .i64 (W ((↑x:Int)+1))::(tO' 24 [])) [some (.cells [.int .i64 s.1,.int .i64 s.2,.slice 1 0 (List.length s.3) 1,.int .i64 s.4,.int .i64 s.5,.int .i64 s.6,.int .u64 s.7,.int .u64 s.8,.bool s.9]),some (.ints (some .u64) s.3),some (.cells [.ptr 3 0,.ptr 4 0,.ptr 5 0]),some (.abs (.store t n a) []),some (.abs (.store t n b) []),some (.abs (.store t n c) []),some (.cells [.int .i64 t,.int .i64 n])]else((lE' s.3∧t=t∧n=n∧t=t∧n=n∧t=t∧n=n)∧((0:Int)≤t∧t≤(100000:Int))∧((0:Int)≤n∧n≤(100000:Int))∧List.length a.3≤(1000000:Nat)∧List.length b.3≤(1000000:Nat)∧List.length c.3≤(1000000:Nat))∧K (.bool (jY s.3 n [a,b,c])) [some (.cells [.int .i64 s.1,.int .i64 s.2,.slice 1 0 (List.length s.3) 1,.int .i64 s.4,.int .i64 s.5,.int .i64 s.6,.int .u64 s.7,.int .u64 s.8,.bool s.9]),some (.ints (some .u64) s.3),some (.cells [.ptr 3 0,.ptr 4 0,.ptr 5 0]),some (.abs (.store t n a) []),some (.abs (.store t n b) []),some (.abs (.store t n c) [])]
theorem OJ(t n:Int)(a b c:STS)(s:MS)(K:AVal→aD Ob→Prop)(h:KH t n a b c s K):cT' 57 [.ptr 0 0,.agg [.int .i64 t,.int .i64 n],.slice 2 0 3 1] [aY 1 s,aZ s,some (.cells [.ptr 3 0,.ptr 4 0,.ptr 5 0]),some (.abs (.store t n a) []),some (.abs (.store t n b) []),some (.abs (.store t n c) [])] K:=by
 refine aFQ (aE (E:=EK2) Tryz.checked.mixed (L:=(aEC t n a b c s)) (n:=10) (aN (by kernel_rfl) h))
theorem aCu(t n:Int)(a b c:STS)(s:MS)(K:AVal→aD Ob→Prop)(ht:0≤t∧t≤100000)(hn:0≤n∧n<100000)(hRa:a.R.length≤1000000)(hRb:b.R.length≤1000000)(hRc:c.R.length≤1000000)(hq:OI s.xs t n)(hK:K (.bool (jY s.xs n [a,b,c])) [aY 1 s,aZ s,some (.cells [.ptr 3 0,.ptr 4 0,.ptr 5 0]),some (.abs (.store t n a) []),some (.abs (.store t n b) []),some (.abs (.store t n c) [])]):KH t n a b c s K:=by
 unfold KH
 refine⟨aK (H:=TR t n a b c s) (0:Nat) rfl ⟨by show((0:Nat):Int)≤n;omega⟩,?_⟩
 rintro i ⟨hi⟩
 refine aL (fun e=>?_) (fun e=>?_)
 ·rw [bX,dT']at e
  have e1:W ((i:Int)+1+1)=((i+1:Nat):Int)+1:=(cJ (by omega)).trans (by omega)
  refine⟨⟨rfl,ht,⟨hn.1,by omega⟩,by omega,by omega⟩,?_⟩
  rw [hq.g ((i:Int)+1) (by omega) e]
  exact aK (H:=TR t n a b c s) (i+1:Nat) (by simp only [TR,e1]<;>rfl) ⟨⟨by show((i+1:Nat):Int)≤n;omega⟩,by show n.toNat - (i+1)<n.toNat - i;omega⟩
 ·clear hi e
  refine⟨aK (H:=TT t n a b c s) (0:Nat) rfl ⟨by show((0:Nat):Int)≤t;omega⟩,?_⟩
  rintro i ⟨hi⟩
  refine aL (fun e=>?_) (fun e=>?_)
  ·rw [bJ,dT']at e
   have e1:W ((i:Int)+1)=((i+1:Nat):Int):=(cJ (by omega)).trans rfl
   refine⟨⟨rfl,ht,hn.1,by omega⟩,?_⟩
   rw [hq.p (i:Int) (by omega) e]
   exact aK (H:=TT t n a b c s) (i+1:Nat) (by simp only [TT,e1]<;>rfl) ⟨⟨by show((i+1:Nat):Int)≤t;omega⟩,by show t.toNat - (i+1)<t.toNat - i;omega⟩
  ·exact⟨⟨⟨rfl,rfl,rfl,rfl,rfl,rfl,rfl⟩,ht,⟨hn.1,by omega⟩,hRa,hRb,hRc⟩,hK⟩
def quiS:aG Ob:=fun args h=>match args,h with
 | [.ptr 0 0,.agg [.int .i64 t,.int .i64 n],.slice 2 0 3 1],[e1,e2,some (.cells [.ptr 3 0,.ptr 4 0,.ptr 5 0]),some (.abs (.store ta na a) []),some (.abs (.store tb nb b) []),some (.abs (.store tc nc c) [])]=>(match cU 1 [e1,e2]with
   | some (l,s)=>some (.pre ((l=s.xs.length∧ta=t∧na=n∧tb=t∧nb=n∧tc=t∧nc=n)∧(0≤t∧t≤100000)∧(0≤n∧n<100000)∧a.R.length≤1000000∧b.R.length≤1000000∧c.R.length≤1000000∧OI s.xs t n) (.ret (.bool (jY s.xs n [a,b,c])) [aY 1 s,aZ s,some (.cells [.ptr 3 0,.ptr 4 0,.ptr 5 0]),some (.abs (.store t n a) []),some (.abs (.store t n b) []),some (.abs (.store t n c) [])]))
   | none=>none)
 | _,_=>none
theorem aCt:sT' 57 quiS:=by
 intro args h o ho K hK
 unfold quiS at ho
 split at ho
 case h_2=>cases ho
 rename_i t n e1 e2 ta na a tb nb b tc nc c
 split at ho<;>cases ho
 rename_i l s hm
 obtain⟨⟨⟨hl,rfl,rfl,rfl,rfl,rfl,rfl⟩,h0,h1,h2,h3,h4,h5⟩,hK⟩:=hK
 have hh:=bB hm hl
 cases hh
 exact OJ _ _ a b c s K (aCu _ _ a b c s K h0 h1 h2 h3 h4 h5 hK)
noncomputable def EK3:=EK2.addS 57 quiS aCt
end Go.Sh
