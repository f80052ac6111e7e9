import Derived.Test.YteindpciaceeeaaGreatZGD
set_option linter.all false
set_option maxHeartbeats 8000000
namespace Go.Sh
open Go Go.Proofs
variable [Con]
instance:Inhabited STS:=⟨⟨0,0,[]⟩⟩
instance:Inhabited WKS:=⟨⟨0,0,⟨0,0,[]⟩,[],0,false,d3,[],[]⟩⟩
def aX(ws:List WKS)(i:Nat):WKS:=ws.getD i default
def cG(ws:List WKS)(i:Nat)(w:WKS):List WKS:=ws.set i w
theorem CY{ws:List WKS}{i:Nat}(h:i<ws.length):(ws.map fun w=>some (Mc.worker w))[i]? =some (some (.worker (aX ws i))):=by
 unfold aX;simp only [List.getElem?_map,gD'];rw [gE' h];rfl
theorem LQ(ws:List WKS)(i:Nat)(w:WKS):(cG ws i w).map (fun w=>some (Mc.worker w))=(ws.map fun w=>some (Mc.worker w)).set i (some (.worker w)):=by
 unfold cG;simp [List.map_set]
def RKW:gF tbl where
 R:=List WKS
 row:=.wrow
 hole:=.whole
 els:=fun ws=>ws.map fun w=>some (.worker w)
 len:=List.length
 upd:=fun ws i t=>match t with
  | .worker w=>some (cG ws i w)
  | _=>none
 isRow:=fun t=>match t with
  | .wrow ws=>some ws
  | _=>none
 isHole:=fun t=>match t with
  | .whole ws i=>some (ws,i)
  | _=>none
 is:=fun _ _=>true
 get:=fun ws i=>.worker (aX ws i)
 isRow_eq:=by
  intro t r h;cases t<;>first | (cases h;rfl) | cases h
 isHole_eq:=by
  intro t r i h;cases t<;>first | (cases h;rfl) | cases h
 len_eq:=fun r=>by simp
 upd_eq:=by
  intro r i t r' h;cases t with
  | worker w=>cases h;exact LQ r i w
  | _=>cases h
 is_true:=by
  intro r i _ h;exact CY h
 is_false:=by intro r i h;cases h
 tbRow:=fun r=>rfl
 tbHole:=fun r i=>rfl
theorem aF.back{n l i k:Nat}{ws:List WKS}{w:WKS}{v:AVal}{g:aC Ob}(hl:aL g l=some (.abs (.whole ws i) [k]))(hk:aL g k=some (.abs (.worker w) []))(hkl:k≠l)(hi:i<ws.length):
 aF (obI tbl) n v g v ((g.set l (some (.abs (.wrow (cG ws i w)) []))).set k none):=by
 intro V hR w' x h1 h2 h3 h4;refine⟨V,fun _ _ _ h=>h,?_,by simpa using h3,h4,?_⟩
 ·intro m hm;exact h2 m (by simpa using hm)
 ·exact h1.back RKW (ws:=ws) (ws':=cG ws i w) rfl hl hk hkl hi
def dqNAS:aI Ob:=fun args h=>match args,h with
 | [.ptr 0 0,.agg [.int .i64 sh,.int .i64 kd,.int .i64 ky],.int .i64 lim],[some (.abs (.store t n st) [])]=>some (.pre (MZ t n sh kd ky lim st) (.ret (.ptr 1 0) [some (.abs (.store t n (dqNF t n sh kd ky lim st).2) []),some (.abs (.doer t n (dqNF t n sh kd ky lim st).1) [0])]))
 | _,_=>none
theorem S9:sT' 103 dqNAS:=by
 intro args h o ho K hK;unfold dqNAS at ho;split at ho<;>cases ho
 rename_i sh kd ky lim t n st;obtain⟨ok,hK⟩:=hK;refine aHn ?_;refine aHi (h2:=[iP 1 t n st,iQ st]) (aR.unpack (.store t n st) 0 0 (dN t n st) [] rfl rfl rfl rfl) ?_;refine D3 [.ptr 0 0,.agg [.I sh,.I kd,.I ky],.I lim] [iP 1 t n st,iQ st] _ rfl _ ⟨⟨rfl,ok⟩,?_⟩;generalize dqNF t n sh kd ky lim st=y at hK⊢;have hK:K (.ptr 1 0) [some (.abs (.store t n y.2) []),some (.abs (.doer t n y.1) [0])]:=hK;exact⟨⟨_,_,(aF.pick [0,2,1] rfl).trans ((aHl (v2:=.ptr 1 0) (g2:=aP [some (.abs (.store t n y.2) []),some (.abs (.doer t n y.1) [0])] 0 0 (dN t n y.2) []) (by kernel_rfl) (by kernel_rfl)).trans (aF.pack [some (.abs (.store t n y.2) []),some (.abs (.doer t n y.1) [0])] (.store t n y.2) 0 0 (dN t n y.2) [] rfl rfl rfl (by kernel_rfl))),hK⟩⟩
noncomputable def EN0:= {ED.addS 103 (aI.or dqNS dqNAS) (aHA D3 S9)with row:=RKW.ops Tryz.prog,rowOk:=RKW.ops_ok}
instance:Inhabited (Int×HST):=⟨(0,default)⟩
def hiP(v:AVal)(g:aC Ob):Option (Prop×(Int×HST)):=match v,g with
 | .int .i64 c,[some (.cells [.tslice 1 0 a 7,.tslice 2 0 b 9,.int .i64 n0,.int .i64 n1,.int .i64 n2,.int .i64 n3,.int .i64 n4,.int .i64 n5,.int .i64 n6,.int .i64 n7]),some (.tab [some .i64,none,some .i64,some .i64,some .i64,none,some .i64] ev),some (.tab [some .i64,some .i64,some .i64,some .i64,some .i64,some .i64,some .i64,none,some .i64] cl)]=>some (a=ev.length∧b=cl.length,(c,⟨ev,cl,n0,n1,n2,n3,n4,n5,n6,n7⟩))
 | _,_=>none
def hnP(v:AVal)(g:aC Ob):Option (Prop×HST):=match v,g with
 | .ptr 0 0,[some (.cells [.tslice 1 0 a 7,.tslice 2 0 b 9,.int .i64 n0,.int .i64 n1,.int .i64 n2,.int .i64 n3,.int .i64 n4,.int .i64 n5,.int .i64 n6,.int .i64 n7]),some (.tab [some .i64,none,some .i64,some .i64,some .i64,none,some .i64] ev),some (.tab [some .i64,some .i64,some .i64,some .i64,some .i64,some .i64,some .i64,none,some .i64] cl)]=>some (a=ev.length∧b=cl.length,⟨ev,cl,n0,n1,n2,n3,n4,n5,n6,n7⟩)
 | _,_=>none
theorem O1:bM (obI tbl) 1 hiP (fun y=>.ret (.I y.1) [some (.abs (.hist y.2) [])]):=by
 intro v g p x hp hq K hK;unfold hiP at hp;split at hp
 case h_2=>cases hp
 rename_i c a b n0 n1 n2 n3 n4 n5 n6 n7 ev cl;cases hp;obtain⟨rfl,rfl⟩:=hq;have hK:K (.I c) [some (.abs (.hist ⟨ev,cl,n0,n1,n2,n3,n4,n5,n6,n7⟩) [])]:=hK;exact ZL hK (.hist ⟨ev,cl,n0,n1,n2,n3,n4,n5,n6,n7⟩) 0 0 (wO ⟨ev,cl,n0,n1,n2,n3,n4,n5,n6,n7⟩) []
theorem aBZ:bM (obI tbl) 0 hnP (fun y=>.ret (.ptr 0 0) [some (.abs (.hist y) [])]):=by
 intro v g p x hp hq K hK;unfold hnP at hp;split at hp
 case h_2=>cases hp
 rename_i a b n0 n1 n2 n3 n4 n5 n6 n7 ev cl;cases hp;obtain⟨rfl,rfl⟩:=hq;have hK:K (.ptr 0 0) [some (.abs (.hist ⟨ev,cl,n0,n1,n2,n3,n4,n5,n6,n7⟩) [])]:=hK;exact ZL hK (.hist ⟨ev,cl,n0,n1,n2,n3,n4,n5,n6,n7⟩) 0 0 (wO ⟨ev,cl,n0,n1,n2,n3,n4,n5,n6,n7⟩) []
def hnT:Tr HST:=.pre (0=0∧0=0) (.ret {ev:=[],cl:=[],n0:=0,n1:=0,n2:=0,n3:=0,n4:=0,n5:=0,n6:=0,n7:=0})
def hnS:aI Ob:=fun args h=>match args,h with
 | [],[]=>some (.pre True (.ret (.ptr 0 0) [some (.abs (.hist ⟨[],[],0,0,0,0,0,0,0,0⟩) [])]))
 | _,_=>none
theorem aEJ:sT' 81 hnS:=by
 intro args h o ho K hK;unfold hnS at ho;split at ho
 case h_2=>cases ho
 simp only [sI']at ho;subst ho;obtain⟨ok,hK⟩:=hK;refine aHm (root:=0) (pos:=[]) (cs:=[(.cell 0 0,.tab cK7),(.cell 0 1,.tab cK9)]) (parse:=hnP) aBZ ?_;exact cM' (E:=EN0) (q:=hnT.run (fun y=>(Out.ret (.ptr 0 0) [some (.abs (.hist y) [])]).run K)) (by kernel_rfl) (aHe (by simp [Tr.ok,hnT]) hK)
def C5(k:Int)(x:HST)(kd ky n0 n1 n2 n3 n4 n5 n6 n7:Int):HST:= {ev:=x.1++ [[k,0,kd,ky,0,0,0]],cl:=x.2++ [[(↑x.1.length:Int),(-1:Int),(↑x.2.length:Int),k,kd,ky,0,0,0]],n0:=n0,n1:=n1,n2:=n2,n3:=n3,n4:=n4,n5:=n5,n6:=n6,n7:=n7}
def C4(k c:Int)(y x:HST)(kd ky:Int):Tr (Int×HST):=.pre ((0:Int)≤k∧k<(↑8:Int)) (.ite (ilt 0 c) (.pre (lE' x.1∧lE' x.2) (.ret (1,x))) (.pre (0=0∧lE' x.2∧x.2.length+(1:Nat)≤(4294967296:Nat)) (.pre (0=0∧lE' x.1∧x.1.length+(1:Nat)≤(4294967296:Nat)) (.pre ((0:Int)≤k∧k<(↑8:Int)) (.pre (x.1.length+(1:Nat)=List.length (x.1++ [[k,0,kd,ky,0,0,0]])∧x.2.length+(1:Nat)=List.length (x.2++ [[(↑x.1.length:Int),(-1:Int),(↑x.2.length:Int),k,kd,ky,0,0,0]])) (.ret (0,y)))))))
def HA(x:HST)(kd ky:Int):Tr (Int×HST):=C4 0 x.3 (C5 0 x kd ky (↑(x.2.length+1):Int) x.4 x.5 x.6 x.7 x.8 x.9 x.10) x kd ky
def HB(x:HST)(kd ky:Int):Tr (Int×HST):=C4 1 x.4 (C5 1 x kd ky x.3 (↑(x.2.length+1):Int) x.5 x.6 x.7 x.8 x.9 x.10) x kd ky
def HD(x:HST)(kd ky:Int):Tr (Int×HST):=C4 2 x.5 (C5 2 x kd ky x.3 x.4 (↑(x.2.length+1):Int) x.6 x.7 x.8 x.9 x.10) x kd ky
def HE(x:HST)(kd ky:Int):Tr (Int×HST):=C4 3 x.6 (C5 3 x kd ky x.3 x.4 x.5 (↑(x.2.length+1):Int) x.7 x.8 x.9 x.10) x kd ky
def HF(x:HST)(kd ky:Int):Tr (Int×HST):=C4 4 x.7 (C5 4 x kd ky x.3 x.4 x.5 x.6 (↑(x.2.length+1):Int) x.8 x.9 x.10) x kd ky
def HG(x:HST)(kd ky:Int):Tr (Int×HST):=C4 5 x.8 (C5 5 x kd ky x.3 x.4 x.5 x.6 x.7 (↑(x.2.length+1):Int) x.9 x.10) x kd ky
def HH(x:HST)(kd ky:Int):Tr (Int×HST):=C4 6 x.9 (C5 6 x kd ky x.3 x.4 x.5 x.6 x.7 x.8 (↑(x.2.length+1):Int) x.10) x kd ky
def HI(x:HST)(kd ky:Int):Tr (Int×HST):=C4 7 x.10 (C5 7 x kd ky x.3 x.4 x.5 x.6 x.7 x.8 x.9 (↑(x.2.length+1):Int)) x kd ky
def UZ(i:Int)(x:HST)(kd ky:Int)(K:Int×HST→Prop):Prop:=cT' 70 [.ptr 0 0,.I i,.agg [.I kd,.I ky]] (wO x) (bU 1 0 [] [] hiP K)
theorem U1(x:HST)(kd ky:Int)(K:Int×HST→Prop)(h:(HA x kd ky).run K):UZ 0 x kd ky K:=cM' (E:=EN0) (by kernel_rfl) h
theorem U2(x:HST)(kd ky:Int)(K:Int×HST→Prop)(h:(HB x kd ky).run K):UZ 1 x kd ky K:=cM' (E:=EN0) (by kernel_rfl) h
theorem U3(x:HST)(kd ky:Int)(K:Int×HST→Prop)(h:(HD x kd ky).run K):UZ 2 x kd ky K:=cM' (E:=EN0) (by kernel_rfl) h
theorem U4(x:HST)(kd ky:Int)(K:Int×HST→Prop)(h:(HE x kd ky).run K):UZ 3 x kd ky K:=cM' (E:=EN0) (by kernel_rfl) h
theorem U5(x:HST)(kd ky:Int)(K:Int×HST→Prop)(h:(HF x kd ky).run K):UZ 4 x kd ky K:=cM' (E:=EN0) (by kernel_rfl) h
theorem U6(x:HST)(kd ky:Int)(K:Int×HST→Prop)(h:(HG x kd ky).run K):UZ 5 x kd ky K:=cM' (E:=EN0) (by kernel_rfl) h
theorem U7(x:HST)(kd ky:Int)(K:Int×HST→Prop)(h:(HH x kd ky).run K):UZ 6 x kd ky K:=cM' (E:=EN0) (by kernel_rfl) h
theorem U8(x:HST)(kd ky:Int)(K:Int×HST→Prop)(h:(HI x kd ky).run K):UZ 7 x kd ky K:=cM' (E:=EN0) (by kernel_rfl) h
def hbT(th:Int)(x:HST)(kd ky:Int):Tr (Int×HST):=
 bif ieq th 0 then HA x kd ky else
 bif ieq th 1 then HB x kd ky else
 bif ieq th 2 then HD x kd ky else
 bif ieq th 3 then HE x kd ky else
 bif ieq th 4 then HF x kd ky else
 bif ieq th 5 then HG x kd ky else
 bif ieq th 6 then HH x kd ky else
 bif ieq th 7 then HI x kd ky else .pre False (.ret default)
def hbF(th:Int)(x:HST)(kd ky:Int):Int×HST:=(hbT th x kd ky).val
def hbOk(th:Int)(x:HST)(kd ky:Int):Prop:=(hbT th x kd ky).ok
theorem sD{T:Tr (Int×HST)}{th i:Int}{x:HST}{kd ky:Int}{K:AVal→aC Ob→Prop}(e:th=i)(hs: ∀K',T.run K'→UZ i x kd ky K')(h:T.run (fun y=>(Out.ret (.I y.1) [some (.abs (.hist y.2) [])]).run K)):cT' 70 [.ptr 0 0,.I th,.agg [.I kd,.I ky]] [some (.abs (.hist x) [])] K:=by
 subst e;exact aHb (root:=0) (pos:=[]) (cs:=[]) (parse:=hiP) (fin:=fun y=>.ret (.I y.1) [some (.abs (.hist y.2) [])]) O1 (aR.unpack (.hist x) 0 0 (wO x) [] rfl rfl rfl rfl) (hs _ h)
theorem U0(th:Int)(x:HST)(kd ky:Int)(K:AVal→aC Ob→Prop)(h:(hbT th x kd ky).run (fun y=>(Out.ret (.I y.1) [some (.abs (.hist y.2) [])]).run K)):cT' 70 [.ptr 0 0,.I th,.agg [.I kd,.I ky]] [some (.abs (.hist x) [])] K:=by
 unfold hbT at h
 by_cases e:th=0
 ·exact sD e (U1 x kd ky) (by rw [e]at h;exact h)
 rw [bF e]at h
 by_cases e:th=1
 ·exact sD e (U2 x kd ky) (by rw [e]at h;exact h)
 rw [bF e]at h
 by_cases e:th=2
 ·exact sD e (U3 x kd ky) (by rw [e]at h;exact h)
 rw [bF e]at h
 by_cases e:th=3
 ·exact sD e (U4 x kd ky) (by rw [e]at h;exact h)
 rw [bF e]at h
 by_cases e:th=4
 ·exact sD e (U5 x kd ky) (by rw [e]at h;exact h)
 rw [bF e]at h
 by_cases e:th=5
 ·exact sD e (U6 x kd ky) (by rw [e]at h;exact h)
 rw [bF e]at h
 by_cases e:th=6
 ·exact sD e (U7 x kd ky) (by rw [e]at h;exact h)
 rw [bF e]at h
 by_cases e:th=7
 ·exact sD e (U8 x kd ky) (by rw [e]at h;exact h)
 rw [bF e]at h;exact h.1.elim
def hbS:aI Ob:=fun args h=>match args,h with
 | [.ptr 0 0,.int .i64 th,.agg [.int .i64 kd,.int .i64 ky]],[some (.abs (.hist x) [])]=>some (.pre (hbOk th x kd ky) (.ret (.I (hbF th x kd ky).1) [some (.abs (.hist (hbF th x kd ky).2) [])]))
 | _,_=>none
theorem aEz:sT' 70 hbS:=by
 intro args h o ho K hK;unfold hbS at ho;split at ho
 case h_2=>cases ho
 simp only [sI']at ho;subst ho;obtain⟨ok,hK⟩:=hK;exact U0 _ _ _ _ K (aHe ok hK)
def OZ(c:Int)(x:HST):List (List Int):=List.set x.2 (0+Int.toNat (W (c - 1))) (kA 9 (List.getD x.2 (0+Int.toNat (W (c - 1))) []) (0+0+1) [(↑x.1.length:Int)])
def RW(c:Int)(x:HST)(code:Int)(okk:Bool)(val:Int):List (List Int):=List.set (OZ c x) (0+Int.toNat (W (c - 1))) (kA 9 (List.getD (OZ c x) (0+Int.toNat (W (c - 1))) []) (0+6) [code,bif okk then 1 else 0,val])
def C7(k c:Int)(x:HST)(code:Int)(okk:Bool)(val n0 n1 n2 n3 n4 n5 n6 n7:Int):HST:= {ev:=x.1++ [[k,1,0,0,code,bif okk then 1 else 0,val]],cl:=RW c x code okk val,n0:=n0,n1:=n1,n2:=n2,n3:=n3,n4:=n4,n5:=n5,n6:=n6,n7:=n7}
def C6(k c:Int)(y x:HST)(code:Int)(okk:Bool)(val:Int):Tr (Int×HST):=.pre ((0:Int)≤k∧k<(↑8:Int)) (.ite (!ilt 0 c) (.pre (lE' x.1∧lE' x.2) (.ret (5,x))) (.pre ((0:Int)≤k∧k<(↑8:Int)) (.pre ((0:Int)≤W (c - 1)∧W (c - 1)<(↑x.2.length:Int)) (.pre (0+Int.toNat (W (c - 1))<x.2.length) (.pre (0+Int.toNat (W (c - 1))<List.length (OZ c x)) (.pre (0=0∧lE' x.1∧x.1.length+(1:Nat)≤(4294967296:Nat)) (.pre ((0:Int)≤k∧k<(↑8:Int)) (.pre (x.1.length+(1:Nat)=List.length (x.1++ [[k,1,0,0,code,bif okk then 1 else 0,val]])∧x.2.length=List.length (RW c x code okk val)) (.ret (0,y))))))))))
def HJ(x:HST)(code:Int)(okk:Bool)(val:Int):Tr (Int×HST):=C6 0 x.3 (C7 0 x.3 x code okk val 0 x.4 x.5 x.6 x.7 x.8 x.9 x.10) x code okk val
def HK(x:HST)(code:Int)(okk:Bool)(val:Int):Tr (Int×HST):=C6 1 x.4 (C7 1 x.4 x code okk val x.3 0 x.5 x.6 x.7 x.8 x.9 x.10) x code okk val
def HL(x:HST)(code:Int)(okk:Bool)(val:Int):Tr (Int×HST):=C6 2 x.5 (C7 2 x.5 x code okk val x.3 x.4 0 x.6 x.7 x.8 x.9 x.10) x code okk val
def HM(x:HST)(code:Int)(okk:Bool)(val:Int):Tr (Int×HST):=C6 3 x.6 (C7 3 x.6 x code okk val x.3 x.4 x.5 0 x.7 x.8 x.9 x.10) x code okk val
def HN(x:HST)(code:Int)(okk:Bool)(val:Int):Tr (Int×HST):=C6 4 x.7 (C7 4 x.7 x code okk val x.3 x.4 x.5 x.6 0 x.8 x.9 x.10) x code okk val
def HO(x:HST)(code:Int)(okk:Bool)(val:Int):Tr (Int×HST):=C6 5 x.8 (C7 5 x.8 x code okk val x.3 x.4 x.5 x.6 x.7 0 x.9 x.10) x code okk val
def HP(x:HST)(code:Int)(okk:Bool)(val:Int):Tr (Int×HST):=C6 6 x.9 (C7 6 x.9 x code okk val x.3 x.4 x.5 x.6 x.7 x.8 0 x.10) x code okk val
def HQ(x:HST)(code:Int)(okk:Bool)(val:Int):Tr (Int×HST):=C6 7 x.10 (C7 7 x.10 x code okk val x.3 x.4 x.5 x.6 x.7 x.8 x.9 0) x code okk val
def VH(i:Int)(x:HST)(code:Int)(okk:Bool)(val:Int)(K:Int×HST→Prop):Prop:=cT' 98 [.ptr 0 0,.I i,.agg [.I code,.bool okk,.I val]] (wO x) (bU 1 0 [] [] hiP K)
theorem VJ(x:HST)(code:Int)(okk:Bool)(val:Int)(K:Int×HST→Prop)(h:(HJ x code okk val).run K):VH 0 x code okk val K:=cM' (E:=EN0) (by kernel_rfl) h
theorem VK(x:HST)(code:Int)(okk:Bool)(val:Int)(K:Int×HST→Prop)(h:(HK x code okk val).run K):VH 1 x code okk val K:=cM' (E:=EN0) (by kernel_rfl) h
theorem VL(x:HST)(code:Int)(okk:Bool)(val:Int)(K:Int×HST→Prop)(h:(HL x code okk val).run K):VH 2 x code okk val K:=cM' (E:=EN0) (by kernel_rfl) h
theorem VM(x:HST)(code:Int)(okk:Bool)(val:Int)(K:Int×HST→Prop)(h:(HM x code okk val).run K):VH 3 x code okk val K:=cM' (E:=EN0) (by kernel_rfl) h
theorem VN(x:HST)(code:Int)(okk:Bool)(val:Int)(K:Int×HST→Prop)(h:(HN x code okk val).run K):VH 4 x code okk val K:=cM' (E:=EN0) (by kernel_rfl) h
theorem VO(x:HST)(code:Int)(okk:Bool)(val:Int)(K:Int×HST→Prop)(h:(HO x code okk val).run K):VH 5 x code okk val K:=cM' (E:=EN0) (by kernel_rfl) h
theorem VP(x:HST)(code:Int)(okk:Bool)(val:Int)(K:Int×HST→Prop)(h:(HP x code okk val).run K):VH 6 x code okk val K:=cM' (E:=EN0) (by kernel_rfl) h
theorem VQ(x:HST)(code:Int)(okk:Bool)(val:Int)(K:Int×HST→Prop)(h:(HQ x code okk val).run K):VH 7 x code okk val K:=cM' (E:=EN0) (by kernel_rfl) h
def heT(th:Int)(x:HST)(code:Int)(okk:Bool)(val:Int):Tr (Int×HST):=
 bif ieq th 0 then HJ x code okk val else
 bif ieq th 1 then HK x code okk val else
 bif ieq th 2 then HL x code okk val else
 bif ieq th 3 then HM x code okk val else
 bif ieq th 4 then HN x code okk val else
 bif ieq th 5 then HO x code okk val else
 bif ieq th 6 then HP x code okk val else
 bif ieq th 7 then HQ x code okk val else .pre False (.ret default)
def heF(th:Int)(x:HST)(code:Int)(okk:Bool)(val:Int):Int×HST:=(heT th x code okk val).val
def heOk(th:Int)(x:HST)(code:Int)(okk:Bool)(val:Int):Prop:=(heT th x code okk val).ok
theorem sE{T:Tr (Int×HST)}{th i:Int}{x:HST}{code:Int}{okk:Bool}{val:Int}{K:AVal→aC Ob→Prop}(e:th=i)(hs: ∀K',T.run K'→VH i x code okk val K')(h:T.run (fun y=>(Out.ret (.I y.1) [some (.abs (.hist y.2) [])]).run K)):cT' 98 [.ptr 0 0,.I th,.agg [.I code,.bool okk,.I val]] [some (.abs (.hist x) [])] K:=by
 subst e;exact aHb (root:=0) (pos:=[]) (cs:=[]) (parse:=hiP) (fin:=fun y=>.ret (.I y.1) [some (.abs (.hist y.2) [])]) O1 (aR.unpack (.hist x) 0 0 (wO x) [] rfl rfl rfl rfl) (hs _ h)
theorem VI(th:Int)(x:HST)(code:Int)(okk:Bool)(val:Int)(K:AVal→aC Ob→Prop)(h:(heT th x code okk val).run (fun y=>(Out.ret (.I y.1) [some (.abs (.hist y.2) [])]).run K)):cT' 98 [.ptr 0 0,.I th,.agg [.I code,.bool okk,.I val]] [some (.abs (.hist x) [])] K:=by
 unfold heT at h
 by_cases e:th=0
 ·exact sE e (VJ x code okk val) (by rw [e]at h;exact h)
 rw [bF e]at h
 by_cases e:th=1
 ·exact sE e (VK x code okk val) (by rw [e]at h;exact h)
 rw [bF e]at h
 by_cases e:th=2
 ·exact sE e (VL x code okk val) (by rw [e]at h;exact h)
 rw [bF e]at h
 by_cases e:th=3
 ·exact sE e (VM x code okk val) (by rw [e]at h;exact h)
 rw [bF e]at h
 by_cases e:th=4
 ·exact sE e (VN x code okk val) (by rw [e]at h;exact h)
 rw [bF e]at h
 by_cases e:th=5
 ·exact sE e (VO x code okk val) (by rw [e]at h;exact h)
 rw [bF e]at h
 by_cases e:th=6
 ·exact sE e (VP x code okk val) (by rw [e]at h;exact h)
 rw [bF e]at h
 by_cases e:th=7
 ·exact sE e (VQ x code okk val) (by rw [e]at h;exact h)
 rw [bF e]at h;exact h.1.elim
def heS:aI Ob:=fun args h=>match args,h with
 | [.ptr 0 0,.int .i64 th,.agg [.int .i64 code,.bool okk,.int .i64 val]],[some (.abs (.hist x) [])]=>some (.pre (heOk th x code okk val) (.ret (.I (heF th x code okk val).1) [some (.abs (.hist (heF th x code okk val).2) [])]))
 | _,_=>none
theorem aEH:sT' 98 heS:=by
 intro args h o ho K hK;unfold heS at ho;split at ho
 case h_2=>cases ho
 simp only [sI']at ho;subst ho;obtain⟨ok,hK⟩:=hK;exact VI _ _ _ _ _ K (aHe ok hK)
noncomputable def EN1:=((EN0.addS 81 hnS aEJ).addS 70 hbS aEz).addS 98 heS aEH
end Go.Sh
