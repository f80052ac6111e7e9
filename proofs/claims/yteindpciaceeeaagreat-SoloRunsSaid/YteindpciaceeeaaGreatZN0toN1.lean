import Derived.Test.YteindpciaceeeaaGreatZSh40toSh41
set_option linter.all false
set_option maxHeartbeats 8000000
namespace Go.Sh
open Go Go.Proofs
variable [Con]
instance:Inhabited STS:=⟨⟨0,0,[]⟩⟩
instance:Inhabited WKS:=⟨⟨0,0,⟨0,0,[]⟩,[],0,false,eS,[],[]⟩⟩
def bC(ws:List WKS)(i:Nat):WKS:=ws.getD i default
def dF(ws:List WKS)(i:Nat)(w:WKS):List WKS:=ws.set i w
theorem DQ{ws:List WKS}{i:Nat}(h:i<ws.length):(ws.map fun w=>some (Mc.worker w))[i]? =some (some (.worker (bC ws i))):=by
 unfold bC;simp only [List.getElem?_map,gD'];rw [gE' h];rfl
theorem MM(ws:List WKS)(i:Nat)(w:WKS):(dF ws i w).map (fun w=>some (Mc.worker w))=(ws.map fun w=>some (Mc.worker w)).set i (some (.worker w)):=by
 unfold dF;simp [List.map_set]
def RKW:gQ tbl where
 R:=List WKS
 row:=.wrow
 hole:=.whole
 els:=fun ws=>ws.map fun w=>some (.worker w)
 len:=List.length
 upd:=fun ws i t=>match t with
  | .worker w=>some (dF ws i w)
  | _=>none
 isRow:=fun t=>match t with
  | .wrow ws=>some ws
  | _=>none
 isHole:=fun t=>match t with
  | .whole ws i=>some (ws,i)
  | _=>none
 is:=fun _ _=>true
 get:=fun ws i=>.worker (bC ws i)
 isRow_eq:=by
  intro t r h;cases t<;>first | (cases h;rfl) | cases h
 isHole_eq:=by
  intro t r i h;cases t<;>first | (cases h;rfl) | cases h
 len_eq:=fun r=>by simp
 upd_eq:=by
  intro r i t r' h;cases t with
  | worker w=>cases h;exact MM r i w
  | _=>cases h
 is_true:=by
  intro r i _ h;exact DQ h
 is_false:=by intro r i h;cases h
 tbRow:=fun r=>rfl
 tbHole:=fun r i=>rfl
def opAt(ws:List (List (List Int)))(i:Nat):List (List Int):=ws.getD i []
theorem qB{ws:List (List (List Int))}{i:Nat}(hi:i<ws.length):ws[i]? =some (opAt ws i):=by
 unfold opAt;rw [gD',gE' hi];rfl
def rdO(e:aG Ob):Option (List (List Int)):=match e with
 | .tab [some .i64,some .i64] xs=>some xs
 | _=>none
theorem aC3{e:aG Ob}{x:List (List Int)}(h:rdO e=some x):e=.tab opK x:=by
 unfold rdO at h;split at h
 ·cases h;rfl
 ·cases h
def aGZ(v:AVal):Option Nat:=match v with
 | .tslice k _ _ _=>some k
 | _=>none
def hdO(q:Nat)(y:List (List Int))(v:AVal):Prop:=match v with
 | .tslice k o n s=>k=q∧o=0∧n=y.length∧s=2
 | _=>False
theorem aCh{q:Nat}{y:List (List Int)}{v:AVal}(h:hdO q y v):v=.tslice q 0 y.length 2:=by
 unfold hdO at h;split at h
 ·obtain⟨rfl,rfl,rfl,rfl⟩:=h;rfl
 ·exact h.elim
def aGY(t:Ob):Option (List (List (List Int))):=match t with
 | .orow ws=>some ws
 | _=>none
def aGX(t:Ob):Option (List (List (List Int))×Nat):=match t with
 | .ohole ws i=>some (ws,i)
 | _=>none
theorem aDy{V V':Val}{k k' n:Nat}{v:Value}(h:V k=V' k')(hr:Rep V (.tslice k 0 n 2) v):Rep V' (.tslice k' 0 n 2) v:=by
 obtain⟨base,cap,e,hc,hb⟩:=hr;refine⟨base,cap,e,hc,?_⟩;rw [←h];exact hb
theorem aDs{I:Itp Ob}{V V':Val}{l l':Nat}{ks:List Code1}{x:List (List Int)}{p:PHeap}(h:V l=V' l')(hi:aG.interp I V l (.tab ks x) p):aG.interp I V' l' (.tab ks x) p:=by
 rcases hi with⟨e1,e2,b,hl⟩ | ⟨b,k,hl,r⟩
 ·exact .inl ⟨e1,e2,b,h▸hl⟩
 ·exact .inr ⟨b,k,h▸hl,r⟩
def SV:d4 tbl opE where
 row:=.orow
 hole:=.ohole
 isRow:=aGY
 isHole:=aGX
 rd:=rdO
 get:=opAt
 lab:=aGZ
 hdIs:=hdO
 isRow_eq:=by
  intro t r h;cases t<;>first | (cases h;rfl) | cases h
 isHole_eq:=by
  intro t r i h;cases t<;>first | (cases h;rfl) | cases h
 rd_eq:=fun e x h=>aC3 h
 tbRow:=fun r=>rfl
 tbHole:=fun r i=>rfl
 hdRep:=fun V V' k k' x v h hr=>aDy h hr
 enLoc:=fun N V V' l l' x p h hi=>aDs h hi
 get_eq:=fun ws i hi=>qB hi
 hdIs_eq:=fun q y v h=>aCh h
 nil:=[]
 nilIn:=fun N V l b h=>.inl ⟨rfl,rfl,b,h⟩
 nilHd:=fun V l=>⟨none,0,rfl,Nat.le_refl _,.inr ⟨rfl,rfl⟩⟩
 inner:=2
 cast:=.tab opK
theorem x9(V:Val)(q:Nat)(y:List (List Int))(v:Value)(h:Rep V (opE.hd q y) v):v.oneCell'=true∧v.cells= #[v]:=by
 obtain⟨base,cap,rfl,_⟩:=h;exact⟨rfl,rfl⟩
theorem aF.back{n l i k:Nat}{ws:List WKS}{w:WKS}{v:AVal}{g:aC Ob}(hl:aJ g l=some (.abs (.whole ws i) [k]))(hk:aJ g k=some (.abs (.worker w) []))(hkl:k≠l)(hi:i<ws.length):
 aF (obI tbl) n v g v ((g.set l (some (.abs (.wrow (dF ws i w)) []))).set k none):=by
 intro V hR w' x h1 h2 h3 h4;refine⟨V,fun _ _ _ h=>h,?_,by simpa using h3,h4,?_⟩
 ·intro m hm;exact h2 m (by simpa using hm)
 ·exact h1.back RKW (ws:=ws) (ws':=dF ws i w) rfl hl hk hkl hi
def dqNAS:aH Ob:=fun args h=>match args,h with
 | [.ptr 0 0,.agg [.int .i64 sh,.int .i64 kd,.int .i64 ky],.int .i64 lim],[some (.abs (.store t n st) [])]=>some (.pre (NZ t n sh kd ky lim st) (.ret (.ptr 1 0) [some (.abs (.store t n (dqNF t n sh kd ky lim st).2) []),some (.abs (.doer t n (dqNF t n sh kd ky lim st).1) [0])]))
 | _,_=>none
theorem UA:sT' 103 dqNAS:=by
 intro args h o ho K hK;unfold dqNAS at ho;split at ho<;>cases ho
 rename_i sh kd ky lim t n st;obtain⟨ok,hK⟩:=hK;refine aIz ?_;refine aIq (h2:=[gV 1 t n st,gW st]) (aT.unpack (.store t n st) 0 0 (dM t n st) [] rfl rfl rfl rfl) ?_;refine EZ [.ptr 0 0,.agg [.I sh,.I kd,.I ky],.I lim] [gV 1 t n st,gW st] _ rfl _ ⟨⟨rfl,ok⟩,?_⟩;generalize dqNF t n sh kd ky lim st=y at hK⊢;have hK:K (.ptr 1 0) [some (.abs (.store t n y.2) []),some (.abs (.doer t n y.1) [0])]:=hK;exact⟨⟨_,_,(aF.pick [0,2,1] rfl).trans ((aIt (v2:=.ptr 1 0) (g2:=aQ [some (.abs (.store t n y.2) []),some (.abs (.doer t n y.1) [0])] 0 0 (dM t n y.2) []) (by kernel_rfl) (by kernel_rfl)).trans (aF.pack [some (.abs (.store t n y.2) []),some (.abs (.doer t n y.1) [0])] (.store t n y.2) 0 0 (dM t n y.2) [] rfl rfl rfl (by kernel_rfl))),hK⟩⟩
noncomputable def EN0:= {ED.addS 103 (aH.or dqNS dqNAS) (aIJ EZ UA)with row:=SV.ops Tryz.prog (RKW.ops Tryz.prog),rowOk:=SV.ops_ok x9 RKW.ops_ok,dro:=SV.dro Tryz.prog fun _ _ _=>none,droCongr:=SV.dro_congr oF,droOk:=SV.dro_ok x9 uA}
instance:Inhabited (Int×HST):=⟨(0,default)⟩
def hiP(v:AVal)(g:aC Ob):Option (Prop×(Int×HST)):=match v,g with
 | .int .i64 c,[some (.cells [.tslice 1 0 a 7,.tslice 2 0 b 9,.int .i64 n0,.int .i64 n1,.int .i64 n2,.int .i64 n3,.int .i64 n4,.int .i64 n5,.int .i64 n6,.int .i64 n7]),some (.tab [some .i64,none,some .i64,some .i64,some .i64,none,some .i64] ev),some (.tab [some .i64,some .i64,some .i64,some .i64,some .i64,some .i64,some .i64,none,some .i64] cl)]=>some (a=ev.length∧b=cl.length,(c,⟨ev,cl,n0,n1,n2,n3,n4,n5,n6,n7⟩))
 | _,_=>none
def hnP(v:AVal)(g:aC Ob):Option (Prop×HST):=match v,g with
 | .ptr 0 0,[some (.cells [.tslice 1 0 a 7,.tslice 2 0 b 9,.int .i64 n0,.int .i64 n1,.int .i64 n2,.int .i64 n3,.int .i64 n4,.int .i64 n5,.int .i64 n6,.int .i64 n7]),some (.tab [some .i64,none,some .i64,some .i64,some .i64,none,some .i64] ev),some (.tab [some .i64,some .i64,some .i64,some .i64,some .i64,some .i64,some .i64,none,some .i64] cl)]=>some (a=ev.length∧b=cl.length,⟨ev,cl,n0,n1,n2,n3,n4,n5,n6,n7⟩)
 | _,_=>none
theorem PD:bM (obI tbl) 1 hiP (fun y=>.ret (.I y.1) [some (.abs (.hist y.2) [])]):=by
 intro v g p x hp hq K hK;unfold hiP at hp;split at hp
 case h_2=>cases hp
 rename_i c a b n0 n1 n2 n3 n4 n5 n6 n7 ev cl;cases hp;obtain⟨rfl,rfl⟩:=hq;have hK:K (.I c) [some (.abs (.hist ⟨ev,cl,n0,n1,n2,n3,n4,n5,n6,n7⟩) [])]:=hK;exact tkP hK (.hist ⟨ev,cl,n0,n1,n2,n3,n4,n5,n6,n7⟩) 0 0 (zX ⟨ev,cl,n0,n1,n2,n3,n4,n5,n6,n7⟩) []
theorem aCn:bM (obI tbl) 0 hnP (fun y=>.ret (.ptr 0 0) [some (.abs (.hist y) [])]):=by
 intro v g p x hp hq K hK;unfold hnP at hp;split at hp
 case h_2=>cases hp
 rename_i a b n0 n1 n2 n3 n4 n5 n6 n7 ev cl;cases hp;obtain⟨rfl,rfl⟩:=hq;have hK:K (.ptr 0 0) [some (.abs (.hist ⟨ev,cl,n0,n1,n2,n3,n4,n5,n6,n7⟩) [])]:=hK;exact tkP hK (.hist ⟨ev,cl,n0,n1,n2,n3,n4,n5,n6,n7⟩) 0 0 (zX ⟨ev,cl,n0,n1,n2,n3,n4,n5,n6,n7⟩) []
def hnT:Tr HST:=.pre (0=0∧0=0) (.ret {ev:=[],cl:=[],n0:=0,n1:=0,n2:=0,n3:=0,n4:=0,n5:=0,n6:=0,n7:=0})
def hnS:aH Ob:=fun args h=>match args,h with
 | [],[]=>some (.pre True (.ret (.ptr 0 0) [some (.abs (.hist ⟨[],[],0,0,0,0,0,0,0,0⟩) [])]))
 | _,_=>none
theorem aFl:sT' 81 hnS:=by
 intro args h o ho K hK;unfold hnS at ho;split at ho
 case h_2=>cases ho
 simp only [sI']at ho;subst ho;obtain⟨ok,hK⟩:=hK;refine aIy (root:=0) (pos:=[]) (cs:=[(.cell 0 0,.tab cK7),(.cell 0 1,.tab cK9)]) (parse:=hnP) aCn ?_;exact cM' (E:=EN0) (q:=hnT.run (fun y=>(Out.ret (.ptr 0 0) [some (.abs (.hist y) [])]).run K)) (by kernel_rfl) (aIp (by simp [Tr.ok,hnT]) hK)
def DX(k:Int)(x:HST)(kd ky n0 n1 n2 n3 n4 n5 n6 n7:Int):HST:= {ev:=x.1++ [[k,0,kd,ky,0,0,0]],cl:=x.2++ [[(↑x.1.length:Int),(-1:Int),(↑x.2.length:Int),k,kd,ky,0,0,0]],n0:=n0,n1:=n1,n2:=n2,n3:=n3,n4:=n4,n5:=n5,n6:=n6,n7:=n7}
def DW(k c:Int)(y x:HST)(kd ky:Int):Tr (Int×HST):=.pre ((0:Int)≤k∧k<(↑8:Int)) (.ite (ilt 0 c) (.pre (lE' x.1∧lE' x.2) (.ret (1,x))) (.pre (0=0∧lE' x.2∧x.2.length+(1:Nat)≤(4294967296:Nat)) (.pre (0=0∧lE' x.1∧x.1.length+(1:Nat)≤(4294967296:Nat)) (.pre ((0:Int)≤k∧k<(↑8:Int)) (.pre (x.1.length+(1:Nat)=List.length (x.1++ [[k,0,kd,ky,0,0,0]])∧x.2.length+(1:Nat)=List.length (x.2++ [[(↑x.1.length:Int),(-1:Int),(↑x.2.length:Int),k,kd,ky,0,0,0]])) (.ret (0,y)))))))
def HV(x:HST)(kd ky:Int):Tr (Int×HST):=DW 0 x.3 (DX 0 x kd ky (↑(x.2.length+1):Int) x.4 x.5 x.6 x.7 x.8 x.9 x.10) x kd ky
def HW(x:HST)(kd ky:Int):Tr (Int×HST):=DW 1 x.4 (DX 1 x kd ky x.3 (↑(x.2.length+1):Int) x.5 x.6 x.7 x.8 x.9 x.10) x kd ky
def HX(x:HST)(kd ky:Int):Tr (Int×HST):=DW 2 x.5 (DX 2 x kd ky x.3 x.4 (↑(x.2.length+1):Int) x.6 x.7 x.8 x.9 x.10) x kd ky
def HY(x:HST)(kd ky:Int):Tr (Int×HST):=DW 3 x.6 (DX 3 x kd ky x.3 x.4 x.5 (↑(x.2.length+1):Int) x.7 x.8 x.9 x.10) x kd ky
def HZ(x:HST)(kd ky:Int):Tr (Int×HST):=DW 4 x.7 (DX 4 x kd ky x.3 x.4 x.5 x.6 (↑(x.2.length+1):Int) x.8 x.9 x.10) x kd ky
def H0(x:HST)(kd ky:Int):Tr (Int×HST):=DW 5 x.8 (DX 5 x kd ky x.3 x.4 x.5 x.6 x.7 (↑(x.2.length+1):Int) x.9 x.10) x kd ky
def H1(x:HST)(kd ky:Int):Tr (Int×HST):=DW 6 x.9 (DX 6 x kd ky x.3 x.4 x.5 x.6 x.7 x.8 (↑(x.2.length+1):Int) x.10) x kd ky
def H2(x:HST)(kd ky:Int):Tr (Int×HST):=DW 7 x.10 (DX 7 x kd ky x.3 x.4 x.5 x.6 x.7 x.8 x.9 (↑(x.2.length+1):Int)) x kd ky
def VZ(i:Int)(x:HST)(kd ky:Int)(K:Int×HST→Prop):Prop:=cT' 70 [.ptr 0 0,.I i,.agg [.I kd,.I ky]] (zX x) (bR 1 0 [] [] hiP K)
theorem WA(x:HST)(kd ky:Int)(K:Int×HST→Prop)(h:(HV x kd ky).run K):VZ 0 x kd ky K:=cM' (E:=EN0) (by kernel_rfl) h
theorem WB(x:HST)(kd ky:Int)(K:Int×HST→Prop)(h:(HW x kd ky).run K):VZ 1 x kd ky K:=cM' (E:=EN0) (by kernel_rfl) h
theorem WC(x:HST)(kd ky:Int)(K:Int×HST→Prop)(h:(HX x kd ky).run K):VZ 2 x kd ky K:=cM' (E:=EN0) (by kernel_rfl) h
theorem WD(x:HST)(kd ky:Int)(K:Int×HST→Prop)(h:(HY x kd ky).run K):VZ 3 x kd ky K:=cM' (E:=EN0) (by kernel_rfl) h
theorem WE(x:HST)(kd ky:Int)(K:Int×HST→Prop)(h:(HZ x kd ky).run K):VZ 4 x kd ky K:=cM' (E:=EN0) (by kernel_rfl) h
theorem WF(x:HST)(kd ky:Int)(K:Int×HST→Prop)(h:(H0 x kd ky).run K):VZ 5 x kd ky K:=cM' (E:=EN0) (by kernel_rfl) h
theorem WG(x:HST)(kd ky:Int)(K:Int×HST→Prop)(h:(H1 x kd ky).run K):VZ 6 x kd ky K:=cM' (E:=EN0) (by kernel_rfl) h
theorem WH(x:HST)(kd ky:Int)(K:Int×HST→Prop)(h:(H2 x kd ky).run K):VZ 7 x kd ky K:=cM' (E:=EN0) (by kernel_rfl) h
def hbT(th:Int)(x:HST)(kd ky:Int):Tr (Int×HST):=
 bif ieq th 0 then HV x kd ky else
 bif ieq th 1 then HW x kd ky else
 bif ieq th 2 then HX x kd ky else
 bif ieq th 3 then HY x kd ky else
 bif ieq th 4 then HZ x kd ky else
 bif ieq th 5 then H0 x kd ky else
 bif ieq th 6 then H1 x kd ky else
 bif ieq th 7 then H2 x kd ky else .pre False (.ret default)
def hbF(th:Int)(x:HST)(kd ky:Int):Int×HST:=(hbT th x kd ky).val
def hbOk(th:Int)(x:HST)(kd ky:Int):Prop:=(hbT th x kd ky).ok
theorem sD{T:Tr (Int×HST)}{th i:Int}{x:HST}{kd ky:Int}{K:AVal→aC Ob→Prop}(e:th=i)(hs: ∀K',T.run K'→VZ i x kd ky K')(h:T.run (fun y=>(Out.ret (.I y.1) [some (.abs (.hist y.2) [])]).run K)):cT' 70 [.ptr 0 0,.I th,.agg [.I kd,.I ky]] [some (.abs (.hist x) [])] K:=by
 subst e;exact aIm (root:=0) (pos:=[]) (cs:=[]) (parse:=hiP) (fin:=fun y=>.ret (.I y.1) [some (.abs (.hist y.2) [])]) PD (aT.unpack (.hist x) 0 0 (zX x) [] rfl rfl rfl rfl) (hs _ h)
theorem V9(th:Int)(x:HST)(kd ky:Int)(K:AVal→aC Ob→Prop)(h:(hbT th x kd ky).run (fun y=>(Out.ret (.I y.1) [some (.abs (.hist y.2) [])]).run K)):cT' 70 [.ptr 0 0,.I th,.agg [.I kd,.I ky]] [some (.abs (.hist x) [])] K:=by
 unfold hbT at h
 by_cases e:th=0
 ·exact sD e (WA x kd ky) (by rw [e]at h;exact h)
 rw [bI e]at h
 by_cases e:th=1
 ·exact sD e (WB x kd ky) (by rw [e]at h;exact h)
 rw [bI e]at h
 by_cases e:th=2
 ·exact sD e (WC x kd ky) (by rw [e]at h;exact h)
 rw [bI e]at h
 by_cases e:th=3
 ·exact sD e (WD x kd ky) (by rw [e]at h;exact h)
 rw [bI e]at h
 by_cases e:th=4
 ·exact sD e (WE x kd ky) (by rw [e]at h;exact h)
 rw [bI e]at h
 by_cases e:th=5
 ·exact sD e (WF x kd ky) (by rw [e]at h;exact h)
 rw [bI e]at h
 by_cases e:th=6
 ·exact sD e (WG x kd ky) (by rw [e]at h;exact h)
 rw [bI e]at h
 by_cases e:th=7
 ·exact sD e (WH x kd ky) (by rw [e]at h;exact h)
 rw [bI e]at h;exact h.1.elim
def hbS:aH Ob:=fun args h=>match args,h with
 | [.ptr 0 0,.int .i64 th,.agg [.int .i64 kd,.int .i64 ky]],[some (.abs (.hist x) [])]=>some (.pre (hbOk th x kd ky) (.ret (.I (hbF th x kd ky).1) [some (.abs (.hist (hbF th x kd ky).2) [])]))
 | _,_=>none
theorem aFb:sT' 70 hbS:=by
 intro args h o ho K hK;unfold hbS at ho;split at ho
 case h_2=>cases ho
 simp only [sI']at ho;subst ho;obtain⟨ok,hK⟩:=hK;exact V9 _ _ _ _ K (aIp ok hK)
def PB(c:Int)(x:HST):List (List Int):=List.set x.2 (0+Int.toNat (W (c - 1))) (kB 9 (List.getD x.2 (0+Int.toNat (W (c - 1))) []) (0+0+1) [(↑x.1.length:Int)])
def SZ(c:Int)(x:HST)(code:Int)(okk:Bool)(val:Int):List (List Int):=List.set (PB c x) (0+Int.toNat (W (c - 1))) (kB 9 (List.getD (PB c x) (0+Int.toNat (W (c - 1))) []) (0+6) [code,bif okk then 1 else 0,val])
def DZ(k c:Int)(x:HST)(code:Int)(okk:Bool)(val n0 n1 n2 n3 n4 n5 n6 n7:Int):HST:= {ev:=x.1++ [[k,1,0,0,code,bif okk then 1 else 0,val]],cl:=SZ c x code okk val,n0:=n0,n1:=n1,n2:=n2,n3:=n3,n4:=n4,n5:=n5,n6:=n6,n7:=n7}
def DY(k c:Int)(y x:HST)(code:Int)(okk:Bool)(val:Int):Tr (Int×HST):=.pre ((0:Int)≤k∧k<(↑8:Int)) (.ite (!ilt 0 c) (.pre (lE' x.1∧lE' x.2) (.ret (5,x))) (.pre ((0:Int)≤k∧k<(↑8:Int)) (.pre ((0:Int)≤W (c - 1)∧W (c - 1)<(↑x.2.length:Int)) (.pre (0+Int.toNat (W (c - 1))<x.2.length) (.pre (0+Int.toNat (W (c - 1))<List.length (PB c x)) (.pre (0=0∧lE' x.1∧x.1.length+(1:Nat)≤(4294967296:Nat)) (.pre ((0:Int)≤k∧k<(↑8:Int)) (.pre (x.1.length+(1:Nat)=List.length (x.1++ [[k,1,0,0,code,bif okk then 1 else 0,val]])∧x.2.length=List.length (SZ c x code okk val)) (.ret (0,y))))))))))
def H3(x:HST)(code:Int)(okk:Bool)(val:Int):Tr (Int×HST):=DY 0 x.3 (DZ 0 x.3 x code okk val 0 x.4 x.5 x.6 x.7 x.8 x.9 x.10) x code okk val
def H4(x:HST)(code:Int)(okk:Bool)(val:Int):Tr (Int×HST):=DY 1 x.4 (DZ 1 x.4 x code okk val x.3 0 x.5 x.6 x.7 x.8 x.9 x.10) x code okk val
def H5(x:HST)(code:Int)(okk:Bool)(val:Int):Tr (Int×HST):=DY 2 x.5 (DZ 2 x.5 x code okk val x.3 x.4 0 x.6 x.7 x.8 x.9 x.10) x code okk val
def H6(x:HST)(code:Int)(okk:Bool)(val:Int):Tr (Int×HST):=DY 3 x.6 (DZ 3 x.6 x code okk val x.3 x.4 x.5 0 x.7 x.8 x.9 x.10) x code okk val
def H7(x:HST)(code:Int)(okk:Bool)(val:Int):Tr (Int×HST):=DY 4 x.7 (DZ 4 x.7 x code okk val x.3 x.4 x.5 x.6 0 x.8 x.9 x.10) x code okk val
def H8(x:HST)(code:Int)(okk:Bool)(val:Int):Tr (Int×HST):=DY 5 x.8 (DZ 5 x.8 x code okk val x.3 x.4 x.5 x.6 x.7 0 x.9 x.10) x code okk val
def H9(x:HST)(code:Int)(okk:Bool)(val:Int):Tr (Int×HST):=DY 6 x.9 (DZ 6 x.9 x code okk val x.3 x.4 x.5 x.6 x.7 x.8 0 x.10) x code okk val
def IA(x:HST)(code:Int)(okk:Bool)(val:Int):Tr (Int×HST):=DY 7 x.10 (DZ 7 x.10 x code okk val x.3 x.4 x.5 x.6 x.7 x.8 x.9 0) x code okk val
def WP(i:Int)(x:HST)(code:Int)(okk:Bool)(val:Int)(K:Int×HST→Prop):Prop:=cT' 98 [.ptr 0 0,.I i,.agg [.I code,.bool okk,.I val]] (zX x) (bR 1 0 [] [] hiP K)
theorem WR(x:HST)(code:Int)(okk:Bool)(val:Int)(K:Int×HST→Prop)(h:(H3 x code okk val).run K):WP 0 x code okk val K:=cM' (E:=EN0) (by kernel_rfl) h
theorem WS(x:HST)(code:Int)(okk:Bool)(val:Int)(K:Int×HST→Prop)(h:(H4 x code okk val).run K):WP 1 x code okk val K:=cM' (E:=EN0) (by kernel_rfl) h
theorem WT(x:HST)(code:Int)(okk:Bool)(val:Int)(K:Int×HST→Prop)(h:(H5 x code okk val).run K):WP 2 x code okk val K:=cM' (E:=EN0) (by kernel_rfl) h
theorem WV(x:HST)(code:Int)(okk:Bool)(val:Int)(K:Int×HST→Prop)(h:(H6 x code okk val).run K):WP 3 x code okk val K:=cM' (E:=EN0) (by kernel_rfl) h
theorem WW(x:HST)(code:Int)(okk:Bool)(val:Int)(K:Int×HST→Prop)(h:(H7 x code okk val).run K):WP 4 x code okk val K:=cM' (E:=EN0) (by kernel_rfl) h
theorem WX(x:HST)(code:Int)(okk:Bool)(val:Int)(K:Int×HST→Prop)(h:(H8 x code okk val).run K):WP 5 x code okk val K:=cM' (E:=EN0) (by kernel_rfl) h
theorem WY(x:HST)(code:Int)(okk:Bool)(val:Int)(K:Int×HST→Prop)(h:(H9 x code okk val).run K):WP 6 x code okk val K:=cM' (E:=EN0) (by kernel_rfl) h
theorem WZ(x:HST)(code:Int)(okk:Bool)(val:Int)(K:Int×HST→Prop)(h:(IA x code okk val).run K):WP 7 x code okk val K:=cM' (E:=EN0) (by kernel_rfl) h
def heT(th:Int)(x:HST)(code:Int)(okk:Bool)(val:Int):Tr (Int×HST):=
 bif ieq th 0 then H3 x code okk val else
 bif ieq th 1 then H4 x code okk val else
 bif ieq th 2 then H5 x code okk val else
 bif ieq th 3 then H6 x code okk val else
 bif ieq th 4 then H7 x code okk val else
 bif ieq th 5 then H8 x code okk val else
 bif ieq th 6 then H9 x code okk val else
 bif ieq th 7 then IA x code okk val else .pre False (.ret default)
def heF(th:Int)(x:HST)(code:Int)(okk:Bool)(val:Int):Int×HST:=(heT th x code okk val).val
def heOk(th:Int)(x:HST)(code:Int)(okk:Bool)(val:Int):Prop:=(heT th x code okk val).ok
theorem sE{T:Tr (Int×HST)}{th i:Int}{x:HST}{code:Int}{okk:Bool}{val:Int}{K:AVal→aC Ob→Prop}(e:th=i)(hs: ∀K',T.run K'→WP i x code okk val K')(h:T.run (fun y=>(Out.ret (.I y.1) [some (.abs (.hist y.2) [])]).run K)):cT' 98 [.ptr 0 0,.I th,.agg [.I code,.bool okk,.I val]] [some (.abs (.hist x) [])] K:=by
 subst e;exact aIm (root:=0) (pos:=[]) (cs:=[]) (parse:=hiP) (fin:=fun y=>.ret (.I y.1) [some (.abs (.hist y.2) [])]) PD (aT.unpack (.hist x) 0 0 (zX x) [] rfl rfl rfl rfl) (hs _ h)
theorem WQ(th:Int)(x:HST)(code:Int)(okk:Bool)(val:Int)(K:AVal→aC Ob→Prop)(h:(heT th x code okk val).run (fun y=>(Out.ret (.I y.1) [some (.abs (.hist y.2) [])]).run K)):cT' 98 [.ptr 0 0,.I th,.agg [.I code,.bool okk,.I val]] [some (.abs (.hist x) [])] K:=by
 unfold heT at h
 by_cases e:th=0
 ·exact sE e (WR x code okk val) (by rw [e]at h;exact h)
 rw [bI e]at h
 by_cases e:th=1
 ·exact sE e (WS x code okk val) (by rw [e]at h;exact h)
 rw [bI e]at h
 by_cases e:th=2
 ·exact sE e (WT x code okk val) (by rw [e]at h;exact h)
 rw [bI e]at h
 by_cases e:th=3
 ·exact sE e (WV x code okk val) (by rw [e]at h;exact h)
 rw [bI e]at h
 by_cases e:th=4
 ·exact sE e (WW x code okk val) (by rw [e]at h;exact h)
 rw [bI e]at h
 by_cases e:th=5
 ·exact sE e (WX x code okk val) (by rw [e]at h;exact h)
 rw [bI e]at h
 by_cases e:th=6
 ·exact sE e (WY x code okk val) (by rw [e]at h;exact h)
 rw [bI e]at h
 by_cases e:th=7
 ·exact sE e (WZ x code okk val) (by rw [e]at h;exact h)
 rw [bI e]at h;exact h.1.elim
def heS:aH Ob:=fun args h=>match args,h with
 | [.ptr 0 0,.int .i64 th,.agg [.int .i64 code,.bool okk,.int .i64 val]],[some (.abs (.hist x) [])]=>some (.pre (heOk th x code okk val) (.ret (.I (heF th x code okk val).1) [some (.abs (.hist (heF th x code okk val).2) [])]))
 | _,_=>none
theorem aFj:sT' 98 heS:=by
 intro args h o ho K hK;unfold heS at ho;split at ho
 case h_2=>cases ho
 simp only [sI']at ho;subst ho;obtain⟨ok,hK⟩:=hK;exact WQ _ _ _ _ _ K (aIp ok hK)
noncomputable def EN1:=((EN0.addS 81 hnS aFl).addS 70 hbS aFb).addS 98 heS aFj
end Go.Sh
