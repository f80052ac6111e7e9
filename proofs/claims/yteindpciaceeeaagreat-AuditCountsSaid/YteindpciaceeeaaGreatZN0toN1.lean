import Derived.Test.YteindpciaceeeaaGreatZSh40toSh41
set_option linter.all false
set_option maxHeartbeats 8000000
namespace Go.Sh
open Go Go.Proofs
variable [Con]
instance:Inhabited STS:=⟨⟨0,0,[]⟩⟩
instance:Inhabited WKS:=⟨⟨0,0,⟨0,0,[]⟩,[],0,false,eO,[],[]⟩⟩
def bB(ws:List WKS)(i:Nat):WKS:=ws.getD i default
def dD(ws:List WKS)(i:Nat)(w:WKS):List WKS:=ws.set i w
theorem DR{ws:List WKS}{i:Nat}(h:i<ws.length):(ws.map fun w=>some (Mc.worker w))[i]? =some (some (.worker (bB ws i))):=by
 unfold bB;simp only [List.getElem?_map,gD'];rw [gE' h];rfl
theorem NM(ws:List WKS)(i:Nat)(w:WKS):(dD ws i w).map (fun w=>some (Mc.worker w))=(ws.map fun w=>some (Mc.worker w)).set i (some (.worker w)):=by
 unfold dD;simp [List.map_set]
def RKW:gP tbl where
 R:=List WKS
 row:=.wrow
 hole:=.whole
 els:=fun ws=>ws.map fun w=>some (.worker w)
 len:=List.length
 upd:=fun ws i t=>match t with
  | .worker w=>some (dD ws i w)
  | _=>none
 isRow:=fun t=>match t with
  | .wrow ws=>some ws
  | _=>none
 isHole:=fun t=>match t with
  | .whole ws i=>some (ws,i)
  | _=>none
 is:=fun _ _=>true
 get:=fun ws i=>.worker (bB ws i)
 isRow_eq:=by
  intro t r h;cases t<;>first | (cases h;rfl) | cases h
 isHole_eq:=by
  intro t r i h;cases t<;>first | (cases h;rfl) | cases h
 len_eq:=fun r=>by simp
 upd_eq:=by
  intro r i t r' h;cases t with
  | worker w=>cases h;exact NM r i w
  | _=>cases h
 is_true:=by
  intro r i _ h;exact DR h
 is_false:=by intro r i h;cases h
 tbRow:=fun r=>rfl
 tbHole:=fun r i=>rfl
def slAt(ws:List (List Int))(i:Nat):List Int:=ws.getD i []
theorem Z0(ws:List (List Int))(i:Nat):slAt ws i=ws.getD i []:=rfl
def rdI(e:aG Ob):Option (List Int):=match e with
 | .ints (some .i64) xs=>some xs
 | _=>none
theorem aED{e:aG Ob}{x:List Int}(h:rdI e=some x):e=.ints (some .i64) x:=by
 unfold rdI at h;split at h
 ·cases h;rfl
 ·cases h
def aIE(v:AVal):Option Nat:=match v with
 | .slice k _ _ _=>some k
 | _=>none
def hdI(q:Nat)(y:List Int)(v:AVal):Prop:=match v with
 | .slice k o n s=>k=q/\o=0/\n=y.length/\s=1
 | _=>False
theorem aDI{q:Nat}{y:List Int}{v:AVal}(h:hdI q y v):v=.slice q 0 y.length 1:=by
 unfold hdI at h;split at h
 ·obtain⟨rfl,rfl,rfl,rfl⟩:=h;rfl
 ·exact h.elim
theorem aHp{V V':Val}{k k' n:Nat}{v:Value}(h:V k=V' k')(hr:Rep V (.slice k 0 n 1) v):Rep V' (.slice k' 0 n 1) v:=by
 obtain⟨base,cap,e,hc,hb⟩:=hr;refine⟨base,cap,e,hc,?_⟩;rw [<-h];exact hb
theorem YZ{I:Itp Ob}{V V':Val}{l l':Nat}{c:Code1}{x:List Int}{p:PHeap}(h:V l=V' l')(hi:aG.interp I V l (.ints c x) p):aG.interp I V' l' (.ints c x) p:=by
 rcases hi with⟨e1,e2,b,hl⟩ | ⟨b,k,hl,r⟩
 ·exact .inl ⟨e1,e2,b,h▸hl⟩
 ·exact .inr ⟨b,k,h▸hl,r⟩
def aID(t:Ob):Option (List (List Int)):=match t with
 | .srow ws=>some ws
 | _=>none
def aIC(t:Ob):Option (List (List Int)×Nat):=match t with
 | .shole ws i=>some (ws,i)
 | _=>none
theorem qY{ws:List (List Int)}{i:Nat}(hi:i<ws.length):ws[i]? =some (slAt ws i):=by
 rw [Z0,gD',gE' hi];rfl
def D8:eW tbl intE where
 row:=.srow
 hole:=.shole
 isRow:=aID
 isHole:=aIC
 rd:=rdI
 get:=slAt
 lab:=aIE
 hdIs:=hdI
 isRow_eq:=by
  intro t r h;cases t<;>first | (cases h;rfl) | cases h
 isHole_eq:=by
  intro t r i h;cases t<;>first | (cases h;rfl) | cases h
 rd_eq:=fun e x h=>aED h
 tbRow:=fun r=>rfl
 tbHole:=fun r i=>rfl
 hdRep:=fun V V' k k' x v h hr=>aHp h hr
 enLoc:=fun N V V' l l' x p h hi=>YZ h hi
 get_eq:=fun ws i hi=>qY hi
 hdIs_eq:=fun q y v h=>aDI h
 nil:=[]
 nilIn:=fun N V l b h=>.inl ⟨rfl,rfl,b,h⟩
 nilHd:=fun V l=>⟨none,0,rfl,Nat.le_refl _,.inr ⟨rfl,rfl⟩⟩
 inner:=1
 cast:=.ints (some .i64)
theorem tI(V:Val)(q:Nat)(y:List Int)(v:Value)(h:Rep V (intE.hd q y) v):v.oneCell'=true/\v.cells= #[v]:=by
 obtain⟨base,cap,rfl,_⟩:=h;exact⟨rfl,rfl⟩
theorem aF.back{n l i k:Nat}{ws:List WKS}{w:WKS}{v:AVal}{g:aC Ob}(hl:aL g l=some (.abs (.whole ws i) [k]))(hk:aL g k=some (.abs (.worker w) []))(hkl:k≠l)(hi:i<ws.length):
 aF (obI tbl) n v g v ((g.set l (some (.abs (.wrow (dD ws i w)) []))).set k none):=by
 intro V hR w' x h1 h2 h3 h4;refine⟨V,fun _ _ _ h=>h,?_,by simpa using h3,h4,?_⟩
 ·intro m hm;exact h2 m (by simpa using hm)
 ·exact h1.back RKW (ws:=ws) (ws':=dD ws i w) rfl hl hk hkl hi
def dqNAS:aH Ob:=fun args h=>match args,h with
 | [.ptr 0 0,.agg [.int .i64 sh,.int .i64 kd,.int .i64 ky],.int .i64 lim],[some (.abs (.store t n st) [])]=>some (.pre (O5 t n sh kd ky lim st) (.ret (.ptr 1 0) [some (.abs (.store t n (dqNF t n sh kd ky lim st).2) []),some (.abs (.doer t n (dqNF t n sh kd ky lim st).1) [0])]))
 | _,_=>none
theorem VW:sT' 103 dqNAS:=by
 intro args h o ho K hK;unfold dqNAS at ho;split at ho<;>cases ho
 rename_i sh kd ky lim t n st;obtain⟨ok,hK⟩:=hK;refine aJ9 ?_;refine aJ6 (h2:=[gW 1 t n st,gX st]) (aQ.unpack (.store t n st) 0 0 (dK t n st) [] rfl rfl rfl rfl) ?_;refine FI [.ptr 0 0,.agg [.I sh,.I kd,.I ky],.I lim] [gW 1 t n st,gX st] _ rfl _ ⟨⟨rfl,ok⟩,?_⟩;generalize dqNF t n sh kd ky lim st=y at hK⊢;have hK:K (.ptr 1 0) [some (.abs (.store t n y.2) []),some (.abs (.doer t n y.1) [0])]:=hK;exact⟨⟨_,_,(aF.pick [0,2,1] rfl).trans ((aJ8 (v2:=.ptr 1 0) (g2:=aP [some (.abs (.store t n y.2) []),some (.abs (.doer t n y.1) [0])] 0 0 (dK t n y.2) []) (by kernel_rfl) (by kernel_rfl)).trans (aF.pack [some (.abs (.store t n y.2) []),some (.abs (.doer t n y.1) [0])] (.store t n y.2) 0 0 (dK t n y.2) [] rfl rfl rfl (by kernel_rfl))),hK⟩⟩
noncomputable def EN0:= {ED.addS 103 (aH.or dqNS dqNAS) (aKs FI VW)with row:=D8.ops Tryz.prog (RKW.ops Tryz.prog),rowOk:=D8.ops_ok tI RKW.ops_ok,dro:=D8.dro Tryz.prog fun _ _ _=>none,droCongr:=D8.dro_congr oN,droOk:=D8.dro_ok tI uU}
instance:Inhabited (Int×HST):=⟨(0,default)⟩
def hiP(v:AVal)(g:aC Ob):Option (Prop×(Int×HST)):=match v,g with
 | .int .i64 c,[some (.cells [.tslice 1 0 a 7,.tslice 2 0 b 9,.int .i64 n0,.int .i64 n1,.int .i64 n2,.int .i64 n3,.int .i64 n4,.int .i64 n5,.int .i64 n6,.int .i64 n7]),some (.tab [some .i64,none,some .i64,some .i64,some .i64,none,some .i64] ev),some (.tab [some .i64,some .i64,some .i64,some .i64,some .i64,some .i64,some .i64,none,some .i64] cl)]=>some (a=ev.length/\b=cl.length,(c,⟨ev,cl,n0,n1,n2,n3,n4,n5,n6,n7⟩))
 | _,_=>none
def hnP(v:AVal)(g:aC Ob):Option (Prop×HST):=match v,g with
 | .ptr 0 0,[some (.cells [.tslice 1 0 a 7,.tslice 2 0 b 9,.int .i64 n0,.int .i64 n1,.int .i64 n2,.int .i64 n3,.int .i64 n4,.int .i64 n5,.int .i64 n6,.int .i64 n7]),some (.tab [some .i64,none,some .i64,some .i64,some .i64,none,some .i64] ev),some (.tab [some .i64,some .i64,some .i64,some .i64,some .i64,some .i64,some .i64,none,some .i64] cl)]=>some (a=ev.length/\b=cl.length,⟨ev,cl,n0,n1,n2,n3,n4,n5,n6,n7⟩)
 | _,_=>none
theorem QN:bO (obI tbl) 1 hiP (fun y=>.ret (.I y.1) [some (.abs (.hist y.2) [])]):=by
 intro v g p x hp hq K hK;unfold hiP at hp;split at hp
 case h_2=>cases hp
 rename_i c a b n0 n1 n2 n3 n4 n5 n6 n7 ev cl;cases hp;obtain⟨rfl,rfl⟩:=hq;have hK:K (.I c) [some (.abs (.hist ⟨ev,cl,n0,n1,n2,n3,n4,n5,n6,n7⟩) [])]:=hK;exact tkP hK (.hist ⟨ev,cl,n0,n1,n2,n3,n4,n5,n6,n7⟩) 0 0 (z1 ⟨ev,cl,n0,n1,n2,n3,n4,n5,n6,n7⟩) []
theorem aDS:bO (obI tbl) 0 hnP (fun y=>.ret (.ptr 0 0) [some (.abs (.hist y) [])]):=by
 intro v g p x hp hq K hK;unfold hnP at hp;split at hp
 case h_2=>cases hp
 rename_i a b n0 n1 n2 n3 n4 n5 n6 n7 ev cl;cases hp;obtain⟨rfl,rfl⟩:=hq;have hK:K (.ptr 0 0) [some (.abs (.hist ⟨ev,cl,n0,n1,n2,n3,n4,n5,n6,n7⟩) [])]:=hK;exact tkP hK (.hist ⟨ev,cl,n0,n1,n2,n3,n4,n5,n6,n7⟩) 0 0 (z1 ⟨ev,cl,n0,n1,n2,n3,n4,n5,n6,n7⟩) []
def hnT:Tr HST:=.pre (0=0/\0=0) (.ret {ev:=[],cl:=[],n0:=0,n1:=0,n2:=0,n3:=0,n4:=0,n5:=0,n6:=0,n7:=0})
def hnS:aH Ob:=fun args h=>match args,h with
 | [],[]=>some (.pre True (.ret (.ptr 0 0) [some (.abs (.hist ⟨[],[],0,0,0,0,0,0,0,0⟩) [])]))
 | _,_=>none
theorem aGU:sT' 81 hnS:=by
 intro args h o ho K hK;unfold hnS at ho;split at ho
 case h_2=>cases ho
 simp only [sI']at ho;subst ho;obtain⟨ok,hK⟩:=hK;refine aKf (root:=0) (pos:=[]) (cs:=[(.cell 0 0,.tab cK7),(.cell 0 1,.tab cK9)]) (parse:=hnP) aDS ?_;exact cM' (E:=EN0) (q:=hnT.run (fun y=>(Out.ret (.ptr 0 0) [some (.abs (.hist y) [])]).run K)) (by kernel_rfl) (aJ5 (by simp [Tr.ok,hnT]) hK)
def DY(k:Int)(x:HST)(kd ky n0 n1 n2 n3 n4 n5 n6 n7:Int):HST:= {ev:=x.1++ [[k,0,kd,ky,0,0,0]],cl:=x.2++ [[(↑x.1.length:Int),(-1:Int),(↑x.2.length:Int),k,kd,ky,0,0,0]],n0:=n0,n1:=n1,n2:=n2,n3:=n3,n4:=n4,n5:=n5,n6:=n6,n7:=n7}
def DX(k c:Int)(y x:HST)(kd ky:Int):Tr (Int×HST):=.pre ((0:Int)<=k/\k<(↑8:Int)) (.ite (ilt 0 c) (.pre (lE' x.1/\lE' x.2) (.ret (1,x))) (.pre (0=0/\lE' x.2/\x.2.length+(1:Nat)<=(4294967296:Nat)) (.pre (0=0/\lE' x.1/\x.1.length+(1:Nat)<=(4294967296:Nat)) (.pre ((0:Int)<=k/\k<(↑8:Int)) (.pre (x.1.length+(1:Nat)=List.length (x.1++ [[k,0,kd,ky,0,0,0]])/\x.2.length+(1:Nat)=List.length (x.2++ [[(↑x.1.length:Int),(-1:Int),(↑x.2.length:Int),k,kd,ky,0,0,0]])) (.ret (0,y)))))))
def IG(x:HST)(kd ky:Int):Tr (Int×HST):=DX 0 x.3 (DY 0 x kd ky (↑(x.2.length+1):Int) x.4 x.5 x.6 x.7 x.8 x.9 x.10) x kd ky
def IH(x:HST)(kd ky:Int):Tr (Int×HST):=DX 1 x.4 (DY 1 x kd ky x.3 (↑(x.2.length+1):Int) x.5 x.6 x.7 x.8 x.9 x.10) x kd ky
def II(x:HST)(kd ky:Int):Tr (Int×HST):=DX 2 x.5 (DY 2 x kd ky x.3 x.4 (↑(x.2.length+1):Int) x.6 x.7 x.8 x.9 x.10) x kd ky
def IJ(x:HST)(kd ky:Int):Tr (Int×HST):=DX 3 x.6 (DY 3 x kd ky x.3 x.4 x.5 (↑(x.2.length+1):Int) x.7 x.8 x.9 x.10) x kd ky
def IK(x:HST)(kd ky:Int):Tr (Int×HST):=DX 4 x.7 (DY 4 x kd ky x.3 x.4 x.5 x.6 (↑(x.2.length+1):Int) x.8 x.9 x.10) x kd ky
def IL(x:HST)(kd ky:Int):Tr (Int×HST):=DX 5 x.8 (DY 5 x kd ky x.3 x.4 x.5 x.6 x.7 (↑(x.2.length+1):Int) x.9 x.10) x kd ky
def IM(x:HST)(kd ky:Int):Tr (Int×HST):=DX 6 x.9 (DY 6 x kd ky x.3 x.4 x.5 x.6 x.7 x.8 (↑(x.2.length+1):Int) x.10) x kd ky
def IN(x:HST)(kd ky:Int):Tr (Int×HST):=DX 7 x.10 (DY 7 x kd ky x.3 x.4 x.5 x.6 x.7 x.8 x.9 (↑(x.2.length+1):Int)) x kd ky
def XV(i:Int)(x:HST)(kd ky:Int)(K:Int×HST->Prop):Prop:=cT' 70 [.ptr 0 0,.I i,.agg [.I kd,.I ky]] (z1 x) (bS 1 0 [] [] hiP K)
theorem XX(x:HST)(kd ky:Int)(K:Int×HST->Prop)(h:(IG x kd ky).run K):XV 0 x kd ky K:=cM' (E:=EN0) (by kernel_rfl) h
theorem XY(x:HST)(kd ky:Int)(K:Int×HST->Prop)(h:(IH x kd ky).run K):XV 1 x kd ky K:=cM' (E:=EN0) (by kernel_rfl) h
theorem XZ(x:HST)(kd ky:Int)(K:Int×HST->Prop)(h:(II x kd ky).run K):XV 2 x kd ky K:=cM' (E:=EN0) (by kernel_rfl) h
theorem X0(x:HST)(kd ky:Int)(K:Int×HST->Prop)(h:(IJ x kd ky).run K):XV 3 x kd ky K:=cM' (E:=EN0) (by kernel_rfl) h
theorem X1(x:HST)(kd ky:Int)(K:Int×HST->Prop)(h:(IK x kd ky).run K):XV 4 x kd ky K:=cM' (E:=EN0) (by kernel_rfl) h
theorem X2(x:HST)(kd ky:Int)(K:Int×HST->Prop)(h:(IL x kd ky).run K):XV 5 x kd ky K:=cM' (E:=EN0) (by kernel_rfl) h
theorem X3(x:HST)(kd ky:Int)(K:Int×HST->Prop)(h:(IM x kd ky).run K):XV 6 x kd ky K:=cM' (E:=EN0) (by kernel_rfl) h
theorem X4(x:HST)(kd ky:Int)(K:Int×HST->Prop)(h:(IN x kd ky).run K):XV 7 x kd ky K:=cM' (E:=EN0) (by kernel_rfl) h
def hbT(th:Int)(x:HST)(kd ky:Int):Tr (Int×HST):=
 bif ieq th 0 then IG x kd ky else
 bif ieq th 1 then IH x kd ky else
 bif ieq th 2 then II x kd ky else
 bif ieq th 3 then IJ x kd ky else
 bif ieq th 4 then IK x kd ky else
 bif ieq th 5 then IL x kd ky else
 bif ieq th 6 then IM x kd ky else
 bif ieq th 7 then IN x kd ky else .pre False (.ret default)
def hbF(th:Int)(x:HST)(kd ky:Int):Int×HST:=(hbT th x kd ky).val
def hbOk(th:Int)(x:HST)(kd ky:Int):Prop:=(hbT th x kd ky).ok
theorem sT{T:Tr (Int×HST)}{th i:Int}{x:HST}{kd ky:Int}{K:AVal->aC Ob->Prop}(e:th=i)(hs: ∀K',T.run K'->XV i x kd ky K')(h:T.run (fun y=>(Out.ret (.I y.1) [some (.abs (.hist y.2) [])]).run K)):cT' 70 [.ptr 0 0,.I th,.agg [.I kd,.I ky]] [some (.abs (.hist x) [])] K:=by
 subst e;exact aJ2 (root:=0) (pos:=[]) (cs:=[]) (parse:=hiP) (fin:=fun y=>.ret (.I y.1) [some (.abs (.hist y.2) [])]) QN (aQ.unpack (.hist x) 0 0 (z1 x) [] rfl rfl rfl rfl) (hs _ h)
theorem XW(th:Int)(x:HST)(kd ky:Int)(K:AVal->aC Ob->Prop)(h:(hbT th x kd ky).run (fun y=>(Out.ret (.I y.1) [some (.abs (.hist y.2) [])]).run K)):cT' 70 [.ptr 0 0,.I th,.agg [.I kd,.I ky]] [some (.abs (.hist x) [])] K:=by
 unfold hbT at h
 by_cases e:th=0
 ·exact sT e (XX x kd ky) (by rw [e]at h;exact h)
 rw [bK e]at h
 by_cases e:th=1
 ·exact sT e (XY x kd ky) (by rw [e]at h;exact h)
 rw [bK e]at h
 by_cases e:th=2
 ·exact sT e (XZ x kd ky) (by rw [e]at h;exact h)
 rw [bK e]at h
 by_cases e:th=3
 ·exact sT e (X0 x kd ky) (by rw [e]at h;exact h)
 rw [bK e]at h
 by_cases e:th=4
 ·exact sT e (X1 x kd ky) (by rw [e]at h;exact h)
 rw [bK e]at h
 by_cases e:th=5
 ·exact sT e (X2 x kd ky) (by rw [e]at h;exact h)
 rw [bK e]at h
 by_cases e:th=6
 ·exact sT e (X3 x kd ky) (by rw [e]at h;exact h)
 rw [bK e]at h
 by_cases e:th=7
 ·exact sT e (X4 x kd ky) (by rw [e]at h;exact h)
 rw [bK e]at h;exact h.1.elim
def hbS:aH Ob:=fun args h=>match args,h with
 | [.ptr 0 0,.int .i64 th,.agg [.int .i64 kd,.int .i64 ky]],[some (.abs (.hist x) [])]=>some (.pre (hbOk th x kd ky) (.ret (.I (hbF th x kd ky).1) [some (.abs (.hist (hbF th x kd ky).2) [])]))
 | _,_=>none
theorem aGK:sT' 70 hbS:=by
 intro args h o ho K hK;unfold hbS at ho;split at ho
 case h_2=>cases ho
 simp only [sI']at ho;subst ho;obtain⟨ok,hK⟩:=hK;exact XW _ _ _ _ K (aJ5 ok hK)
def QL(c:Int)(x:HST):List (List Int):=List.set x.2 (0+Int.toNat (W (c - 1))) (kG 9 (List.getD x.2 (0+Int.toNat (W (c - 1))) []) (0+0+1) [(↑x.1.length:Int)])
def T4(c:Int)(x:HST)(code:Int)(okk:Bool)(val:Int):List (List Int):=List.set (QL c x) (0+Int.toNat (W (c - 1))) (kG 9 (List.getD (QL c x) (0+Int.toNat (W (c - 1))) []) (0+6) [code,bif okk then 1 else 0,val])
def D0(k c:Int)(x:HST)(code:Int)(okk:Bool)(val n0 n1 n2 n3 n4 n5 n6 n7:Int):HST:= {ev:=x.1++ [[k,1,0,0,code,bif okk then 1 else 0,val]],cl:=T4 c x code okk val,n0:=n0,n1:=n1,n2:=n2,n3:=n3,n4:=n4,n5:=n5,n6:=n6,n7:=n7}
def DZ(k c:Int)(y x:HST)(code:Int)(okk:Bool)(val:Int):Tr (Int×HST):=.pre ((0:Int)<=k/\k<(↑8:Int)) (.ite (!ilt 0 c) (.pre (lE' x.1/\lE' x.2) (.ret (5,x))) (.pre ((0:Int)<=k/\k<(↑8:Int)) (.pre ((0:Int)<=W (c - 1)/\W (c - 1)<(↑x.2.length:Int)) (.pre (0+Int.toNat (W (c - 1))<x.2.length) (.pre (0+Int.toNat (W (c - 1))<List.length (QL c x)) (.pre (0=0/\lE' x.1/\x.1.length+(1:Nat)<=(4294967296:Nat)) (.pre ((0:Int)<=k/\k<(↑8:Int)) (.pre (x.1.length+(1:Nat)=List.length (x.1++ [[k,1,0,0,code,bif okk then 1 else 0,val]])/\x.2.length=List.length (T4 c x code okk val)) (.ret (0,y))))))))))
def IP(x:HST)(code:Int)(okk:Bool)(val:Int):Tr (Int×HST):=DZ 0 x.3 (D0 0 x.3 x code okk val 0 x.4 x.5 x.6 x.7 x.8 x.9 x.10) x code okk val
def IQ(x:HST)(code:Int)(okk:Bool)(val:Int):Tr (Int×HST):=DZ 1 x.4 (D0 1 x.4 x code okk val x.3 0 x.5 x.6 x.7 x.8 x.9 x.10) x code okk val
def IR(x:HST)(code:Int)(okk:Bool)(val:Int):Tr (Int×HST):=DZ 2 x.5 (D0 2 x.5 x code okk val x.3 x.4 0 x.6 x.7 x.8 x.9 x.10) x code okk val
def IS(x:HST)(code:Int)(okk:Bool)(val:Int):Tr (Int×HST):=DZ 3 x.6 (D0 3 x.6 x code okk val x.3 x.4 x.5 0 x.7 x.8 x.9 x.10) x code okk val
def IT(x:HST)(code:Int)(okk:Bool)(val:Int):Tr (Int×HST):=DZ 4 x.7 (D0 4 x.7 x code okk val x.3 x.4 x.5 x.6 0 x.8 x.9 x.10) x code okk val
def IU(x:HST)(code:Int)(okk:Bool)(val:Int):Tr (Int×HST):=DZ 5 x.8 (D0 5 x.8 x code okk val x.3 x.4 x.5 x.6 x.7 0 x.9 x.10) x code okk val
def IV(x:HST)(code:Int)(okk:Bool)(val:Int):Tr (Int×HST):=DZ 6 x.9 (D0 6 x.9 x code okk val x.3 x.4 x.5 x.6 x.7 x.8 0 x.10) x code okk val
def IW(x:HST)(code:Int)(okk:Bool)(val:Int):Tr (Int×HST):=DZ 7 x.10 (D0 7 x.10 x code okk val x.3 x.4 x.5 x.6 x.7 x.8 x.9 0) x code okk val
def YC(i:Int)(x:HST)(code:Int)(okk:Bool)(val:Int)(K:Int×HST->Prop):Prop:=cT' 98 [.ptr 0 0,.I i,.agg [.I code,.bool okk,.I val]] (z1 x) (bS 1 0 [] [] hiP K)
theorem YE(x:HST)(code:Int)(okk:Bool)(val:Int)(K:Int×HST->Prop)(h:(IP x code okk val).run K):YC 0 x code okk val K:=cM' (E:=EN0) (by kernel_rfl) h
theorem YF(x:HST)(code:Int)(okk:Bool)(val:Int)(K:Int×HST->Prop)(h:(IQ x code okk val).run K):YC 1 x code okk val K:=cM' (E:=EN0) (by kernel_rfl) h
theorem YG(x:HST)(code:Int)(okk:Bool)(val:Int)(K:Int×HST->Prop)(h:(IR x code okk val).run K):YC 2 x code okk val K:=cM' (E:=EN0) (by kernel_rfl) h
theorem YH(x:HST)(code:Int)(okk:Bool)(val:Int)(K:Int×HST->Prop)(h:(IS x code okk val).run K):YC 3 x code okk val K:=cM' (E:=EN0) (by kernel_rfl) h
theorem YI(x:HST)(code:Int)(okk:Bool)(val:Int)(K:Int×HST->Prop)(h:(IT x code okk val).run K):YC 4 x code okk val K:=cM' (E:=EN0) (by kernel_rfl) h
theorem YJ(x:HST)(code:Int)(okk:Bool)(val:Int)(K:Int×HST->Prop)(h:(IU x code okk val).run K):YC 5 x code okk val K:=cM' (E:=EN0) (by kernel_rfl) h
theorem YK(x:HST)(code:Int)(okk:Bool)(val:Int)(K:Int×HST->Prop)(h:(IV x code okk val).run K):YC 6 x code okk val K:=cM' (E:=EN0) (by kernel_rfl) h
theorem YL(x:HST)(code:Int)(okk:Bool)(val:Int)(K:Int×HST->Prop)(h:(IW x code okk val).run K):YC 7 x code okk val K:=cM' (E:=EN0) (by kernel_rfl) h
def heT(th:Int)(x:HST)(code:Int)(okk:Bool)(val:Int):Tr (Int×HST):=
 bif ieq th 0 then IP x code okk val else
 bif ieq th 1 then IQ x code okk val else
 bif ieq th 2 then IR x code okk val else
 bif ieq th 3 then IS x code okk val else
 bif ieq th 4 then IT x code okk val else
 bif ieq th 5 then IU x code okk val else
 bif ieq th 6 then IV x code okk val else
 bif ieq th 7 then IW x code okk val else .pre False (.ret default)
def heF(th:Int)(x:HST)(code:Int)(okk:Bool)(val:Int):Int×HST:=(heT th x code okk val).val
def heOk(th:Int)(x:HST)(code:Int)(okk:Bool)(val:Int):Prop:=(heT th x code okk val).ok
theorem sU{T:Tr (Int×HST)}{th i:Int}{x:HST}{code:Int}{okk:Bool}{val:Int}{K:AVal->aC Ob->Prop}(e:th=i)(hs: ∀K',T.run K'->YC i x code okk val K')(h:T.run (fun y=>(Out.ret (.I y.1) [some (.abs (.hist y.2) [])]).run K)):cT' 98 [.ptr 0 0,.I th,.agg [.I code,.bool okk,.I val]] [some (.abs (.hist x) [])] K:=by
 subst e;exact aJ2 (root:=0) (pos:=[]) (cs:=[]) (parse:=hiP) (fin:=fun y=>.ret (.I y.1) [some (.abs (.hist y.2) [])]) QN (aQ.unpack (.hist x) 0 0 (z1 x) [] rfl rfl rfl rfl) (hs _ h)
theorem YD(th:Int)(x:HST)(code:Int)(okk:Bool)(val:Int)(K:AVal->aC Ob->Prop)(h:(heT th x code okk val).run (fun y=>(Out.ret (.I y.1) [some (.abs (.hist y.2) [])]).run K)):cT' 98 [.ptr 0 0,.I th,.agg [.I code,.bool okk,.I val]] [some (.abs (.hist x) [])] K:=by
 unfold heT at h
 by_cases e:th=0
 ·exact sU e (YE x code okk val) (by rw [e]at h;exact h)
 rw [bK e]at h
 by_cases e:th=1
 ·exact sU e (YF x code okk val) (by rw [e]at h;exact h)
 rw [bK e]at h
 by_cases e:th=2
 ·exact sU e (YG x code okk val) (by rw [e]at h;exact h)
 rw [bK e]at h
 by_cases e:th=3
 ·exact sU e (YH x code okk val) (by rw [e]at h;exact h)
 rw [bK e]at h
 by_cases e:th=4
 ·exact sU e (YI x code okk val) (by rw [e]at h;exact h)
 rw [bK e]at h
 by_cases e:th=5
 ·exact sU e (YJ x code okk val) (by rw [e]at h;exact h)
 rw [bK e]at h
 by_cases e:th=6
 ·exact sU e (YK x code okk val) (by rw [e]at h;exact h)
 rw [bK e]at h
 by_cases e:th=7
 ·exact sU e (YL x code okk val) (by rw [e]at h;exact h)
 rw [bK e]at h;exact h.1.elim
def heS:aH Ob:=fun args h=>match args,h with
 | [.ptr 0 0,.int .i64 th,.agg [.int .i64 code,.bool okk,.int .i64 val]],[some (.abs (.hist x) [])]=>some (.pre (heOk th x code okk val) (.ret (.I (heF th x code okk val).1) [some (.abs (.hist (heF th x code okk val).2) [])]))
 | _,_=>none
theorem aGS:sT' 98 heS:=by
 intro args h o ho K hK;unfold heS at ho;split at ho
 case h_2=>cases ho
 simp only [sI']at ho;subst ho;obtain⟨ok,hK⟩:=hK;exact YD _ _ _ _ _ K (aJ5 ok hK)
noncomputable def EN1:=((EN0.addS 81 hnS aGU).addS 70 hbS aGK).addS 98 heS aGS
end Go.Sh
