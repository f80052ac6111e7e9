import Derived.Test.YteindpciaceeeaaGreatZSh40toSh41
set_option linter.all false
set_option maxHeartbeats 8000000
namespace Go.Sh
open Go Go.Proofs
variable [Con]
instance:Inhabited STS:=⟨⟨0,0,[]⟩⟩
instance:Inhabited WKS:=⟨⟨0,0,⟨0,0,[]⟩,[],0,false,eT,[],[]⟩⟩
def aX(ws:List WKS)(i:Nat):WKS:=ws.getD i default
def dI(ws:List WKS)(i:Nat)(w:WKS):List WKS:=ws.set i w
theorem FI{ws:List WKS}{i:Nat}(h:i<ws.length):(ws.map fun w=>some (Mc.worker w))[i]? =some (some (.worker (aX ws i))):=by
 unfold aX;simp only [List.getElem?_map,gD'];rw [gE' h];rfl
theorem PB(ws:List WKS)(i:Nat)(w:WKS):(dI ws i w).map (fun w=>some (Mc.worker w))=(ws.map fun w=>some (Mc.worker w)).set i (some (.worker w)):=by
 unfold dI;simp [List.map_set]
def RKW:hJ tbl where
 R:=List WKS
 row:=.wrow
 hole:=.whole
 els:=fun ws=>ws.map fun w=>some (.worker w)
 len:=List.length
 upd:=fun ws i t=>match t with
  | .worker w=>some (dI ws i w)
  | _=>none
 isRow:=fun t=>match t with
  | .wrow ws=>some ws
  | _=>none
 isHole:=fun t=>match t with
  | .whole ws i=>some (ws,i)
  | _=>none
 is:=fun _ _=>true
 get:=fun ws i=>.worker (aX ws i)
 isRow_eq:=by
  intro t r h;cases t<;>first | (cases h;rfl) | cases h
 isHole_eq:=by
  intro t r i h;cases t<;>first | (cases h;rfl) | cases h
 len_eq:=fun r=>by simp
 upd_eq:=by
  intro r i t r' h;cases t with
  | worker w=>cases h;exact PB r i w
  | _=>cases h
 is_true:=by
  intro r i _ h;exact FI h
 is_false:=by intro r i h;cases h
 tbRow:=fun r=>rfl
 tbHole:=fun r i=>rfl
def slAt(ws:List (List Int))(i:Nat):List Int:=ws.getD i []
theorem aBc(ws:List (List Int))(i:Nat):slAt ws i=ws.getD i []:=rfl
def rdI(e:aG Ob):Option (List Int):=match e with
 | .ints (some .i64) xs=>some xs
 | _=>none
theorem aFF{e:aG Ob}{x:List Int}(h:rdI e=some x):e=.ints (some .i64) x:=by
 unfold rdI at h;split at h
 ·cases h;rfl
 ·cases h
def aJJ(v:AVal):Option Nat:=match v with
 | .slice k _ _ _=>some k
 | _=>none
def hdI(q:Nat)(y:List Int)(v:AVal):Prop:=match v with
 | .slice k o n s=>k=q/\o=0/\n=y.length/\s=1
 | _=>False
theorem aEO{q:Nat}{y:List Int}{v:AVal}(h:hdI q y v):v=.slice q 0 y.length 1:=by
 unfold hdI at h;split at h
 ·obtain⟨rfl,rfl,rfl,rfl⟩:=h;rfl
 ·exact h.elim
theorem aIC{V V':Val}{k k' n:Nat}{v:Value}(h:V k=V' k')(hr:Rep V (.slice k 0 n 1) v):Rep V' (.slice k' 0 n 1) v:=by
 obtain⟨base,cap,e,hc,hb⟩:=hr;refine⟨base,cap,e,hc,?_⟩;rw [<-h];exact hb
theorem aAA{I:Itp Ob}{V V':Val}{l l':Nat}{c:Code1}{x:List Int}{p:PHeap}(h:V l=V' l')(hi:aG.interp I V l (.ints c x) p):aG.interp I V' l' (.ints c x) p:=by
 rcases hi with⟨e1,g,b,hl⟩ | ⟨b,k,hl,r⟩
 ·exact .inl ⟨e1,g,b,h▸hl⟩
 ·exact .inr ⟨b,k,h▸hl,r⟩
def aJI(t:Ob):Option (List (List Int)):=match t with
 | .srow ws=>some ws
 | _=>none
def aJH(t:Ob):Option (List (List Int)×Nat):=match t with
 | .shole ws i=>some (ws,i)
 | _=>none
theorem rV{ws:List (List Int)}{i:Nat}(hi:i<ws.length):ws[i]? =some (slAt ws i):=by
 rw [aBc,gD',gE' hi];rfl
def FU:fO tbl intE where
 row:=.srow
 hole:=.shole
 isRow:=aJI
 isHole:=aJH
 rd:=rdI
 get:=slAt
 lab:=aJJ
 hdIs:=hdI
 isRow_eq:=by
  intro t r h;cases t<;>first | (cases h;rfl) | cases h
 isHole_eq:=by
  intro t r i h;cases t<;>first | (cases h;rfl) | cases h
 rd_eq:=fun e x h=>aFF h
 tbRow:=fun r=>rfl
 tbHole:=fun r i=>rfl
 hdRep:=fun V V' k k' x v h hr=>aIC h hr
 enLoc:=fun N V V' l l' x p h hi=>aAA h hi
 get_eq:=fun ws i hi=>rV hi
 hdIs_eq:=fun q y v h=>aEO h
 nil:=[]
 nilIn:=fun N V l b h=>.inl ⟨rfl,rfl,b,h⟩
 nilHd:=fun V l=>⟨none,0,rfl,Nat.le_refl _,.inr ⟨rfl,rfl⟩⟩
 inner:=1
 cast:=.ints (some .i64)
theorem uA(V:Val)(q:Nat)(y:List Int)(v:Value)(h:Rep V (intE.hd q y) v):v.oneCell'=true/\v.cells= #[v]:=by
 obtain⟨base,cap,rfl,_⟩:=h;exact⟨rfl,rfl⟩
theorem aE.back{n l i k:Nat}{ws:List WKS}{w:WKS}{v:AVal}{g:aB Ob}(hl:aK g l=some (.abs (.whole ws i) [k]))(hk:aK g k=some (.abs (.worker w) []))(hkl:k≠l)(hi:i<ws.length):
 aE (obI tbl) n v g v ((g.set l (some (.abs (.wrow (dI ws i w)) []))).set k none):=by
 intro V hR w' x h1 h2 h3 h4;refine⟨V,fun _ _ _ h=>h,?_,by simpa using h3,h4,?_⟩
 ·intro m hm;exact h2 m (by simpa using hm)
 ·exact h1.back RKW (ws:=ws) (ws':=dI ws i w) rfl hl hk hkl hi
def dqNAS:aI Ob:=fun args h=>match args,h with
 | [.ptr 0 0,.agg [.int .i64 sh,.int .i64 kd,.int .i64 ky],.int .i64 lim],[some (.abs (.store t n st) [])]=>some (.pre (QX t n sh kd ky lim st) (.ret (.ptr 1 0) [some (.abs (.store t n (dqNF t n sh kd ky lim st).2) []),some (.abs (.doer t n (dqNF t n sh kd ky lim st).1) [0])]))
 | _,_=>none
theorem X4:sT' 103 dqNAS:=by
 intro args h o ho K g;unfold dqNAS at ho;split at ho<;>cases ho
 rename_i sh kd ky lim t n st;obtain⟨ok,g⟩:=g;refine aLi ?_;refine aLc (h2:=[lD 1 t n st,oV st]) (aR.unpack (.store t n st) 0 0 (dP t n st) [] rfl rfl rfl rfl) ?_;refine GS [.ptr 0 0,.agg [.I sh,.I kd,.I ky],.I lim] [lD 1 t n st,oV st] _ rfl _ ⟨⟨rfl,ok⟩,?_⟩;generalize dqNF t n sh kd ky lim st=y at g⊢;have g:K (.ptr 1 0) [some (.abs (.store t n y.2) []),some (.abs (.doer t n y.1) [0])]:=g;exact⟨⟨_,_,(aE.pick [0,2,1] rfl).trans ((aLh (v2:=.ptr 1 0) (g2:=aP [some (.abs (.store t n y.2) []),some (.abs (.doer t n y.1) [0])] 0 0 (dP t n y.2) []) (by kernel_rfl) (by kernel_rfl)).trans (aE.pack [some (.abs (.store t n y.2) []),some (.abs (.doer t n y.1) [0])] (.store t n y.2) 0 0 (dP t n y.2) [] rfl rfl rfl (by kernel_rfl))),g⟩⟩
noncomputable def EN0:= {ED.addS 103 (aI.or dqNS dqNAS) (aLK GS X4)with row:=FU.ops Tryz.prog (RKW.ops Tryz.prog),rowOk:=FU.ops_ok uA RKW.ops_ok,dro:=FU.dro Tryz.prog fun _ _ _=>none,droCongr:=FU.dro_congr pB,droOk:=FU.dro_ok uA vG}
instance:Inhabited (Int×HST):=⟨(0,default)⟩
def hiP(v:AVal)(g:aB Ob):Option (Prop×(Int×HST)):=match v,g with
 | .int .i64 c,[some (.cells [.tslice 1 0 a 7,.tslice 2 0 b 9,.int .i64 n0,.int .i64 n1,.int .i64 n2,.int .i64 n3,.int .i64 n4,.int .i64 n5,.int .i64 n6,.int .i64 n7]),some (.tab [some .i64,none,some .i64,some .i64,some .i64,none,some .i64] ev),some (.tab [some .i64,some .i64,some .i64,some .i64,some .i64,some .i64,some .i64,none,some .i64] cl)]=>some (a=ev.length/\b=cl.length,(c,⟨ev,cl,n0,n1,n2,n3,n4,n5,n6,n7⟩))
 | _,_=>none
def hnP(v:AVal)(g:aB Ob):Option (Prop×HST):=match v,g with
 | .ptr 0 0,[some (.cells [.tslice 1 0 a 7,.tslice 2 0 b 9,.int .i64 n0,.int .i64 n1,.int .i64 n2,.int .i64 n3,.int .i64 n4,.int .i64 n5,.int .i64 n6,.int .i64 n7]),some (.tab [some .i64,none,some .i64,some .i64,some .i64,none,some .i64] ev),some (.tab [some .i64,some .i64,some .i64,some .i64,some .i64,some .i64,some .i64,none,some .i64] cl)]=>some (a=ev.length/\b=cl.length,⟨ev,cl,n0,n1,n2,n3,n4,n5,n6,n7⟩)
 | _,_=>none
theorem SS:bP (obI tbl) 1 hiP (fun y=>.ret (.I y.1) [some (.abs (.hist y.2) [])]):=by
 intro v g p x hp hq K hK;unfold hiP at hp;split at hp
 case h_2=>cases hp
 rename_i c a b n0 n1 n2 n3 n4 n5 n6 n7 ev cl;cases hp;obtain⟨rfl,rfl⟩:=hq;have hK:K (.I c) [some (.abs (.hist ⟨ev,cl,n0,n1,n2,n3,n4,n5,n6,n7⟩) [])]:=hK;exact tkP hK (.hist ⟨ev,cl,n0,n1,n2,n3,n4,n5,n6,n7⟩) 0 0 (BC ⟨ev,cl,n0,n1,n2,n3,n4,n5,n6,n7⟩) []
theorem aEY:bP (obI tbl) 0 hnP (fun y=>.ret (.ptr 0 0) [some (.abs (.hist y) [])]):=by
 intro v g p x hp hq K hK;unfold hnP at hp;split at hp
 case h_2=>cases hp
 rename_i a b n0 n1 n2 n3 n4 n5 n6 n7 ev cl;cases hp;obtain⟨rfl,rfl⟩:=hq;have hK:K (.ptr 0 0) [some (.abs (.hist ⟨ev,cl,n0,n1,n2,n3,n4,n5,n6,n7⟩) [])]:=hK;exact tkP hK (.hist ⟨ev,cl,n0,n1,n2,n3,n4,n5,n6,n7⟩) 0 0 (BC ⟨ev,cl,n0,n1,n2,n3,n4,n5,n6,n7⟩) []
def hnT:Tr HST:=.pre (0=0/\0=0) (.ret {ev:=[],cl:=[],n0:=0,n1:=0,n2:=0,n3:=0,n4:=0,n5:=0,n6:=0,n7:=0})
def hnS:aI Ob:=fun args h=>match args,h with
 | [],[]=>some (.pre True (.ret (.ptr 0 0) [some (.abs (.hist ⟨[],[],0,0,0,0,0,0,0,0⟩) [])]))
 | _,_=>none
theorem aH5:sT' 81 hnS:=by
 intro args h o ho K g;unfold hnS at ho;split at ho
 case h_2=>cases ho
 simp only [sI']at ho;subst ho;obtain⟨ok,g⟩:=g;refine aLm (root:=0) (pos:=[]) (cs:=[(.cell 0 0,.tab cK7),(.cell 0 1,.tab cK9)]) (parse:=hnP) aEY ?_;exact cM' (E:=EN0) (q:=hnT.run (fun y=>(Out.ret (.ptr 0 0) [some (.abs (.hist y) [])]).run K)) (by kernel_rfl) (aLf (by simp [Tr.ok,hnT]) g)
def FO(k:Int)(x:HST)(kd ky n0 n1 n2 n3 n4 n5 n6 n7:Int):HST:= {ev:=x.1++ [[k,0,kd,ky,0,0,0]],cl:=x.2++ [[(↑x.1.length:Int),(-1:Int),(↑x.2.length:Int),k,kd,ky,0,0,0]],n0:=n0,n1:=n1,n2:=n2,n3:=n3,n4:=n4,n5:=n5,n6:=n6,n7:=n7}
def FN(k c:Int)(y x:HST)(kd ky:Int):Tr (Int×HST):=.pre ((0:Int)<=k/\k<(↑8:Int)) (.ite (ilt 0 c) (.pre (lE' x.1/\lE' x.2) (.ret (1,x))) (.pre (0=0/\lE' x.2/\x.2.length+(1:Nat)<=(4294967296:Nat)) (.pre (0=0/\lE' x.1/\x.1.length+(1:Nat)<=(4294967296:Nat)) (.pre ((0:Int)<=k/\k<(↑8:Int)) (.pre (x.1.length+(1:Nat)=List.length (x.1++ [[k,0,kd,ky,0,0,0]])/\x.2.length+(1:Nat)=List.length (x.2++ [[(↑x.1.length:Int),(-1:Int),(↑x.2.length:Int),k,kd,ky,0,0,0]])) (.ret (0,y)))))))
def JO(x:HST)(kd ky:Int):Tr (Int×HST):=FN 0 x.3 (FO 0 x kd ky (↑(x.2.length+1):Int) x.4 x.5 x.6 x.7 x.8 x.9 x.10) x kd ky
def JP(x:HST)(kd ky:Int):Tr (Int×HST):=FN 1 x.4 (FO 1 x kd ky x.3 (↑(x.2.length+1):Int) x.5 x.6 x.7 x.8 x.9 x.10) x kd ky
def JQ(x:HST)(kd ky:Int):Tr (Int×HST):=FN 2 x.5 (FO 2 x kd ky x.3 x.4 (↑(x.2.length+1):Int) x.6 x.7 x.8 x.9 x.10) x kd ky
def JR(x:HST)(kd ky:Int):Tr (Int×HST):=FN 3 x.6 (FO 3 x kd ky x.3 x.4 x.5 (↑(x.2.length+1):Int) x.7 x.8 x.9 x.10) x kd ky
def JS(x:HST)(kd ky:Int):Tr (Int×HST):=FN 4 x.7 (FO 4 x kd ky x.3 x.4 x.5 x.6 (↑(x.2.length+1):Int) x.8 x.9 x.10) x kd ky
def JT(x:HST)(kd ky:Int):Tr (Int×HST):=FN 5 x.8 (FO 5 x kd ky x.3 x.4 x.5 x.6 x.7 (↑(x.2.length+1):Int) x.9 x.10) x kd ky
def JU(x:HST)(kd ky:Int):Tr (Int×HST):=FN 6 x.9 (FO 6 x kd ky x.3 x.4 x.5 x.6 x.7 x.8 (↑(x.2.length+1):Int) x.10) x kd ky
def JV(x:HST)(kd ky:Int):Tr (Int×HST):=FN 7 x.10 (FO 7 x kd ky x.3 x.4 x.5 x.6 x.7 x.8 x.9 (↑(x.2.length+1):Int)) x kd ky
def ZT(i:Int)(x:HST)(kd ky:Int)(K:Int×HST->Prop):Prop:=cT' 70 [.ptr 0 0,.I i,.agg [.I kd,.I ky]] (BC x) (eU 1 0 [] [] hiP K)
theorem ZV(x:HST)(kd ky:Int)(K:Int×HST->Prop)(h:(JO x kd ky).run K):ZT 0 x kd ky K:=cM' (E:=EN0) (by kernel_rfl) h
theorem ZW(x:HST)(kd ky:Int)(K:Int×HST->Prop)(h:(JP x kd ky).run K):ZT 1 x kd ky K:=cM' (E:=EN0) (by kernel_rfl) h
theorem ZX(x:HST)(kd ky:Int)(K:Int×HST->Prop)(h:(JQ x kd ky).run K):ZT 2 x kd ky K:=cM' (E:=EN0) (by kernel_rfl) h
theorem ZY(x:HST)(kd ky:Int)(K:Int×HST->Prop)(h:(JR x kd ky).run K):ZT 3 x kd ky K:=cM' (E:=EN0) (by kernel_rfl) h
theorem ZZ(x:HST)(kd ky:Int)(K:Int×HST->Prop)(h:(JS x kd ky).run K):ZT 4 x kd ky K:=cM' (E:=EN0) (by kernel_rfl) h
theorem Z0(x:HST)(kd ky:Int)(K:Int×HST->Prop)(h:(JT x kd ky).run K):ZT 5 x kd ky K:=cM' (E:=EN0) (by kernel_rfl) h
theorem Z1(x:HST)(kd ky:Int)(K:Int×HST->Prop)(h:(JU x kd ky).run K):ZT 6 x kd ky K:=cM' (E:=EN0) (by kernel_rfl) h
theorem Z3(x:HST)(kd ky:Int)(K:Int×HST->Prop)(h:(JV x kd ky).run K):ZT 7 x kd ky K:=cM' (E:=EN0) (by kernel_rfl) h
def hbT(th:Int)(x:HST)(kd ky:Int):Tr (Int×HST):=
 bif ieq th 0 then JO x kd ky else
 bif ieq th 1 then JP x kd ky else
 bif ieq th 2 then JQ x kd ky else
 bif ieq th 3 then JR x kd ky else
 bif ieq th 4 then JS x kd ky else
 bif ieq th 5 then JT x kd ky else
 bif ieq th 6 then JU x kd ky else
 bif ieq th 7 then JV x kd ky else .pre False (.ret default)
def hbF(th:Int)(x:HST)(kd ky:Int):Int×HST:=(hbT th x kd ky).val
def hbOk(th:Int)(x:HST)(kd ky:Int):Prop:=(hbT th x kd ky).ok
theorem tM{T:Tr (Int×HST)}{th i:Int}{x:HST}{kd ky:Int}{K:AVal->aB Ob->Prop}(e:th=i)(hs: ∀K',T.run K'->ZT i x kd ky K')(h:T.run (fun y=>(Out.ret (.I y.1) [some (.abs (.hist y.2) [])]).run K)):cT' 70 [.ptr 0 0,.I th,.agg [.I kd,.I ky]] [some (.abs (.hist x) [])] K:=by
 subst e;exact aK9 (root:=0) (pos:=[]) (cs:=[]) (parse:=hiP) (fin:=fun y=>.ret (.I y.1) [some (.abs (.hist y.2) [])]) SS (aR.unpack (.hist x) 0 0 (BC x) [] rfl rfl rfl rfl) (hs _ h)
theorem ZU(th:Int)(x:HST)(kd ky:Int)(K:AVal->aB Ob->Prop)(h:(hbT th x kd ky).run (fun y=>(Out.ret (.I y.1) [some (.abs (.hist y.2) [])]).run K)):cT' 70 [.ptr 0 0,.I th,.agg [.I kd,.I ky]] [some (.abs (.hist x) [])] K:=by
 unfold hbT at h
 by_cases e:th=0
 ·exact tM e (ZV x kd ky) (by rw [e]at h;exact h)
 rw [bI e]at h
 by_cases e:th=1
 ·exact tM e (ZW x kd ky) (by rw [e]at h;exact h)
 rw [bI e]at h
 by_cases e:th=2
 ·exact tM e (ZX x kd ky) (by rw [e]at h;exact h)
 rw [bI e]at h
 by_cases e:th=3
 ·exact tM e (ZY x kd ky) (by rw [e]at h;exact h)
 rw [bI e]at h
 by_cases e:th=4
 ·exact tM e (ZZ x kd ky) (by rw [e]at h;exact h)
 rw [bI e]at h
 by_cases e:th=5
 ·exact tM e (Z0 x kd ky) (by rw [e]at h;exact h)
 rw [bI e]at h
 by_cases e:th=6
 ·exact tM e (Z1 x kd ky) (by rw [e]at h;exact h)
 rw [bI e]at h
 by_cases e:th=7
 ·exact tM e (Z3 x kd ky) (by rw [e]at h;exact h)
 rw [bI e]at h;exact h.1.elim
def hbS:aI Ob:=fun args h=>match args,h with
 | [.ptr 0 0,.int .i64 th,.agg [.int .i64 kd,.int .i64 ky]],[some (.abs (.hist x) [])]=>some (.pre (hbOk th x kd ky) (.ret (.I (hbF th x kd ky).1) [some (.abs (.hist (hbF th x kd ky).2) [])]))
 | _,_=>none
theorem aHV:sT' 70 hbS:=by
 intro args h o ho K g;unfold hbS at ho;split at ho
 case h_2=>cases ho
 simp only [sI']at ho;subst ho;obtain⟨ok,g⟩:=g;exact ZU _ _ _ _ K (aLf ok g)
def SQ(c:Int)(x:HST):List (List Int):=List.set x.2 (0+Int.toNat (W (c - 1))) (lA 9 (List.getD x.2 (0+Int.toNat (W (c - 1))) []) (0+0+1) [(↑x.1.length:Int)])
def VX(c:Int)(x:HST)(code:Int)(okk:Bool)(val:Int):List (List Int):=List.set (SQ c x) (0+Int.toNat (W (c - 1))) (lA 9 (List.getD (SQ c x) (0+Int.toNat (W (c - 1))) []) (0+6) [code,bif okk then 1 else 0,val])
def FQ(k c:Int)(x:HST)(code:Int)(okk:Bool)(val n0 n1 n2 n3 n4 n5 n6 n7:Int):HST:= {ev:=x.1++ [[k,1,0,0,code,bif okk then 1 else 0,val]],cl:=VX c x code okk val,n0:=n0,n1:=n1,n2:=n2,n3:=n3,n4:=n4,n5:=n5,n6:=n6,n7:=n7}
def FP(k c:Int)(y x:HST)(code:Int)(okk:Bool)(val:Int):Tr (Int×HST):=.pre ((0:Int)<=k/\k<(↑8:Int)) (.ite (!ilt 0 c) (.pre (lE' x.1/\lE' x.2) (.ret (5,x))) (.pre ((0:Int)<=k/\k<(↑8:Int)) (.pre ((0:Int)<=W (c - 1)/\W (c - 1)<(↑x.2.length:Int)) (.pre (0+Int.toNat (W (c - 1))<x.2.length) (.pre (0+Int.toNat (W (c - 1))<List.length (SQ c x)) (.pre (0=0/\lE' x.1/\x.1.length+(1:Nat)<=(4294967296:Nat)) (.pre ((0:Int)<=k/\k<(↑8:Int)) (.pre (x.1.length+(1:Nat)=List.length (x.1++ [[k,1,0,0,code,bif okk then 1 else 0,val]])/\x.2.length=List.length (VX c x code okk val)) (.ret (0,y))))))))))
def JW(x:HST)(code:Int)(okk:Bool)(val:Int):Tr (Int×HST):=FP 0 x.3 (FQ 0 x.3 x code okk val 0 x.4 x.5 x.6 x.7 x.8 x.9 x.10) x code okk val
def JX(x:HST)(code:Int)(okk:Bool)(val:Int):Tr (Int×HST):=FP 1 x.4 (FQ 1 x.4 x code okk val x.3 0 x.5 x.6 x.7 x.8 x.9 x.10) x code okk val
def JY(x:HST)(code:Int)(okk:Bool)(val:Int):Tr (Int×HST):=FP 2 x.5 (FQ 2 x.5 x code okk val x.3 x.4 0 x.6 x.7 x.8 x.9 x.10) x code okk val
def JZ(x:HST)(code:Int)(okk:Bool)(val:Int):Tr (Int×HST):=FP 3 x.6 (FQ 3 x.6 x code okk val x.3 x.4 x.5 0 x.7 x.8 x.9 x.10) x code okk val
def J0(x:HST)(code:Int)(okk:Bool)(val:Int):Tr (Int×HST):=FP 4 x.7 (FQ 4 x.7 x code okk val x.3 x.4 x.5 x.6 0 x.8 x.9 x.10) x code okk val
def J1(x:HST)(code:Int)(okk:Bool)(val:Int):Tr (Int×HST):=FP 5 x.8 (FQ 5 x.8 x code okk val x.3 x.4 x.5 x.6 x.7 0 x.9 x.10) x code okk val
def J2(x:HST)(code:Int)(okk:Bool)(val:Int):Tr (Int×HST):=FP 6 x.9 (FQ 6 x.9 x code okk val x.3 x.4 x.5 x.6 x.7 x.8 0 x.10) x code okk val
def J3(x:HST)(code:Int)(okk:Bool)(val:Int):Tr (Int×HST):=FP 7 x.10 (FQ 7 x.10 x code okk val x.3 x.4 x.5 x.6 x.7 x.8 x.9 0) x code okk val
def heC(i:Int)(x:HST)(code:Int)(okk:Bool)(val:Int)(K:Int×HST->Prop):Prop:=cT' 98 [.ptr 0 0,.I i,.agg [.I code,.bool okk,.I val]] (BC x) (eU 1 0 [] [] hiP K)
theorem aAd(x:HST)(code:Int)(okk:Bool)(val:Int)(K:Int×HST->Prop)(h:(JW x code okk val).run K):heC 0 x code okk val K:=cM' (E:=EN0) (by kernel_rfl) h
theorem aAe(x:HST)(code:Int)(okk:Bool)(val:Int)(K:Int×HST->Prop)(h:(JX x code okk val).run K):heC 1 x code okk val K:=cM' (E:=EN0) (by kernel_rfl) h
theorem aAf(x:HST)(code:Int)(okk:Bool)(val:Int)(K:Int×HST->Prop)(h:(JY x code okk val).run K):heC 2 x code okk val K:=cM' (E:=EN0) (by kernel_rfl) h
theorem aAg(x:HST)(code:Int)(okk:Bool)(val:Int)(K:Int×HST->Prop)(h:(JZ x code okk val).run K):heC 3 x code okk val K:=cM' (E:=EN0) (by kernel_rfl) h
theorem aAh(x:HST)(code:Int)(okk:Bool)(val:Int)(K:Int×HST->Prop)(h:(J0 x code okk val).run K):heC 4 x code okk val K:=cM' (E:=EN0) (by kernel_rfl) h
theorem aAi(x:HST)(code:Int)(okk:Bool)(val:Int)(K:Int×HST->Prop)(h:(J1 x code okk val).run K):heC 5 x code okk val K:=cM' (E:=EN0) (by kernel_rfl) h
theorem aAj(x:HST)(code:Int)(okk:Bool)(val:Int)(K:Int×HST->Prop)(h:(J2 x code okk val).run K):heC 6 x code okk val K:=cM' (E:=EN0) (by kernel_rfl) h
theorem aAk(x:HST)(code:Int)(okk:Bool)(val:Int)(K:Int×HST->Prop)(h:(J3 x code okk val).run K):heC 7 x code okk val K:=cM' (E:=EN0) (by kernel_rfl) h
def heT(th:Int)(x:HST)(code:Int)(okk:Bool)(val:Int):Tr (Int×HST):=
 bif ieq th 0 then JW x code okk val else
 bif ieq th 1 then JX x code okk val else
 bif ieq th 2 then JY x code okk val else
 bif ieq th 3 then JZ x code okk val else
 bif ieq th 4 then J0 x code okk val else
 bif ieq th 5 then J1 x code okk val else
 bif ieq th 6 then J2 x code okk val else
 bif ieq th 7 then J3 x code okk val else .pre False (.ret default)
def heF(th:Int)(x:HST)(code:Int)(okk:Bool)(val:Int):Int×HST:=(heT th x code okk val).val
def heOk(th:Int)(x:HST)(code:Int)(okk:Bool)(val:Int):Prop:=(heT th x code okk val).ok
theorem tN{T:Tr (Int×HST)}{th i:Int}{x:HST}{code:Int}{okk:Bool}{val:Int}{K:AVal->aB Ob->Prop}(e:th=i)(hs: ∀K',T.run K'->heC i x code okk val K')(h:T.run (fun y=>(Out.ret (.I y.1) [some (.abs (.hist y.2) [])]).run K)):cT' 98 [.ptr 0 0,.I th,.agg [.I code,.bool okk,.I val]] [some (.abs (.hist x) [])] K:=by
 subst e;exact aK9 (root:=0) (pos:=[]) (cs:=[]) (parse:=hiP) (fin:=fun y=>.ret (.I y.1) [some (.abs (.hist y.2) [])]) SS (aR.unpack (.hist x) 0 0 (BC x) [] rfl rfl rfl rfl) (hs _ h)
theorem aAc(th:Int)(x:HST)(code:Int)(okk:Bool)(val:Int)(K:AVal->aB Ob->Prop)(h:(heT th x code okk val).run (fun y=>(Out.ret (.I y.1) [some (.abs (.hist y.2) [])]).run K)):cT' 98 [.ptr 0 0,.I th,.agg [.I code,.bool okk,.I val]] [some (.abs (.hist x) [])] K:=by
 unfold heT at h
 by_cases e:th=0
 ·exact tN e (aAd x code okk val) (by rw [e]at h;exact h)
 rw [bI e]at h
 by_cases e:th=1
 ·exact tN e (aAe x code okk val) (by rw [e]at h;exact h)
 rw [bI e]at h
 by_cases e:th=2
 ·exact tN e (aAf x code okk val) (by rw [e]at h;exact h)
 rw [bI e]at h
 by_cases e:th=3
 ·exact tN e (aAg x code okk val) (by rw [e]at h;exact h)
 rw [bI e]at h
 by_cases e:th=4
 ·exact tN e (aAh x code okk val) (by rw [e]at h;exact h)
 rw [bI e]at h
 by_cases e:th=5
 ·exact tN e (aAi x code okk val) (by rw [e]at h;exact h)
 rw [bI e]at h
 by_cases e:th=6
 ·exact tN e (aAj x code okk val) (by rw [e]at h;exact h)
 rw [bI e]at h
 by_cases e:th=7
 ·exact tN e (aAk x code okk val) (by rw [e]at h;exact h)
 rw [bI e]at h;exact h.1.elim
def heS:aI Ob:=fun args h=>match args,h with
 | [.ptr 0 0,.int .i64 th,.agg [.int .i64 code,.bool okk,.int .i64 val]],[some (.abs (.hist x) [])]=>some (.pre (heOk th x code okk val) (.ret (.I (heF th x code okk val).1) [some (.abs (.hist (heF th x code okk val).2) [])]))
 | _,_=>none
theorem aH3:sT' 98 heS:=by
 intro args h o ho K g;unfold heS at ho;split at ho
 case h_2=>cases ho
 simp only [sI']at ho;subst ho;obtain⟨ok,g⟩:=g;exact aAc _ _ _ _ _ K (aLf ok g)
noncomputable def EN1:=((EN0.addS 81 hnS aH5).addS 70 hbS aHV).addS 98 heS aH3
end Go.Sh
