import Derived.Test.YteindpciaceeeaaGreatZSh40toSh44
set_option linter.all false
set_option maxHeartbeats 8000000
namespace Go.Sh
open Go Go.Proofs
variable [Con]
instance:Inhabited STS:=⟨⟨0,0,[]⟩⟩
instance:Inhabited WKS:=⟨⟨0,0,⟨0,0,[]⟩,[],0,false,fF,[],[]⟩⟩
def aY(ws:List WKS)(i:Nat):WKS:=ws.getD i default
def dQ(ws:List WKS)(i:Nat)(w:WKS):List WKS:=ws.set i w
theorem WA(ws:List WKS)(i:Nat)(w:WKS):dQ ws i w=ws.set i w:=rfl
theorem VZ{ws:List WKS}{i:Nat}(h:i<ws.length):ws[i]? =some (aY ws i):=by
 unfold aY;rw [gD',gE' h];rfl
def RKW:mT tbl wkE where
 row:=.wrow
 hole:=.whole
 isRow:=fun t=>match t with
  | .wrow ws=>some ws
  | _=>none
 isHole:=fun t=>match t with
  | .whole ws i=>some (ws,i)
  | _=>none
 rd:=fun e=>match e with
  | .abs (.worker w) []=>some w
  | _=>none
 isRow_eq:=by
  intro t r h;cases t<;>first | (cases h;rfl) | cases h
 isHole_eq:=by
  intro t r i h;cases t<;>first | (cases h;rfl) | cases h
 rd_eq:=by
  intro e x h;split at h
  ·cases h;rfl
  ·cases h
 tbRow:=fun r=>rfl
 tbHole:=fun r i=>rfl
 hdRep:=by
  rintro V V' k k' x v h ⟨b,q,e,hv⟩;exact⟨b,q,h▸e,hv⟩
 enLoc:=by
  rintro N V V' l l' x p h ⟨b,q,e,bs,hb,hp⟩;exact⟨b,q,h▸e,bs,hb,hp⟩
 ob:=.worker
 ptr:=fun _ _=>rfl
 obE:=fun _=>rfl
 get:=aY
 get_eq:=fun ws i h=>VZ h
 unob:=fun t=>match t with
  | .worker w=>some w
  | _=>none
 unob_eq:=by
  intro t x h;cases t<;>first | (cases h;rfl) | cases h
 put:=dQ
 put_eq:=WA
def slAt(ws:List (List Int))(i:Nat):List Int:=ws.getD i []
theorem vE(ws:List (List Int))(i:Nat):slAt ws i=ws.getD i []:=rfl
def rdI(e:aG Ob):Option (List Int):=match e with
 | .ints (some .i64) xs=>some xs
 | _=>none
theorem aGa{e:aG Ob}{x:List Int}(h:rdI e=some x):e=.ints (some .i64) x:=by
 unfold rdI at h;split at h
 ·cases h;rfl
 ·cases h
def aJ7(v:AVal):Option Nat:=match v with
 | .slice k _ _ _=>some k
 | _=>none
def hdI(q:Nat)(y:List Int)(v:AVal):Prop:=match v with
 | .slice k o n s=>k=q/\o=0/\n=y.length/\s=1
 | _=>False
theorem aFg{q:Nat}{y:List Int}{v:AVal}(h:hdI q y v):v=.slice q 0 y.length 1:=by
 unfold hdI at h;split at h
 ·obtain⟨rfl,rfl,rfl,rfl⟩:=h;rfl
 ·exact h.elim
theorem aIZ{V V':Val}{k k' n:Nat}{v:Value}(h:V k=V' k')(hr:Rep V (.slice k 0 n 1) v):Rep V' (.slice k' 0 n 1) v:=by
 obtain⟨base,cap,e,hc,hb⟩:=hr;refine⟨base,cap,e,hc,?_⟩;rw [<-h];exact hb
theorem aAT{I:Itp Ob}{V V':Val}{l l':Nat}{c:Code1}{x:List Int}{p:PHeap}(h:V l=V' l')(hi:aG.interp I V l (.ints c x) p):aG.interp I V' l' (.ints c x) p:=by
 rcases hi with⟨e1,e2,b,hl⟩ | ⟨b,k,hl,r⟩
 ·exact .inl ⟨e1,e2,b,h▸hl⟩
 ·exact .inr ⟨b,k,h▸hl,r⟩
def aJ6(t:Ob):Option (List (List Int)):=match t with
 | .srow ws=>some ws
 | _=>none
def aJ5(t:Ob):Option (List (List Int)×Nat):=match t with
 | .shole ws i=>some (ws,i)
 | _=>none
theorem sJ{ws:List (List Int)}{i:Nat}(hi:i<ws.length):ws[i]? =some (slAt ws i):=by
 rw [vE,gD',gE' hi];rfl
def BI:fY tbl HR where
 row:=.srow
 hole:=.shole
 isRow:=aJ6
 isHole:=aJ5
 rd:=rdI
 get:=slAt
 lab:=aJ7
 hdIs:=hdI
 isRow_eq:=by
  intro t r h;cases t<;>first | (cases h;rfl) | cases h
 isHole_eq:=by
  intro t r i h;cases t<;>first | (cases h;rfl) | cases h
 rd_eq:=fun e x h=>aGa h
 tbRow:=fun r=>rfl
 tbHole:=fun r i=>rfl
 hdRep:=fun V V' k k' x v h hr=>aIZ h hr
 enLoc:=fun N V V' l l' x p h hi=>aAT h hi
 get_eq:=fun ws i hi=>sJ hi
 hdIs_eq:=fun q y v h=>aFg h
 nil:=[]
 nilIn:=fun N V l b h=>.inl ⟨rfl,rfl,b,h⟩
 nilHd:=fun V l=>⟨none,0,rfl,Nat.le_refl _,.inr ⟨rfl,rfl⟩⟩
 inner:=1
 cast:=.ints (some .i64)
theorem rB(V:Val)(q:Nat)(y:List Int)(v:Value)(h:Rep V (HR.hd q y) v):v.oneCell'=true/\v.cells= #[v]:=by
 obtain⟨base,cap,rfl,_⟩:=h;exact⟨rfl,rfl⟩
theorem aF.back{n l i k:Nat}{ws:List WKS}{w:WKS}{v:AVal}{g:aC Ob}(hl:aL g l=some (.abs (.whole ws i) [k]))(hk:aL g k=some (.abs (.worker w) []))(hkl:k≠l)(hi:i<ws.length):
 aF (obI tbl) n v g v ((g.set l (some (.abs (.wrow (dQ ws i w)) []))).set k none):=by
 intro V hR w' x h1 h2 h3 h4;refine⟨V,fun _ _ _ h=>h,?_,by simpa using h3,h4,?_⟩
 ·intro m hm;exact h2 m (by simpa using hm)
 ·exact h1.backW RKW (ws:=ws) (x:=w) hl hk hkl hi
def dqNAS:aI Ob:=fun args h=>match args,h with
 | [.ptr 0 0,.agg [.int .i64 sh,.int .i64 kd,.int .i64 ky],.int .i64 lim],[some (.abs (.store t n st) [])]=>some (.pre (RM t n sh kd ky lim st) (.ret (.ptr 1 0) [some (.abs (.store t n (dqNF t n sh kd ky lim st).2) []),some (.abs (.doer t n (dqNF t n sh kd ky lim st).1) [0])]))
 | _,_=>none
theorem YP:sT' 103 dqNAS:=by
 intro args h o ho K hK;unfold dqNAS at ho;split at ho
 case h_2=>cases ho
 rename_i sh kd ky lim t n st;cases ho;obtain⟨ok,hK⟩:=hK;refine aLG ?_;refine aLB (h2:=[lJ 1 t n st,pJ st]) (aQ.unpack (.store t n st) 0 0 (dP t n st) [] rfl rfl rfl rfl) ?_;refine G0 [.ptr 0 0,.agg [.I sh,.I kd,.I ky],.I lim] [lJ 1 t n st,pJ st] _ rfl _ ⟨⟨rfl,ok⟩,?_⟩;generalize dqNF t n sh kd ky lim st=y at hK⊢;have hK:K (.ptr 1 0) [some (.abs (.store t n y.2) []),some (.abs (.doer t n y.1) [0])]:=hK;exact⟨⟨_,_,(aF.pick [0,2,1] rfl).trans ((aLE (v2:=.ptr 1 0) (g2:=aP [some (.abs (.store t n y.2) []),some (.abs (.doer t n y.1) [0])] 0 0 (dP t n y.2) []) (by kernel_rfl) (by kernel_rfl)).trans (aF.pack [some (.abs (.store t n y.2) []),some (.abs (.doer t n y.1) [0])] (.store t n y.2) 0 0 (dP t n y.2) [] rfl rfl rfl (by kernel_rfl))),hK⟩⟩
noncomputable def EN0:= {ED.addS 103 (aI.or dqNS dqNAS) (aL9 G0 YP)with row:=BI.ops Tryz.prog (RKW.ops Tryz.prog),rowOk:=BI.ops_ok rB RKW.ops_ok,dro:=BI.dro Tryz.prog fun _ _ _=>none,droCongr:=BI.dro_congr lZ,droOk:=BI.dro_ok rB qI}
instance:Inhabited (Int×HST):=⟨(0,default)⟩
def hiP(v:AVal)(g:aC Ob):Option (Prop×(Int×HST)):=match v,g with
 | .int .i64 c,[some (.cells [.tslice 1 0 a 7,.tslice 2 0 b 9,.int .i64 n0,.int .i64 n1,.int .i64 n2,.int .i64 n3,.int .i64 n4,.int .i64 n5,.int .i64 n6,.int .i64 n7]),some (.tab [some .i64,none,some .i64,some .i64,some .i64,none,some .i64] ev),some (.tab [some .i64,some .i64,some .i64,some .i64,some .i64,some .i64,some .i64,none,some .i64] cl)]=>some (a=ev.length/\b=cl.length,(c,⟨ev,cl,n0,n1,n2,n3,n4,n5,n6,n7⟩))
 | _,_=>none
def hnP(v:AVal)(g:aC Ob):Option (Prop×HST):=match v,g with
 | .ptr 0 0,[some (.cells [.tslice 1 0 a 7,.tslice 2 0 b 9,.int .i64 n0,.int .i64 n1,.int .i64 n2,.int .i64 n3,.int .i64 n4,.int .i64 n5,.int .i64 n6,.int .i64 n7]),some (.tab [some .i64,none,some .i64,some .i64,some .i64,none,some .i64] ev),some (.tab [some .i64,some .i64,some .i64,some .i64,some .i64,some .i64,some .i64,none,some .i64] cl)]=>some (a=ev.length/\b=cl.length,⟨ev,cl,n0,n1,n2,n3,n4,n5,n6,n7⟩)
 | _,_=>none
theorem TA:bQ (obI tbl) 1 hiP (fun y=>.ret (.I y.1) [some (.abs (.hist y.2) [])]):=by
 intro v g p x hp hq K hK;unfold hiP at hp;split at hp
 case h_2=>cases hp
 rename_i c a b n0 n1 n2 n3 n4 n5 n6 n7 ev cl;cases hp;obtain⟨rfl,rfl⟩:=hq;have hK:K (.I c) [some (.abs (.hist ⟨ev,cl,n0,n1,n2,n3,n4,n5,n6,n7⟩) [])]:=hK;exact tkP hK (.hist ⟨ev,cl,n0,n1,n2,n3,n4,n5,n6,n7⟩) 0 0 (BJ ⟨ev,cl,n0,n1,n2,n3,n4,n5,n6,n7⟩) []
theorem aFq:bQ (obI tbl) 0 hnP (fun y=>.ret (.ptr 0 0) [some (.abs (.hist y) [])]):=by
 intro v g p x hp hq K hK;unfold hnP at hp;split at hp
 case h_2=>cases hp
 rename_i a b n0 n1 n2 n3 n4 n5 n6 n7 ev cl;cases hp;obtain⟨rfl,rfl⟩:=hq;have hK:K (.ptr 0 0) [some (.abs (.hist ⟨ev,cl,n0,n1,n2,n3,n4,n5,n6,n7⟩) [])]:=hK;exact tkP hK (.hist ⟨ev,cl,n0,n1,n2,n3,n4,n5,n6,n7⟩) 0 0 (BJ ⟨ev,cl,n0,n1,n2,n3,n4,n5,n6,n7⟩) []
def hnT:Tr HST:=.pre (0=0/\0=0) (.ret {ev:=[],cl:=[],n0:=0,n1:=0,n2:=0,n3:=0,n4:=0,n5:=0,n6:=0,n7:=0})
def hnS:aI Ob:=fun args h=>match args,h with
 | [],[]=>some (.pre True (.ret (.ptr 0 0) [some (.abs (.hist ⟨[],[],0,0,0,0,0,0,0,0⟩) [])]))
 | _,_=>none
theorem aIq:sT' 81 hnS:=by
 intro args h o ho K hK;unfold hnS at ho;split at ho
 case h_2=>cases ho
 cases ho;obtain⟨ok,hK⟩:=hK;refine aLK (root:=0) (pos:=[]) (cs:=[(.cell 0 0,.tab cK7),(.cell 0 1,.tab cK9)]) (parse:=hnP) aFq ?_;exact cM' (E:=EN0) (q:=hnT.run (fun y=>(Out.ret (.ptr 0 0) [some (.abs (.hist y) [])]).run K)) (by kernel_rfl) (aLD (by simp [Tr.ok,hnT]) hK)
def FT(k:Int)(x:HST)(kd ky n0 n1 n2 n3 n4 n5 n6 n7:Int):HST:= {ev:=x.1++ [[k,0,kd,ky,0,0,0]],cl:=x.2++ [[(↑x.1.length:Int),(-1:Int),(↑x.2.length:Int),k,kd,ky,0,0,0]],n0:=n0,n1:=n1,n2:=n2,n3:=n3,n4:=n4,n5:=n5,n6:=n6,n7:=n7}
def FS(k c:Int)(y x:HST)(kd ky:Int):Tr (Int×HST):=.pre ((0:Int)<=k/\k<(↑8:Int)) (.ite (ilt 0 c) (.pre (lE' x.1/\lE' x.2) (.ret (1,x))) (.pre (0=0/\lE' x.2/\x.2.length+(1:Nat)<=(4294967296:Nat)) (.pre (0=0/\lE' x.1/\x.1.length+(1:Nat)<=(4294967296:Nat)) (.pre ((0:Int)<=k/\k<(↑8:Int)) (.pre (x.1.length+(1:Nat)=List.length (x.1++ [[k,0,kd,ky,0,0,0]])/\x.2.length+(1:Nat)=List.length (x.2++ [[(↑x.1.length:Int),(-1:Int),(↑x.2.length:Int),k,kd,ky,0,0,0]])) (.ret (0,y)))))))
def JV(x:HST)(kd ky:Int):Tr (Int×HST):=FS 0 x.3 (FT 0 x kd ky (↑(x.2.length+1):Int) x.4 x.5 x.6 x.7 x.8 x.9 x.10) x kd ky
def JW(x:HST)(kd ky:Int):Tr (Int×HST):=FS 1 x.4 (FT 1 x kd ky x.3 (↑(x.2.length+1):Int) x.5 x.6 x.7 x.8 x.9 x.10) x kd ky
def JX(x:HST)(kd ky:Int):Tr (Int×HST):=FS 2 x.5 (FT 2 x kd ky x.3 x.4 (↑(x.2.length+1):Int) x.6 x.7 x.8 x.9 x.10) x kd ky
def JY(x:HST)(kd ky:Int):Tr (Int×HST):=FS 3 x.6 (FT 3 x kd ky x.3 x.4 x.5 (↑(x.2.length+1):Int) x.7 x.8 x.9 x.10) x kd ky
def JZ(x:HST)(kd ky:Int):Tr (Int×HST):=FS 4 x.7 (FT 4 x kd ky x.3 x.4 x.5 x.6 (↑(x.2.length+1):Int) x.8 x.9 x.10) x kd ky
def J0(x:HST)(kd ky:Int):Tr (Int×HST):=FS 5 x.8 (FT 5 x kd ky x.3 x.4 x.5 x.6 x.7 (↑(x.2.length+1):Int) x.9 x.10) x kd ky
def J1(x:HST)(kd ky:Int):Tr (Int×HST):=FS 6 x.9 (FT 6 x kd ky x.3 x.4 x.5 x.6 x.7 x.8 (↑(x.2.length+1):Int) x.10) x kd ky
def J2(x:HST)(kd ky:Int):Tr (Int×HST):=FS 7 x.10 (FT 7 x kd ky x.3 x.4 x.5 x.6 x.7 x.8 x.9 (↑(x.2.length+1):Int)) x kd ky
def hbC(i:Int)(x:HST)(kd ky:Int)(K:Int×HST->Prop):Prop:=cT' 70 [.ptr 0 0,.I i,.agg [.I kd,.I ky]] (BJ x) (fG 1 0 [] [] hiP K)
theorem aAf(x:HST)(kd ky:Int)(K:Int×HST->Prop)(h:(JV x kd ky).run K):hbC 0 x kd ky K:=cM' (E:=EN0) (by kernel_rfl) h
theorem aAg(x:HST)(kd ky:Int)(K:Int×HST->Prop)(h:(JW x kd ky).run K):hbC 1 x kd ky K:=cM' (E:=EN0) (by kernel_rfl) h
theorem aAh(x:HST)(kd ky:Int)(K:Int×HST->Prop)(h:(JX x kd ky).run K):hbC 2 x kd ky K:=cM' (E:=EN0) (by kernel_rfl) h
theorem aAi(x:HST)(kd ky:Int)(K:Int×HST->Prop)(h:(JY x kd ky).run K):hbC 3 x kd ky K:=cM' (E:=EN0) (by kernel_rfl) h
theorem aAj(x:HST)(kd ky:Int)(K:Int×HST->Prop)(h:(JZ x kd ky).run K):hbC 4 x kd ky K:=cM' (E:=EN0) (by kernel_rfl) h
theorem aAk(x:HST)(kd ky:Int)(K:Int×HST->Prop)(h:(J0 x kd ky).run K):hbC 5 x kd ky K:=cM' (E:=EN0) (by kernel_rfl) h
theorem aAl(x:HST)(kd ky:Int)(K:Int×HST->Prop)(h:(J1 x kd ky).run K):hbC 6 x kd ky K:=cM' (E:=EN0) (by kernel_rfl) h
theorem aAm(x:HST)(kd ky:Int)(K:Int×HST->Prop)(h:(J2 x kd ky).run K):hbC 7 x kd ky K:=cM' (E:=EN0) (by kernel_rfl) h
def hbT(th:Int)(x:HST)(kd ky:Int):Tr (Int×HST):=
 bif ieq th 0 then JV x kd ky else
 bif ieq th 1 then JW x kd ky else
 bif ieq th 2 then JX x kd ky else
 bif ieq th 3 then JY x kd ky else
 bif ieq th 4 then JZ x kd ky else
 bif ieq th 5 then J0 x kd ky else
 bif ieq th 6 then J1 x kd ky else
 bif ieq th 7 then J2 x kd ky else .pre False (.ret default)
def hbF(th:Int)(x:HST)(kd ky:Int):Int×HST:=(hbT th x kd ky).val
def hbOk(th:Int)(x:HST)(kd ky:Int):Prop:=(hbT th x kd ky).ok
theorem uB{T:Tr (Int×HST)}{th i:Int}{x:HST}{kd ky:Int}{K:AVal->aC Ob->Prop}(e:th=i)(hs: ∀K',T.run K'->hbC i x kd ky K')(h:T.run (fun y=>(Out.ret (.I y.1) [some (.abs (.hist y.2) [])]).run K)):cT' 70 [.ptr 0 0,.I th,.agg [.I kd,.I ky]] [some (.abs (.hist x) [])] K:=by
 subst e;exact aLx (root:=0) (pos:=[]) (cs:=[]) (parse:=hiP) (fin:=fun y=>.ret (.I y.1) [some (.abs (.hist y.2) [])]) TA (aQ.unpack (.hist x) 0 0 (BJ x) [] rfl rfl rfl rfl) (hs _ h)
theorem aAe(th:Int)(x:HST)(kd ky:Int)(K:AVal->aC Ob->Prop)(h:(hbT th x kd ky).run (fun y=>(Out.ret (.I y.1) [some (.abs (.hist y.2) [])]).run K)):cT' 70 [.ptr 0 0,.I th,.agg [.I kd,.I ky]] [some (.abs (.hist x) [])] K:=by
 unfold hbT at h
 by_cases e:th=0
 ·exact uB e (aAf x kd ky) (by rw [e]at h;exact h)
 rw [bK e]at h
 by_cases e:th=1
 ·exact uB e (aAg x kd ky) (by rw [e]at h;exact h)
 rw [bK e]at h
 by_cases e:th=2
 ·exact uB e (aAh x kd ky) (by rw [e]at h;exact h)
 rw [bK e]at h
 by_cases e:th=3
 ·exact uB e (aAi x kd ky) (by rw [e]at h;exact h)
 rw [bK e]at h
 by_cases e:th=4
 ·exact uB e (aAj x kd ky) (by rw [e]at h;exact h)
 rw [bK e]at h
 by_cases e:th=5
 ·exact uB e (aAk x kd ky) (by rw [e]at h;exact h)
 rw [bK e]at h
 by_cases e:th=6
 ·exact uB e (aAl x kd ky) (by rw [e]at h;exact h)
 rw [bK e]at h
 by_cases e:th=7
 ·exact uB e (aAm x kd ky) (by rw [e]at h;exact h)
 rw [bK e]at h;exact h.1.elim
def hbS:aI Ob:=fun args h=>match args,h with
 | [.ptr 0 0,.int .i64 th,.agg [.int .i64 kd,.int .i64 ky]],[some (.abs (.hist x) [])]=>some (.pre (hbOk th x kd ky) (.ret (.I (hbF th x kd ky).1) [some (.abs (.hist (hbF th x kd ky).2) [])]))
 | _,_=>none
theorem aIg:sT' 70 hbS:=by
 intro args h o ho K hK;unfold hbS at ho;split at ho
 case h_2=>cases ho
 cases ho;obtain⟨ok,hK⟩:=hK;exact aAe _ _ _ _ K (aLD ok hK)
def S8(c:Int)(x:HST):List (List Int):=List.set x.2 (0+Int.toNat (W (c - 1))) (lG 9 (List.getD x.2 (0+Int.toNat (W (c - 1))) []) (0+0+1) [(↑x.1.length:Int)])
def WN(c:Int)(x:HST)(code:Int)(okk:Bool)(val:Int):List (List Int):=List.set (S8 c x) (0+Int.toNat (W (c - 1))) (lG 9 (List.getD (S8 c x) (0+Int.toNat (W (c - 1))) []) (0+6) [code,bif okk then 1 else 0,val])
def FV(k c:Int)(x:HST)(code:Int)(okk:Bool)(val n0 n1 n2 n3 n4 n5 n6 n7:Int):HST:= {ev:=x.1++ [[k,1,0,0,code,bif okk then 1 else 0,val]],cl:=WN c x code okk val,n0:=n0,n1:=n1,n2:=n2,n3:=n3,n4:=n4,n5:=n5,n6:=n6,n7:=n7}
def FU(k c:Int)(y x:HST)(code:Int)(okk:Bool)(val:Int):Tr (Int×HST):=.pre ((0:Int)<=k/\k<(↑8:Int)) (.ite (!ilt 0 c) (.pre (lE' x.1/\lE' x.2) (.ret (5,x))) (.pre ((0:Int)<=k/\k<(↑8:Int)) (.pre ((0:Int)<=W (c - 1)/\W (c - 1)<(↑x.2.length:Int)) (.pre (0+Int.toNat (W (c - 1))<x.2.length) (.pre (0+Int.toNat (W (c - 1))<List.length (S8 c x)) (.pre (0=0/\lE' x.1/\x.1.length+(1:Nat)<=(4294967296:Nat)) (.pre ((0:Int)<=k/\k<(↑8:Int)) (.pre (x.1.length+(1:Nat)=List.length (x.1++ [[k,1,0,0,code,bif okk then 1 else 0,val]])/\x.2.length=List.length (WN c x code okk val)) (.ret (0,y))))))))))
def J3(x:HST)(code:Int)(okk:Bool)(val:Int):Tr (Int×HST):=FU 0 x.3 (FV 0 x.3 x code okk val 0 x.4 x.5 x.6 x.7 x.8 x.9 x.10) x code okk val
def J4(x:HST)(code:Int)(okk:Bool)(val:Int):Tr (Int×HST):=FU 1 x.4 (FV 1 x.4 x code okk val x.3 0 x.5 x.6 x.7 x.8 x.9 x.10) x code okk val
def J5(x:HST)(code:Int)(okk:Bool)(val:Int):Tr (Int×HST):=FU 2 x.5 (FV 2 x.5 x code okk val x.3 x.4 0 x.6 x.7 x.8 x.9 x.10) x code okk val
def J6(x:HST)(code:Int)(okk:Bool)(val:Int):Tr (Int×HST):=FU 3 x.6 (FV 3 x.6 x code okk val x.3 x.4 x.5 0 x.7 x.8 x.9 x.10) x code okk val
def J7(x:HST)(code:Int)(okk:Bool)(val:Int):Tr (Int×HST):=FU 4 x.7 (FV 4 x.7 x code okk val x.3 x.4 x.5 x.6 0 x.8 x.9 x.10) x code okk val
def J8(x:HST)(code:Int)(okk:Bool)(val:Int):Tr (Int×HST):=FU 5 x.8 (FV 5 x.8 x code okk val x.3 x.4 x.5 x.6 x.7 0 x.9 x.10) x code okk val
def J9(x:HST)(code:Int)(okk:Bool)(val:Int):Tr (Int×HST):=FU 6 x.9 (FV 6 x.9 x code okk val x.3 x.4 x.5 x.6 x.7 x.8 0 x.10) x code okk val
def KA(x:HST)(code:Int)(okk:Bool)(val:Int):Tr (Int×HST):=FU 7 x.10 (FV 7 x.10 x code okk val x.3 x.4 x.5 x.6 x.7 x.8 x.9 0) x code okk val
def heC(i:Int)(x:HST)(code:Int)(okk:Bool)(val:Int)(K:Int×HST->Prop):Prop:=cT' 98 [.ptr 0 0,.I i,.agg [.I code,.bool okk,.I val]] (BJ x) (fG 1 0 [] [] hiP K)
theorem aAw(x:HST)(code:Int)(okk:Bool)(val:Int)(K:Int×HST->Prop)(h:(J3 x code okk val).run K):heC 0 x code okk val K:=cM' (E:=EN0) (by kernel_rfl) h
theorem aAx(x:HST)(code:Int)(okk:Bool)(val:Int)(K:Int×HST->Prop)(h:(J4 x code okk val).run K):heC 1 x code okk val K:=cM' (E:=EN0) (by kernel_rfl) h
theorem aAy(x:HST)(code:Int)(okk:Bool)(val:Int)(K:Int×HST->Prop)(h:(J5 x code okk val).run K):heC 2 x code okk val K:=cM' (E:=EN0) (by kernel_rfl) h
theorem aAz(x:HST)(code:Int)(okk:Bool)(val:Int)(K:Int×HST->Prop)(h:(J6 x code okk val).run K):heC 3 x code okk val K:=cM' (E:=EN0) (by kernel_rfl) h
theorem aAA(x:HST)(code:Int)(okk:Bool)(val:Int)(K:Int×HST->Prop)(h:(J7 x code okk val).run K):heC 4 x code okk val K:=cM' (E:=EN0) (by kernel_rfl) h
theorem aAB(x:HST)(code:Int)(okk:Bool)(val:Int)(K:Int×HST->Prop)(h:(J8 x code okk val).run K):heC 5 x code okk val K:=cM' (E:=EN0) (by kernel_rfl) h
theorem aAC(x:HST)(code:Int)(okk:Bool)(val:Int)(K:Int×HST->Prop)(h:(J9 x code okk val).run K):heC 6 x code okk val K:=cM' (E:=EN0) (by kernel_rfl) h
theorem aAD(x:HST)(code:Int)(okk:Bool)(val:Int)(K:Int×HST->Prop)(h:(KA x code okk val).run K):heC 7 x code okk val K:=cM' (E:=EN0) (by kernel_rfl) h
def heT(th:Int)(x:HST)(code:Int)(okk:Bool)(val:Int):Tr (Int×HST):=
 bif ieq th 0 then J3 x code okk val else
 bif ieq th 1 then J4 x code okk val else
 bif ieq th 2 then J5 x code okk val else
 bif ieq th 3 then J6 x code okk val else
 bif ieq th 4 then J7 x code okk val else
 bif ieq th 5 then J8 x code okk val else
 bif ieq th 6 then J9 x code okk val else
 bif ieq th 7 then KA x code okk val else .pre False (.ret default)
def heF(th:Int)(x:HST)(code:Int)(okk:Bool)(val:Int):Int×HST:=(heT th x code okk val).val
def heOk(th:Int)(x:HST)(code:Int)(okk:Bool)(val:Int):Prop:=(heT th x code okk val).ok
theorem uC{T:Tr (Int×HST)}{th i:Int}{x:HST}{code:Int}{okk:Bool}{val:Int}{K:AVal->aC Ob->Prop}(e:th=i)(hs: ∀K',T.run K'->heC i x code okk val K')(h:T.run (fun y=>(Out.ret (.I y.1) [some (.abs (.hist y.2) [])]).run K)):cT' 98 [.ptr 0 0,.I th,.agg [.I code,.bool okk,.I val]] [some (.abs (.hist x) [])] K:=by
 subst e;exact aLx (root:=0) (pos:=[]) (cs:=[]) (parse:=hiP) (fin:=fun y=>.ret (.I y.1) [some (.abs (.hist y.2) [])]) TA (aQ.unpack (.hist x) 0 0 (BJ x) [] rfl rfl rfl rfl) (hs _ h)
theorem aAv(th:Int)(x:HST)(code:Int)(okk:Bool)(val:Int)(K:AVal->aC Ob->Prop)(h:(heT th x code okk val).run (fun y=>(Out.ret (.I y.1) [some (.abs (.hist y.2) [])]).run K)):cT' 98 [.ptr 0 0,.I th,.agg [.I code,.bool okk,.I val]] [some (.abs (.hist x) [])] K:=by
 unfold heT at h
 by_cases e:th=0
 ·exact uC e (aAw x code okk val) (by rw [e]at h;exact h)
 rw [bK e]at h
 by_cases e:th=1
 ·exact uC e (aAx x code okk val) (by rw [e]at h;exact h)
 rw [bK e]at h
 by_cases e:th=2
 ·exact uC e (aAy x code okk val) (by rw [e]at h;exact h)
 rw [bK e]at h
 by_cases e:th=3
 ·exact uC e (aAz x code okk val) (by rw [e]at h;exact h)
 rw [bK e]at h
 by_cases e:th=4
 ·exact uC e (aAA x code okk val) (by rw [e]at h;exact h)
 rw [bK e]at h
 by_cases e:th=5
 ·exact uC e (aAB x code okk val) (by rw [e]at h;exact h)
 rw [bK e]at h
 by_cases e:th=6
 ·exact uC e (aAC x code okk val) (by rw [e]at h;exact h)
 rw [bK e]at h
 by_cases e:th=7
 ·exact uC e (aAD x code okk val) (by rw [e]at h;exact h)
 rw [bK e]at h;exact h.1.elim
def heS:aI Ob:=fun args h=>match args,h with
 | [.ptr 0 0,.int .i64 th,.agg [.int .i64 code,.bool okk,.int .i64 val]],[some (.abs (.hist x) [])]=>some (.pre (heOk th x code okk val) (.ret (.I (heF th x code okk val).1) [some (.abs (.hist (heF th x code okk val).2) [])]))
 | _,_=>none
theorem aIo:sT' 98 heS:=by
 intro args h o ho K hK;unfold heS at ho;split at ho
 case h_2=>cases ho
 cases ho;obtain⟨ok,hK⟩:=hK;exact aAv _ _ _ _ _ K (aLD ok hK)
noncomputable def EN1:=((EN0.addS 81 hnS aIq).addS 70 hbS aIg).addS 98 heS aIo
end Go.Sh
