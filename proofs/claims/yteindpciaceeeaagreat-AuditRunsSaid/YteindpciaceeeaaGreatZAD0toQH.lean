import Derived.RangeFuncLeaves
import Derived.Test.YteindpciaceeeaaGreatZN17toQB
set_option linter.all false
set_option maxHeartbeats 8000000
namespace Go.Sh
open Go Go.Proofs
variable [Con]
structure CNT where
 ch:Int
 tk:Int
 gv:Int
 lo:Int
 tw:Int
instance:Inhabited CNT:=⟨⟨0,0,0,0,0⟩⟩
def frB(lv:List Int)(i:Int):Bool:=ieq (Int.tmod (lv.getD (0+Int.toNat (W (i - 1))*1) 0) 2) 0
def cnCh(n a:Int)(lv:List Int)(c:CNT):CNT:=bif ilt a 1 then c else bif ile (n+1+4) a then c else bif bH n a then(bif frB lv a then⟨W (c.ch+1),c.tk,c.gv,W (c.lo+1),c.tw⟩else⟨W (c.ch+1),c.tk,c.gv,c.lo,c.tw⟩)else⟨W (c.ch+1),c.tk,c.gv,c.lo,c.tw⟩
def cnLf(k:Int)(ok:Bool)(nd:Int)(lv:List Int)(c:CNT):CNT:=bif ieq k 3&&ok then⟨c.ch,W (c.tk+1),c.gv,c.lo,c.tw⟩else bif ieq k 4 then(bif frB lv nd then⟨c.ch,c.tk,W (c.gv+1),c.lo,W (c.tw+1)⟩else⟨c.ch,c.tk,W (c.gv+1),c.lo,c.tw⟩)else c
theorem aJy{I:Itp Ob}(t:TypeId)(l off:Nat)(h:aB Ob)(v:AVal)(q:Option Prop)(hh:(none:Option (AVal×Option Prop))=some (v,q))(_:onp q)(V:Val)(hR:PHeap)(w:World)(b k:Nat)(_:Inv I V (toF h) hR w)(_:V l=some (b,k)): ∃v',(Instr.loadAt t (.pointer (some ⟨b,off,none⟩))).run Tryz.prog w=.ok v' w/\Rep V v v':=by cases hh
theorem aJl{I:Itp Ob}(h:I=obI tbl)(Z:Operand->AVal)(o:Oper)(g:aB Ob)(r:ORes Ob)(hr:FU.dro Tryz.prog (fun _ _ _=>none) Z o.op g=some r)(ho:r.obl)(V:Val)(hR:PHeap)(w:World)(Z':Operand->Value)(hi:Inv I V (toF g) hR w)(hf:jP V g.length r.new.length)(hZ: ∀x,Rep V (Z x) (Z' x)):dL I Tryz.prog V g.length hR w r.v (toF (r.apply g)) r.new.length (execOp Z' o):=by
 subst h;exact FU.dro_ok uA vG Z o g r hr ho V hR w Z' hi hf hZ
noncomputable def pM(E:Env Ob Tryz.prog)(h:E.I=obI tbl):Env Ob Tryz.prog:= {E with fld:=fun _ _ _ _=>none,fldOk:=aJy,dro:=FU.dro Tryz.prog fun _ _ _=>none,droCongr:=FU.dro_congr pB,droOk:=aJl h}
noncomputable def EAu:Env Ob Tryz.prog:=pM (EUe.addR 108 eqR aD5) rfl
abbrev auC(c:CNT)(n m:Nat):aG Ob:=.cells [.ptr 1 0,.int .i64 c.ch,.int .i64 c.tk,.int .i64 c.gv,.int .i64 c.lo,.int .i64 c.tw,.slice 2 0 n 1,.slice 3 0 m 1]
abbrev auH(e:EGS)(c:CNT)(ss:List (List Int))(lv:List Int):aB Ob:=[some (auC c ss.length lv.length),some (.abs (.engine e) []),some (.abs (.srow ss) []),some (.ints (some .u64) lv)]
abbrev w3u(c:CNT)(e:EGS)(lv:List Int)(ss:List (List Int)):aB Ob:=[some (.cells [.ptr 1 0,.int .i64 (W (c.1+1)),.int .i64 c.2,.int .i64 c.3,.int .i64 c.4,.int .i64 c.5,.slice 2 0 ss.length 1,.slice 3 0 lv.length 1]),some (.abs (.engine e) []),some (.abs (.srow ss) []),some (.ints (some .u64) lv)]
abbrev w3v(c:CNT)(e:EGS)(lv:List Int)(ss:List (List Int)):aB Ob:=[some (.cells [.ptr 1 0,.int .i64 c.1,.int .i64 c.2,.int .i64 c.3,.int .i64 c.4,.int .i64 c.5,.slice 2 0 ss.length 1,.slice 3 0 lv.length 1]),some (.abs (.engine e) []),some (.abs (.srow ss) []),some (.ints (some .u64) lv)]
def GC(e:EGS)(c:CNT)(ss:List (List Int))(lv:List Int)(t n a:Int)(K:AVal->aB Ob->Prop):Prop:=bif ilt a 1 then K (.tup []) (w3v c e lv ss)else(((0:Int)<=n/\n<=(100000:Int))/\(-1000000:Int)<=(4:Int)/\(4:Int)<=(1000000:Int))/\bif ile (n+1+4) a then K (.tup []) (w3v c e lv ss)else True/\bif bH n a then((0:Int)<=W (a - 1)/\W (a - 1)<(↑lv.length:Int))/\0+Int.toNat (W (a - 1))*(1:Nat)<lv.length/\(2:Int)≠(0:Int)/\bif ieq (Int.tmod (List.getD lv (0+Int.toNat (W (a - 1))*1) 0) 2) 0 then K (.tup []) [some (.cells [.ptr 1 0,.int .i64 (W (c.1+1)),.int .i64 c.2,.int .i64 c.3,.int .i64 (W (c.4+1)),.int .i64 c.5,.slice 2 0 ss.length 1,.slice 3 0 lv.length 1]),some (.abs (.engine e) []),some (.abs (.srow ss) []),some (.ints (some .u64) lv)]else K (.tup []) (w3u c e lv ss)else K (.tup []) (w3u c e lv ss)
theorem GG(e:EGS)(c:CNT)(ss:List (List Int))(lv:List Int)(t n a:Int)(K:AVal->aB Ob->Prop)(h:GC e c ss lv t n a K):cT' 136 [.ptr 0 0,.agg [.int .i64 t,.int .i64 n],.int .i64 a] (auH e c ss lv) (d9 4 K):=by
 exact cM' (E:=EAu) (by kernel_rfl) h
abbrev w3w(c:CNT)(e:EGS)(lv:List Int)(ss:List (List Int)):aB Ob:=[some (.cells [.ptr 1 0,.int .i64 c.1,.int .i64 c.2,.int .i64 (W (c.3+1)),.int .i64 c.4,.int .i64 (W (c.5+1)),.slice 2 0 ss.length 1,.slice 3 0 lv.length 1]),some (.abs (.engine e) []),some (.abs (.srow ss) []),some (.ints (some .u64) lv)]
abbrev w3x(c:CNT)(e:EGS)(lv:List Int)(ss:List (List Int)):aB Ob:=[some (.cells [.ptr 1 0,.int .i64 c.1,.int .i64 c.2,.int .i64 (W (c.3+1)),.int .i64 c.4,.int .i64 c.5,.slice 2 0 ss.length 1,.slice 3 0 lv.length 1]),some (.abs (.engine e) []),some (.abs (.srow ss) []),some (.ints (some .u64) lv)]
abbrev w3y(c:CNT)(e:EGS)(lv:List Int)(ss:List (List Int)):aB Ob:=[some (.cells [.ptr 1 0,.int .i64 c.1,.int .i64 c.2,.int .i64 c.3,.int .i64 c.4,.int .i64 c.5,.slice 2 0 ss.length 1,.slice 3 0 lv.length 1]),some (.abs (.engine e) []),some (.abs (.srow ss) []),some (.ints (some .u64) lv)]
def GI(e:EGS)(c:CNT)(ss:List (List Int))(lv:List Int)(k a o w:Int)(ok:Bool)(nd:Int)(K:AVal->aB Ob->Prop):Prop:=bif ieq k 3 then bif ok then K (.tup []) [some (.cells [.ptr 1 0,.int .i64 c.1,.int .i64 (W (c.2+1)),.int .i64 c.3,.int .i64 c.4,.int .i64 c.5,.slice 2 0 ss.length 1,.slice 3 0 lv.length 1]),some (.abs (.engine e) []),some (.abs (.srow ss) []),some (.ints (some .u64) lv)]else bif ieq k 4 then((0:Int)<=W (nd - 1)/\W (nd - 1)<(↑lv.length:Int))/\0+Int.toNat (W (nd - 1))*(1:Nat)<lv.length/\(2:Int)≠(0:Int)/\bif ieq (Int.tmod (List.getD lv (0+Int.toNat (W (nd - 1))*1) 0) 2) 0 then K (.tup []) (w3w c e lv ss)else K (.tup []) (w3x c e lv ss)else K (.tup []) (w3y c e lv ss)else bif ieq k 4 then((0:Int)<=W (nd - 1)/\W (nd - 1)<(↑lv.length:Int))/\0+Int.toNat (W (nd - 1))*(1:Nat)<lv.length/\(2:Int)≠(0:Int)/\bif ieq (Int.tmod (List.getD lv (0+Int.toNat (W (nd - 1))*1) 0) 2) 0 then K (.tup []) (w3w c e lv ss)else K (.tup []) (w3x c e lv ss)else K (.tup []) (w3y c e lv ss)
theorem GJ(e:EGS)(c:CNT)(ss:List (List Int))(lv:List Int)(k a o w:Int)(ok:Bool)(nd:Int)(K:AVal->aB Ob->Prop)(h:GI e c ss lv k a o w ok nd K):cT' 137 [.ptr 0 0,.agg [.int .i64 k,.int .i64 a,.int .u64 o,.int .u64 w,.bool ok],.int .i64 nd] (auH e c ss lv) (d9 4 K):=by
 exact cM' (E:=EAu) (by kernel_rfl) h
structure iO (n m:Nat) (ss:List (List Int)) (lv:List Int):Prop where
 n:n=ss.length
 m:m=lv.length
structure chOk (n:Int) (lv:List Int):Prop where
 n0:0<=n
 n1:n<=100000
 l:n<=(lv.length:Int)
def auchS:aI Ob:=fun args h=>match args,h with
 | [.ptr 0 0,.agg [.int .i64 t,.int .i64 n],.int .i64 a],[some (.cells [.ptr 1 0,.int .i64 c1,.int .i64 c2,.int .i64 c3,.int .i64 c4,.int .i64 c5,.slice 2 0 p 1,.slice 3 0 q 1]),some (.abs (.engine e) []),some (.abs (.srow ss) []),some (.ints (some .u64) lv)]=>some (.pre (iO p q ss lv/\chOk n lv) (.ret (.tup []) (auH e (cnCh n a lv ⟨c1,c2,c3,c4,c5⟩) ss lv)))
 | _,_=>none
theorem XA:sT' 136 auchS:=by
 intro args h o ho K g;unfold auchS at ho;split at ho<;>cases ho
 rename_i t n a c1 c2 c3 c4 c5 p q e ss lv;obtain⟨⟨⟨rfl,rfl⟩,⟨n0,n1,l⟩⟩,g⟩:=g;have g:K (.tup []) (auH e (cnCh n a lv ⟨c1,c2,c3,c4,c5⟩) ss lv):=g;refine aK8 (GG e ⟨c1,c2,c3,c4,c5⟩ ss lv t n a K ?_);unfold GC;refine aT (fun h1=>?_) (fun h1=>⟨⟨⟨n0,n1⟩,by decide,by decide⟩,aT (fun h2=>?_) (fun h2=>⟨trivial,aT (fun h3=>?_) (fun h3=>?_)⟩)⟩)
 ·unfold cnCh at g;rw [h1]at g;exact g
 ·unfold cnCh at g;rw [h1,h2]at g;exact g
 ·have h4:=iD.1 h3;have hW:W (a - 1)=a - 1:=cK ⟨by omega,by omega⟩
  refine⟨⟨by rw [hW];omega,by rw [hW];omega⟩,by rw [hW];omega,by decide,aT (fun h5=>?_) (fun h5=>?_)⟩
  ·unfold cnCh at g;rw [h1,h2,h3,show frB lv a=true from h5]at g;exact g
  ·unfold cnCh at g;rw [h1,h2,h3,show frB lv a=false from h5]at g;exact g
 ·unfold cnCh at g;rw [h1,h2,h3]at g;exact g
structure aIf (nd:Int) (lv:List Int):Prop where
 n0:1<=nd
 n1:nd<=100000
 l:nd<=(lv.length:Int)
def aulfS:aI Ob:=fun args h=>match args,h with
 | [.ptr 0 0,.agg [.int .i64 k,.int .i64 a,.int .u64 o,.int .u64 w,.bool ok],.int .i64 nd],[some (.cells [.ptr 1 0,.int .i64 c1,.int .i64 c2,.int .i64 c3,.int .i64 c4,.int .i64 c5,.slice 2 0 p 1,.slice 3 0 q 1]),some (.abs (.engine e) []),some (.abs (.srow ss) []),some (.ints (some .u64) lv)]=>some (.pre (iO p q ss lv/\aIf nd lv) (.ret (.tup []) (auH e (cnLf k ok nd lv ⟨c1,c2,c3,c4,c5⟩) ss lv)))
 | _,_=>none
theorem XB:sT' 137 aulfS:=by
 intro args h o ho K g;unfold aulfS at ho;split at ho<;>cases ho
 rename_i k a o w ok nd c1 c2 c3 c4 c5 p q e ss lv;obtain⟨⟨⟨rfl,rfl⟩,⟨n0,n1,l⟩⟩,g⟩:=g;have g:K (.tup []) (auH e (cnLf k ok nd lv ⟨c1,c2,c3,c4,c5⟩) ss lv):=g;refine aK8 (GJ e ⟨c1,c2,c3,c4,c5⟩ ss lv k a o w ok nd K ?_);unfold GI;have hW:W (nd - 1)=nd - 1:=cK ⟨by omega,by omega⟩
 have hB: ∀ {A B C:Prop},(frB lv nd=true->A)->(frB lv nd=false->B)->((0<=W (nd - 1)/\W (nd - 1)<(lv.length:Int))/\0+Int.toNat (W (nd - 1))*1<lv.length/\(2:Int)≠0/\bif ieq (Int.tmod (List.getD lv (0+Int.toNat (W (nd - 1))*1) 0) 2) 0 then A else B):=fun ha hb=>⟨⟨by rw [hW];omega,by rw [hW];omega⟩,by rw [hW];omega,by decide,aT ha hb⟩
 refine aT (fun h1=>aT (fun h2=>?_) (fun h2=>aT (fun h3=>?_) (fun h3=>?_))) (fun h1=>aT (fun h3=>?_) (fun h3=>?_))
 ·unfold cnLf at g;rw [h1,h2]at g;exact g
 ·exfalso;rw [fJ h1]at h3;cases h3
 ·unfold cnLf at g;rw [h1,h2,h3]at g;exact g
 ·refine hB (C:=True) (fun h5=>?_) (fun h5=>?_)
  ·unfold cnLf at g;rw [h1,h3,h5]at g;exact g
  ·unfold cnLf at g;rw [h1,h3,h5]at g;exact g
 ·unfold cnLf at g;rw [h1,h3]at g;exact g
noncomputable def EAv:Env Ob Tryz.prog:=pM ((EAu.addS 136 auchS XA).addS 137 aulfS XB) rfl
def noU(e:EGS)(c:CNT)(ss:List (List Int))(m:Nat)(lv:List Int)(K:AVal->aB Ob->Prop):Prop:=((0:Int)<=(EGS.s e).2/\(EGS.s e).2<=(100000:Int))/\((0:Int)<=W ((↑ss.length:Int) - 1)/\W ((↑ss.length:Int) - 1)<(↑ss.length:Int))/\0+Int.toNat (W ((↑ss.length:Int) - 1))*(1:Nat)<ss.length/\((lE' (bM e)/\lE' (slAt ss (0+Int.toNat (W ((↑ss.length:Int) - 1))*1)))/\List.length (bM e)<=(4294967296:Nat))/\bif !eR (bM e) (slAt ss (0+Int.toNat (W ((↑ss.length:Int) - 1))*1))then(0+Int.toNat (W ((↑ss.length:Int) - 1))*(1:Nat)<ss.length/\slAt ss (0+Int.toNat (W ((↑ss.length:Int) - 1))*1)=slAt ss (0+Int.toNat (W ((↑ss.length:Int) - 1))*1))/\(1=1/\0=0/\1=1/\lE' ss/\ss.length+(1:Nat)<=(4294967296:Nat)/\6=6/\0=0/\lE' (bM e)/\1=1)/\K (.tup []) [some (.cells [.ptr 1 0,.int .i64 c.1,.int .i64 c.2,.int .i64 c.3,.int .i64 c.4,.int .i64 c.5,.slice 4 0 (ss.length+1) 1,.slice 3 0 m 1]),some (.abs (.engine e) []),none,some (.ints (some .u64) lv),some (.abs (.srow (ss++ [bM e])) [])]else K (.tup []) [some (.cells [.ptr 1 0,.int .i64 c.1,.int .i64 c.2,.int .i64 c.3,.int .i64 c.4,.int .i64 c.5,.slice 2 0 ss.length 1,.slice 3 0 m 1]),some (.abs (.engine e) []),some (.abs (.shole ss (0+Int.toNat (W ((↑ss.length:Int) - 1))*1)) [4]),some (.ints (some .u64) lv),some (.ints (some .i64) (slAt ss (0+Int.toNat (W ((↑ss.length:Int) - 1))*1)))]
def noT(e:EGS)(c:CNT)(ss:List (List Int))(lv:List Int)(K:AVal->aB Ob->Prop):Prop:=((((0:Int)<=(EGS.s e).1/\(EGS.s e).1<=(100000:Int))/\((0:Int)<=(EGS.s e).2/\(EGS.s e).2<=(100000:Int))/\(-1099511627776:Int)<=(1:Int)/\(1:Int)<=(1099511627776:Int))/\True)/\True/\bif bH (EGS.s e).2 (W (W ((EGS.s e).6 - ((EGS.s e).2+4+1))+1))then(iO ss.length lv.length ss lv/\aIf (W (W ((EGS.s e).6 - ((EGS.s e).2+4+1))+1)) lv)/\True/\((0:Int)<=W (W (W ((EGS.s e).6 - ((EGS.s e).2+4+1))+1) - 1)/\W (W (W ((EGS.s e).6 - ((EGS.s e).2+4+1))+1) - 1)<(↑lv.length:Int))/\0+Int.toNat (W (W (W ((EGS.s e).6 - ((EGS.s e).2+4+1))+1) - 1))*(1:Nat)<lv.length/\noU e (cnLf (EGS.s e).5 (EGS.s e).9 (W (W ((EGS.s e).6 - ((EGS.s e).2+4+1))+1)) lv c) ss lv.length (List.set lv (0+Int.toNat (W (W (W ((EGS.s e).6 - ((EGS.s e).2+4+1))+1) - 1))*1) (aF (EGS.s e).3 (EGS.s e).6)) K else noU e c ss lv.length lv K
def aIp(e:EGS)(c:CNT)(ss:List (List Int))(lv:List Int)(K:AVal->aB Ob->Prop):Prop:=True/\True/\bif (EGS.s e).9 then bif ieq (EGS.s e).5 2 then(iO ss.length lv.length ss lv/\chOk (EGS.s e).2 lv)/\noT e (cnCh (EGS.s e).2 (EGS.s e).6 lv c) ss lv K else bif ieq (EGS.s e).5 3 then(iO ss.length lv.length ss lv/\chOk (EGS.s e).2 lv)/\noT e (cnCh (EGS.s e).2 (EGS.s e).6 lv c) ss lv K else noT e c ss lv K else noT e c ss lv K
theorem TD(e:EGS)(c:CNT)(ss:List (List Int))(lv:List Int)(K:AVal->aB Ob->Prop)(h:aIp e c ss lv K):cT' 113 [.ptr 0 0] (auH e c ss lv) (d9 4 K):=by
 exact cM' (E:=EAv) (by kernel_rfl) h
abbrev auR(e:EGS)(c:CNT)(ss:List (List Int))(lv:List Int):aB Ob:=[some (.cells [.ptr 1 0,.int .i64 c.ch,.int .i64 c.tk,.int .i64 c.gv,.int .i64 c.lo,.int .i64 c.tw,.slice 4 0 ss.length 1,.slice 3 0 lv.length 1]),some (.abs (.engine e) []),none,some (.ints (some .u64) lv),some (.abs (.srow ss) [])]
theorem aLQ{n l i k:Nat}{ws:List (List Int)}{v:AVal}{g:aB Ob}(hl:aK g l=some (.abs (.shole ws i) [k]))(hk:aK g k=some (.ints (some .i64) (slAt ws i)))(hkl:k≠l)(hi:i<ws.length):
 aE (obI tbl) n v g v ((g.set l (some (.abs (.srow ws) []))).set k none):=by
 intro V hR w' x h1 h2 h3 h4;refine⟨V,fun _ _ _ h=>h,?_,by simpa using h3,h4,?_⟩
 ·intro m hm;exact h2 m (by simpa using hm)
 ·have h5:=h1.backS FU.toRowS (rV hi) (fun _=>rfl) hl hk hkl
  have h6:ws.set i (slAt ws i)=ws:=by
   apply List.ext_getElem?;intro j;rw [List.getElem?_set];split
   ·rename_i e;subst e;exact(rV hi).symm
   ·rfl
  have h7:=h5;change Inv (obI tbl) V (toF ((List.set g l (some (.abs (.srow (ws.set i (slAt ws i))) []))).set k none)) hR w' at h7;rw [h6]at h7;exact h7
def ndI(e:EGS):Int:=W (W (e.s.a - (e.s.n+4+1))+1)
def naC(e:EGS)(lv:List Int)(c:CNT):CNT:=bif bH e.s.n (ndI e)then cnLf e.s.k e.s.ok (ndI e) lv (bif e.s.ok&&(ieq e.s.k 2||ieq e.s.k 3)then cnCh e.s.n e.s.a lv c else c)else bif e.s.ok&&(ieq e.s.k 2||ieq e.s.k 3)then cnCh e.s.n e.s.a lv c else c
def naL(e:EGS)(lv:List Int):List Int:=bif bH e.s.n (ndI e)then lv.set (0+Int.toNat (W (ndI e - 1))*1) (aF e.s.xs e.s.a)else lv
def naS(e:EGS)(ss:List (List Int)):List (List Int):=bif !eR (bM e) (slAt ss (0+Int.toNat (W ((ss.length:Int) - 1))*1))then ss++ [bM e]else ss
theorem KE(e:EGS)(lv:List Int):(naL e lv).length =lv.length:=by
 unfold naL;cases bH e.s.n (ndI e)with
 | true=>exact List.length_set
 | false=>rfl
structure W8 (e:EGS) (ss:List (List Int)) (lv:List Int):Prop where
 t:0<=e.s.t/\e.s.t<=100000
 n:0<=e.s.n/\e.s.n<=100000
 l:e.s.n<=(lv.length:Int)
 s0:1<=ss.length
 s1:ss.length+1<=4294967296
 it:(bM e).length <=4294967296
theorem TB(e:EGS)(c:CNT)(ss:List (List Int))(m:Nat)(lv:List Int)(K:AVal->aB Ob->Prop)(hm:m=lv.length)(n0:0<=e.s.n)(n1:e.s.n<=100000)(s0:1<=ss.length)(s1:ss.length+1<=4294967296)(it:(bM e).length <=4294967296)(hK:K (.tup []) (auR e c (naS e ss) lv)):noU e c ss m lv (cQ (obI tbl) 4 K):=by
 subst hm;have hW:W ((ss.length:Int) - 1)=(ss.length:Int) - 1:=cK ⟨by omega,by omega⟩
 have hi:0+Int.toNat (W ((ss.length:Int) - 1))*1<ss.length:=by rw [hW];omega
 refine⟨⟨n0,n1⟩,⟨by rw [hW];omega,by rw [hW];omega⟩,hi,⟨⟨rfl,rfl⟩,it⟩,aT (fun h=>?_) (fun h=>?_)⟩
 ·refine⟨⟨hi,rfl⟩,⟨rfl,rfl,rfl,rfl,s1,rfl,rfl,rfl,rfl⟩,?_⟩;have e1:naS e ss=ss++ [bM e]:=by unfold naS;rw [h];rfl
  rw [e1]at hK;have g:(ss++ [bM e]).length =ss.length+1:=by simp
  exact⟨⟨_,_,aLo _ _ _,by rw [<-g];exact hK⟩⟩
 ·have e1:naS e ss=ss:=by unfold naS;rw [h];rfl
  rw [e1]at hK;exact⟨⟨_,_,(aLQ (l:=2) (k:=4) rfl rfl (by decide) hi).trans ((aE.move 2 (of_decide_eq_true rfl)).trans (aE.pick [0,1,2,3,5] rfl)),hK⟩⟩
theorem AJ(e:EGS)(c:CNT)(ss:List (List Int))(lv:List Int)(K:AVal->aB Ob->Prop)(h:W8 e ss lv)(hK:K (.tup []) (auR e (bif bH e.s.n (ndI e)then cnLf e.s.k e.s.ok (ndI e) lv c else c) (naS e ss) (naL e lv))):noT e c ss lv (cQ (obI tbl) 4 K):=by
 obtain⟨⟨t0,g⟩,⟨n0,n1⟩,l,s0,s1,it⟩:=h;refine⟨⟨⟨⟨t0,g⟩,⟨n0,n1⟩,by decide,by decide⟩,trivial⟩,trivial,aT (fun h1=>?_) (fun h1=>?_)⟩
 ·have h1:bH e.s.n (ndI e)=true:=h1;have h2:=iD.1 h1;have hW:W (ndI e - 1)=ndI e - 1:=cK ⟨by omega,by omega⟩
  have hi:0+Int.toNat (W (ndI e - 1))*1<lv.length:=by rw [hW];omega
  have hl:=KE e lv;rw [h1]at hK;have e1:naL e lv=lv.set (0+Int.toNat (W (ndI e - 1))*1) (aF e.s.xs e.s.a):=by unfold naL;rw [h1];rfl
  refine⟨⟨⟨rfl,rfl⟩,⟨h2.1,by show ndI e<=100000;omega,by show ndI e<=(lv.length:Int);omega⟩⟩,trivial,⟨by show 0<=W (ndI e - 1);rw [hW];omega,by show W (ndI e - 1)<(lv.length:Int);rw [hW];omega⟩,hi,?_⟩
  refine TB e _ ss _ _ K (by rw [List.length_set]) n0 n1 s0 s1 it ?_
  rw [e1]at hK;exact hK
 ·have h1:bH e.s.n (ndI e)=false:=h1;rw [h1]at hK;have e1:naL e lv=lv:=by unfold naL;rw [h1];rfl
  rw [e1]at hK;exact TB e c ss _ lv K rfl n0 n1 s0 s1 it hK
def aunoS:aI Ob:=fun args h=>match args,h with
 | [.ptr 0 0],[some (.cells [.ptr 1 0,.int .i64 c1,.int .i64 c2,.int .i64 c3,.int .i64 c4,.int .i64 c5,.slice 2 0 p 1,.slice 3 0 q 1]),some (.abs (.engine e) []),some (.abs (.srow ss) []),some (.ints (some .u64) lv)]=>some (.pre (iO p q ss lv/\W8 e ss lv) (.ret (.tup []) (auR e (naC e lv ⟨c1,c2,c3,c4,c5⟩) (naS e ss) (naL e lv))))
 | _,_=>none
theorem XC:sT' 113 aunoS:=by
 intro args h o ho K hK;unfold aunoS at ho;split at ho<;>cases ho
 rename_i c1 c2 c3 c4 c5 p q e ss lv;obtain⟨⟨⟨rfl,rfl⟩,g⟩,hK⟩:=hK;have hK:K (.tup []) (auR e (naC e lv ⟨c1,c2,c3,c4,c5⟩) (naS e ss) (naL e lv)):=hK;refine aLi ?_;refine aA.keep (TD e ⟨c1,c2,c3,c4,c5⟩ ss lv _ ?_);have hc:chOk e.s.n lv:=⟨g.n.1,g.n.2,g.l⟩;unfold naC at hK;refine⟨trivial,trivial,aT (fun h1=>aT (fun h2=>?_) (fun h2=>aT (fun h3=>?_) (fun h3=>?_))) (fun h1=>?_)⟩
 ·have h1:e.s.ok=true:=h1;have h2:ieq e.s.k 2=true:=h2;rw [h1,h2]at hK;exact⟨⟨⟨rfl,rfl⟩,hc⟩,AJ e _ ss lv K g (by rw [h1];exact hK)⟩
 ·have h1:e.s.ok=true:=h1;have h2:ieq e.s.k 2=false:=h2;have h3:ieq e.s.k 3=true:=h3;rw [h1,h2,h3]at hK;exact⟨⟨⟨rfl,rfl⟩,hc⟩,AJ e _ ss lv K g (by rw [h1];exact hK)⟩
 ·have h1:e.s.ok=true:=h1;have h2:ieq e.s.k 2=false:=h2;have h3:ieq e.s.k 3=false:=h3;rw [h1,h2,h3]at hK;exact AJ e ⟨c1,c2,c3,c4,c5⟩ ss lv K g (by rw [h1];exact hK)
 ·have h1:e.s.ok=false:=h1;rw [h1]at hK;exact AJ e ⟨c1,c2,c3,c4,c5⟩ ss lv K g (by rw [h1];exact hK)
noncomputable def EAw:Env Ob Tryz.prog:=pM (EAv.addS 113 aunoS XC) rfl
def apC(th:Int)(e:EGS)(lv:List Int)(c:CNT):CNT:=bif (pkF th e).1 then naC (pkF th e).2 lv c else c
def JA(th:Int)(e:EGS)(ss:List (List Int)):List (List Int):=bif (pkF th e).1 then naS (pkF th e).2 ss else ss
def I9(th:Int)(e:EGS)(lv:List Int):List Int:=bif (pkF th e).1 then naL (pkF th e).2 lv else lv
structure zJ (th:Int) (e:EGS) (ss:List (List Int)) (lv:List Int):Prop where
 p:aAP th e
 a:(pkF th e).1=true->W8 (pkF th e).2 ss lv
def aGO(e:EGS)(c:CNT)(ss:List (List Int))(lv:List Int)(th:Int)(K:AVal->aB Ob->Prop):Prop:=aAP th e/\bif !(pkF th e).1 then K (.bool false) [some (.cells [.ptr 1 0,.int .i64 c.1,.int .i64 c.2,.int .i64 c.3,.int .i64 c.4,.int .i64 c.5,.slice 2 0 ss.length 1,.slice 3 0 lv.length 1]),some (.abs (.engine (pkF th e).2) []),some (.abs (.srow ss) []),some (.ints (some .u64) lv)]else(iO ss.length lv.length ss lv/\W8 (Prod.snd (pkF th e)) ss lv)/\K (.bool true) [some (.cells [.ptr 1 0,.int .i64 (naC (pkF th e).2 lv c).1,.int .i64 (naC (pkF th e).2 lv c).2,.int .i64 (naC (pkF th e).2 lv c).3,.int .i64 (naC (pkF th e).2 lv c).4,.int .i64 (naC (pkF th e).2 lv c).5,.slice 4 0 (List.length (naS (pkF th e).2 ss)) 1,.slice 3 0 (List.length (naL (pkF th e).2 lv)) 1]),some (.abs (.engine (pkF th e).2) []),none,some (.ints (some .u64) (naL (pkF th e).2 lv)),some (.abs (.srow (naS (pkF th e).2 ss)) [])]
theorem P5(e:EGS)(c:CNT)(ss:List (List Int))(lv:List Int)(th:Int)(K:AVal->aB Ob->Prop)(h:aGO e c ss lv th K):cT' 57 [.ptr 0 0,.int .i64 th] (auH e c ss lv) (d9 4 K):=by
 exact cM' (E:=EAw) (by kernel_rfl) h
def aupkS:aI Ob:=fun args h=>match args,h with
 | [.ptr 0 0,.int .i64 th],[some (.cells [.ptr 1 0,.int .i64 c1,.int .i64 c2,.int .i64 c3,.int .i64 c4,.int .i64 c5,.slice 2 0 p 1,.slice 3 0 q 1]),some (.abs (.engine e) []),some (.abs (.srow ss) []),some (.ints (some .u64) lv)]=>some (.pre (iO p q ss lv/\zJ th e ss lv) (.ret (.bool (pkF th e).1) (auR (pkF th e).2 (apC th e lv ⟨c1,c2,c3,c4,c5⟩) (JA th e ss) (I9 th e lv))))
 | _,_=>none
theorem JB:sT' 57 aupkS:=by
 intro args h o ho K g;unfold aupkS at ho;split at ho<;>cases ho
 rename_i th c1 c2 c3 c4 c5 p q e ss lv;obtain⟨⟨⟨rfl,rfl⟩,⟨hp,ha⟩⟩,g⟩:=g;have g:K (.bool (pkF th e).1) (auR (pkF th e).2 (apC th e lv ⟨c1,c2,c3,c4,c5⟩) (JA th e ss) (I9 th e lv)):=g;unfold apC JA I9 at g;refine aLi ?_;refine aA.keep (P5 e ⟨c1,c2,c3,c4,c5⟩ ss lv th _ ?_);refine⟨hp,aT (fun h1=>?_) (fun h1=>?_)⟩
 ·have h1:(pkF th e).1=false:=by simpa using h1
  rw [h1]at g;exact⟨⟨_,_,aE.move 2 (of_decide_eq_true rfl),g⟩⟩
 ·have h1:(pkF th e).1=true:=by simpa using h1
  rw [h1]at g;exact⟨⟨⟨rfl,rfl⟩,ha h1⟩,⟨⟨_,_,aLo _ _ _,g⟩⟩⟩
noncomputable def EAx:Env Ob Tryz.prog:=pM (EAw.addS 57 aupkS JB) rfl
abbrev yN:AVal:=.func (.func 57) [.ptr 0 0] []
abbrev aC0(e:EGS)(c:CNT)(ss:List (List Int))(lv:List Int)(k:Int):aB Ob:=[some (.cells [.ptr 1 0,.int .i64 c.ch,.int .i64 c.tk,.int .i64 c.gv,.int .i64 c.lo,.int .i64 c.tw,.slice 6 0 ss.length 1,.slice 3 0 lv.length 1]),some (.abs (.engine e) []),none,some (.ints (some .u64) lv),some (.cells [yN]),some (.cells [.int .i64 k]),some (.abs (.srow ss) [])]
abbrev auT(n:Nat)(row:Nat->List AVal):List AVal:=[yN,.view n 2 row,.ptr 4 0,.raw undef,.int .i64 0,.ptr 5 0,.raw undef,.view n 2 row,.O]++List.replicate 7 (.raw undef)
def z7(e:EGS)(c:CNT)(ss:List (List Int))(lv:List Int)(n:Nat)(row:Nat->List AVal)(K:List AVal->aB Ob->Prop):Prop:=K [.func (Fn.func 57) [.ptr 0 0] [],.view n 2 row,.ptr 4 0,.raw (Value.tuple {toList:=[] }),.int .i64 0,.ptr 5 0,.raw (Value.tuple {toList:=[] }),.view n 2 row,.func (Fn.func 114) [] [.ptr 6 0],.raw (Value.tuple {toList:=[] }),.raw (Value.tuple {toList:=[] }),.raw (Value.tuple {toList:=[] }),.raw (Value.tuple {toList:=[] }),.raw (Value.tuple {toList:=[] }),.raw (Value.tuple {toList:=[] }),.raw (Value.tuple {toList:=[] })] [some (.cells [.ptr 1 0,.int .i64 c.1,.int .i64 c.2,.int .i64 c.3,.int .i64 c.4,.int .i64 c.5,.slice 2 0 ss.length 1,.slice 3 0 lv.length 1]),some (.abs (.engine e) []),some (.abs (.srow ss) []),some (.ints (some .u64) lv),some (.cells [.func (Fn.func 57) [.ptr 0 0] []]),some (.cells [.int .i64 0]),some (.cells [.view n 2 row])]
theorem GZ(e:EGS)(c:CNT)(ss:List (List Int))(lv:List Int)(n:Nat)(row:Nat->List AVal)(K:List AVal->aB Ob->Prop)(h:z7 e c ss lv n row K):Ev (cI EAx (iY EAx LL 9) 16 aBT ([.func (.func 57) [.ptr 0 0] [],.view n 2 row]++List.replicate 14 (.raw undef)) (auH e c ss lv) K):=aJ (q:=z7 e c ss lv n row K) (by kernel_rfl) h
abbrev w3z(c:CNT)(e:EGS)(lv:List Int)(ss:List (List Int))(u:Int):Option (aG Ob):=some (.cells [.ptr 1 0,.int .i64 (apC u e lv c).1,.int .i64 (apC u e lv c).2,.int .i64 (apC u e lv c).3,.int .i64 (apC u e lv c).4,.int .i64 (apC u e lv c).5,.slice 7 0 (List.length (JA u e ss)) 1,.slice 3 0 (List.length (I9 u e lv)) 1])
def G0(e:EGS)(c:CNT)(ss:List (List Int))(lv:List Int)(k:Int)(n:Nat)(row:Nat->List AVal)(u:Int)(K:aB Ob->Prop):Prop:=(iO ss.length lv.length ss lv/\zJ u e ss lv)/\bif (pkF u e).1 then K [w3z c e lv ss u,some (.abs (.engine (pkF u e).2) []),none,some (.ints (some .u64) (I9 u e lv)),some (.cells [.func (Fn.func 57) [.ptr 0 0] []]),some (.cells [.int .i64 (W (k+1))]),none,some (.abs (.srow (JA u e ss)) [])]else K [w3z c e lv ss u,some (.abs (.engine (pkF u e).2) []),none,some (.ints (some .u64) (I9 u e lv)),some (.cells [.func (Fn.func 57) [.ptr 0 0] []]),some (.cells [.int .i64 k]),none,some (.abs (.srow (JA u e ss)) [])]
theorem G1(e:EGS)(c:CNT)(ss:List (List Int))(lv:List Int)(k:Int)(n:Nat)(row:Nat->List AVal)(u:Int)(K:aB Ob->Prop)(h:G0 e c ss lv k n row u K):Ev (cI EAx (iY EAx LL 9) 16 (sJ sN) (List.set (auT n row) 9 (.int .i64 u)) (aC0 e c ss lv k) (fun tm1 h1=>cI EAx (iY EAx LL 9) 16 (sK sN) tm1 h1 (fun _ h2=>K h2))):=aJ (q:=G0 e c ss lv k n row u K) (by kernel_rfl) h
def G2(e:EGS)(c:CNT)(ss:List (List Int))(lv:List Int)(k:Int)(n:Nat)(row:Nat->List AVal)(K:List AVal->aB Ob->Prop):Prop:=K [.func (Fn.func 57) [.ptr 0 0] [],.view n 2 row,.ptr 4 0,.raw (Value.tuple {toList:=[] }),.int .i64 k,.ptr 5 0,.raw (Value.tuple {toList:=[] }),.view n 2 row,.O,.raw (Value.tuple {toList:=[] }),.raw (Value.tuple {toList:=[] }),.raw (Value.tuple {toList:=[] }),.raw (Value.tuple {toList:=[] }),.raw (Value.tuple {toList:=[] }),.raw (Value.tuple {toList:=[] }),.int .i64 k] [some (.cells [.ptr 1 0,.int .i64 c.1,.int .i64 c.2,.int .i64 c.3,.int .i64 c.4,.int .i64 c.5,.slice 6 0 ss.length 1,.slice 3 0 lv.length 1]),some (.abs (.engine e) []),none,some (.ints (some .u64) lv),some (.cells [.func (Fn.func 57) [.ptr 0 0] []]),some (.cells [.int .i64 k]),some (.abs (.srow ss) [])]
theorem G3(e:EGS)(c:CNT)(ss:List (List Int))(lv:List Int)(k:Int)(n:Nat)(row:Nat->List AVal)(K:List AVal->aB Ob->Prop)(h:G2 e c ss lv k n row K):Ev (cI EAx (iY EAx LL 9) 16 RD (auT n row) (aC0 e c ss lv k) K):=aJ (q:=G2 e c ss lv k n row K) (by kernel_rfl) h
def lvI(e:EGS)(i:Nat):List Int:=(List.range i).map fun(j:Nat)=>aF e.s.xs (e.s.n+4+((j:Int)+1))
structure anI (e:EGS) (i:Nat):Prop where
 h:(i:Int)<=e.s.n
def VZ(e:EGS):Hint Ob:= {X:=Nat,st:=fun i=>([.ptr 0 0,.O,.O,.ptr 1 0,.ptr 5 0,.int .i64 ((i:Int)+1)]++List.replicate 28 .O,[some (.abs (.engine e) []),some (.cells [.ptr 0 0,.int .i64 0,.int .i64 0,.int .i64 0,.int .i64 0,.int .i64 0,.slice 2 0 1 1,.slice 4 0 (lvI e i).length 1]),some (.cells [.slice 3 0 (bM e).length 1]),some (.ints (some .i64) (bM e)),some (.ints (some .u64) (lvI e i)),some (.cells [.int .i64 e.s.t,.int .i64 e.s.n])]),ok:=anI e,mu:=fun i=>(e.s.n - (i:Int)).toNat,keep:=[0,3,4,5],casts:=[(.cell 1 7,.ints (some .u64)),(.cell 2 7,.ints (some .u64)),(.cell 3 7,.ints (some .u64)),(.cell 4 7,.ints (some .u64))] }
def LAN(e:EGS):FuncId->Nat->Option (kK Ob):=fun f j=>match Nat.beq f 65,j with
 | true,4=>some (.states (VZ e))
 | _,_=>none
abbrev w40(e:EGS):Option (aG Ob):=some (.cells [.slice 3 0 (List.length (bM e)) 1])
def aBL(e:EGS)(K:AVal->aB Ob->Prop):Prop:=((0:Int)<=(EGS.s e).2/\(EGS.s e).2<=(100000:Int))/\True/\dF (VZ e) (Hint.ok (VZ e)) (.ptr 0 0::.O::.O::.ptr 1 0::.ptr 5 0::.int .i64 1::(tO' 28 [])) [some (.abs (.engine e) []),some (.cells [.ptr 0 0,.int .i64 0,.int .i64 0,.int .i64 0,.int .i64 0,.int .i64 0,.slice 2 0 1 1,.slice 4 0 0 1]),w40 e,some (.ints (some .i64) (bM e)),some (.ints (some .u64) []),some (.cells [.int .i64 (EGS.s e).1,.int .i64 (EGS.s e).2])]/\ ∀(x:Nat),anI e x->True/\bif bH (EGS.s e).2 ((↑x:Int)+1)then((((0:Int)<=(EGS.s e).1/\(EGS.s e).1<=(100000:Int))/\((0:Int)<=(EGS.s e).2/\(EGS.s e).2<=(100000:Int))/\(-1099511627776:Int)<=(↑x:Int)+1/\(↑x:Int)+(1:Int)<=(1099511627776:Int))/\True)/\True/\(0=0/\lE' (lvI e x)/\1=1/\List.length (lvI e x)+(1:Nat)<=(4294967296:Nat))/\dF (VZ e) (fun x'=>Hint.ok (VZ e) x'/\Hint.mu (VZ e) x'<Hint.mu (VZ e) x) (.ptr 0 0::.O::.O::.ptr 1 0::.ptr 5 0::.int .i64 (W ((↑x:Int)+1+1))::(tO' 28 [])) [some (.abs (.engine e) []),some (.cells [.ptr 0 0,.int .i64 0,.int .i64 0,.int .i64 0,.int .i64 0,.int .i64 0,.slice 2 0 1 1,.slice 4 0 (List.length (lvI e x)+1) 1]),w40 e,some (.ints (some .i64) (bM e)),some (.ints (some .u64) (lvI e x++ [aF (EGS.s e).3 ((EGS.s e).2+4+((↑x:Int)+1))])),some (.cells [.int .i64 (EGS.s e).1,.int .i64 (EGS.s e).2])]else K (.ptr 1 0) [some (.abs (.engine e) []),some (.cells [.ptr 0 0,.int .i64 0,.int .i64 0,.int .i64 0,.int .i64 0,.int .i64 0,.slice 2 0 1 1,.slice 4 0 (List.length (lvI e x)) 1]),w40 e,some (.ints (some .i64) (bM e)),some (.ints (some .u64) (lvI e x))]
theorem LB(e:EGS)(K:AVal->aB Ob->Prop)(h:aBL e K):cT' 65 [.ptr 0 0] [some (.abs (.engine e) [])] (d9 1 K):=by
 exact aD (E:=EAx) Tryz.checked.mixed (L:=LAN e) (n:=10) (aJ (by kernel_rfl) h)
theorem aIj(e:EGS)(i:Nat):lvI e i++ [aF e.s.xs (e.s.n+4+((i:Int)+1))]=lvI e (i+1):=by
 unfold lvI;rw [List.range_succ,List.map_append];rfl
theorem uP(e:EGS)(i:Nat):(lvI e i).length =i:=by unfold lvI;simp
structure auNk (e:EGS):Prop where
 t:0<=e.s.t/\e.s.t<=100000
 n:0<=e.s.n/\e.s.n<=100000
 it:(bM e).length <=4294967296
abbrev auN(e:EGS):aB Ob:=[some (.abs (.engine e) []),some (.cells [.ptr 0 0,.int .i64 0,.int .i64 0,.int .i64 0,.int .i64 0,.int .i64 0,.slice 2 0 1 1,.slice 3 0 (lvI e e.s.n.toNat).length 1]),some (.abs (.srow [bM e]) []),some (.ints (some .u64) (lvI e e.s.n.toNat))]
abbrev w41(m:Nat):Option (aG Ob):=some (.cells [.ptr 0 0,.int .i64 0,.int .i64 0,.int .i64 0,.int .i64 0,.int .i64 0,.slice 2 0 1 1,.slice 4 0 m 1])
theorem aGT(e:EGS)(lv:List Int)(n m:Nat):aE (obI tbl) 1 (.ptr 1 0) [some (.abs (.engine e) []),w41 m,some (.cells [.slice 3 0 (bM e).length 1]),some (.ints (some .i64) (bM e)),some (.ints (some .u64) lv)]
 (.ptr 1 0) [some (.abs (.engine e) []),some (.cells [.ptr 0 0,.int .i64 0,.int .i64 0,.int .i64 0,.int .i64 0,.int .i64 0,.slice 2 0 1 1,.slice 3 0 m 1]),some (.abs (.srow [bM e]) []),some (.ints (some .u64) lv)]:=
 (aE.move 3 (of_decide_eq_true rfl)).trans ((aE.pack [some (.abs (.engine e) []),w41 m,some (.abs (.srow [bM e]) []),none,some (.ints (some .u64) lv)] (.srow [bM e]) 2 0 (fM intE [bM e]) [] (by kernel_rfl) rfl rfl (by kernel_rfl)).trans (aE.pick [0,1,2,4] rfl))
def auNS:aI Ob:=fun args h=>match args,h with
 | [.ptr 0 0],[some (.abs (.engine e) [])]=>some (.pre (auNk e) (.ret (.ptr 1 0) (auN e)))
 | _,_=>none
theorem aC1:sT' 65 auNS:=by
 intro args h o ho K g;unfold auNS at ho;split at ho<;>cases ho
 rename_i e;obtain⟨⟨ht,hn,hit⟩,g⟩:=g;have g:K (.ptr 1 0) (auN e):=g;refine aLi ?_;refine aA.keep (LB e _ ?_);refine⟨hn,trivial,aQ (H:=VZ e) (0:Nat) rfl ⟨by show((0:Nat):Int)<=_;omega⟩,?_⟩
 rintro i ⟨hi⟩;refine⟨trivial,aT (fun h1=>?_) (fun h1=>?_)⟩
 ·have h2:=iD.1 h1;have hl:=uP e i
  have hW:W ((i:Int)+1+1)=((i+1:Nat):Int)+1:=by
   rw [show((i+1:Nat):Int)+1=(i:Int)+1+1 by omega]
   exact cK ⟨by omega,by omega⟩
  have ac:(lvI e i).length +1=(lvI e (i+1)).length :=by rw [uP,uP]
  refine⟨⟨⟨ht,hn,by omega,by omega⟩,trivial⟩,trivial,⟨rfl,rfl,rfl,by omega⟩,?_⟩
  rw [aIj,hW,ac];exact aQ (H:=VZ e) (i+1:Nat) rfl ⟨⟨by omega⟩,by show(e.s.n - ((i+1:Nat):Int)).toNat <(e.s.n - (i:Int)).toNat;omega⟩
 ·have aa:e.s.n.toNat=i:=by
   have: ¬(1<=(i:Int)+1/\(i:Int)+1<=e.s.n):=fun h=>by rw [iD.2 h]at h1;cases h1
   omega
  unfold auN at g;rw [aa]at g;exact⟨⟨_,_,aGT e _ 0 _,g⟩⟩
noncomputable def EAy:Env Ob Tryz.prog:=pM ((EAx.addS 65 auNS aC1).addS 25 gn1S HF) rfl
structure asI (ss:List (List Int)) (i:Nat):Prop where
 h:i<ss.length
def HAS0(e:EGS)(c:CNT)(ss:List (List Int))(lv:List Int):Hint Ob:= {X:=Unit,st:=fun _=>([.ptr 0 0,.O,.O,.raw (.slice none 0 0),.O,.O,.O,.O,.O,.slice 2 0 ss.length 1,.int .i64 (ss.length:Int),.int .i64 0]++List.replicate 10 .O,auH e c ss lv),ok:=fun _=>True,mu:=fun _=>ss.length+1,keep:=[0,3,9,10,11],sel:=fun tm _=>match tm.getD 3 .O with | .raw _=>true | _=>false}
def tW(e:EGS)(c:CNT)(ss:List (List Int))(lv:List Int):Hint Ob:= {X:=Nat,st:=fun i=>([.ptr 0 0,.O,.O,.slice 5 0 (ss.take (i+1)).length 1,.O,.O,.O,.O,.O,.slice 2 0 ss.length 1,.int .i64 (ss.length:Int),.int .i64 ((i+1:Nat):Int)]++List.replicate 10 .O,[some (auC c ss.length lv.length),some (.abs (.engine e) []),some (.abs (.shole ss i) [4]),some (.ints (some .u64) lv),some (.ints (some .i64) (slAt ss i)),some (.abs (.srow (ss.take (i+1))) [])]),ok:=asI ss,mu:=fun i=>ss.length - i,keep:=[0,3,9,10,11] }
def LAS(e:EGS)(c:CNT)(ss:List (List Int))(lv:List Int):FuncId->Nat->Option (kK Ob):=fun f j=>match Nat.beq f 59,j with
 | true,3=>some (.cases [HAS0 e c ss lv,tW e c ss lv])
 | _,_=>none
abbrev w42(c:CNT)(lv:List Int)(ss:List (List Int)):Option (aG Ob):=some (.cells [.ptr 1 0,.int .i64 c.1,.int .i64 c.2,.int .i64 c.3,.int .i64 c.4,.int .i64 c.5,.slice 2 0 ss.length 1,.slice 3 0 lv.length 1])
def P9(e:EGS)(c:CNT)(ss:List (List Int))(lv:List Int)(K:AVal->aB Ob->Prop):Prop:=dF (HAS0 e c ss lv) (fun x=>Hint.ok (HAS0 e c ss lv) x/\qO none (Hint.mu (HAS0 e c ss lv) x)) [.ptr 0 0,.O,.O,.raw (Value.slice none 0 0),.O,.O,.O,.O,.O,.slice 2 0 ss.length 1,.int .i64 (↑ss.length:Int),.int .i64 0,.O,.O,.O,.O,.O,.O,.O,.O,.O,.O] [w42 c lv ss,some (.abs (.engine e) []),some (.abs (.srow ss) []),some (.ints (some .u64) lv)]/\(∀(x:Unit),True->bif ilt 0 (↑ss.length:Int)then((0:Int)<=(0:Int)/\(0:Int)<(↑ss.length:Int))/\0+Int.toNat 0*(1:Nat)<ss.length/\(lE' (slAt ss 0)/\List.length (slAt ss 0)<=(4294967296:Nat))/\(1=1/\5=5/\0=0/\lE' (slAt ss 0)/\1=1)/\dF (tW e c ss lv) (fun x_1=>Hint.ok (tW e c ss lv) x_1/\qO (some (Hint.mu (HAS0 e c ss lv) x)) (Hint.mu (tW e c ss lv) x_1)) [.ptr 0 0,.O,.O,.slice 5 0 1 1,.O,.O,.O,.O,.O,.slice 2 0 ss.length 1,.int .i64 (↑ss.length:Int),.int .i64 (W (0+1)),.O,.O,.O,.O,.O,.O,.O,.O,.O,.O] [w42 c lv ss,some (.abs (.engine e) []),some (.abs (.shole ss 0) [4]),some (.ints (some .u64) lv),some (.ints (some .i64) (slAt ss (0+Int.toNat 0*1))),some (.abs (.srow [slAt ss 0]) [])]else K (.raw (Value.slice none 0 0)) [w42 c lv ss,some (.abs (.engine e) []),some (.abs (.srow ss) []),some (.ints (some .u64) lv)])/\(∀(x:Nat),asI ss x->bif ilt (↑(x+1):Int) (↑ss.length:Int)then((0:Int)<=(↑(x+1):Int)/\(↑(x+1):Int)<(↑ss.length:Int))/\(x<ss.length/\slAt ss x=slAt ss x)/\0+Int.toNat (↑(x+1):Int)*(1:Nat)<ss.length/\(lE' (slAt ss (0+Int.toNat (↑(x+1):Int)*1))/\List.length (slAt ss (0+Int.toNat (↑(x+1):Int)*1))<=(4294967296:Nat))/\(1=1/\0=0/\1=1/\lE' (List.take (x+1) ss)/\List.length (List.take (x+1) ss)+(1:Nat)<=(4294967296:Nat)/\7=7/\0=0/\lE' (slAt ss (0+Int.toNat (↑(x+1):Int)*1))/\1=1)/\dF (tW e c ss lv) (fun x_1=>Hint.ok (tW e c ss lv) x_1/\qO (some (Hint.mu (tW e c ss lv) x)) (Hint.mu (tW e c ss lv) x_1)) [.ptr 0 0,.O,.O,.slice 5 0 (List.length (List.take (x+1) ss)+1) 1,.O,.O,.O,.O,.O,.slice 2 0 ss.length 1,.int .i64 (↑ss.length:Int),.int .i64 (W ((↑(x+1):Int)+1)),.O,.O,.O,.O,.O,.O,.O,.O,.O,.O] [w42 c lv ss,some (.abs (.engine e) []),some (.abs (.shole ss (0+Int.toNat (↑(x+1):Int)*1)) [4]),some (.ints (some .u64) lv),some (.ints (some .i64) (slAt ss (0+Int.toNat (↑(x+1):Int)*1))),some (.abs (.srow (List.take (x+1) ss++ [slAt ss (0+Int.toNat (↑(x+1):Int)*1)])) [])]else K (.slice 5 0 (List.length (List.take (x+1) ss)) 1) [w42 c lv ss,some (.abs (.engine e) []),some (.abs (.shole ss x) [4]),some (.ints (some .u64) lv),some (.ints (some .i64) (slAt ss x)),some (.abs (.srow (List.take (x+1) ss)) [])])/\True
theorem LC(e:EGS)(c:CNT)(ss:List (List Int))(lv:List Int)(K:AVal->aB Ob->Prop)(h:P9 e c ss lv K):cT' 59 [.ptr 0 0] (auH e c ss lv) (d9 4 K):=by
 exact aD (E:=EAy) Tryz.checked.mixed (L:=LAS e c ss lv) (n:=10) (aJ (by kernel_rfl) h)
structure asOk (ss:List (List Int)):Prop where
 n0:1<=ss.length
 n1:ss.length<=4294967295
 l: ∀i,i<ss.length->(slAt ss i).length <=4294967296
theorem KP{ss:List (List Int)}{i:Nat}(hi:i<ss.length):ss.take i++ [slAt ss i]=ss.take (i+1):=by
 rw [List.take_succ,rV hi];rfl
abbrev auHS(e:EGS)(c:CNT)(ss:List (List Int))(lv:List Int):aB Ob:=[some (auC c ss.length lv.length),some (.abs (.engine e) []),some (.abs (.srow ss) []),some (.ints (some .u64) lv),some (.abs (.srow ss) [])]
theorem aC3(e:EGS)(c:CNT)(ss:List (List Int))(lv:List Int)(K:AVal->aB Ob->Prop)(h:asOk ss)(hK:K (.slice 4 0 ss.length 1) (auHS e c ss lv)):P9 e c ss lv (cQ (obI tbl) 4 K):=by
 obtain⟨n0,n1,hl⟩:=h;refine⟨aQ (H:=HAS0 e c ss lv) () rfl ⟨trivial,trivial⟩,fun _ _=>?_,?_,trivial⟩
 ·refine aT (fun _=>⟨⟨by decide,by omega⟩,by show 0<_;omega,⟨rfl,hl 0 (by omega)⟩,⟨rfl,rfl,rfl,rfl,rfl⟩,?_⟩) (fun h=>?_)
  ·refine aQ (H:=tW e c ss lv) (0:Nat) ?_ ⟨⟨by omega⟩,by show ss.length - 0<ss.length+1;omega⟩
   have e1:ss.take (0+1)=[slAt ss 0]:=by rw [<-KP (by omega)];rfl
   show(tW e c ss lv).st (0:Nat)=_;unfold tW;dsimp only;rw [e1];rfl
  ·rw [bD,dF']at h;omega
 ·rintro i ⟨hi⟩;refine aT (fun h=>?_) (fun h=>?_)
  ·rw [bD,dT']at h;have g:i+1<ss.length:=by omega
   have ej:0+Int.toNat ((i+1:Nat):Int)*1=i+1:=by rw [Int.toNat_natCast];omega
   have hW:W (((i+1:Nat):Int)+1)=((i+1+1:Nat):Int):=by
    rw [show((i+1+1:Nat):Int)=((i+1:Nat):Int)+1 by omega]
    exact cK ⟨by omega,by omega⟩
   have ac:(ss.take (i+1)).length =i+1:=by rw [List.length_take];omega
   have aa:(ss.take (i+1)).length +1=(ss.take (i+1+1)).length :=by rw [List.length_take,List.length_take];omega
   rw [ej,hW,KP g,aa];refine⟨⟨by omega,by omega⟩,⟨hi,rfl⟩,g,⟨rfl,hl _ g⟩,⟨rfl,rfl,rfl,rfl,by omega,rfl,rfl,rfl,rfl⟩,?_⟩
   exact aQ (H:=tW e c ss lv) (i+1:Nat) rfl ⟨⟨g⟩,by show ss.length - (i+1)<ss.length - i;omega⟩
  ·rw [bD,dF']at h;have et:ss.take (i+1)=ss:=List.take_of_length_le (by omega)
   rw [et];exact⟨⟨_,_,(aLQ (l:=2) (k:=4) rfl rfl (by decide) hi).trans (aE.pick [0,1,2,3,5] rfl),hK⟩⟩
def auSS:aI Ob:=fun args h=>match args,h with
 | [.ptr 0 0],[some (.cells [.ptr 1 0,.int .i64 c1,.int .i64 c2,.int .i64 c3,.int .i64 c4,.int .i64 c5,.slice 2 0 p 1,.slice 3 0 q 1]),some (.abs (.engine e) []),some (.abs (.srow ss) []),some (.ints (some .u64) lv)]=>some (.pre (iO p q ss lv/\asOk ss) (.ret (.slice 4 0 ss.length 1) (auHS e ⟨c1,c2,c3,c4,c5⟩ ss lv)))
 | _,_=>none
theorem aC2:sT' 59 auSS:=by
 intro args h o ho K g;unfold auSS at ho;split at ho<;>cases ho
 rename_i c1 c2 c3 c4 c5 p q e ss lv;obtain⟨⟨⟨rfl,rfl⟩,ha⟩,g⟩:=g;have g:K (.slice 4 0 ss.length 1) (auHS e ⟨c1,c2,c3,c4,c5⟩ ss lv):=g;refine aLi ?_;exact aA.keep (LC e ⟨c1,c2,c3,c4,c5⟩ ss lv _ (aC3 e ⟨c1,c2,c3,c4,c5⟩ ss lv K ha g))
noncomputable def EAz:Env Ob Tryz.prog:=pM (EAy.addS 59 auSS aC2) rfl
def egX(sh th nd tr:Int)(m:Nat)(vr:Nat->List AVal):EGS:=nR sh th nd tr m (vL vr) (vK vr) (vY vr)
def gn2S:aI Ob:=fun args h=>match args,h with
 | [.agg [.int .i64 sh,.int .i64 th,.int .i64 nd,.int .i64 tr],.view m 1 vr],[]=>some (.pre ((m<=1000000/\f6 vr)/\gnC sh th nd tr m (vL vr) (vK vr) (vY vr)=0) (.ret (.tup [.ptr 0 0,.int .i64 0]) (egH (egX sh th nd tr m vr))))
 | _,_=>none
theorem SF:sT' 25 gn2S:=by
 intro args h o ho K hK;unfold gn2S at ho;split at ho<;>cases ho
 rename_i sh th nd tr m g;have hS:gn1S [.agg [.int .i64 sh,.int .i64 th,.int .i64 nd,.int .i64 tr],.view m 1 g] []=some (.pre ((m<=1000000/\f6 g)/\gnC sh th nd tr m (vL g) (vK g) (vY g)=0) (.ret (.tup [.ptr 0 0,.int .i64 0]) (egH (nR sh th nd tr m (vL g) (vK g) (vY g))))):=rfl;exact HF _ _ _ hS K hK
noncomputable def EBa:Env Ob Tryz.prog:=pM ((EAz.addS 25 gn2S SF).addR 26 cfR QK) rfl
def aGH(sh th nd tr:Int)(m:Nat)(vr:Nat->List AVal)(K:AVal->aB Ob->Prop):Prop:=True/\(((m<=(1000000:Nat)/\f6 vr)/\gnC sh th nd tr m (vL vr) (vK vr) (vY vr)=(0:Int))/\True)/\auNk (egX sh th nd tr m vr)/\K (.ptr 0 0) [some (.cells [.ptr 1 0,.int .i64 0,.int .i64 0,.int .i64 0,.int .i64 0,.int .i64 0,.slice 2 0 1 1,.slice 3 0 (List.length (lvI (egX sh th nd tr m vr) (Int.toNat (EGS.s (egX sh th nd tr m vr)).2))) 1]),some (.abs (.engine (egX sh th nd tr m vr)) []),some (.abs (.srow [bM (egX sh th nd tr m vr)]) []),some (.ints (some .u64) (lvI (egX sh th nd tr m vr) (Int.toNat (EGS.s (egX sh th nd tr m vr)).2)))]
theorem PS(sh th nd tr:Int)(m:Nat)(vr:Nat->List AVal)(K:AVal->aB Ob->Prop)(h:aGH sh th nd tr m vr K):cT' 54 [.agg [.int .i64 sh,.int .i64 th,.int .i64 nd,.int .i64 tr,.view m 1 vr]] [] (d9 0 K):=by
 exact cM' (E:=EBa) (by kernel_rfl) h
abbrev auB(e:EGS):aB Ob:=auH e ⟨0,0,0,0,0⟩ [bM e] (lvI e e.s.n.toNat)
def abS:aI Ob:=fun args h=>match args,h with
 | [.agg [.int .i64 sh,.int .i64 th,.int .i64 nd,.int .i64 tr,.view m 1 vr]],[]=>some (.pre (((m<=1000000/\f6 vr)/\gnC sh th nd tr m (vL vr) (vK vr) (vY vr)=0)/\auNk (egX sh th nd tr m vr)) (.ret (.ptr 0 0) (auB (egX sh th nd tr m vr))))
 | _,_=>none
theorem aGI:sT' 54 abS:=by
 intro args h o ho K g;unfold abS at ho;split at ho<;>cases ho
 rename_i sh th nd tr m vr;obtain⟨⟨h1,h2⟩,g⟩:=g;exact aK8 (PS sh th nd tr m vr K ⟨trivial,⟨h1,trivial⟩,h2,g⟩)
def litG(h:aB Ob)(l q:Nat)(ys:List Int):aB Ob:=((h.map (Option.map (aG.ren (swI q h.length)))).set q none).set l (some (.abs (.srow [ys]) []))
def aFh(h:aB Ob)(s:AVal):Option (Prop×aB Ob):=match s with
 | .slice l 0 m 1=>match aK h l with
   | some (.cells [.slice q 0 n 1])=>match aK h q with
     | some (.ints (some .i64) ys)=>cond (Nat.beq m 1&&jK (litG h l q ys) l []&&(Nat.blt q h.length&&(Nat.blt l h.length&& !Nat.beq q l))) (some (n=ys.length,litG h l q ys)) none
     | _=>none
   | _=>none
 | _=>none
theorem aFi{h:aB Ob}{l q n:Nat}{ys:List Int}(hl:aK h l=some (.cells [.slice q 0 n 1]))(hq:aK h q=some (.ints (some .i64) ys))(hql:q≠l)(hlt:l<h.length)(hqt:q<h.length)(hn:n=ys.length):
 rL q h=aP (litG h l q ys) l 0 (fM intE [ys]) []:=by
 have g:(litG h l q ys).length =h.length:=by unfold litG;simp
 have e1:aP (litG h l q ys) l 0 (fM intE [ys]) []=(litG h l q ys).set l (some (.cells [.slice h.length 0 ys.length 1]))++ [some (.ints (some .i64) ys)]:=by
  have:aP (litG h l q ys) l 0 (fM intE [ys]) []=(litG h l q ys).set l (some (.cells [.slice (litG h l q ys).length 0 ys.length 1]))++ [some (.ints (some .i64) ys)]:=rfl;rw [this,g]
 rw [e1];unfold rL litG;rw [hq,List.set_set];congr 1;subst hn
 have hg:h[l]? =some (some (.cells [.slice q 0 ys.length 1])):=by
  have:=hl;unfold aK at this;rw [gD',gE' hlt]at this;rw [gE' hlt];exact congrArg some this
 apply List.ext_getElem?;intro j
 by_cases e:l=j
 ·subst e;rw [List.getElem?_set_self (by simpa using hlt),List.getElem?_set_ne hql,List.getElem?_map,hg]
  show some (some (aG.cells [.slice (swI q h.length q) 0 ys.length 1]:aG Ob))=_;have:swI q h.length q=h.length:=by unfold swI;rw [if_pos rfl]
  rw [this]
 ·rw [List.getElem?_set_ne e]
theorem NU{h h4:aB Ob}{s:AVal}{p:Prop}(hs:aFh h s=some (p,h4))(hp:p):h4.length=h.length/\aE (obI tbl) h.length (.raw undef) h (.raw undef) h4:=by
 unfold aFh at hs;split at hs
 case h_2=>cases hs
 rename_i l m;split at hs
 case h_2=>cases hs
 rename_i q n hl;split at hs
 case h_2=>cases hs
 rename_i ys hq;cases hb:(Nat.beq m 1&&jK (litG h l q ys) l []&&(Nat.blt q h.length&&(Nat.blt l h.length&& !Nat.beq q l)))with
 | false=>rw [hb]at hs;cases hs
 | true=>
 rw [hb]at hs;simp only [cond_true,sI',pI']at hs;obtain⟨rfl,rfl⟩:=hs;simp only [Bool.and_eq_true]at hb;obtain⟨⟨b0,b1⟩,b2,b3,b4⟩:=hb;have aa:q<h.length:=by simpa [Nat.blt_eq]using b2
 have ac:l<h.length:=by simpa [Nat.blt_eq]using b3
 have ad:q≠l:=by intro e;rw [e,Nat.beq_refl]at b4;cases b4
 have g:(litG h l q ys).length =h.length:=by unfold litG;simp
 refine⟨g,(aE.move q aa).trans (aE.pack (litG h l q ys) (.srow [ys]) l 0 (fM intE [ys]) [] (aFi hl hq ad ac aa hp) ?_ rfl ?_)⟩
 ·unfold aK litG;rw [gD',List.getElem?_set_self (by simpa using ac)];rfl
 ·rw [b1,g];have:Nat.ble h.length h.length=true:=Nat.ble_eq_true_of_le (Nat.le_refl _);rw [this];rfl
def AH(P:Program)(B:(Operand->AVal)->Op->aB Ob->(AVal->aB Ob->Prop)->Prop)(Z:Operand->AVal)(op:Op)(h:aB Ob)(K:AVal->aB Ob->Prop):Prop:=
 match op with
 | .call c=>match c.args.toList.map Z with
   | [s,.slice lx 0 1 1]=>match aFh h s with
     | some (p,h4)=>p/\FU.app2 P Z (.call c) h4 K
     | none=>B Z (.call c) h K
   | _=>B Z (.call c) h K
 | op=>B Z op h K
theorem NT{P:Program}{B:(Operand->AVal)->Op->aB Ob->(AVal->aB Ob->Prop)->Prop}(hB:uB tbl P B):uB tbl P (AH P B):=by
 intro Z o h K hk V hR w Z' hi hf hZ;unfold AH at hk;split at hk
 ·rename_i c g;split at hk
  ·rename_i s lx hs;split at hk
   ·rename_i p h4 hl;obtain⟨hp,hk⟩:=hk;obtain⟨ad,ht⟩:=NU hl hp;obtain⟨V1,a1,a2,a3,a4,a5⟩:=ht V hR w undef hi hf (Nat.le_refl _) rfl
    have aa:Val.le V V1:=by
     intro m y hm
     by_cases ac:m<h.length
     ·exact a1 m y ac hm
     ·rw [hf m (by omega)]at hm;cases hm
    obtain⟨nx,w',V',v,v',h2,q1,q2,q3,q4,q5,q6,q7,q8,q9⟩:=FU.app2_ok (P:=P) Z o h4 K (by rw [g];exact hk) V1 hR w Z' a5 a2 (fun x=>Rep.mono aa _ _ (hZ x))
    exact⟨nx,w',V',v,v',h2,q1,q2,q3,q4,Val.le_trans aa q5,q6,by omega,q8,q9⟩
   ·exact hB Z o h K (by rw [g];exact hk) V hR w Z' hi hf hZ
  ·exact hB Z o h K (by rw [g];exact hk) V hR w Z' hi hf hZ
 ·exact hB Z o h K hk V hR w Z' hi hf hZ
theorem aFJ{I:Itp Ob}(h:I=obI tbl)(Z:Operand->AVal)(o:Oper)(g:aB Ob)(K:AVal->aB Ob->Prop)(hk:AH Tryz.prog (FU.ops Tryz.prog (RKW.ops Tryz.prog)) Z o.op g K)(V:Val)(hR:PHeap)(w:World)(Z':Operand->Value)(hi:Inv I V (toF g) hR w)(hf: ∀l,g.length<=l->V l=none)(hZ: ∀x,Rep V (Z x) (Z' x)):
 ∃nx w' V' v v' h2,K v h2/\(execOp Z' o).run Tryz.prog w=.ok nx w'/\(nx=.value v'\/nx=.skip /\v'=undef)/\Rep V' v v'/\V.le V'/\(∀l,h2.length<=l->V' l=none)/\g.length<=h2.length/\Inv I V' (toF h2) hR w'/\bN w w':=by
 subst h;exact NT (FU.ops_ok uA RKW.ops_ok) Z o g K hk V hR w Z' hi hf hZ
noncomputable def aIK(E:Env Ob Tryz.prog)(h:E.I=obI tbl):Env Ob Tryz.prog:= {pM E h with row:=AH Tryz.prog (FU.ops Tryz.prog (RKW.ops Tryz.prog)),rowOk:=aFJ h}
end Go.Sh
namespace Go.Sh
open Go Go.Proofs
def SZ(n:Nat):EGS:=Nat.repeat (fun x=>(pkF 0 x).2) n (nR 1 1 5 0 1 (fun _=>1) (fun _ _=>1) (fun _ _=>3))
def a22(k:Nat):EGS:=⟨1,1,5,0,(SZ k).s,(SZ k).h,(SZ k).ws,Int.ofNat k⟩
variable [Con]
abbrev e22(k:Nat):aG Ob:=.abs (.engine (a22 k)) []
theorem S0:SZ 0=a22 0:=by kernel_rfl
theorem w22(k:Nat):egW 1 5 (SZ k):=by
 induction k with
 | zero=>exact JD (by kernel_rfl)
 | succ k ih=>exact(kY 0 ih).w
theorem KS:egW 1 5 (a22 0):=by rw [<-S0];exact w22 0
end Go.Sh
namespace Go.Sh
open Go Go.Proofs
variable [c:Con]
def new1S:aI Ob:=fun args h=>match args,h with
 | [.agg [.int .i64 sh,.int .i64 th,.int .i64 nd,.int .i64 tr],.slice 0 0 n 1],[some (.cells [.slice 1 0 n1 2]),some (.cells [.int .i64 p,.int .i64 q])]=>some (.pre ((n=1/\n1=1)/\(sh=1/\th=1/\nd=5/\tr=0)/\p=1/\q=3)
    (.ret (.tup [.ptr 2 0,.I 0]) [cE' [.slice 1 0 1 2],cE' [.I 1,.I 3],some (e22 0)]))
 | _,_=>none
theorem aAH:sT' 25 new1S:=by
 intro args h o ho K hK;unfold new1S at ho;split at ho<;>cases ho
 rename_i sh th nd tr n n1 p q;obtain⟨⟨⟨rfl,rfl⟩,⟨rfl,rfl,rfl,rfl⟩,rfl,rfl⟩,hK⟩:=hK;have hK:K (.tup [.ptr 2 0,.I 0]) [cE' [.slice 1 0 1 2],cE' [.I 1,.I 3],some (e22 0)]:=hK;refine aL4 (args2:=[.agg [.I 1,.I 1,.I 5,.I 0],.view 1 1 (fun _=>[.view 1 2 (fun _=>[.I 1,.I 3])])]) KQ (fun _=>false) ?_ ?_
 ·intro c' hc V l hm hr;obtain⟨v0,l0,rfl,r0,v1,l1,rfl,r1,r2⟩:=hr;refine⟨v0,_,rfl,Rep.con hc _ _ r0,v1,_,rfl,?_,r2⟩;obtain⟨p0,a1,a2⟩:=hm 0 _ rfl rfl;obtain⟨p1,b1,b2⟩:=hm 1 _ rfl rfl;refine rZ (Rep.con hc _ _ r1) a1 a2 ?_ (Nat.le_refl _);intro i hi;refine⟨rfl,fun rs h=>?_⟩
  match i,hi with
  | 0,_=>
    obtain⟨y,ys,rfl,y1,y2⟩:=h;refine⟨y,ys,rfl,?_,y2⟩
    have y3: @Rep c' V (.view 1 2 (fun _=>[.I 1,.I 3])) y:=rZ y1 b1 b2 (fun j hj=>⟨rfl,fun rs h=>by
     match j,hj with
     | 0,_=>exact h
     | j+1,hj=>omega⟩) (Nat.le_refl _)
    exact y3
  | i+1,hi=>omega
 ·intro c';have h1:=@HF c' [.agg [.I 1,.I 1,.I 5,.I 0],.view 1 1 (fun _=>[.view 1 2 (fun _=>[.I 1,.I 3])])] [] _ rfl (fun v g=>v=.tup [.ptr 0 0,.I 0]/\g=[some (e22 0)]) ⟨⟨⟨by decide,⟨rfl⟩⟩,by kernel_rfl⟩,⟨rfl,congrArg (fun x=>[some (aG.abs (Mc.engine x) [])]) S0⟩⟩
  refine aLM h1 [] rfl (by decide) (fun l hl=>by cases hl) ?_ rfl ?_
  ·intro i l hi;simp at hi
  ·rintro v g ⟨rfl,rfl⟩ _;refine⟨rfl,rfl,?_,hK⟩;intro l hl hS
   match l,hl with
   | 0,_=>rfl
   | 1,_=>rfl
   | l+2,hl=>simp at hl;omega
def aBN(sh th nd tr p q:Int)(n n1:Nat)(K:AVal->aB Ob->Prop):Prop:=K (.agg [.I sh,.I th,.I nd,.I tr]) [cE' [.slice 1 0 n1 2],cE' [.I p,.I q]]
theorem LG(sh th nd tr p q:Int)(n n1:Nat)(K:AVal->aB Ob->Prop)(h:aBN sh th nd tr p q n n1 K):cT' 26 [.agg [.I sh,.I th,.I nd,.I tr,.slice 0 0 n 1]] [cE' [.slice 1 0 n1 2],cE' [.I p,.I q]] (d9 2 K):=by
 exact cM' (E:=EUg) (by kernel_rfl) h
def cf1R:bA Ob:=fun args h=>match args,h with
 | [.agg [.int .i64 sh,.int .i64 th,.int .i64 nd,.int .i64 tr,.slice 0 0 n 1]],[some (.cells [.slice 1 0 n1 2]),some (.cells [.int .i64 p,.int .i64 q])]=>some (True,.agg [.I sh,.I th,.I nd,.I tr])
 | _,_=>none
theorem XM:sT' 26 cf1R.spec:=by
 intro args h o ho K g;unfold bA.spec at ho;split at ho
 case h_2=>cases ho
 rename_i pp v hv;unfold cf1R at hv;split at hv
 case h_2=>cases hv
 rename_i sh th nd tr n n1 p q;simp only [sI',pI']at hv;obtain⟨rfl,rfl⟩:=hv;simp only [sI']at ho;subst ho;obtain⟨_,g⟩:=g;exact aK8 (LG sh th nd tr p q n n1 K g)
noncomputable def L22:FuncId->Nat->Option (kK Ob):=fun _ _=>some (.rounds 12)
end Go.Sh
namespace Go.Sh
open Go Go.Proofs
variable [Con]
structure AUS where
 e:EGS
 c:CNT
 ss:List (List Int)
 lv:List Int
instance:Inhabited AUS:=⟨⟨⟨0,0,0,0,⟨0,0,[],0,0,0,0,0,false⟩,default,[],0⟩,default,[],[]⟩⟩
structure acW (th nd:Int) (x:AUS):Prop where
 w:egW th nd x.e
 l:(x.lv.length:Int)=nd
 s0:1<=x.ss.length
 s1:(x.ss.length:Int)<=x.e.k+1
 it: ∀i,i<x.ss.length->(slAt x.ss i).length <=4294967296
 lo:W x.c.lo=x.c.lo
 tw:W x.c.tw=x.c.tw
def cnG(e:EGS)(lv:List Int)(c:CNT):CNT:=bif e.s.ok&&(ieq e.s.k 2||ieq e.s.k 3)then cnCh e.s.n e.s.a lv c else c
def aFP(a b c d e:Int)(K:AVal->aB Ob->Prop):Prop:=bif ieq d 0 then K (.bool (ieq e 0)) []else K (.bool false) []
theorem US(a b c d e:Int)(K:AVal->aB Ob->Prop)(h:aFP a b c d e K):cT' 60 [.agg [.int .i64 a,.int .i64 b,.int .i64 c,.int .i64 d,.int .i64 e]] [] (d9 0 K):=by
 exact cM' (E:=EAz) (by kernel_rfl) h
def sfR:bA Ob:=fun args h=>match args,h with
 | [.agg [.int .i64 a,.int .i64 b,.int .i64 c,.int .i64 d,.int .i64 e]],[]=>some (True,.bool (ieq d 0&&ieq e 0))
 | _,_=>none
theorem aFO:sT' 60 sfR.spec:=by
 intro args h o ho K g;unfold bA.spec at ho;split at ho
 case h_2=>cases ho
 rename_i p v hv;unfold sfR at hv;split at hv
 case h_2=>cases hv
 rename_i a b c d e;simp only [sI',pI']at hv;obtain⟨rfl,rfl⟩:=hv;simp only [sI']at ho;subst ho;obtain⟨_,g⟩:=g;have g:K (.bool (ieq d 0&&ieq e 0)) []:=g;refine aK8 (US a b c d e K ?_);unfold aFP;cases hd:ieq d 0 with
 | true=>rw [hd]at g;exact g
 | false=>rw [hd]at g;exact g
end Go.Sh
namespace Go.Sh
open Go Go.Proofs
variable [Con]
theorem W_W(x:Int):W (W x)=W x:=by
 show IntKind.wrap IntKind.i64 (IntKind.wrap IntKind.i64 x)=IntKind.wrap IntKind.i64 x;simp only [IntKind.wrap_i64];omega
theorem XV(n a:Int)(lv:List Int)(c:CNT):(cnCh n a lv c).tk =c.tk/\(cnCh n a lv c).gv =c.gv/\(cnCh n a lv c).tw =c.tw/\(W c.lo=c.lo->W (cnCh n a lv c).lo =(cnCh n a lv c).lo):=by
 unfold cnCh;cases ilt a 1<;>cases ile (n+1+4) a<;>cases bH n a<;>cases frB lv a<;>exact⟨rfl,rfl,rfl,fun h=>by first | exact h | exact W_W _⟩
theorem aGZ(r:EGS)(lv:List Int)(c:CNT):(cnG r lv c).tk =c.tk/\(cnG r lv c).gv =c.gv/\(cnG r lv c).tw =c.tw/\(W c.lo=c.lo->W (cnG r lv c).lo =(cnG r lv c).lo):=by
 unfold cnG;cases r.s.ok&&(ieq r.s.k 2||ieq r.s.k 3)with
 | true=>exact XV _ _ _ _
 | false=>exact⟨rfl,rfl,rfl,fun h=>h⟩
theorem aIg(k:Int)(ok:Bool)(nd:Int)(lv:List Int)(c:CNT)(h1:W c.lo=c.lo)(h2:W c.tw=c.tw):W (cnLf k ok nd lv c).lo =(cnLf k ok nd lv c).lo /\W (cnLf k ok nd lv c).tw =(cnLf k ok nd lv c).tw :=by
 unfold cnLf;cases ieq k 3&&ok<;>cases ieq k 4<;>cases frB lv nd<;>exact⟨by first | exact h1 | exact W_W _,by first | exact h2 | exact W_W _⟩
theorem aIk(r:EGS)(lv:List Int)(c:CNT)(h1:W c.lo=c.lo)(h2:W c.tw=c.tw):W (naC r lv c).lo =(naC r lv c).lo /\W (naC r lv c).tw =(naC r lv c).tw :=by
 have g:=aGZ r lv c;have e:naC r lv c=bif bH r.s.n (ndI r)then cnLf r.s.k r.s.ok (ndI r) lv (cnG r lv c)else cnG r lv c:=rfl;have h3:W (cnG r lv c).tw =(cnG r lv c).tw :=by rw [g.2.2.1];exact h2
 rw [e];cases bH r.s.n (ndI r)with
 | true=>exact aIg _ _ _ _ _ (g.2.2.2 h1) h3
 | false=>exact⟨g.2.2.2 h1,h3⟩
def acN(u:Int)(q:AUS):AUS:=⟨(pkF u q.e).2,naC (pkF u q.e).2 q.lv q.c,naS (pkF u q.e).2 q.ss,naL (pkF u q.e).2 q.lv⟩
section
variable {th nd:Int} {q:AUS}
theorem aAG(r:EGS)(ss:List (List Int)):ss.length<=(naS r ss).length /\(naS r ss).length <=ss.length+1:=by
 unfold naS;cases !eR (bM r) (slAt ss (0+Int.toNat (W ((ss.length:Int) - 1))*1))with
 | true=>rw [cond_true,List.length_append];exact⟨by omega,Nat.le_refl _⟩
 | false=>exact⟨Nat.le_refl _,by rw [cond_false];omega⟩
theorem aFl{r:EGS}(hr:0<=r.s.n/\r.s.n<=100000){ss:List (List Int)}(h: ∀i,i<ss.length->(slAt ss i).length <=4294967296)(i:Nat)(hi:i<(naS r ss).length):(slAt (naS r ss) i).length <=4294967296:=by
 unfold naS at hi⊢;cases hb: !eR (bM r) (slAt ss (0+Int.toNat (W ((ss.length:Int) - 1))*1))with
 | false=>rw [hb]at hi;exact h i hi
 | true=>
   rw [hb,cond_true,List.length_append]at hi;rw [cond_true];unfold slAt at h⊢;rw [gD']
   by_cases h2:i<ss.length
   ·rw [List.getElem?_append_left h2,<-gD'];exact h i h2
   ·have:i=ss.length:=by simp at hi;omega
    subst this;rw [List.getElem?_append_right (Nat.le_refl _),Nat.sub_self];exact f0 hr
theorem BI(hq:acW th nd q){u:Int}(hd:(pkF u q.e).1=true):acW th nd (acN u q):=by
 have hr:=kY u hq.w;obtain⟨g,y2,_⟩:=hr.yes hd;have hc:=aIk (pkF u q.e).2 q.lv q.c hq.lo hq.tw;have hl:=aAG (pkF u q.e).2 q.ss;have hn:=hq.w.hn;have sn:=g.sn;refine⟨g,?_,?_,?_,aFl (by omega) hq.it,hc.1,hc.2⟩
 ·show((naL _ q.lv).length :Int)=nd;rw [KE];exact hq.l
 ·have:=hq.s0;show 1<=(naS _ _).length;omega
 ·have:=hq.s1;show((naS _ _).length :Int)<=(pkF u q.e).2.k +1;rw [y2];omega
theorem P6{u:Int}(hd:(pkF u q.e).1=true):apC u q.e q.lv q.c=naC (pkF u q.e).2 q.lv q.c/\JA u q.e q.ss=naS (pkF u q.e).2 q.ss/\I9 u q.e q.lv=naL (pkF u q.e).2 q.lv:=by
 unfold apC JA I9;rw [hd];exact⟨rfl,rfl,rfl⟩
theorem aBI{u:Int}(hd:(pkF u q.e).1=false):apC u q.e q.lv q.c=q.c/\JA u q.e q.ss=q.ss/\I9 u q.e q.lv=q.lv:=by
 unfold apC JA I9;rw [hd];exact⟨rfl,rfl,rfl⟩
theorem BU(hq:acW th nd q)(u:Int):zJ u q.e q.ss q.lv:=by
 have hr:=(kY u hq.w).w;have h1:=hr.ht;have h2:=hr.hn;have h3:=hr.st;have g:=hr.sn;have hl:=hq.l;have hk:=hq.w.k;have hs:=hq.s1;refine⟨aFx u hq.w,fun _=>⟨⟨by omega,by omega⟩,⟨by omega,by omega⟩,by omega,hq.s0,by omega,f0 ⟨by omega,by omega⟩⟩⟩
end
end Go.Sh
namespace Go.Sh
open Go Go.Proofs
variable [Con]
def apF(u:Int)(y:AUS):AUS:=⟨(pkF u y.e).2,apC u y.e y.lv y.c,JA u y.e y.ss,I9 u y.e y.lv⟩
def aCr:AUS->Int->List Int->AUS×Int
 | x,c,[]=>(x,c)
 | x,c,u::us=>aCr (apF u x) (bif (pkF u x.e).1 then W (c+1)else c) us
def runA(x:AUS)(c:Int)(us:List Int):AUS×Int:=aCr x c us
theorem FA(us vs:List Int): ∀(x:AUS) (c:Int),runA x c (us++vs)=runA (runA x c us).1 (runA x c us).2 vs:=by
 induction us with
 | nil=>intro x c;rfl
 | cons u us ih=>intro x c;exact ih _ _
theorem WT{u:Int}{q:AUS}(hd:(pkF u q.e).1=true):apF u q=acN u q:=by
 obtain⟨a1,a2,a3⟩:=P6 hd;unfold apF acN;rw [a1,a2,a3]
theorem zI{th nd u:Int}{q:AUS}(hq:egW th nd q.e)(hd:(pkF u q.e).1=false):apF u q=q:=by
 obtain⟨a1,a2,a3⟩:=aBI hd;unfold apF;rw [a1,a2,a3,(kY u hq).no hd]
theorem I7{th nd:Int}{q:AUS}(hq:acW th nd q)(u:Int):acW th nd (apF u q):=by
 cases hd:(pkF u q.e).1 with
 | true=>rw [WT hd];exact BI hq hd
 | false=>rw [zI hq.w hd];exact hq
theorem IS{th nd:Int}(us:List Int): ∀(x:AUS) (c:Int),acW th nd x->acW th nd (runA x c us).1:=by
 induction us with
 | nil=>intro x c h;exact h
 | cons u us ih=>intro x c h;exact ih _ _ (I7 h u)
structure auW (y:AUS):Prop where
 h: ∃t n:Int,acW t n y
abbrev LA(y:AUS):aB Ob:=auH y.e y.c y.ss y.lv
abbrev sH(y:AUS):aB Ob:=auR y.e y.c y.ss y.lv
abbrev zM(y:AUS)(k:Int):aB Ob:=aC0 y.e y.c y.ss y.lv k
abbrev aC4(l n:Nat)(th tm:Nat->Int):List AVal:=[yN,.view n 2 (fun i=>[.int .i64 (th i),.int .i64 (tm i)]),.ptr 4 0,.raw undef,.int .i64 0,.ptr 5 0,.raw undef,.view n 2 (fun i=>[.int .i64 (th i),.int .i64 (tm i)]),.func (.func 114) [] [.ptr l 0]]++List.replicate 7 (.raw undef)
structure aGS (y:AUS) (n:Nat) (th tm:Nat->Int) (t:List AVal) (h:aB Ob):Prop where
 ht:t=aC4 6 n th tm
 hh:h=LA y++ [some (.cells [yN]),some (.cells [.int .i64 0]),some (.cells [PJ n th tm])]
theorem aCY(y:AUS)(n:Nat)(th tm:Nat->Int):z7 y.e y.c y.ss y.lv n (fun i=>[.int .i64 (th i),.int .i64 (tm i)]) (aGS y n th tm):=by
 unfold z7;exact⟨rfl,rfl⟩
theorem aJg(y:AUS)(n:Nat)(th tm:Nat->Int):aE (obI tbl) 6 (.tup (aC4 6 n th tm)) (LA y++ [some (.cells [yN]),some (.cells [.int .i64 0]),some (.cells [PJ n th tm])]) (.tup (aC4 7 n th tm)) (zM y 0++ [some (.cells [PJ n th tm])]):=
 (aE.move 2 (of_decide_eq_true rfl)).trans (aE.pick [0,1,2,3,4,5,7,6] rfl)
theorem aCZ(y:AUS)(n:Nat)(row:Nat->List AVal)(c u:Int)(hx:zJ u y.e y.ss y.lv):Ev (cI EAx (iY EAx LL 9) 16 (sJ sN) (List.set (auT n row) 9 (.int .i64 u)) (zM y c) (fun tm1 h1=>cI EAx (iY EAx LL 9) 16 (sK sN) tm1 h1 (fun _ h2=>aE (obI tbl) 6 (.bool true) h2 (.bool true) (zM (apF u y) (bif (pkF u y.e).1 then W (c+1)else c))))):=by
 refine G1 y.e y.c y.ss y.lv c n row u (fun h2=>aE (obI tbl) 6 (.bool true) h2 (.bool true) (zM (apF u y) (bif (pkF u y.e).1 then W (c+1)else c))) ?_;unfold G0;refine⟨⟨⟨rfl,rfl⟩,hx⟩,?_⟩;cases (pkF u y.e).1 with
 | true=>exact aE.pick [0,1,2,3,4,5,7] rfl
 | false=>exact aE.pick [0,1,2,3,4,5,7] rfl
structure aGU (y:AUS) (c:Int) (t:List AVal) (h:aB Ob):Prop where
 ht:t.getD 4 .O =.int .i64 c
 hl:t.length=16
 hh:h=zM y c
theorem aC5(y:AUS)(n:Nat)(row:Nat->List AVal)(c:Int):Ev (cI EAx (iY EAx LL 9) 16 RD (auT n row) (zM y c) (aGU y c)):=by
 refine G3 y.e y.c y.ss y.lv c n row (aGU y c) ?_;unfold G2;exact⟨rfl,rfl,rfl⟩
def eachAS:aI Ob:=fun args h=>match args,h with
 | [.func (.func g) [.ptr 0 0] [],.view n 2 row],[some (.cells [.ptr 1 0,.int .i64 c1,.int .i64 c2,.int .i64 c3,.int .i64 c4,.int .i64 c5,.slice 2 0 p 1,.slice 3 0 q 1]),some (.abs (.engine e) []),some (.abs (.srow ss) []),some (.ints (some .u64) lv)]=>cond (Nat.beq g 57) (some (.pre (iO p q ss lv/\auW ⟨e,⟨c1,c2,c3,c4,c5⟩,ss,lv⟩/\n<=4294967296/\rowOk row) (.ret (.int .i64 (runA ⟨e,⟨c1,c2,c3,c4,c5⟩,ss,lv⟩ 0 (eP n row)).2) (sH (runA ⟨e,⟨c1,c2,c3,c4,c5⟩,ss,lv⟩ 0 (eP n row)).1)))) none
 | _,_=>none
theorem aIB{V:Val}{tm:List AVal}{q:Act}{a:AVal}{v:Value}(h1:aH V tm q.tmps.toList)(h2:tm.getD 4 .O =a)(hv: ∀y,Rep V a y->y=v)(hn:a≠ .O):q.tmps.getD 4 undef=v:=by
 have g:4<tm.length:=by
  cases Nat.lt_or_ge 4 tm.length with
  | inl h=>exact h
  | inr h=>rw [gD',List.getElem?_eq_none h]at h2;exact(hn h2.symm).elim
 have h4:tm[4]? =some a:=by
  rw [gE' g];rw [gD',gE' g]at h2;exact congrArg some h2
 obtain⟨y,y1,y2⟩:=aH.get h1 4 _ h4;have:=hv y y2;subst this;rw [Array.getElem?_toList]at y1;rw [Array.getD_eq_getD_getElem?,y1];rfl
theorem RC:sT' 85 eachAS:=by
 intro args h o ho K hK;unfold eachAS at ho;split at ho
 case h_2=>cases ho
 rename_i g n row c1 c2 c3 c4 c5 p q e ss lv;cases hg:Nat.beq g 57 with
 | false=>rw [hg]at ho;cases ho
 | true=>
 have hg:=Nat.eq_of_beq_eq_true hg;subst hg;simp only [Nat.beq_refl,cond_true,sI']at ho;subst ho;obtain⟨⟨⟨rfl,rfl⟩,⟨t,m,hx⟩,hn,⟨th,tm,rfl⟩⟩,hK⟩:=hK;obtain⟨y,hy⟩: ∃y:AUS,y=⟨e,⟨c1,c2,c3,c4,c5⟩,ss,lv⟩:=⟨_,rfl⟩;obtain⟨xs,ai⟩: ∃xs,xs=BK th tm n 0 60000:=⟨_,rfl⟩;have ao:eP n (fun i=>[.int .i64 (th i),.int .i64 (tm i)])=xs:=by rw [ai];rfl
 have hK:K (.int .i64 (runA ⟨e,⟨c1,c2,c3,c4,c5⟩,ss,lv⟩ 0 (eP n (fun i=>[.int .i64 (th i),.int .i64 (tm i)]))).2) (sH (runA ⟨e,⟨c1,c2,c3,c4,c5⟩,ss,lv⟩ 0 (eP n (fun i=>[.int .i64 (th i),.int .i64 (tm i)]))).1):=hK;rw [ao,<-hy]at hK;rw [<-hy]at hx;show cT' 85 _ (LA ⟨e,⟨c1,c2,c3,c4,c5⟩,ss,lv⟩) K;rw [<-hy];clear ao hy;intro V hR w ah hi hf hr;obtain⟨a0,l0,e0,r0,a1,l1,e1,r1,e2⟩:=hr;have e2:l1=[]:=e2;subst e2;have ac:ah= #[a0,a1]:=by apply Array.ext';rw [e0,e1]
 subst ac;have aa:=lJ (E:=EAx) Tryz.checked.mixed LL 9;refine callsIn_wide.1 (callsIn_of_wp_marks (F:=Fence.wide) (n:=0) Tryz.func85 L0 trivial ?_)
 have ay:aH V ([yN,.view n 2 (fun i=>[.int .i64 (th i),.int .i64 (tm i)])]++List.replicate 14 (.raw undef)) (#[a0,a1]++Array.replicate (Tryz.f85.ntmps - (#[a0,a1]:Array Value).size) undef).toList :=
  ⟨_,_,rfl,r0,_,_,rfl,r1,_,_,rfl,rfl,_,_,rfl,rfl,_,_,rfl,rfl,_,_,rfl,rfl,_,_,rfl,rfl,_,_,rfl,rfl,_,_,rfl,rfl,_,_,rfl,rfl,_,_,rfl,rfl,_,_,rfl,rfl,_,_,rfl,rfl,_,_,rfl,rfl,_,_,rfl,rfl,_,_,rfl,rfl,rfl⟩
 refine PD aa (ro:=none) (ds:=[]) RB (GZ y.e y.c y.ss y.lv n (fun i=>[.int .i64 (th i),.int .i64 (tm i)]) (aGS y n th tm) (aCY y n th tm)) hi hf ay rfl ?_;rintro q3 w3 ⟨tm3,V2,g3,⟨e3,e4⟩,y2,y3,y4,y5,y6,y7,y8⟩;subst e3;subst e4;refine wpIn_block ?_;obtain⟨V3,z1,z2,z3,⟨bc,z4,z5⟩,z6⟩:=aJg y n th tm V2 _ w3 (.tuple q3.tmps) y6 y4 (by show 6<=7;decide) ⟨q3.tmps,rfl,y2⟩
 cases z4;have a7:=fE z5 (.tmp 8);obtain⟨fs,cs,bb,ag,ba⟩: ∃fs cs,q3.eval (.tmp 8)=.func (.func 114) fs cs/\aH V3 [] fs.toList/\aH V3 [.ptr 7 0] cs.toList:=a7;obtain⟨v0,vs,af,⟨blk,k,a8,rfl⟩,ae⟩:=ba;have ae:vs=[]:=ae;subst ae;have ag:fs= #[]:=by apply Array.ext';exact ag
 have af:cs= #[.pointer (some ⟨blk,0,none⟩)]:=by apply Array.ext';rw [af]
 subst ag;subst af
 have am:aH V3 (auT n (fun i=>[.int .i64 (th i),.int .i64 (tm i)])) q3.tmps.toList:=by
  obtain⟨z,hz,_⟩:=aH.get z5 8 _ rfl;have:=aH.set z5 8 .O z trivial;rw [FB hz]at this;exact this
 refine(H9 (E:=EAx) aa (fA:=114) (view:=PJ n th tm) (xs:=xs) (by rw [ai];exact BM th tm hn) (nt:=16) (m:=7) (m0:=6) (by decide) (tm:=auT n (fun i=>[.int .i64 (th i),.int .i64 (tm i)])) (S:=fun j=>zM (runA y 0 (xs.take j)).1 (runA y 0 (xs.take j)).2) (fun j=>rfl) rfl rfl ?_ z6 z2 a8 am rfl y8 bb (by kernel_rfl) ?_)
 ·intro j u hu;have hw:=IS (xs.take j) y 0 hx
  have ax:xs.take (j+1)=xs.take j++ [u]:=by
   rw [List.take_succ,hu];rfl
  have:=aCZ (runA y 0 (xs.take j)).1 n (fun i=>[.int .i64 (th i),.int .i64 (tm i)]) (runA y 0 (xs.take j)).2 u (BU hw u);rw [ax,FA];exact this
 ·intro w4 D V4 ak a6 ad bf ap az;rw [List.take_length]at ap;have al:aH V4 (auT n (fun i=>[.int .i64 (th i),.int .i64 (tm i)])) q3.tmps.toList:=yS am rfl ak;refine PC aa (ro:=none) (ds:=[{target:=.collected D,args:= #[] }]) (aC5 (runA y 0 xs).1 n (fun i=>[.int .i64 (th i),.int .i64 (tm i)]) (runA y 0 xs).2) ap a6 al rfl ?_;rintro q5 w5 ⟨bd,V5,g5,⟨p1,p2,p3⟩,p4,p5,p6,p7,p8,p9,au⟩;subst p3;refine wpIn_ret ?_;show LeavesInM Fence.wide 0 Tryz.prog Tryz.f85 q5.tmps _ q5.defers .returning w5;rw [au]
  have aq:w5.heap[D]? =some (.deferred (some [])):=by
   obtain⟨_,_,_,_,_,_,s6,_⟩:=p8;exact s6 D _ (if_pos rfl)
  refine⟨by simp,.inl ⟨D,_,rfl,run_takeDeferred aq,?_⟩⟩
  refine⟨_,results_tmp rfl _ _ _,?_⟩
  have ar:Con.con D=none:=by
   cases e:Con.con D with
   | none=>rfl
   | some o=>
     obtain⟨_,_,_,_,_,_,_,s7⟩:=hi;rw [s7 D o e]at ad;cases ad
  obtain⟨V6,t1,t2,t3,t4,t5⟩:=aE.pick (I:=obI tbl) (n:=4) (v:=.bool true) (g:=zM (runA y 0 xs).1 (runA y 0 xs).2) [0,1,2,3,6] (by kernel_rfl) V5 _ w5 (.bool true) p8 p6 (by show 4<=7;decide) rfl
  have av:fT [0,1,2,3,6] (zM (runA y 0 xs).1 (runA y 0 xs).2)=sH (runA y 0 xs).1:=by kernel_rfl
  rw [av]at t2 t3 t5
  have aj:V.le V6:=by
   intro i z e
   by_cases h0:i<4
   ·exact t1 i z h0 (p5 _ _ (ak i z (by omega) (z1 i z (by omega) (y3 _ _ e))))
   ·rw [hf i (by show 4<=i;omega)]at e;cases e
  have hres:q5.tmps.getD 4 undef=.int .i64 (runA y 0 xs).2:=aIB p4 p1 (fun _ h=>h) (by intro h;cases h)
  refine⟨.int .i64 (runA y 0 xs).2,_,V6,_,hK,rfl,hres,aj,t2,(by show 4<=5;decide),?_,(y7.trans az).trans (p9.trans (aMe aq))⟩
  refine Inv.shrink (hX:=fun b=>if b=D then some (.deferred none)else hR b) (Inv.put (o:=.deferred (some [])) t5 (if_pos rfl) (if_pos rfl) ?_ ar) ?_ ?_
  ·intro b hb;show(if b=D then _ else _)=(if b=D then _ else _)
   rw [if_neg hb,if_neg hb]
  ·intro b o e;show(if b=D then _ else _)=_
   rw [if_neg (fun e2=>by subst e2;rw [ad]at e;cases e)]
   exact e
  ·obtain⟨_,_,_,_,_,_,_,s7⟩:=hi;exact s7
def itA(u:Int)(j:Nat)(y:AUS):AUS:=Nat.repeat (apF u) j y
def qD(u:Int):Nat->AUS->AUS
 | 0,y=>y
 | f+1,y=>bif (pkF u y.e).1 then qD u f (apF u y)else y
def EB(u:Int)(y:AUS):AUS:=qD u 60001 y
def R6(Y:AUS):Nat->AUS×Bool
 | 0=>(Y,true)
 | i+1=>(EB i (R6 Y i).1,(R6 Y i).2&&ieq (gL i (EB i (R6 Y i).1).e) 0)
def finS(Y:AUS)(i:Nat):AUS×Bool:=R6 Y i
theorem KA{th nd:Int}{y:AUS}(hy:acW th nd y)(u:Int)(j:Nat):acW th nd (itA u j y):=by
 induction j with
 | zero=>exact hy
 | succ j ih=>exact I7 ih u
theorem aB8(u:Int)(j:Nat)(y:AUS):itA u (j+1) y=apF u (itA u j y):=rfl
theorem aIb{th nd u:Int}{y:AUS}(hy:acW th nd y)(j:Nat)(h: ∀l,l<j->(pkF u (itA u l y).e).1=true):(itA u j y).e.k =y.e.k+j:=by
 induction j with
 | zero=>show y.e.k=_;simp
 | succ j ih=>
   have h1:=ih (fun l hl=>h l (by omega))
   have h2:=((kY u (KA hy u j).w).yes (h j (by omega))).2.1
   have h3:(apF u (itA u j y)).e.k =(pkF u (itA u j y).e).2.k :=rfl;rw [aB8,h3,h2,h1];omega
theorem AF{th nd u:Int}{y:AUS}(hy:acW th nd y){j:Nat}(h: ∀l,l<j->(pkF u (itA u l y).e).1=true):j<=60000:=by
 have h1:=aIb hy j h;have h2:=(KA hy u j).w.k;have h3:=hy.w.k;omega
theorem HK(u:Int)(j:Nat)(y:AUS):itA u (j+1) y=itA u j (apF u y):=by
 induction j with
 | zero=>rfl
 | succ j ih=>rw [aB8,ih];rfl
theorem TX{u:Int} : ∀(j f:Nat) (y:AUS),(∀l,l<j->(pkF u (itA u l y).e).1=true)->(pkF u (itA u j y).e).1=false->j<=f->qD u f y=itA u j y
 | 0,0,y,_,_,_=>rfl
 | 0,f+1,y,_,h,_=>by
   have h:(pkF u y.e).1=false:=h;unfold qD;rw [h];rfl
 | j+1,0,y,_,_,hf=>by omega
 | j+1,f+1,y,h,h2,hf=>by
   have h0:(pkF u y.e).1=true:=h 0 (by omega)
   unfold qD;rw [h0,cond_true,HK];refine TX j f (apF u y) (fun l hl=>?_) ?_ (by omega)
   ·rw [<-HK];exact h (l+1) (by omega)
   ·rw [<-HK];exact h2
theorem EE{th nd u:Int}{y:AUS}(hy:acW th nd y){j:Nat}(h: ∀l,l<j->(pkF u (itA u l y).e).1=true)(h2:(pkF u (itA u j y).e).1=false):EB u y=itA u j y:=
 TX j 60001 y h h2 (by have:=AF hy h;omega)
theorem EC{th nd u:Int} : ∀(f:Nat) (y:AUS),acW th nd y->acW th nd (qD u f y)
 | 0,y,h=>h
 | f+1,y,h=>by
   unfold qD;cases (pkF u y.e).1 with
   | true=>exact EC f _ (I7 h u)
   | false=>exact h
theorem G7{th nd:Int}{Y:AUS}(hY:acW th nd Y)(i:Nat):acW th nd (finS Y i).1:=by
 show acW th nd (R6 Y i).1
 induction i with
 | zero=>exact hY
 | succ i ih=>exact EC _ _ ih
theorem R7(Y:AUS)(i:Nat):finS Y (i+1)=(EB i (finS Y i).1,(finS Y i).2&&ieq (gL i (EB i (finS Y i).1).e) 0):=rfl
structure Y6 (th:Int) (i:Nat):Prop where
 h:(i:Int)<=th
structure itO (u:Int) (y:AUS) (j:Nat):Prop where
 h: ∀l,l<j->(pkF u (itA u l y).e).1=true
def VQ(Y:AUS):Hint Ob:= {X:=Nat,st:=fun i=>([.ptr 0 0,.O,.O,.bool (finS Y i).2]++List.replicate 8 .O ++ [.int .i64 Y.e.th,.int .i64 (i:Int)]++List.replicate 17 .O,sH (finS Y i).1),ok:=Y6 Y.e.th,mu:=fun i=>Y.e.th.toNat - i,keep:=[0,3,12,13] }
def WD(Y:AUS)(i:Nat):Hint Ob:= {X:=Nat,st:=fun j=>([.ptr 0 0,.O,.O,.bool (finS Y i).2,.int .i64 (i:Int)]++List.replicate 7 .O ++ [.int .i64 Y.e.th,.int .i64 (i:Int)]++List.replicate 17 .O,sH (itA i j (finS Y i).1)),ok:=itO i (finS Y i).1,mu:=fun j=>60001 - j,keep:=[0,3,4,12,13] }
def LF(Y:AUS):FuncId->Nat->Option (kK Ob):=fun _ k=>match k with
 | 3=>some (.told [] fun _=>VQ Y)
 | 5=>some (.told [13] fun is=>match is with
   | [i]=>WD Y i.toNat
   | _=>VQ Y)
 | _=>none
noncomputable def EAF:Env Ob Tryz.prog:=pM (EAz.addS 85 eachAS RC) rfl
abbrev aIG(b:Bool)(th i:Int):List AVal:=[.ptr 0 0,.O,.O,.bool b]++List.replicate 8 .O ++ [.int .i64 th,.int .i64 i]++List.replicate 17 .O
abbrev aIH(b:Bool)(th i:Int):List AVal:=[.ptr 0 0,.O,.O,.bool b,.int .i64 i]++List.replicate 7 .O ++ [.int .i64 th,.int .i64 i]++List.replicate 17 .O
def fiN(Y:AUS)(x:Nat)(b:Bool)(y:AUS):Prop:=H2 (Env.I EAF) 4 (VQ Y) (fun x'=>Hint.ok (VQ Y) x'/\Hint.mu (VQ Y) x'<Hint.mu (VQ Y) x) (aIG b Y.e.th (W ((x:Int)+1))) (sH (apF x y))
def aEh(Y:AUS)(K:AVal->aB Ob->Prop):Prop:=H2 (Env.I EAF) 4 (VQ Y) (Hint.ok (VQ Y)) (aIG true Y.e.th 0) (LA Y)/\ ∀(x:Nat),Y6 Y.e.th x->bif ilt (x:Int) Y.e.th then H2 (Env.I EAF) 4 (WD Y x) (Hint.ok (WD Y x)) (aIH (finS Y x).2 Y.e.th x) (sH (finS Y x).1)/\ ∀(j:Nat),itO x (finS Y x).1 j->(iO (itA x j (finS Y x).1).ss.length (itA x j (finS Y x).1).lv.length (itA x j (finS Y x).1).ss (itA x j (finS Y x).1).lv /\zJ x (itA x j (finS Y x).1).e (itA x j (finS Y x).1).ss (itA x j (finS Y x).1).lv)/\bif (pkF x (itA x j (finS Y x).1).e).1 then H2 (Env.I EAF) 4 (WD Y x) (fun x'=>Hint.ok (WD Y x) x'/\Hint.mu (WD Y x) x'<Hint.mu (WD Y x) j) (aIH (finS Y x).2 Y.e.th x) (sH (apF x (itA x j (finS Y x).1)))else bif (finS Y x).2 then True/\fiN Y x (ieq (gL x (pkF x (itA x j (finS Y x).1).e).2) 0) (itA x j (finS Y x).1)else fiN Y x false (itA x j (finS Y x).1)else K (.bool (finS Y x).2) (sH (finS Y x).1)
theorem R0(Y:AUS)(K:AVal->aB Ob->Prop)(h:aEh Y K):cT' 63 [.ptr 0 0] (LA Y) (d9 4 K):=by
 exact aD (E:=EAF) Tryz.checked.mixed (L:=LF Y) (n:=10) (aJ (by kernel_rfl) h)
def P8(Y:AUS)(n:Nat)(row:Nat->List AVal)(K:AVal->aB Ob->Prop):Prop:=(iO Y.ss.length Y.lv.length Y.ss Y.lv/\auW Y/\n<=(4294967296:Nat)/\rowOk row)/\K (.int .i64 (runA Y 0 (eP n row)).2) (sH (runA Y 0 (eP n row)).1)
theorem GB(Y:AUS)(n:Nat)(row:Nat->List AVal)(K:AVal->aB Ob->Prop)(h:P8 Y n row K):cT' 62 [.ptr 0 0,.view n 2 row] (LA Y) (d9 4 K):=by
 exact cM' (E:=EAF) (by kernel_rfl) h
theorem TR{H:Hint Ob}{n:Nat}{ok:H.X->Prop}{tm:List AVal}{h:aB Ob}(q:H.X)(h1:H.st q=(tm,h))(h2:ok q):H2 (Env.I EAF) n H ok tm h:=⟨⟨tm,h,aLo _ _ _,aQ q h1 h2⟩⟩
theorem aCD{k:Nat}(h:k<=1000000):W ((k:Int)+1)=((k+1:Nat):Int):=by
 have:W ((k:Int)+1)=(k:Int)+1:=cK ⟨by omega,by omega⟩
 rw [this];omega
theorem aHB{th nd:Int}{Y:AUS}(hY:acW th nd Y)(K:AVal->aB Ob->Prop)(hK:K (.bool (finS Y Y.e.th.toNat).2) (sH (finS Y Y.e.th.toNat).1)):aEh Y K:=by
 have h1:=hY.w.xt;have h2:=hY.w.ht;refine⟨⟨⟨_,_,aE.move 2 (of_decide_eq_true rfl),aQ (H:=VQ Y) (0:Nat) rfl ⟨by show(0:Int)<=Y.e.th;omega⟩⟩⟩,fun x hx=>aL (fun e=>?_) (fun e=>?_)⟩
 ·have e:=fK e;refine⟨TR (H:=WD Y x) (0:Nat) rfl ⟨fun l hl=>by omega⟩,fun j hj=>?_⟩
  have hw:=G7 hY x;have hi:=KA hw (x:Int) j;refine⟨⟨⟨rfl,rfl⟩,BU hi x⟩,aL (fun g=>?_) (fun g=>?_)⟩
  ·have hm:=AF hw hj.h;refine TR (H:=WD Y x) (j+1:Nat) rfl ⟨⟨fun l hl=>?_⟩,by show 60001 - (j+1)<60001 - j;omega⟩
   by_cases h:l<j
   ·exact hj.h l h
   ·have:l=j:=by omega
    subst this;exact g
  ·have hp:=EE hw hj.h g;have ha:=zI hi.w g;have hn:=(kY (x:Int) hi.w).no g;have hs:=R7 Y x;rw [hp]at hs
   have go:fiN Y x (finS Y (x+1)).2 (itA x j (finS Y x).1):=by
    unfold fiN;rw [ha,aCD (by omega)]
    have h3:(finS Y (x+1)).1=itA x j (finS Y x).1:=by rw [hs]
    rw [<-h3];refine TR (H:=VQ Y) (x+1:Nat) rfl ⟨⟨by show((x+1:Nat):Int)<=Y.e.th;omega⟩,by show Y.e.th.toNat - (x+1)<Y.e.th.toNat - x;omega⟩
   have h4:(finS Y (x+1)).2=((finS Y x).2&&ieq (gL x (itA x j (finS Y x).1).e) 0):=by rw [hs]
   rw [h4]at go;rw [hn];cases h5:(finS Y x).2 with
   | true=>rw [h5]at go;exact⟨trivial,go⟩
   | false=>rw [h5]at go;exact go
 ·have e:=fQ e;have hh:=hx.h;have:x=Y.e.th.toNat:=by omega
  rw [this];exact hK
def auFiS:aI Ob:=fun args h=>match args,h with
 | [.ptr 0 0],[some (.cells [.ptr 1 0,.int .i64 c1,.int .i64 c2,.int .i64 c3,.int .i64 c4,.int .i64 c5,.slice 2 0 p 1,.slice 3 0 q 1]),some (.abs (.engine e) []),some (.abs (.srow ss) []),some (.ints (some .u64) lv)]=>some (.pre (iO p q ss lv/\auW ⟨e,⟨c1,c2,c3,c4,c5⟩,ss,lv⟩) (.ret (.bool (finS ⟨e,⟨c1,c2,c3,c4,c5⟩,ss,lv⟩ e.th.toNat).2) (sH (finS ⟨e,⟨c1,c2,c3,c4,c5⟩,ss,lv⟩ e.th.toNat).1)))
 | _,_=>none
theorem W7:sT' 63 auFiS:=by
 intro args h o ho K g;unfold auFiS at ho;split at ho<;>cases ho
 rename_i c1 c2 c3 c4 c5 p q e ss lv;obtain⟨⟨⟨rfl,rfl⟩,⟨t,m,hx⟩⟩,g⟩:=g;exact aK8 (R0 ⟨e,⟨c1,c2,c3,c4,c5⟩,ss,lv⟩ K (aHB hx K g))
def auRuS:aI Ob:=fun args h=>match args,h with
 | [.ptr 0 0,.view n 2 row],[some (.cells [.ptr 1 0,.int .i64 c1,.int .i64 c2,.int .i64 c3,.int .i64 c4,.int .i64 c5,.slice 2 0 p 1,.slice 3 0 q 1]),some (.abs (.engine e) []),some (.abs (.srow ss) []),some (.ints (some .u64) lv)]=>some (.pre (iO p q ss lv/\auW ⟨e,⟨c1,c2,c3,c4,c5⟩,ss,lv⟩/\n<=4294967296/\rowOk row) (.ret (.int .i64 (runA ⟨e,⟨c1,c2,c3,c4,c5⟩,ss,lv⟩ 0 (eP n row)).2) (sH (runA ⟨e,⟨c1,c2,c3,c4,c5⟩,ss,lv⟩ 0 (eP n row)).1)))
 | _,_=>none
theorem W9:sT' 62 auRuS:=by
 intro args h o ho K g;unfold auRuS at ho;split at ho<;>cases ho
 rename_i n row c1 c2 c3 c4 c5 p q e ss lv;obtain⟨⟨⟨rfl,rfl⟩,hx⟩,g⟩:=g;exact aK8 (GB ⟨e,⟨c1,c2,c3,c4,c5⟩,ss,lv⟩ n row K ⟨⟨⟨rfl,rfl⟩,hx⟩,g⟩)
def y22(k:Nat):AUS:=Nat.repeat (acN 0) k ⟨a22 0,⟨0,0,0,0,0⟩,[bM (a22 0)],lvI (a22 0) (Int.toNat (a22 0).s.n)⟩
def U3(k:Nat)(b:Bool)(j:Nat)(x:EGS)(u:Int)(c:CNT)(p q:Nat)(ss:List (List Int))(lv:List Int):Out Ob:=.pre (iO p q ss lv/\(u=0/\x=a22 k)/\c=(y22 k).c /\ss=(y22 k).ss /\lv=(y22 k).lv) (.ret (.bool b) (auR (a22 j) (y22 j).c (y22 j).ss (y22 j).lv))
def au22S:aI Ob:=fun args h=>match args,h with
 | [.ptr 0 0,.int .i64 u],[some (.cells [.ptr 1 0,.int .i64 c1,.int .i64 c2,.int .i64 c3,.int .i64 c4,.int .i64 c5,.slice 2 0 p 1,.slice 3 0 q 1]),some (.abs (.engine x) []),some (.abs (.srow ss) []),some (.ints (some .u64) lv)]=>match x.k with
  | .ofNat k=>match k with
   | 0=>some (U3 0 true 1 x u ⟨c1,c2,c3,c4,c5⟩ p q ss lv)
   | 1=>some (U3 1 true 2 x u ⟨c1,c2,c3,c4,c5⟩ p q ss lv)
   | 2=>some (U3 2 true 3 x u ⟨c1,c2,c3,c4,c5⟩ p q ss lv)
   | 3=>some (U3 3 true 4 x u ⟨c1,c2,c3,c4,c5⟩ p q ss lv)
   | 4=>some (U3 4 true 5 x u ⟨c1,c2,c3,c4,c5⟩ p q ss lv)
   | 5=>some (U3 5 true 6 x u ⟨c1,c2,c3,c4,c5⟩ p q ss lv)
   | 6=>some (U3 6 true 7 x u ⟨c1,c2,c3,c4,c5⟩ p q ss lv)
   | 7=>some (U3 7 true 8 x u ⟨c1,c2,c3,c4,c5⟩ p q ss lv)
   | 8=>some (U3 8 true 9 x u ⟨c1,c2,c3,c4,c5⟩ p q ss lv)
   | 9=>some (U3 9 false 9 x u ⟨c1,c2,c3,c4,c5⟩ p q ss lv)
   | _=>none
  | _=>none
 | _,_=>none
theorem VP(k:Nat):y22 (k+1)=acN 0 (y22 k):=rfl
structure sS (k:Nat):Prop where
 w:acW 1 5 (y22 k)
 e:(y22 k).e =a22 k
theorem TH:sS 0:=⟨⟨KS,by kernel_rfl,Nat.le_refl _,by show((1:Nat):Int)<=Int.ofNat 0+1;decide,fun i hi=>by
 have:i=0:=by have:i<1:=hi;omega
 subst this;have sn:=KS.sn;exact f0 (x:=a22 0) ⟨by omega,by omega⟩,by kernel_rfl,by kernel_rfl⟩,rfl⟩
theorem mW{k:Nat}(h:sS k)(h1:(pkF 0 (a22 k)).1=true)(h2:(pkF 0 (a22 k)).2=a22 (k+1)):sS (k+1):=by
 refine⟨?_,?_⟩
 ·rw [VP];refine BI h.w ?_;rw [h.e];exact h1
 ·rw [VP];show(pkF 0 (y22 k).e).2=_;rw [h.e];exact h2
theorem TI:sS 1:=mW TH (by kernel_rfl) (by kernel_rfl)
theorem TJ:sS 2:=mW TI (by kernel_rfl) (by kernel_rfl)
theorem TK:sS 3:=mW TJ (by kernel_rfl) (by kernel_rfl)
theorem TL:sS 4:=mW TK (by kernel_rfl) (by kernel_rfl)
theorem TM:sS 5:=mW TL (by kernel_rfl) (by kernel_rfl)
theorem TN:sS 6:=mW TM (by kernel_rfl) (by kernel_rfl)
theorem TO:sS 7:=mW TN (by kernel_rfl) (by kernel_rfl)
theorem TP:sS 8:=mW TO (by kernel_rfl) (by kernel_rfl)
theorem aFu:sS 9:=mW TP (by kernel_rfl) (by kernel_rfl)
theorem l4{k j:Nat}{b:Bool}(h:sS k)(h1:(pkF 0 (a22 k)).1=b)(h2:(pkF 0 (a22 k)).2=a22 j)(hj:b=true/\j=k+1\/b=false/\j=k){x:EGS}{u:Int}{c1 c2 c3 c4 c5:Int}{p q:Nat}{ss:List (List Int)}{lv:List Int}{K:AVal->aB Ob->Prop}(hK:(U3 k b j x u ⟨c1,c2,c3,c4,c5⟩ p q ss lv).run K):cT' 57 [.ptr 0 0,.I u] [cE' [.ptr 1 0,.I c1,.I c2,.I c3,.I c4,.I c5,.slice 2 0 p 1,.slice 3 0 q 1],some (.abs (.engine x) []),some (.abs (.srow ss) []),some (.ints (some .u64) lv)] K:=by
 obtain⟨⟨⟨rfl,rfl⟩,⟨rfl,rfl⟩,hc,rfl,rfl⟩,hK⟩:=hK;have hK:K (.bool b) (auR (a22 j) (y22 j).c (y22 j).ss (y22 j).lv):=hK;have ha:=BU h.w 0;rw [h.e]at ha;have g:aupkS [.ptr 0 0,.I 0] [cE' [.ptr 1 0,.I c1,.I c2,.I c3,.I c4,.I c5,.slice 2 0 (y22 k).ss.length 1,.slice 3 0 (y22 k).lv.length 1],some (.abs (.engine (a22 k)) []),some (.abs (.srow (y22 k).ss) []),some (.ints (some .u64) (y22 k).lv)]=some (.pre (iO (y22 k).ss.length (y22 k).lv.length (y22 k).ss (y22 k).lv /\zJ 0 (a22 k) (y22 k).ss (y22 k).lv) (.ret (.bool (pkF 0 (a22 k)).1) (auR (pkF 0 (a22 k)).2 (apC 0 (a22 k) (y22 k).lv ⟨c1,c2,c3,c4,c5⟩) (JA 0 (a22 k) (y22 k).ss) (I9 0 (a22 k) (y22 k).lv)))):=rfl;refine JB _ _ _ g K ⟨⟨⟨rfl,rfl⟩,ha⟩,?_⟩;show K (.bool (pkF 0 (a22 k)).1) (auR (pkF 0 (a22 k)).2 (apC 0 (a22 k) (y22 k).lv ⟨c1,c2,c3,c4,c5⟩) (JA 0 (a22 k) (y22 k).ss) (I9 0 (a22 k) (y22 k).lv));rw [hc,h1,h2];rcases hj with⟨rfl,rfl⟩ | ⟨rfl,rfl⟩
 ·have hd:(pkF 0 (y22 k).e).1=true:=by rw [h.e];exact h1
  obtain⟨a1,a2,a3⟩:=P6 hd;rw [h.e,h2]at a1 a2 a3
  have e:y22 (k+1)=⟨a22 (k+1),naC (a22 (k+1)) (y22 k).lv (y22 k).c,naS (a22 (k+1)) (y22 k).ss,naL (a22 (k+1)) (y22 k).lv⟩:=by
   rw [VP];unfold acN;rw [h.e,h2]
  rw [a1,a2,a3];rw [e]at hK;exact hK
 ·have hd:(pkF 0 (y22 j).e).1=false:=by rw [h.e];exact h1
  obtain⟨a1,a2,a3⟩:=aBI hd;rw [h.e]at a1 a2 a3;rw [a1,a2,a3];exact hK
theorem W6:sT' 57 au22S:=by
 intro args h o ho K g;unfold au22S at ho;split at ho
 case h_2=>cases ho
 split at ho
 case h_2=>cases ho
 split at ho
 ·cases ho;exact l4 TH (by kernel_rfl) (by kernel_rfl) (.inl ⟨rfl,rfl⟩) g
 ·cases ho;exact l4 TI (by kernel_rfl) (by kernel_rfl) (.inl ⟨rfl,rfl⟩) g
 ·cases ho;exact l4 TJ (by kernel_rfl) (by kernel_rfl) (.inl ⟨rfl,rfl⟩) g
 ·cases ho;exact l4 TK (by kernel_rfl) (by kernel_rfl) (.inl ⟨rfl,rfl⟩) g
 ·cases ho;exact l4 TL (by kernel_rfl) (by kernel_rfl) (.inl ⟨rfl,rfl⟩) g
 ·cases ho;exact l4 TM (by kernel_rfl) (by kernel_rfl) (.inl ⟨rfl,rfl⟩) g
 ·cases ho;exact l4 TN (by kernel_rfl) (by kernel_rfl) (.inl ⟨rfl,rfl⟩) g
 ·cases ho;exact l4 TO (by kernel_rfl) (by kernel_rfl) (.inl ⟨rfl,rfl⟩) g
 ·cases ho;exact l4 TP (by kernel_rfl) (by kernel_rfl) (.inl ⟨rfl,rfl⟩) g
 ·cases ho;exact l4 aFu (by kernel_rfl) (by kernel_rfl) (.inr ⟨rfl,rfl⟩) g
 ·cases ho
noncomputable def aI7:Env Ob Tryz.prog:=pM ((((((EAz.addS 25 new1S aAH).addR 26 cf1R XM).addS 57 au22S W6).addR 60 sfR aFO).addS 58 (aI.or DU.spec (qP [(.slot 1,.ints (some .i64))] DU.spec)) (aLK AE (tD AE)))) rfl
end Go.Sh
namespace Go.Sh
open Go Go.Proofs
variable [c:Con]
def xO(k:Nat):Prop:=iO (List.length (AUS.ss (y22 k))) (List.length (AUS.lv (y22 k))) (y22 k).3 (y22 k).4/\((0:Int)=(0:Int)/\(a22 k)=(a22 k))/\ {ch:=(AUS.c (y22 k)).1,tk:=(AUS.c (y22 k)).2,gv:=(AUS.c (y22 k)).3,lo:=(AUS.c (y22 k)).4,tw:=(AUS.c (y22 k)).5} =(y22 k).2/\(y22 k).3=(y22 k).3/\(y22 k).4=(y22 k).4
theorem jZ(k:Nat):xO k:=⟨⟨rfl,rfl⟩,⟨rfl,rfl⟩,rfl,rfl,rfl⟩
def zN(K:AVal->aB Ob->Prop):Prop:=True/\(((1=1/\1=1)/\((1:Int)=(1:Int)/\(1:Int)=(1:Int)/\(5:Int)=(5:Int)/\(0:Int)=(0:Int))/\(1:Int)=(1:Int)/\(3:Int)=(3:Int))/\True)/\auNk (a22 0)/\(iO 1 (List.length (lvI (a22 0) (Int.toNat (MS.n (EGS.s (a22 0)))))) [bM (a22 0)] (lvI (a22 0) (Int.toNat (EGS.s (a22 0)).2))/\((0:Int)=(0:Int)/\(a22 0)=(a22 0))/\ {ch:=0,tk:=0,gv:=0,lo:=0,tw:=0} =(y22 0).2/\[bM (a22 0)]=(y22 0).3/\lvI (a22 0) (Int.toNat (EGS.s (a22 0)).2)=(y22 0).4)/\xO 1/\xO 2/\xO 3/\xO 4/\xO 5/\xO 6/\xO 7/\xO 8/\xO 9/\True/\bif !ieq (gL 0 (a22 9)) 0 then K (.bool false) []else(iO (List.length (AUS.ss (y22 9))) (List.length (AUS.lv (y22 9))) (y22 9).3 (y22 9).4/\asOk (y22 9).3)/\bif ieq (AUS.c (y22 9)).1 2 then bif ieq (AUS.c (y22 9)).2 1 then bif ieq (AUS.c (y22 9)).3 0 then True/\bif bif ieq (AUS.c (y22 9)).4 0 then ieq (AUS.c (y22 9)).5 0 else false then bif ieq (↑(List.length (y22 9).3):Int) 2 then((0:Int)<=(1:Int)/\(1:Int)<(↑(List.length (y22 9).3):Int))/\0+Int.toNat 1*(1:Nat)<List.length (y22 9).3/\((lE' (slAt (y22 9).3 1)/\1=1)/\List.length (slAt (y22 9).3 1)<=(4294967296:Nat))/\K (.bool (eR (slAt (y22 9).3 (0+Int.toNat 1*1)) [3])) []else K (.bool false) []else K (.bool false) []else K (.bool false) []else K (.bool false) []else K (.bool false) []
theorem GK(K:AVal->aB Ob->Prop)(h:zN K):cT' 51 [] [] (d9 0 K):=by
 exact aD (E:=aI7) Tryz.checked.mixed (L:=L22) (n:=10) (aJ (by kernel_rfl) h)
theorem XE(K:AVal->aB Ob->Prop)(hK:K (.bool true) []):zN K:=by
 have hc:(y22 9).c =⟨2,1,0,0,0⟩:=by kernel_rfl
 have hs:(y22 9).ss =[[],[3]]:=by kernel_rfl
 have hl:gL 0 (a22 9)=0:=by kernel_rfl
 have sn:=KS.sn;have st:=KS.st;unfold zN;rw [hl,hc,hs];refine⟨trivial,⟨⟨⟨rfl,rfl⟩,⟨rfl,rfl,rfl,rfl⟩,rfl,rfl⟩,trivial⟩,⟨by omega,by omega,f0 (x:=a22 0) ⟨by omega,by omega⟩⟩,⟨⟨rfl,rfl⟩,⟨rfl,rfl⟩,rfl,rfl,rfl⟩,jZ 1,jZ 2,jZ 3,jZ 4,jZ 5,jZ 6,jZ 7,jZ 8,jZ 9,trivial,⟨⟨?_,?_⟩,?_⟩⟩
 ·exact⟨hs▸rfl,rfl⟩
 ·exact⟨by decide,by decide,fun i hi=>by
   match i,hi with
   | 0,_=>decide
   | 1,_=>decide
   | i+2,hi=>exact absurd hi (by show¬(i+2<2);omega)⟩
 ·exact⟨trivial,⟨by decide,by decide⟩,by decide,⟨⟨rfl,rfl⟩,by decide⟩,hK⟩
def aw22S:aI Ob:=fun args h=>match args,h with
 | [],[]=>some (.ret (.bool true) [])
 | _,_=>none
theorem XD:sT' 51 aw22S:=by
 intro args h o ho K g;unfold aw22S at ho;split at ho
 case h_2=>cases ho
 simp only [sI']at ho;subst ho;exact aK8 (GK K (XE K g))
end Go.Sh
