import Derived.RangeFuncLeaves
import Derived.Test.YteindpciaceeeaaGreatZSh30
set_option linter.all false
set_option maxHeartbeats 8000000
namespace Go.Sh
open Go Go.Proofs
variable [Con]
abbrev w3k(x:HST):Option (aG Ob):=cE' [.tslice 1 0 x.ev.length 7,.tslice 2 0 x.cl.length 9,.I x.n0,.I x.n1,.I x.n2,.I x.n3,.I x.n4,.I x.n5,.I x.n6,.I x.n7]
abbrev w3l(x:HST):Option (aG Ob):=some (.abs (.hist x) [])
theorem aGW(x:HST):aF (obI tbl) 1 (.tslice 3 0 x.ev.length 7) [w3k x,some (.tab cK7 x.ev),some (.tab cK9 x.cl),some (.tab cK7 x.ev)] (.tslice 1 0 x.ev.length 7) [w3l x,some (.tab cK7 x.ev)]:=by
 exact((aF.move 1 (of_decide_eq_true rfl)).trans ((aF.move 2 (of_decide_eq_true rfl)).trans ((aIt (v2:=.tslice 3 0 x.ev.length 7) (g2:=aQ [w3l x,none,none,some (.tab cK7 x.ev)] 0 0 (zX x) []) (by kernel_rfl) (by kernel_rfl)).trans ((aF.pack [w3l x,none,none,some (.tab cK7 x.ev)] (.hist x) 0 0 (zX x) [] rfl rfl rfl (by kernel_rfl)).trans (aF.pick [0,3] rfl)))))
abbrev w3m(x:HST):Option (aG Ob):=cE' [.tslice 1 0 x.1.length 7,.tslice 2 0 x.2.length 9,.I x.3,.I x.4,.I x.5,.I x.6,.I x.7,.I x.8,.I x.9,.I x.10]
def aFo(x:HST)(K:AVal→aC Ob→Prop):Prop:= ∀(b:Bool),(b=true→x.1.length=0)→bif b then K (.raw (Value.slice none 0 0)) [w3m x,some (.tab cK7 x.1),some (.tab cK9 x.2)]else(0+x.1.length≤x.1.length∧x.1.length≤(4294967296:Nat))∧K (.tslice 3 0 x.1.length 7) [w3m x,some (.tab cK7 x.1),some (.tab cK9 x.2),some (.tab cK7 (List.take x.1.length (List.drop 0 x.1)))]
theorem PI(x:HST)(K:AVal→aC Ob→Prop)(h:aFo x K):cT' 29 [.ptr 0 0] [cE' [.tslice 1 0 x.ev.length 7,.tslice 2 0 x.cl.length 9,.I x.n0,.I x.n1,.I x.n2,.I x.n3,.I x.n4,.I x.n5,.I x.n6,.I x.n7],some (.tab cK7 x.ev),some (.tab cK9 x.cl)] (f9 1 K):=by
 exact cM' (E:=EU6) (by kernel_rfl) h
def hvS:aH Ob:=fun args h=>match args,h with
 | [.ptr 0 0],[some (.abs (.hist x) [])]=>some (.pre (x.ev.length≤4294967296) (.ret (.tslice 1 0 x.ev.length 7) [some (.abs (.hist x) []),some (.tab cK7 x.ev)]))
 | _,_=>none
theorem aFp:sT' 29 hvS:=by
 intro args h o ho K hK;unfold hvS at ho;split at ho<;>cases ho
 rename_i x;obtain⟨hl,hK⟩:=hK;have hK:K (.tslice 1 0 x.ev.length 7) [some (.abs (.hist x) []),some (.tab cK7 x.ev)]:=hK;refine aIz ?_;refine aIq (h2:=[cE' [.tslice 1 0 x.ev.length 7,.tslice 2 0 x.cl.length 9,.I x.n0,.I x.n1,.I x.n2,.I x.n3,.I x.n4,.I x.n5,.I x.n6,.I x.n7],some (.tab cK7 x.ev),some (.tab cK9 x.cl)]) (aT.unpack (.hist x) 0 0 (zX x) [] rfl rfl rfl rfl) ?_;have ht:=aGW x;refine aB.keep (PI x _ ?_);intro b hb;refine aM (fun e=>?_) (fun e=>?_)
 ·have he:x.ev=[]:=List.length_eq_zero_iff.1 (hb e);rw [he]at ht hK;rw [he];exact⟨⟨_,_,(aF.cast (cs:=[(.slot 0,.tab cK7)]) rfl).trans ht,hK⟩⟩
 ·have he:List.take x.ev.length (List.drop 0 x.ev)=x.ev:=by simp
  rw [he];exact⟨⟨by omega,hl⟩,⟨⟨_,_,ht,hK⟩⟩⟩
theorem aGR(x:HST):aF (obI tbl) 1 (.tslice 3 0 x.cl.length 9) [w3k x,some (.tab cK7 x.ev),some (.tab cK9 x.cl),some (.tab cK9 x.cl)] (.tslice 1 0 x.cl.length 9) [w3l x,some (.tab cK9 x.cl)]:=by
 exact((aF.move 1 (of_decide_eq_true rfl)).trans ((aF.move 2 (of_decide_eq_true rfl)).trans ((aIt (v2:=.tslice 3 0 x.cl.length 9) (g2:=aQ [w3l x,none,none,some (.tab cK9 x.cl)] 0 0 (zX x) []) (by kernel_rfl) (by kernel_rfl)).trans ((aF.pack [w3l x,none,none,some (.tab cK9 x.cl)] (.hist x) 0 0 (zX x) [] rfl rfl rfl (by kernel_rfl)).trans (aF.pick [0,3] rfl)))))
def aFd(x:HST)(K:AVal→aC Ob→Prop):Prop:= ∀(b:Bool),(b=true→x.2.length=0)→bif b then K (.raw (Value.slice none 0 0)) [w3m x,some (.tab cK7 x.1),some (.tab cK9 x.2)]else(0+x.2.length≤x.2.length∧x.2.length≤(4294967296:Nat))∧K (.tslice 3 0 x.2.length 9) [w3m x,some (.tab cK7 x.1),some (.tab cK9 x.2),some (.tab cK9 (List.take x.2.length (List.drop 0 x.2)))]
theorem O6(x:HST)(K:AVal→aC Ob→Prop)(h:aFd x K):cT' 49 [.ptr 0 0] [cE' [.tslice 1 0 x.ev.length 7,.tslice 2 0 x.cl.length 9,.I x.n0,.I x.n1,.I x.n2,.I x.n3,.I x.n4,.I x.n5,.I x.n6,.I x.n7],some (.tab cK7 x.ev),some (.tab cK9 x.cl)] (f9 1 K):=by
 exact cM' (E:=EU6) (by kernel_rfl) h
def hcS:aH Ob:=fun args h=>match args,h with
 | [.ptr 0 0],[some (.abs (.hist x) [])]=>some (.pre (x.cl.length≤4294967296) (.ret (.tslice 1 0 x.cl.length 9) [some (.abs (.hist x) []),some (.tab cK9 x.cl)]))
 | _,_=>none
theorem aFe:sT' 49 hcS:=by
 intro args h o ho K hK;unfold hcS at ho;split at ho<;>cases ho
 rename_i x;obtain⟨hl,hK⟩:=hK;have hK:K (.tslice 1 0 x.cl.length 9) [some (.abs (.hist x) []),some (.tab cK9 x.cl)]:=hK;refine aIz ?_;refine aIq (h2:=[cE' [.tslice 1 0 x.ev.length 7,.tslice 2 0 x.cl.length 9,.I x.n0,.I x.n1,.I x.n2,.I x.n3,.I x.n4,.I x.n5,.I x.n6,.I x.n7],some (.tab cK7 x.ev),some (.tab cK9 x.cl)]) (aT.unpack (.hist x) 0 0 (zX x) [] rfl rfl rfl rfl) ?_;have ht:=aGR x;refine aB.keep (O6 x _ ?_);intro b hb;refine aM (fun e=>?_) (fun e=>?_)
 ·have he:x.cl=[]:=List.length_eq_zero_iff.1 (hb e);rw [he]at ht hK;rw [he];exact⟨⟨_,_,(aF.cast (cs:=[(.slot 0,.tab cK9)]) rfl).trans ht,hK⟩⟩
 ·have he:List.take x.cl.length (List.drop 0 x.cl)=x.cl:=by simp
  rw [he];exact⟨⟨by omega,hl⟩,⟨⟨_,_,ht,hK⟩⟩⟩
def ZZ(x:HST)(K:AVal→aC Ob→Prop):Prop:= ∀(b:Bool),(b=true→x.1.length=0)→bif b then K (.raw (Value.slice none 0 0)) [w3m x,some (.tab cK7 x.1),some (.tab cK9 x.2)]else(0+x.1.length≤x.1.length∧x.1.length≤(4294967296:Nat))∧K (.tslice 3 0 x.1.length 7) [w3m x,some (.tab cK7 x.1),some (.tab cK9 x.2),some (.tab cK7 (List.take x.1.length (List.drop 0 x.1)))]
theorem LC(x:HST)(K:AVal→aC Ob→Prop)(h:ZZ x K):cT' 29 [.ptr 0 0] [cE' [.tslice 1 0 x.ev.length 7,.tslice 2 0 x.cl.length 9,.I x.n0,.I x.n1,.I x.n2,.I x.n3,.I x.n4,.I x.n5,.I x.n6,.I x.n7],some (.tab cK7 x.ev),some (.tab cK9 x.cl)] (f9 3 K):=by
 exact cM' (E:=EU6) (by kernel_rfl) h
def hvoS:aH Ob:=fun args h=>match args,h with
 | [.ptr 0 0],[some (.cells [.tslice 1 0 a 7,.tslice 2 0 b 9,.int .i64 n0,.int .i64 n1,.int .i64 n2,.int .i64 n3,.int .i64 n4,.int .i64 n5,.int .i64 n6,.int .i64 n7]),some (.tab [some .i64,none,some .i64,some .i64,some .i64,none,some .i64] ev),some (.tab [some .i64,some .i64,some .i64,some .i64,some .i64,some .i64,some .i64,none,some .i64] cl)]=>some (.pre ((a=ev.length∧b=cl.length)∧ev.length≤4294967296) (.ret (.tslice 3 0 ev.length 7) ([cE' [.tslice 1 0 a 7,.tslice 2 0 b 9,.I n0,.I n1,.I n2,.I n3,.I n4,.I n5,.I n6,.I n7],some (.tab cK7 ev),some (.tab cK9 cl)]++ [some (.tab cK7 ev)])))
 | _,_=>none
theorem aCB:sT' 29 hvoS:=by
 intro args h o ho K hK;unfold hvoS at ho;split at ho<;>cases ho
 rename_i a b n0 n1 n2 n3 n4 n5 n6 n7 ev cl;obtain⟨⟨⟨rfl,rfl⟩,hl⟩,hK⟩:=hK;have hK:K (.tslice 3 0 ev.length 7) ([cE' [.tslice 1 0 ev.length 7,.tslice 2 0 cl.length 9,.I n0,.I n1,.I n2,.I n3,.I n4,.I n5,.I n6,.I n7],some (.tab cK7 ev),some (.tab cK9 cl)]++ [some (.tab cK7 ev)]):=hK;refine aIz (aB.keep (LC ⟨ev,cl,n0,n1,n2,n3,n4,n5,n6,n7⟩ _ ?_));intro b hb;refine aM (fun e=>?_) (fun e=>?_)
 ·have he:ev=[]:=List.length_eq_zero_iff.1 (hb e);subst he;exact⟨⟨_,_,(aF.cast (cs:=[(.slot 0,.tab cK7)]) rfl),hK⟩⟩
 ·have he:List.take ev.length (List.drop 0 ev)=ev:=by simp
  rw [he];exact⟨⟨by omega,hl⟩,⟨⟨_,_,aF.cast (cs:=[]) rfl,hK⟩⟩⟩
def ZT(x:HST)(K:AVal→aC Ob→Prop):Prop:= ∀(b:Bool),(b=true→x.2.length=0)→bif b then K (.raw (Value.slice none 0 0)) [w3m x,some (.tab cK7 x.1),some (.tab cK9 x.2)]else(0+x.2.length≤x.2.length∧x.2.length≤(4294967296:Nat))∧K (.tslice 3 0 x.2.length 9) [w3m x,some (.tab cK7 x.1),some (.tab cK9 x.2),some (.tab cK9 (List.take x.2.length (List.drop 0 x.2)))]
theorem KW(x:HST)(K:AVal→aC Ob→Prop)(h:ZT x K):cT' 49 [.ptr 0 0] [cE' [.tslice 1 0 x.ev.length 7,.tslice 2 0 x.cl.length 9,.I x.n0,.I x.n1,.I x.n2,.I x.n3,.I x.n4,.I x.n5,.I x.n6,.I x.n7],some (.tab cK7 x.ev),some (.tab cK9 x.cl)] (f9 3 K):=by
 exact cM' (E:=EU6) (by kernel_rfl) h
def hcoS:aH Ob:=fun args h=>match args,h with
 | [.ptr 0 0],[some (.cells [.tslice 1 0 a 7,.tslice 2 0 b 9,.int .i64 n0,.int .i64 n1,.int .i64 n2,.int .i64 n3,.int .i64 n4,.int .i64 n5,.int .i64 n6,.int .i64 n7]),some (.tab [some .i64,none,some .i64,some .i64,some .i64,none,some .i64] ev),some (.tab [some .i64,some .i64,some .i64,some .i64,some .i64,some .i64,some .i64,none,some .i64] cl)]=>some (.pre ((a=ev.length∧b=cl.length)∧cl.length≤4294967296) (.ret (.tslice 3 0 cl.length 9) ([cE' [.tslice 1 0 a 7,.tslice 2 0 b 9,.I n0,.I n1,.I n2,.I n3,.I n4,.I n5,.I n6,.I n7],some (.tab cK7 ev),some (.tab cK9 cl)]++ [some (.tab cK9 cl)])))
 | _,_=>none
theorem aCb:sT' 49 hcoS:=by
 intro args h o ho K hK;unfold hcoS at ho;split at ho<;>cases ho
 rename_i a b n0 n1 n2 n3 n4 n5 n6 n7 ev cl;obtain⟨⟨⟨rfl,rfl⟩,hl⟩,hK⟩:=hK;have hK:K (.tslice 3 0 cl.length 9) ([cE' [.tslice 1 0 ev.length 7,.tslice 2 0 cl.length 9,.I n0,.I n1,.I n2,.I n3,.I n4,.I n5,.I n6,.I n7],some (.tab cK7 ev),some (.tab cK9 cl)]++ [some (.tab cK9 cl)]):=hK;refine aIz (aB.keep (KW ⟨ev,cl,n0,n1,n2,n3,n4,n5,n6,n7⟩ _ ?_));intro b hb;refine aM (fun e=>?_) (fun e=>?_)
 ·have he:cl=[]:=List.length_eq_zero_iff.1 (hb e);subst he;exact⟨⟨_,_,(aF.cast (cs:=[(.slot 0,.tab cK9)]) rfl),hK⟩⟩
 ·have he:List.take cl.length (List.drop 0 cl)=cl:=by simp
  rw [he];exact⟨⟨by omega,hl⟩,⟨⟨_,_,aF.cast (cs:=[]) rfl,hK⟩⟩⟩
def hvN:cV Ob:=fun args h=>match args,h with
 | [.ptr 0 0],[some (.abs (.hist x) [])]=>some (x.ev.length≤4294967296,.tslice 1 0 x.ev.length 7,[.tab cK7 x.ev])
 | _,_=>none
theorem aCz:sT' 29 hvN.spec:=by
 intro args h o ho K hK;refine aFp args h o ?_ K hK;rw [←ho];unfold hvS cV.spec hvN;split<;>rfl
def aCA:cV Ob:=fun args h=>match args,h with
 | [.ptr 0 0],[some (.cells [.tslice 1 0 a 7,.tslice 2 0 b 9,.int .i64 n0,.int .i64 n1,.int .i64 n2,.int .i64 n3,.int .i64 n4,.int .i64 n5,.int .i64 n6,.int .i64 n7]),some (.tab [some .i64,none,some .i64,some .i64,some .i64,none,some .i64] ev),some (.tab [some .i64,some .i64,some .i64,some .i64,some .i64,some .i64,some .i64,none,some .i64] cl)]=>some ((a=ev.length∧b=cl.length)∧ev.length≤4294967296,.tslice 3 0 ev.length 7,[.tab cK7 ev])
 | _,_=>none
theorem XF:sT' 29 aCA.spec:=by
 intro args h o ho K hK;refine aCB args h o ?_ K hK;rw [←ho];unfold hvoS cV.spec aCA;split<;>rfl
def hcN:cV Ob:=fun args h=>match args,h with
 | [.ptr 0 0],[some (.abs (.hist x) [])]=>some (x.cl.length≤4294967296,.tslice 1 0 x.cl.length 9,[.tab cK9 x.cl])
 | _,_=>none
theorem aB9:sT' 49 hcN.spec:=by
 intro args h o ho K hK;refine aFe args h o ?_ K hK;rw [←ho];unfold hcS cV.spec hcN;split<;>rfl
def aCa:cV Ob:=fun args h=>match args,h with
 | [.ptr 0 0],[some (.cells [.tslice 1 0 a 7,.tslice 2 0 b 9,.int .i64 n0,.int .i64 n1,.int .i64 n2,.int .i64 n3,.int .i64 n4,.int .i64 n5,.int .i64 n6,.int .i64 n7]),some (.tab [some .i64,none,some .i64,some .i64,some .i64,none,some .i64] ev),some (.tab [some .i64,some .i64,some .i64,some .i64,some .i64,some .i64,some .i64,none,some .i64] cl)]=>some ((a=ev.length∧b=cl.length)∧cl.length≤4294967296,.tslice 3 0 cl.length 9,[.tab cK9 cl])
 | _,_=>none
theorem WI:sT' 49 aCa.spec:=by
 intro args h o ho K hK;refine aCb args h o ?_ K hK;rw [←ho];unfold hcoS cV.spec aCa;split<;>rfl
noncomputable def EU7:=(EU6.addN 29 (cV.or hvN aCA) (aJk aCz XF)).addN 49 (cV.or hcN aCa) (aJk aB9 WI)
abbrev w3n(x:HST):Option (aG Ob):=cE' [.tslice 4 0 x.ev.length 7,.tslice 5 0 x.cl.length 9,.I x.n0,.I x.n1,.I x.n2,.I x.n3,.I x.n4,.I x.n5,.I x.n6,.I x.n7]
abbrev w3o(x:HST):Option (aG Ob):=some (.abs (.hist x) [])
theorem aFf(x:HST):aF (obI tbl) 1 (.ptr 3 0) [cE' [.tslice 1 0 x.ev.length 7,.tslice 2 0 x.cl.length 9,.I x.n0,.I x.n1,.I x.n2,.I x.n3,.I x.n4,.I x.n5,.I x.n6,.I x.n7],some (.tab cK7 x.ev),some (.tab cK9 x.cl),w3n x,some (.tab cK7 x.ev),some (.tab cK9 x.cl)] (.ptr 1 0) [w3o x,w3o x]:=by
 exact((aF.move 1 (of_decide_eq_true rfl)).trans ((aF.move 2 (of_decide_eq_true rfl)).trans ((aIt (v2:=.ptr 3 0) (g2:=aQ [w3o x,none,none,w3n x,some (.tab cK7 x.ev),some (.tab cK9 x.cl)] 0 0 (zX x) []) (by kernel_rfl) (by kernel_rfl)).trans ((aF.pack [w3o x,none,none,w3n x,some (.tab cK7 x.ev),some (.tab cK9 x.cl)] (.hist x) 0 0 (zX x) [] rfl rfl rfl (by kernel_rfl)).trans ((aF.move 4 (of_decide_eq_true rfl)).trans ((aF.move 5 (of_decide_eq_true rfl)).trans ((aIt (v2:=.ptr 3 0) (g2:=aQ [w3o x,none,none,w3o x,none,none] 3 0 (zX x) []) (by kernel_rfl) (by kernel_rfl)).trans ((aF.pack [w3o x,none,none,w3o x,none,none] (.hist x) 3 0 (zX x) [] rfl rfl rfl (by kernel_rfl)).trans (aF.pick [0,3] rfl)))))))))
def ZU(x:HST)(K:AVal→aC Ob→Prop):Prop:=((lE' x.1∧lE' x.2)∧x.1.length≤(4294967296:Nat))∧((lE' x.1∧lE' x.2)∧x.2.length≤(4294967296:Nat))∧K (.ptr 3 0) [cE' [.tslice 1 0 x.1.length 7,.tslice 2 0 x.2.length 9,.I x.3,.I x.4,.I x.5,.I x.6,.I x.7,.I x.8,.I x.9,.I x.10],some (.tab cK7 x.1),some (.tab cK9 x.2),cE' [.tslice 4 0 x.1.length 7,.tslice 5 0 x.2.length 9,.I x.3,.I x.4,.I x.5,.I x.6,.I x.7,.I x.8,.I x.9,.I x.10],some (.tab cK7 x.1),some (.tab cK9 x.2)]
theorem KX(x:HST)(K:AVal→aC Ob→Prop)(h:ZU x K):cT' 86 [.ptr 0 0] [cE' [.tslice 1 0 x.ev.length 7,.tslice 2 0 x.cl.length 9,.I x.n0,.I x.n1,.I x.n2,.I x.n3,.I x.n4,.I x.n5,.I x.n6,.I x.n7],some (.tab cK7 x.ev),some (.tab cK9 x.cl)] (f9 1 K):=by
 exact cM' (E:=EU7) (by kernel_rfl) h
def hcpS:aH Ob:=fun args h=>match args,h with
 | [.ptr 0 0],[some (.abs (.hist x) [])]=>some (.pre (x.ev.length≤4294967296∧x.cl.length≤4294967296) (.ret (.ptr 1 0) [some (.abs (.hist x) []),some (.abs (.hist x) [])]))
 | _,_=>none
theorem aCc:sT' 86 hcpS:=by
 intro args h o ho K hK;unfold hcpS at ho;split at ho<;>cases ho
 rename_i x;obtain⟨⟨h1,h2⟩,hK⟩:=hK;have hK:K (.ptr 1 0) [some (.abs (.hist x) []),some (.abs (.hist x) [])]:=hK;refine aIz ?_;refine aIq (h2:=[cE' [.tslice 1 0 x.ev.length 7,.tslice 2 0 x.cl.length 9,.I x.n0,.I x.n1,.I x.n2,.I x.n3,.I x.n4,.I x.n5,.I x.n6,.I x.n7],some (.tab cK7 x.ev),some (.tab cK9 x.cl)]) (aT.unpack (.hist x) 0 0 (zX x) [] rfl rfl rfl rfl) ?_;refine(aB.keep (KX x _ ?_));exact⟨⟨⟨rfl,rfl⟩,h1⟩,⟨⟨rfl,rfl⟩,h2⟩,⟨⟨_,_,aFf x,hK⟩⟩⟩
noncomputable def EU8:=EU7.addS 86 hcpS aCc
abbrev w3p(x:EGS):Option (aG Ob):=some (.abs (.hist x.h) [])
theorem aEM(x:EGS):aF (obI tbl) 1 (.ptr 5 0) [cE' [.I x.sh,.I x.th,.I x.nd,.I x.tr,.ptr 1 0,.ptr 3 0,.slice 4 0 x.ws.length 1,.I x.k],aZ 2 x.s,bA x.s,w3p x,some (.abs (.wrow x.ws) []),w3p x] (.ptr 1 0) [some (.abs (.engine x) []),w3p x]:=by
 exact((aF.move 1 (of_decide_eq_true rfl)).trans ((aF.move 2 (of_decide_eq_true rfl)).trans ((aF.move 3 (of_decide_eq_true rfl)).trans ((aF.move 4 (of_decide_eq_true rfl)).trans ((aIt (v2:=.ptr 5 0) (g2:=aQ [some (.abs (.engine x) []),none,none,none,none,w3p x] 0 0 (egG x) []) (by kernel_rfl) (by kernel_rfl)).trans ((aF.pack [some (.abs (.engine x) []),none,none,none,none,w3p x] (.engine x) 0 0 (egG x) [] rfl rfl rfl (by kernel_rfl)).trans (aF.pick [0,5] rfl)))))))
abbrev w3q(x:EGS):Option (aG Ob):=cE' [.I (EGS.s x).1,.I (EGS.s x).2,.slice 2 0 (List.length (EGS.s x).3) 1,.I (EGS.s x).4,.I (EGS.s x).5,.I (EGS.s x).6,.int .u64 (EGS.s x).7,.int .u64 (EGS.s x).8,.bool (EGS.s x).9]
abbrev w3r(x:EGS):Option (aG Ob):=cE' [.I x.1,.I x.2,.I x.3,.I x.4,.ptr 1 0,.ptr 3 0,.slice 4 0 x.7.length 1,.I x.8]
def ZN(x:EGS)(K:AVal→aC Ob→Prop):Prop:=(List.length (EGS.h x).1≤(4294967296:Nat)∧List.length (EGS.h x).2≤(4294967296:Nat))∧K (.ptr 5 0) [w3r x,w3q x,some (.ints (some .u64) (EGS.s x).3),some (.abs (.hist x.6) []),some (.abs (.wrow x.7) []),some (.abs (.hist x.6) [])]
theorem J5(x:EGS)(K:AVal→aC Ob→Prop)(h:ZN x K):cT' 28 [.ptr 0 0] (egG x) (f9 1 K):=by
 exact cM' (E:=EU8) (by kernel_rfl) h
noncomputable def EI:=(EU2.addS 110 kyS Z1).addS 111 srS aAg
theorem OK(x:EGS)(ys:List Int):aF (obI tbl) 1 (.slice 5 0 ys.length 1) [cE' [.I x.sh,.I x.th,.I x.nd,.I x.tr,.ptr 1 0,.ptr 3 0,.slice 4 0 x.ws.length 1,.I x.k],aZ 2 x.s,bA x.s,some (.abs (.hist x.h) []),some (.abs (.wrow x.ws) []),iI' ys] (.slice 1 0 ys.length 1) [some (.abs (.engine x) []),iI' ys]:=by
 exact((aF.move 1 (of_decide_eq_true rfl)).trans ((aF.move 2 (of_decide_eq_true rfl)).trans ((aF.move 3 (of_decide_eq_true rfl)).trans ((aF.move 4 (of_decide_eq_true rfl)).trans ((aIt (v2:=.slice 5 0 ys.length 1) (g2:=aQ [some (.abs (.engine x) []),none,none,none,none,iI' ys] 0 0 (egG x) []) (by kernel_rfl) (by kernel_rfl)).trans ((aF.pack [some (.abs (.engine x) []),none,none,none,none,iI' ys] (.engine x) 0 0 (egG x) [] rfl rfl rfl (by kernel_rfl)).trans (aF.pick [0,5] rfl)))))))
def OI(x:EGS)(K:AVal→aC Ob→Prop):Prop:=bif ieq x.1 3 then((lE' (EGS.s x).3∧((0:Int)≤(EGS.s x).2∧(EGS.s x).2≤(100000:Int))∧(-1000000:Int)≤(0:Int)∧(0:Int)≤(1000000:Int))∧True)∧K (.slice 5 0 (List.length (keyF (EGS.s x).3 (EGS.s x).2 0)) 1) [w3r x,w3q x,some (.ints (some .u64) (EGS.s x).3),some (.abs (.hist x.6) []),some (.abs (.wrow x.7) []),iI' (keyF (EGS.s x).3 (EGS.s x).2 0)]else bif ieq x.1 4 then((lE' (EGS.s x).3∧((0:Int)≤(EGS.s x).2∧(EGS.s x).2≤(100000:Int))∧(-1000000:Int)≤(0:Int)∧(0:Int)≤(1000000:Int))∧True)∧K (.slice 5 0 (List.length (keyF (EGS.s x).3 (EGS.s x).2 0)) 1) [w3r x,w3q x,some (.ints (some .u64) (EGS.s x).3),some (.abs (.hist x.6) []),some (.abs (.wrow x.7) []),iI' (keyF (EGS.s x).3 (EGS.s x).2 0)]else((lE' (EGS.s x).3∧((0:Int)≤(EGS.s x).2∧(EGS.s x).2≤(100000:Int))∧(-1000000:Int)≤(0:Int)∧(0:Int)≤(1000000:Int))∧True)∧(0+List.length (keyF (EGS.s x).3 (EGS.s x).2 0)≤List.length (keyF (EGS.s x).3 (EGS.s x).2 0)∧List.length (keyF (EGS.s x).3 (EGS.s x).2 0)≤(4294967296:Nat))∧((lE' (EGS.s x).3∧((0:Int)≤(EGS.s x).2∧(EGS.s x).2≤(100000:Int))∧(-1000000:Int)≤W (0+1)∧W (0+1)≤(1000000:Int))∧True)∧(0+List.length (keyF (EGS.s x).3 (EGS.s x).2 (W (0+1)))≤List.length (keyF (EGS.s x).3 (EGS.s x).2 (W (0+1)))∧0=0∧List.length (keyF (EGS.s x).3 (EGS.s x).2 0)=List.length (List.take (List.length (keyF (EGS.s x).3 (EGS.s x).2 0)) (List.drop 0 (keyF (EGS.s x).3 (EGS.s x).2 0)))∧1=1∧List.length (keyF (EGS.s x).3 (EGS.s x).2 0)+List.length (keyF (EGS.s x).3 (EGS.s x).2 (W (0+1)))≤(4294967296:Nat))∧((lE' (EGS.s x).3∧((0:Int)≤(EGS.s x).2∧(EGS.s x).2≤(100000:Int))∧(-1000000:Int)≤W (W (0+1)+1)∧W (W (0+1)+1)≤(1000000:Int))∧True)∧(0+List.length (keyF (EGS.s x).3 (EGS.s x).2 (W (W (0+1)+1)))≤List.length (keyF (EGS.s x).3 (EGS.s x).2 (W (W (0+1)+1)))∧0=0∧List.length (keyF (EGS.s x).3 (EGS.s x).2 0)+List.length (keyF (EGS.s x).3 (EGS.s x).2 (W (0+1)))=List.length (List.take (List.length (keyF (EGS.s x).3 (EGS.s x).2 0)) (List.drop 0 (keyF (EGS.s x).3 (EGS.s x).2 0))++List.take (List.length (keyF (EGS.s x).3 (EGS.s x).2 (W (0+1)))) (List.drop 0 (keyF (EGS.s x).3 (EGS.s x).2 (W (0+1)))))∧1=1∧List.length (keyF (EGS.s x).3 (EGS.s x).2 0)+List.length (keyF (EGS.s x).3 (EGS.s x).2 (W (0+1)))+List.length (keyF (EGS.s x).3 (EGS.s x).2 (W (W (0+1)+1)))≤(4294967296:Nat))∧((lE' (EGS.s x).3∧((0:Int)≤(EGS.s x).2∧(EGS.s x).2≤(100000:Int))∧(-1000000:Int)≤W (W (W (0+1)+1)+1)∧W (W (W (0+1)+1)+1)≤(1000000:Int))∧True)∧(0+List.length (keyF (EGS.s x).3 (EGS.s x).2 (W (W (W (0+1)+1)+1)))≤List.length (keyF (EGS.s x).3 (EGS.s x).2 (W (W (W (0+1)+1)+1)))∧0=0∧List.length (keyF (EGS.s x).3 (EGS.s x).2 0)+List.length (keyF (EGS.s x).3 (EGS.s x).2 (W (0+1)))+List.length (keyF (EGS.s x).3 (EGS.s x).2 (W (W (0+1)+1)))=List.length (List.take (List.length (keyF (EGS.s x).3 (EGS.s x).2 0)) (List.drop 0 (keyF (EGS.s x).3 (EGS.s x).2 0))++List.take (List.length (keyF (EGS.s x).3 (EGS.s x).2 (W (0+1)))) (List.drop 0 (keyF (EGS.s x).3 (EGS.s x).2 (W (0+1))))++List.take (List.length (keyF (EGS.s x).3 (EGS.s x).2 (W (W (0+1)+1)))) (List.drop 0 (keyF (EGS.s x).3 (EGS.s x).2 (W (W (0+1)+1)))))∧1=1∧List.length (keyF (EGS.s x).3 (EGS.s x).2 0)+List.length (keyF (EGS.s x).3 (EGS.s x).2 (W (0+1)))+List.length (keyF (EGS.s x).3 (EGS.s x).2 (W (W (0+1)+1)))+List.length (keyF (EGS.s x).3 (EGS.s x).2 (W (W (W (0+1)+1)+1)))≤(4294967296:Nat))∧(List.length (keyF (EGS.s x).3 (EGS.s x).2 0)+List.length (keyF (EGS.s x).3 (EGS.s x).2 (W (0+1)))+List.length (keyF (EGS.s x).3 (EGS.s x).2 (W (W (0+1)+1)))+List.length (keyF (EGS.s x).3 (EGS.s x).2 (W (W (W (0+1)+1)+1)))=List.length (List.take (List.length (keyF (EGS.s x).3 (EGS.s x).2 0)) (List.drop 0 (keyF (EGS.s x).3 (EGS.s x).2 0))++List.take (List.length (keyF (EGS.s x).3 (EGS.s x).2 (W (0+1)))) (List.drop 0 (keyF (EGS.s x).3 (EGS.s x).2 (W (0+1))))++List.take (List.length (keyF (EGS.s x).3 (EGS.s x).2 (W (W (0+1)+1)))) (List.drop 0 (keyF (EGS.s x).3 (EGS.s x).2 (W (W (0+1)+1))))++List.take (List.length (keyF (EGS.s x).3 (EGS.s x).2 (W (W (W (0+1)+1)+1)))) (List.drop 0 (keyF (EGS.s x).3 (EGS.s x).2 (W (W (W (0+1)+1)+1)))))∧List.length (keyF (EGS.s x).3 (EGS.s x).2 0)+List.length (keyF (EGS.s x).3 (EGS.s x).2 (W (0+1)))+List.length (keyF (EGS.s x).3 (EGS.s x).2 (W (W (0+1)+1)))+List.length (keyF (EGS.s x).3 (EGS.s x).2 (W (W (W (0+1)+1)+1)))≤(1000000:Nat))∧K (.slice 5 0 (List.length (keyF (EGS.s x).3 (EGS.s x).2 0)+List.length (keyF (EGS.s x).3 (EGS.s x).2 (W (0+1)))+List.length (keyF (EGS.s x).3 (EGS.s x).2 (W (W (0+1)+1)))+List.length (keyF (EGS.s x).3 (EGS.s x).2 (W (W (W (0+1)+1)+1)))) 1) [w3r x,w3q x,some (.ints (some .u64) (EGS.s x).3),some (.abs (.hist x.6) []),some (.abs (.wrow x.7) []),iI' (mK (List.take (List.length (keyF (EGS.s x).3 (EGS.s x).2 0)) (List.drop 0 (keyF (EGS.s x).3 (EGS.s x).2 0))++List.take (List.length (keyF (EGS.s x).3 (EGS.s x).2 (W (0+1)))) (List.drop 0 (keyF (EGS.s x).3 (EGS.s x).2 (W (0+1))))++List.take (List.length (keyF (EGS.s x).3 (EGS.s x).2 (W (W (0+1)+1)))) (List.drop 0 (keyF (EGS.s x).3 (EGS.s x).2 (W (W (0+1)+1))))++List.take (List.length (keyF (EGS.s x).3 (EGS.s x).2 (W (W (W (0+1)+1)+1)))) (List.drop 0 (keyF (EGS.s x).3 (EGS.s x).2 (W (W (W (0+1)+1)+1))))))]
theorem J6(x:EGS)(K:AVal→aC Ob→Prop)(h:OI x K):cT' 55 [.ptr 0 0] (egG x) (f9 1 K):=by
 exact aD (E:=EI) Tryz.checked.mixed (L:=fun _ _=>some (.rounds 5)) (n:=10) (aK (by kernel_rfl) h)
def dZ(x:EGS):List Int:=bif ieq x.sh 3 then keyF x.s.xs x.s.n 0 else bif ieq x.sh 4 then keyF x.s.xs x.s.n 0 else mK (keyF x.s.xs x.s.n 0++keyF x.s.xs x.s.n 1++keyF x.s.xs x.s.n 2++keyF x.s.xs x.s.n 3)
def ehiS:aH Ob:=fun args h=>match args,h with
 | [.ptr 0 0],[some (.abs (.engine x) [])]=>some (.pre (x.h.ev.length≤4294967296∧x.h.cl.length≤4294967296) (.ret (.ptr 1 0) [some (.abs (.engine x) []),some (.abs (.hist x.h) [])]))
 | _,_=>none
theorem OH:sT' 28 ehiS:=by
 intro args h o ho K hK;unfold ehiS at ho;split at ho<;>cases ho
 rename_i x;obtain⟨hp,hK⟩:=hK;have hK:K (.ptr 1 0) [some (.abs (.engine x) []),some (.abs (.hist x.h) [])]:=hK;refine aIz ?_;refine aIq (h2:=egG x) (aT.unpack (.engine x) 0 0 (egG x) [] rfl rfl rfl rfl) ?_;refine aB.keep (J5 x _ ?_);exact⟨hp,⟨⟨_,_,aEM x,hK⟩⟩⟩
def eitS:aH Ob:=fun args h=>match args,h with
 | [.ptr 0 0],[some (.abs (.engine x) [])]=>some (.pre (0≤x.s.n∧x.s.n≤100000) (.ret (.slice 1 0 (dZ x).length 1) [some (.abs (.engine x) []),iI' (dZ x)]))
 | _,_=>none
theorem OJ:sT' 55 eitS:=by
 intro args h o ho K hK;unfold eitS at ho;split at ho<;>cases ho
 rename_i x;obtain⟨hp,hK⟩:=hK;have hK:K (.slice 1 0 (dZ x).length 1) [some (.abs (.engine x) []),iI' (dZ x)]:=hK;refine aIz ?_;refine aIq (h2:=egG x) (aT.unpack (.engine x) 0 0 (egG x) [] rfl rfl rfl rfl) ?_;refine aB.keep (J6 x _ ?_);have e1:W (0+1)=1:=by decide
 have e2:W (1+1)=2:=by decide
 have e3:W (2+1)=3:=by decide
 have l0:=iO x.s.xs x.s.n 0;have l1:=iO x.s.xs x.s.n 1;have l2:=iO x.s.xs x.s.n 2;have l3:=iO x.s.xs x.s.n 3;have hn:x.s.n.toNat≤100000:=by omega
 unfold OI;refine aM (fun c1=>?_) (fun c1=>aM (fun c2=>?_) (fun c2=>?_))
 ·have hv:dZ x=keyF x.s.xs x.s.n 0:=by unfold dZ;rw [c1];rfl
  rw [hv]at hK;exact⟨⟨⟨rfl,hp,by decide,by decide⟩,trivial⟩,⟨⟨_,_,OK x _,hK⟩⟩⟩
 ·have hv:dZ x=keyF x.s.xs x.s.n 0:=by unfold dZ;rw [c1,c2];rfl
  rw [hv]at hK;exact⟨⟨⟨rfl,hp,by decide,by decide⟩,trivial⟩,⟨⟨_,_,OK x _,hK⟩⟩⟩
 ·have hv:dZ x=mK (keyF x.s.xs x.s.n 0++keyF x.s.xs x.s.n 1++keyF x.s.xs x.s.n 2++keyF x.s.xs x.s.n 3):=by unfold dZ;rw [c1,c2];rfl
  rw [hv]at hK;rw [n8,List.length_append,List.length_append,List.length_append]at hK;have ht:=OK x (mK (keyF x.s.xs x.s.n 0++keyF x.s.xs x.s.n 1++keyF x.s.xs x.s.n 2++keyF x.s.xs x.s.n 3));rw [n8,List.length_append,List.length_append,List.length_append]at ht;rw [e1,e2,e3];change _≤_ at l0;change _≤_ at l1;generalize keyF x.s.xs x.s.n 0=k0 at*;generalize keyF x.s.xs x.s.n 1=k1 at*;generalize keyF x.s.xs x.s.n 2=k2 at*;generalize keyF x.s.xs x.s.n 3=k3 at*;have t0: ∀l:List Int,List.take l.length (List.drop 0 l)=l:=fun l=>by simp
  rw [t0 k0,t0 k1,t0 k2,t0 k3];have la:(k0++k1).length =k0.length+k1.length:=List.length_append;have lb:(k0++k1++k2).length =k0.length+k1.length+k2.length:=by rw [List.length_append,la]
  have lc:(k0++k1++k2++k3).length =k0.length+k1.length+k2.length+k3.length:=by rw [List.length_append,lb]
  refine⟨⟨⟨rfl,hp,by decide,by decide⟩,trivial⟩,⟨by omega,by omega⟩,⟨⟨rfl,hp,by decide,by decide⟩,trivial⟩,⟨by omega,by omega,by omega,by omega,by omega⟩,⟨⟨rfl,hp,by decide,by decide⟩,trivial⟩,⟨by omega,by omega,by omega,by omega,by omega⟩,⟨⟨rfl,hp,by decide,by decide⟩,trivial⟩,⟨by omega,by omega,by omega,by omega,by omega⟩,⟨by omega,by omega⟩,⟨⟨_,_,ht,hK⟩⟩⟩
noncomputable def EU9:=(EU8.addS 28 ehiS OH).addS 55 eitS OJ
theorem aIC{X:Type}{K:X→Prop} : ∀ {t:Tr X},t.run K→t.ok
 | .ret x,k=>trivial
 | .ite b l r,k=>by cases b with
   | true=>exact aIC (t:=l) k
   | false=>exact aIC (t:=r) k
 | .pre p t,k=>⟨k.1,aIC (t:=t) k.2⟩
theorem aIx{X:Type}{K:X→Prop} : ∀ {t:Tr X},t.run K→K t.val
 | .ret x,k=>k
 | .ite b l r,k=>by cases b with
   | true=>exact aIx (t:=l) k
   | false=>exact aIx (t:=r) k
 | .pre p t,k=>aIx (t:=t) k.2
theorem Tr.run_ite{X:Type}{K:X→Prop}{b:Bool}{l r:Tr X}(h1:b=true→l.run K)(h2:b=false→r.run K):(Tr.ite b l r).run K:=aM h1 h2
theorem aIn{X:Type}{K:X→Prop}{b:Bool}{l r:Tr X}(h1:b=true→l.run K)(h2:b=false→r.run K):(bif b then l else r).run K:=by
 cases b with
 | true=>exact h1 rfl
 | false=>exact h2 rfl
theorem aIr{X:Type}{K:X→Prop}{p:Prop}{t:Tr X}(h1:p)(h2:t.run K):(Tr.pre p t).run K:=⟨h1,h2⟩
theorem aIv{X:Type}{K:X→Prop}{x:X}(h:K x):(Tr.ret x).run K:=h
theorem nE'{P Q:Prop}(h:¬P:=by dsimp only;decide):P→Q:=fun e=>absurd e h
structure rngU (x:Int):Prop where
 h0:0≤x
 h1:x≤18446744073709551615
theorem DC:rngU 0:=⟨by decide,by decide⟩
theorem GS(x:Int):rngU (WU x):=⟨(MZ x).1,(MZ x).2⟩
theorem QX{xs:List Int}(h:XR xs)(a:Int):rngU (aE xs a):=⟨(u4 h a).1,(u4 h a).2⟩
theorem zH{b:Bool}{x y:Int}(h1:b=true→rngU x)(h2:rngU y):rngU (bif b then x else y):=by
 cases b with
 | true=>exact h1 rfl
 | false=>exact h2
theorem kY{n w:Int}(h:aL n w=true):0≤n∧n<2^w.toNat:=by
 unfold aL at h;simp only [Bool.and_eq_true,bX,bG,dT']at h;exact h
theorem NN(b:Bool):0≤bitI b∧bitI b≤1:=by cases b<;>decide
theorem QW{a b c d e f:Int}{m:Bool} :rngU (bif dOk a b c d e f then cK a b c d m e f else 0):=by
 refine zH (fun h=>?_) DC;unfold dOk at h;simp only [Bool.and_eq_true]at h;obtain⟨h1,h2,h3,h4,h5,h6⟩:=h;have h1:=kY h1;have h2:=kY h2;have h3:=kY h3;have h4:=kY h4;have h5:=kY h5;have h6:=kY h6;have hb:=NN m;simp only [Int.reduceToNat,Int.reducePow]at h1 h2 h3 h4 h5 h6;unfold cK;exact⟨by omega,by omega⟩
theorem YD{a b c v:Int}{m:Bool} :rngU (bif bif aL a 10 then bif aL b 9 then bif aL c 5 then aL v 18 else false else false else false then cL a b m c v else 0):=by
 refine zH (fun h=>?_) DC;cases h1:aL a 10 with
 | false=>rw [h1]at h;cases h
 | true=>
   cases h2:aL b 9 with
   | false=>rw [h1,h2]at h;cases h
   | true=>
     cases h3:aL c 5 with
     | false=>rw [h1,h2,h3]at h;cases h
     | true=>
       rw [h1,h2,h3]at h;have h:=kY (show aL v 18=true from h)
       have h1:=kY h1;have h2:=kY h2;have h3:=kY h3;have hb:=NN m;simp only [Int.reduceToNat,Int.reducePow]at h h1 h2 h3;unfold cL;exact⟨by omega,by omega⟩
structure Act1 (s s':MS):Prop where
 c:s'.c=s.c+1
 len:s'.xs.length=s.xs.length
 w:XR s.xs→XR s'.xs
 t:s'.t=s.t
 n:s'.n=s.n
theorem AB(s:MS)(k a o w:Int)(ok:Bool):Act1 s ⟨s.t,s.n,s.xs,s.c+1,k,a,o,w,ok⟩:=⟨rfl,rfl,id,rfl,rfl⟩
theorem yC(s:MS)(b v k a o w:Int)(ok:Bool)(h:rngU v):Act1 s ⟨s.t,s.n,aV s.xs b v,s.c+1,k,a,o,w,ok⟩:=⟨rfl,kP _ _ _,fun hw=>XS hw ⟨h.h0,h.h1⟩,rfl,rfl⟩
theorem HF(s:MS)(q:Bool)(b v k a o w:Int)(ok:Bool)(h:rngU v):Act1 s ⟨s.t,s.n,bif q then aV s.xs b v else s.xs,s.c+1,k,a,o,w,ok⟩:=by
 cases q with
 | true=>exact yC s b v k a o w ok h
 | false=>exact AB s k a o w ok
theorem T5(x a:Int)(w:Int):0≤aA x a w∧aA x a w<2^w.toNat:=T3
structure Bnd (t n:Int) (s:MS):Prop where
 ht:1≤t∧t≤1000
 hn:1≤n∧n≤1000
 hc:0≤s.c∧s.c≤900000
 hw:XR s.xs
theorem qI{P:Prop}(h:P:=by(with_reducible first | exact DC | exact GS _ | exact QW | exact YD | assumption)):P:=h
theorem AW{P:Prop}(h:P:=by(simp only [aA,Int.reduceToNat,Int.reducePow];omega)):P:=h
theorem bY{P:Prop}(h:P:=by(first
 | with_reducible exact trivial
 | with_reducible rfl
 | with_reducible assumption
 | with_reducible exact AB _ _ _ _ _ _
 | ((with_reducible refine yC _ _ _ _ _ _ _ _ ?_);exact qI)
 | ((with_reducible refine HF _ _ _ _ _ _ _ _ _ ?_);exact qI)
 | omega
 | exact AW
 | decide)):P:=h
theorem aDF{P:Prop}(h:P:=by first | exact qI | (exact QX (by assumption) _)):P:=h
theorem zW{P:Prop}(h:P:=by(dsimp only;first | omega | (constructor<;>omega) | exact AW)):P:=h
structure ZI (t:Int) (x:CLS):Prop where
 h:x.at'=0∨x.at'=1∨x.at'=2∨x.at'=3
structure aEk (t:Int) (s:MS) (o:ClO):Prop where
 a:Act1 s o.s
 w:o.d=false→ZI t o.x
theorem Y9{P:Prop}(h:P:=by
 (repeat' (with_reducible first | exact trivial | rfl | assumption | refine aIr ?_ ?_ | refine Tr.run_ite (fun _=>?_) (fun _=>?_) | refine aIv ?_ | refine And.intro ?_ ?_))
 all_goals first | exact bY | (refine⟨by exact bY,fun hd=>?_⟩;first | (exact Bool.noConfusion hd) | exact⟨by dsimp only;decide⟩)):P:=h
theorem SM{P:Prop}(h:P:=by
 (repeat' (with_reducible first | exact trivial | rfl | assumption | refine aIr ?_ ?_ | refine Tr.run_ite (fun _=>?_) (fun _=>?_) | refine aIv ?_ | refine And.intro ?_ ?_))
 all_goals first | exact bY | (refine⟨by exact bY,fun hd=>?_⟩;first | (exact Bool.noConfusion hd) | exact⟨by dsimp only;decide,⟨m0,m1⟩,by assumption,by exact aDF⟩)):P:=h
theorem wL{P:Prop}(h:P:=by
 (repeat' (with_reducible first | exact trivial | rfl | assumption | refine aIr ?_ ?_ | refine Tr.run_ite (fun _=>?_) (fun _=>?_) | refine aIv ?_ | refine And.intro ?_ ?_))
 all_goals first | exact bY | (refine⟨by exact bY,fun hd=>by first | (exact Bool.noConfusion hd) | exact⟨by dsimp only;decide,⟨m0,m1⟩,by exact zW⟩,?_⟩;exact zW)):P:=h
theorem ZJ{t n:Int}{x:CLS}{s:MS}(hb:Bnd t n s)(hx:ZI t x):(clT t n x s).run (aEk t s):=by
 obtain⟨⟨t0,t1⟩,⟨n0,n1⟩,⟨c0,c1⟩,hw⟩:=hb;obtain⟨h⟩:=hx;unfold clT;refine aIn (fun h0=>?_) (fun h0=>aIn (fun h1=>?_) (fun h1=>aIn (fun h2=>?_) (fun h2=>aIn (fun h3=>?_) (fun h3=>?_))))
 ·unfold AS;exact Y9
 ·unfold AT w04 w05 w06;exact Y9
 ·unfold AU w05 w06;exact Y9
 ·unfold AV w07;exact Y9
 ·simp only [cF,beq_eq_false_iff_ne]at h0 h1 h2 h3;rcases h with e | e | e | e<;>contradiction
theorem EX{t n:Int}{x:CLS}{s:MS}(hb:Bnd t n s)(hx:ZI t x):NO t n x s:=aIC (ZJ hb hx)
theorem yK{t n:Int}{x:CLS}{s:MS}(hb:Bnd t n s)(hx:ZI t x):aEk t s (oE t n x s):=aIx (ZJ hb hx)
structure hdW (t:Int) (x:HDS):Prop where
 h:0≤x.at'∧x.at'≤1000
 u: -1≤x.u∧x.u≤1000
structure aFh (t:Int) (s:MS) (o:HdO):Prop where
 a:Act1 s o.s
 w:o.d=false→hdW t o.x
 p: -1≤o.x.u∧o.x.u≤1000
theorem ZV{t n:Int}{x:HDS}{s:MS}(hb:Bnd t n s)(hx:hdW t x):(hdT t n x s).run (aFh t s):=by
 obtain⟨⟨t0,t1⟩,⟨n0,n1⟩,⟨c0,c1⟩,hw⟩:=hb;obtain⟨⟨h0,h1⟩,⟨u0,u1⟩⟩:=hx;have hW:W (x.at'+1)=x.at'+1:=cW ⟨by omega,by omega⟩
 unfold hdT;unfold WN w08 w09;rw [hW]
 (repeat' (with_reducible first | exact trivial | rfl | assumption | refine aIr ?_ ?_ | refine Tr.run_ite (fun _=>?_) (fun _=>?_) | refine aIv ?_ | refine And.intro ?_ ?_))
 all_goals first | exact bY | (refine⟨by exact bY,fun hd=>by first | (exact Bool.noConfusion hd) | (refine⟨?_,?_⟩<;>dsimp only at hd⊢ <;>first | omega | (simp only [bX,dF']at hd;omega)),?_⟩;exact zW)
theorem aCl{t n:Int}{x:HDS}{s:MS}(hb:Bnd t n s)(hx:hdW t x):aCi t n x s:=aIC (ZV hb hx)
theorem aCm{t n:Int}{x:HDS}{s:MS}(hb:Bnd t n s)(hx:hdW t x):aFh t s (pL t n x s):=aIx (ZV hb hx)
structure drW (t:Int) (x:DRS):Prop where
 h:0≤x.th∧x.th≤1000
 u:0≤x.at'∧x.at'≤2
structure aEq (t:Int) (s:MS) (o:DrO):Prop where
 a:Act1 s o.s
 w:o.d=false→drW t o.x
theorem ZL{t n:Int}{x:DRS}{s:MS}(hb:Bnd t n s)(hx:drW t x):(drT t n x s).run (aEq t s):=by
 obtain⟨⟨t0,t1⟩,⟨n0,n1⟩,⟨c0,c1⟩,hw⟩:=hb;obtain⟨⟨h0,h1⟩,⟨u0,u1⟩⟩:=hx;have hW:W (x.at'+1)=x.at'+1:=cW ⟨by omega,by omega⟩
 unfold drT;unfold UT;rw [hW]
 (repeat' (with_reducible first | exact trivial | rfl | assumption | refine aIr ?_ ?_ | refine Tr.run_ite (fun _=>?_) (fun _=>?_) | refine aIv ?_ | refine And.intro ?_ ?_))
 all_goals first | exact bY | (refine⟨by exact bY,fun hd=>?_⟩;first | (exact Bool.noConfusion hd) | (refine⟨?_,?_⟩<;>dsimp only at hd⊢ <;>first | omega | (simp only [bX,dF']at hd;omega)))
theorem aBi{t n:Int}{x:DRS}{s:MS}(hb:Bnd t n s)(hx:drW t x):aBf t n x s:=aIC (ZL hb hx)
theorem aBj{t n:Int}{x:DRS}{s:MS}(hb:Bnd t n s)(hx:drW t x):aEq t s (SX t n x s):=aIx (ZL hb hx)
structure anW (t:Int) (x:ANS):Prop where
 h:x.at'=0∨x.at'=1∨x.at'=2∨x.at'=3∨x.at'=4
 m:0≤x.me∧x.me≤1000
 b:rngU x.bits
 q:rngU x.no
structure aEd (t:Int) (s:MS) (o:AnO):Prop where
 a:Act1 s o.s
 w:o.d=false→anW t o.x
theorem ZE{t n:Int}{x:ANS}{s:MS}(hb:Bnd t n s)(hx:anW t x):(anT t n x s).run (aEd t s):=by
 obtain⟨⟨t0,t1⟩,⟨n0,n1⟩,⟨c0,c1⟩,hw⟩:=hb;obtain⟨h,⟨m0,m1⟩,b,q⟩:=hx;unfold anT;refine aIn (fun h0=>?_) (fun h0=>aIn (fun h1=>?_) (fun h1=>aIn (fun h2=>?_) (fun h2=>aIn (fun h3=>?_) (fun h3=>aIn (fun h4=>?_) (fun h4=>?_)))))
 ·unfold AE w0a;exact SM
 ·unfold AF;exact SM
 ·unfold AG w0a;exact SM
 ·unfold AH w0a;exact SM
 ·unfold AI w0b w0a;exact SM
 ·simp only [cF,beq_eq_false_iff_ne]at h0 h1 h2 h3 h4;rcases h with e | e | e | e | e<;>contradiction
theorem aAz{t n:Int}{x:ANS}{s:MS}(hb:Bnd t n s)(hx:anW t x):aAx t n x s:=aIC (ZE hb hx)
theorem aAA{t n:Int}{x:ANS}{s:MS}(hb:Bnd t n s)(hx:anW t x):aEd t s (EJ t n x s):=aIx (ZE hb hx)
structure awW (t:Int) (x:AWS):Prop where
 m:0≤x.me∧x.me≤1000
structure aEg (t:Int) (s:MS) (o:AwO):Prop where
 a:Act1 s o.s
 w:o.d=false→awW t o.x
theorem ZG{t n:Int}{x:AWS}{s:MS}(hb:Bnd t n s)(hx:awW t x):(awT t n x s).run (aEg t s):=by
 obtain⟨⟨t0,t1⟩,⟨n0,n1⟩,⟨c0,c1⟩,hw⟩:=hb;obtain⟨⟨m0,m1⟩⟩:=hx;unfold awT;unfold TN w0c
 (repeat' (with_reducible first | exact trivial | rfl | assumption | refine aIr ?_ ?_ | refine Tr.run_ite (fun _=>?_) (fun _=>?_) | refine aIv ?_ | refine And.intro ?_ ?_))
 all_goals first | exact bY | (refine⟨by exact bY,fun hd=>?_⟩;first | (exact Bool.noConfusion hd) | exact⟨⟨m0,m1⟩⟩)
theorem aAI{t n:Int}{x:AWS}{s:MS}(hb:Bnd t n s)(hx:awW t x):aAF t n x s:=aIC (ZG hb hx)
theorem aAJ{t n:Int}{x:AWS}{s:MS}(hb:Bnd t n s)(hx:awW t x):aEg t s (rR t n x s):=aIx (ZG hb hx)
structure exW (t:Int) (x:EXS):Prop where
 h:x.at'=0∨x.at'=1∨x.at'=2∨x.at'=3∨x.at'=4∨x.at'=5∨x.at'=6∨x.at'=7∨x.at'=8∨x.at'=9
 m:0≤x.u∧x.u≤1000
 po:0≤x.popped∧x.popped≤1000
structure aER (t:Int) (s:MS) (o:ExO):Prop where
 a:Act1 s o.s
 w:o.d=false→exW t o.x
 p:0≤o.x.popped∧o.x.popped≤1000
theorem ZO{t n:Int}{x:EXS}{s:MS}(hb:Bnd t n s)(hx:exW t x):(exT t n x s).run (aER t s):=by
 obtain⟨⟨t0,t1⟩,⟨n0,n1⟩,⟨c0,c1⟩,hw⟩:=hb;obtain⟨h,⟨m0,m1⟩,⟨p0,p1⟩⟩:=hx;unfold exT;refine aIn (fun h0=>?_) (fun h0=>aIn (fun h1=>?_) (fun h1=>aIn (fun h2=>?_) (fun h2=>aIn (fun h3=>?_) (fun h3=>aIn (fun h4=>?_) (fun h4=>aIn (fun h5=>?_) (fun h5=>aIn (fun h6=>?_) (fun h6=>aIn (fun h7=>?_) (fun h7=>aIn (fun h8=>?_) (fun h8=>aIn (fun h9=>?_) (fun h9=>?_))))))))))
 ·unfold BH w0n w0m w0l w0s w0i w0g;exact wL
 ·unfold BI w0f w0o w0r w0j;exact wL
 ·unfold BJ w0e w0k;exact wL
 ·unfold BK w0k w0g;exact wL
 ·unfold BL w0k w0g;exact wL
 ·unfold BM w0p w0r w0d w0j;exact wL
 ·unfold BN w0t;exact wL
 ·unfold BO w0g;exact wL
 ·unfold BP w0h w0q w0g;exact wL
 ·unfold BQ w0u;exact wL
 ·simp only [cF,beq_eq_false_iff_ne]at h0 h1 h2 h3 h4 h5 h6 h7 h8 h9;rcases h with e | e | e | e | e | e | e | e | e | e<;>contradiction
theorem aBK{t n:Int}{x:EXS}{s:MS}(hb:Bnd t n s)(hx:exW t x):aBI t n x s:=aIC (ZO hb hx)
theorem aBL{t n:Int}{x:EXS}{s:MS}(hb:Bnd t n s)(hx:exW t x):aER t s (BG t n x s):=aIx (ZO hb hx)
structure Z8 (t:Int) (x:PRS):Prop where
 h:True
structure aFP (t:Int) (s:MS) (st:STS) (o:PrO):Prop where
 a:Act1 s o.s
 w:o.d=false→Z8 t o.x
 st:o.st=st
theorem Z9{t n:Int}{x:PRS}{st:STS}{s:MS}(hb:Bnd t n s)(hx:Z8 t x):(prT t n x st s).run (aFP t s st):=by
 obtain⟨⟨t0,t1⟩,⟨n0,n1⟩,⟨c0,c1⟩,hw⟩:=hb;obtain⟨h⟩:=hx;unfold prT;unfold X4 w0v
 (repeat' (with_reducible first | exact trivial | rfl | assumption | refine aIr ?_ ?_ | refine Tr.run_ite (fun _=>?_) (fun _=>?_) | refine aIv ?_ | refine And.intro ?_ ?_))
 all_goals first | exact bY | (refine⟨by exact bY,fun hd=>?_,rfl⟩;first | (exact Bool.noConfusion hd) | exact⟨trivial⟩)
theorem QL{t n:Int}{x:PRS}{st:STS}{s:MS}(hb:Bnd t n s)(hx:Z8 t x):QJ t n x st s:=aIC (Z9 hb hx)
theorem QM{t n:Int}{x:PRS}{st:STS}{s:MS}(hb:Bnd t n s)(hx:Z8 t x):aFP t s st (prF t n x st s):=aIx (Z9 hb hx)
theorem fY{a b:Int}(h:ieq a b=true):a=b:=by simpa [cF]using h
theorem fC{a b:Int}(h:ieq a b=false):a≠b:=by simpa [cF]using h
def eI(l:List Int):Prop:= ∀r∈l,0≤r∧r≤1000
theorem rH:eI []:=fun r h=>nomatch h
theorem vN{l:List Int}{a:Int}(h:eI l)(ha:0≤a∧a≤1000):eI (l++ [a]):=by
 intro r hr;rcases List.mem_append.1 hr with h1 | h1
 ·exact h r h1
 ·rw [List.mem_singleton.1 h1];exact ha
theorem MB{l m:List Int}(h:eI l)(hm:eI m):eI (l++m):=by
 intro r hr;rcases List.mem_append.1 hr with h1 | h1
 ·exact h r h1
 ·exact hm r h1
theorem yI(t n a:Int):pP t n a:=⟨⟨rfl,rfl⟩,trivial⟩
theorem EW(t n a:Int):ZI t (yH t n a):=⟨.inl rfl⟩
theorem aGC(x a:Int):0≤aA x a 9∧aA x a 9≤1000:=by
 have:=T5 x a 9;simp only [Int.reduceToNat,Int.reducePow]at this;omega
structure MP (b:Int) (x:FNS):Prop where
 m:0≤x.me∧x.me≤1000
 cu:0≤x.curr∧x.curr≤1000
 ul:eI x.ul
 ln:(x.ul.length:Int)≤b
structure VK (t:Int) (x:FNS):Prop where
 h:x.at'=0∨x.at'=1∨x.at'=2∨x.at'=3∨x.at'=4∨x.at'=5∨x.at'=6
 cl:x.at'=4→ZI t x.cl
structure aEU (t b:Int) (s:MS) (o:FnO):Prop where
 a:Act1 s o.s
 q:MP (b+1) o.x
 w:o.d=false→VK t o.x
theorem aBS{P:Prop}(h:P:=by(refine⟨?_,⟨?_,?_,?_,?_⟩,fun hd=>?_⟩<;>first
 | exact bY
 | (exact(yK (by assumption) (by assumption)).a)
 | (constructor<;>assumption)
 | exact aGC _ _
 | (exact vN (by assumption) ⟨by assumption,by assumption⟩)
 | exact rH
 | (dsimp only;simp only [List.length_append,List.length_singleton,List.length_nil];omega)
 | exact Bool.noConfusion hd
 | exact⟨by dsimp only;decide,fun e=>absurd e (by dsimp only;decide)⟩
 | exact⟨by dsimp only;decide,fun e=>(yK (by assumption) (by assumption)).w (by assumption)⟩
 | exact⟨by dsimp only;decide,fun e=>by dsimp only;with_reducible exact EW _ _ _⟩)):P:=h
theorem G9{P:Prop}(h:P:=by
 (repeat' (with_reducible first | exact trivial | rfl | assumption | refine aIr ?_ ?_ | refine Tr.run_ite (fun _=>?_) (fun _=>?_) | refine aIv ?_ | refine And.intro ?_ ?_))
 all_goals first | exact bY | exact yI _ _ _ | (simp only [List.length_append,List.length_singleton];done) | exact aBS):P:=h
theorem ZP{t n b:Int}{x:FNS}{s:MS}(hb:Bnd t n s)(hx:VK t x)(hq:MP b x)(hbb:b≤900000):(fnT t n x s).run (aEU t b s):=by
 have hb':=hb;obtain⟨⟨t0,t1⟩,⟨n0,n1⟩,⟨c0,c1⟩,hw⟩:=hb;obtain⟨h,hcl⟩:=hx;obtain⟨⟨m0,m1⟩,⟨q0,q1⟩,hul,hln⟩:=hq;have b0:0≤b:=by omega
 unfold fnT;refine aIn (fun h0=>?_) (fun h0=>aIn (fun h1=>?_) (fun h1=>aIn (fun h2=>?_) (fun h2=>aIn (fun h3=>?_) (fun h3=>aIn (fun h4=>?_) (fun h4=>aIn (fun h5=>?_) (fun h5=>aIn (fun h6=>?_) (fun h6=>?_)))))))
 ·unfold BV w11 w16 w0z w13 w15 w14 w1f;exact G9
 ·unfold BW;exact G9
 ·unfold BX w11 w16 w0z w13 w15 w1f w14;exact G9
 ·unfold BY w1b w1d w1c w1a;exact G9
 ·unfold BZ w19 w14;have hcl4:=hcl (fY h4);have hclo:=EX hb' hcl4;exact G9
 ·unfold B0 w0x w0w w19 w14;exact G9
 ·unfold B1 w14 w1g;exact G9
 ·simp only [cF,beq_eq_false_iff_ne]at h0 h1 h2 h3 h4 h5 h6;rcases h with e | e | e | e | e | e | e<;>contradiction
theorem FJ{t n b:Int}{x:FNS}{s:MS}(hb:Bnd t n s)(hx:VK t x)(hq:MP b x)(hbb:b≤900000):KK t n x s:=aIC (ZP hb hx hq hbb)
theorem FK{t n b:Int}{x:FNS}{s:MS}(hb:Bnd t n s)(hx:VK t x)(hq:MP b x)(hbb:b≤900000):aEU t b s (aO t n x s):=aIx (ZP hb hx hq hbb)
theorem dL(sh ky:Int):0≤fJ sh ky∧fJ sh ky≤3:=by
 unfold fJ;cases ieq sh 2 with
 | true=>exact⟨Int.emod_nonneg _ (by decide),by have:=Int.emod_lt_of_pos ky (b:=4) (by decide);show ky%4≤3;omega⟩
 | false=>exact⟨Int.le_refl 0,(by decide:(0:Int)≤3)⟩
theorem FI{t n me hd key lim:Int}(hn:1≤n∧n≤1000)(hm:0≤me∧me≤1000)(hh:0≤hd∧hd≤3):(OX t n me hd key lim).run (fun x=>VK t x∧MP 0 x):=by
 obtain⟨n0,n1⟩:=hn;obtain⟨m0,m1⟩:=hm;obtain⟨e0,e1⟩:=hh;unfold OX w1h
 (repeat' (with_reducible first | exact trivial | rfl | assumption | refine aIr ?_ ?_ | refine Tr.run_ite (fun _=>?_) (fun _=>?_) | refine aIv ?_ | refine And.intro ?_ ?_))
 all_goals first | exact bY | exact⟨by dsimp only;decide,fun e=>absurd e (by dsimp only;decide)⟩ | exact⟨⟨m0,m1⟩,⟨(by decide:(0:Int)≤0),(by decide:(0:Int)≤1000)⟩,rH,(by decide:((0:Nat):Int)≤0)⟩
theorem IU(sh kd ky pred pw cw sp:Int){curr:Int}(hc:0≤curr∧curr≤1000):(C4 sh kd ky pred pw curr cw sp).run (fun p=>0≤p.pops∧p.pops≤1000):=by
 obtain⟨c0,c1⟩:=hc;unfold C4 w00 w02 w01 w03
 (repeat' (with_reducible first | exact trivial | rfl | assumption | refine aIr ?_ ?_ | refine Tr.run_ite (fun _=>?_) (fun _=>?_) | refine aIv ?_ | refine And.intro ?_ ?_))
 all_goals first | exact bY | (dsimp only;first | assumption | decide)
theorem C6(sh kd ky pred pw cw sp:Int){curr:Int}(hc:0≤curr∧curr≤1000):vD sh kd ky pred pw curr cw sp:=aIC (IU sh kd ky pred pw cw sp hc)
theorem xQ(sh kd ky pred pw cw sp:Int){curr:Int}(hc:0≤curr∧curr≤1000):0≤(bJ sh kd ky pred pw curr cw sp).pops ∧(bJ sh kd ky pred pw curr cw sp).pops ≤1000:=aIx (IU sh kd ky pred pw cw sp hc)
theorem aGb{P:Prop}(h:P:=by
 (repeat' (with_reducible first | exact trivial | rfl | assumption | refine aIr ?_ ?_ | refine Tr.run_ite (fun _=>?_) (fun _=>?_) | refine aIv ?_ | refine And.intro ?_ ?_))
 all_goals first | exact bY | exact qI):P:=h
theorem C5(a b c d e f g h i):(vE a b c d e f g h i).run rngU:=by
 unfold vE;exact aGb
theorem L0(a b c d e f g h i):zC a b c d e f g h i:=aIC (C5 a b c d e f g h i)
theorem LZ(a b c d e f g h i):rngU (dB a b c d e f g h i):=aIx (C5 a b c d e f g h i)
theorem C3(a b c d e f g h i j):(vC a b c d e f g h i j).run (fun r=>rngU r.1):=by
 unfold vC;exact aGb
theorem LX(a b c d e f g h i j):zB a b c d e f g h i j:=aIC (C3 a b c d e f g h i j)
theorem LW(a b c d e f g h i j):rngU (gE a b c d e f g h i j).1:=aIx (C3 a b c d e f g h i j)
theorem C2(a b c d e f g h i):(vA a b c d e f g h i).run (fun _=>True):=by
 unfold vA
 (repeat' (with_reducible first | exact trivial | rfl | assumption | refine aIr ?_ ?_ | refine Tr.run_ite (fun _=>?_) (fun _=>?_) | refine aIv ?_ | refine And.intro ?_ ?_))
 all_goals exact bY
theorem xP(p:PLN):nZ p.1 p.2 p.3 p.4 p.5 p.6 p.7 p.8 p.9:=aIC (C2 _ _ _ _ _ _ _ _ _)
theorem vB(a b c d e f g h i):nZ a b c d e f g h i:=aIC (C2 _ _ _ _ _ _ _ _ _)
theorem eZ{b c:Int}{x:FNS}(h:MP b x)(hbc:b≤c):MP c x:=⟨h.m,h.cu,h.ul,Int.le_trans h.ln hbc⟩
theorem pX{t n me hd key lim:Int}(hn:1≤n∧n≤1000)(hm:0≤me∧me≤1000)(hh:0≤hd∧hd≤3):oG t n me hd key lim:=aIC (FI hn hm hh)
theorem BU{t n me hd key lim:Int}(hn:1≤n∧n≤1000)(hm:0≤me∧me≤1000)(hh:0≤hd∧hd≤3):VK t (uI t n me hd key lim):=by
 have h:=aIx (FI (t:=t) (key:=key) (lim:=lim) hn hm hh);exact h.1
theorem BT{t n me hd key lim:Int}(hn:1≤n∧n≤1000)(hm:0≤me∧me≤1000)(hh:0≤hd∧hd≤3):MP 0 (uI t n me hd key lim):=by
 have h:=aIx (FI (t:=t) (key:=key) (lim:=lim) hn hm hh);exact h.2
theorem QI(t n key nx:Int)(st:STS):(X2 t n key nx st).run (fun r=>r.2=st):=⟨⟨rfl,rfl,rfl⟩,rfl⟩
theorem IV(t n key nx:Int)(st:STS):C7 t n key nx st:=aIC (QI t n key nx st)
theorem QH(t n key nx:Int)(st:STS):(qE t n key nx st).2=st:=aIx (QI t n key nx st)
structure stW (b:Int) (st:STS):Prop where
 m:0≤st.me∧st.me≤1000
 r:eI st.R
 ln:(st.R.length:Int)≤b
theorem iS{b c:Int}{st:STS}(h:stW b st)(hbc:b≤c):stW c st:=⟨h.m,h.r,Int.le_trans h.ln hbc⟩
theorem zJ{b:Int}{st:STS}{k:Int}{x:FNS}(h:stW b st)(hq:MP (b - st.R.length+1) x):stW (b+1) {me:=st.me,sp:=k,R:=st.R++x.ul} :=
 ⟨h.m,MB h.r hq.ul,by have:=hq.ln;simp only [List.length_append];omega⟩
theorem vO{b:Int}{st:STS}{k a:Int}(h:stW b st)(ha:0≤a∧a≤1000):stW (b+1) {me:=st.me,sp:=k,R:=st.R++ [a] } :=
 ⟨h.m,vN h.r ha,by have:=h.ln;simp only [List.length_append,List.length_singleton];omega⟩
theorem RF{b:Int}{st:STS}(h:stW b st)(k:Int):stW (b+1) {me:=st.me,sp:=k,R:=st.R} :=⟨h.m,h.r,by have:=h.ln;show(st.R.length:Int)≤_;omega⟩
structure VU (t b:Int) (st:STS) (x:FTS):Prop where
 h:x.at'=0∨x.at'=1∨x.at'=2∨x.at'=3
 fn:x.at'=0→VK t x.fn∧MP (b - st.R.length) x.fn
 cl:x.at'=1→ZI t x.cl
 ps:0≤x.p.pops∧x.p.pops≤1000
structure aEX (t b:Int) (s:MS) (o:FtO):Prop where
 a:Act1 s o.s
 st:stW (b+1) o.st
 w:o.d=false→VU t (b+1) o.st o.x
theorem ZQ{t n b:Int}{x:FTS}{st:STS}{s:MS}(hb:Bnd t n s)(hx:VU t b st x)(hst:stW b st)(hbb:b≤900000):(ftT t n x st s).run (aEX t b s):=by
 have hb':=hb;obtain⟨ht,hn,⟨c0,c1⟩,hw⟩:=hb;obtain⟨n0,n1⟩:=hn;obtain⟨t0,t1⟩:=ht;obtain⟨h,hfn,hcl,hps⟩:=hx;have hR0:=hst.ln;have hst1:stW (b+1) st:=iS hst (by omega)
 have hnn:1≤n∧n≤1000:=⟨n0,n1⟩;have b0:0≤b:=by omega
 unfold ftT;refine aIn (fun h0=>?_) (fun h0=>aIn (fun h1=>?_) (fun h1=>aIn (fun h2=>?_) (fun h2=>aIn (fun h3=>?_) (fun h3=>?_))))
 ·obtain⟨hfw,hfq⟩:=hfn (fY h0);have hF:=FK hb' hfw hfq (by omega)
  have hFo:=FJ hb' hfw hfq (by omega)
  have hA:=hF.a;have hQ:=hF.q;have hQl:=hQ.ln;have hS:stW (b+1) {me:=st.me,sp:=st.sp,R:=st.R++(aO t n x.fn s).x.ul } :=zJ hst hQ;have hcu:=hQ.cu;unfold B3 w1i w1q w1k w1o
  (repeat' (with_reducible first | exact trivial | rfl | assumption | refine aIr ?_ ?_ | refine Tr.run_ite (fun _=>?_) (fun _=>?_) | refine aIv ?_ | refine And.intro ?_ ?_))
  all_goals first
   | exact bY
   | exact C6 _ _ _ _ _ _ _ hcu
   | exact xP _
   | exact vB _ _ _ _ _ _ _ _ _
   | exact yI _ _ _
   | exact IV _ _ _ _ _
   | (simp only [List.length_append];done)
   | (refine⟨by first | assumption | exact bY,?_,fun hd=>?_⟩
      ·first
        | assumption
        | (dsimp only;rw [QH];assumption)
      ·first
        | exact Bool.noConfusion hd
        | (refine⟨by dsimp only;decide,?_,?_,?_⟩
           ·first | (exact nE') | (intro _;exact⟨hF.w (by assumption),eZ hQ (by dsimp only;omega)⟩)
           ·first | (exact nE') | (intro _;dsimp only;with_reducible exact EW _ _ _)
           ·first | exact hps | exact xQ _ _ _ _ _ _ _ hcu))
 ·have hc:=hcl (fY h1);have hC:=yK hb' hc;have hCo:=EX hb' hc;have hA:=hC.a;unfold B4
  (repeat' (with_reducible first | exact trivial | rfl | assumption | refine aIr ?_ ?_ | refine Tr.run_ite (fun _=>?_) (fun _=>?_) | refine aIv ?_ | refine And.intro ?_ ?_))
  all_goals first
   | exact bY
   | exact pX hnn hst.m (dL _ _)
   | (refine⟨by assumption,by assumption,fun hd=>?_⟩
      first
       | exact Bool.noConfusion hd
       | (refine⟨by dsimp only;decide,?_,?_,hps⟩
          ·first | (exact nE') | (intro _;exact⟨BU (t:=t) (n:=n) hnn hst.m (dL _ _),eZ (BT (t:=t) (n:=n) hnn hst.m (dL _ _)) (by dsimp only;omega)⟩)
          ·first | (exact nE') | (intro _;exact hC.w (by assumption))))
 ·have hP:=QM (st:=st) hb' (show Z8 t x.pr from⟨trivial⟩)
  have hPo:=QL (st:=st) hb' (show Z8 t x.pr from⟨trivial⟩)
  have hA:=hP.a;have hPs:stW (b+1) (prF t n x.pr st s).st :=by rw [hP.st];exact hst1
  unfold B5
  (repeat' (with_reducible first | exact trivial | rfl | assumption | refine aIr ?_ ?_ | refine Tr.run_ite (fun _=>?_) (fun _=>?_) | refine aIv ?_ | refine And.intro ?_ ?_))
  all_goals first
   | exact bY
   | (refine⟨by assumption,by assumption,fun hd=>?_⟩
      first
       | exact Bool.noConfusion hd
       | exact⟨by dsimp only;decide,fun e=>absurd e (by dsimp only;decide),fun e=>absurd e (by dsimp only;decide),hps⟩)
 ·have hW:=LZ (FTS.p x).1 (FTS.p x).2 (FTS.p x).3 (FTS.p x).4 (FTS.p x).5 (FTS.p x).6 (FTS.p x).7 (FTS.p x).8 (FTS.p x).9;have hWo:=L0 (FTS.p x).1 (FTS.p x).2 (FTS.p x).3 (FTS.p x).4 (FTS.p x).5 (FTS.p x).6 (FTS.p x).7 (FTS.p x).8 (FTS.p x).9;have hS1:stW (b+1) {me:=st.me,sp:=0,R:=st.R++ [(FTS.p x).9] } :=vO hst hps;have hS2:stW (b+1) {me:=st.me,sp:=st.sp,R:=st.R++ [(FTS.p x).9] } :=vO hst hps;have hS3:stW (b+1) {me:=st.me,sp:=0,R:=st.R} :=RF hst 0;unfold B6 w1j
  (repeat' (with_reducible first | exact trivial | rfl | assumption | refine aIr ?_ ?_ | refine Tr.run_ite (fun _=>?_) (fun _=>?_) | refine aIv ?_ | refine And.intro ?_ ?_))
  all_goals first
   | exact bY
   | exact pX hnn hst.m (dL _ _)
   | (simp only [List.length_append,List.length_singleton];done)
   | (refine⟨by exact bY,by assumption,fun hd=>?_⟩
      first
       | exact Bool.noConfusion hd
       | (refine⟨by dsimp only;decide,?_,?_,hps⟩
          ·first | (exact nE') | (intro _;exact⟨BU (t:=t) (n:=n) hnn hst.m (dL _ _),eZ (BT (t:=t) (n:=n) hnn hst.m (dL _ _)) (by dsimp only;omega)⟩)
          · (exact nE')))
 ·simp only [cF,beq_eq_false_iff_ne]at h0 h1 h2 h3;rcases h with e | e | e | e<;>contradiction
theorem aB1{t n b:Int}{x:FTS}{st:STS}{s:MS}(hb:Bnd t n s)(hx:VU t b st x)(hst:stW b st)(hbb:b≤900000):VP t n x st s:=aIC (ZQ hb hx hst hbb)
theorem aB2{t n b:Int}{x:FTS}{st:STS}{s:MS}(hb:Bnd t n s)(hx:VU t b st x)(hst:stW b st)(hbb:b≤900000):aEX t b s (hO t n x st s):=aIx (ZQ hb hx hst hbb)
theorem FL{t n b sh kd ky most:Int}{st:STS}(hn:1≤n∧n≤1000)(hst:stW b st):(OY t n sh kd ky most st).run (fun r=>VU t b st r.1∧r.2=st):=by
 have hR0:=hst.ln;unfold OY
 (repeat' (with_reducible first | exact trivial | rfl | assumption | refine aIr ?_ ?_ | refine Tr.run_ite (fun _=>?_) (fun _=>?_) | refine aIv ?_ | refine And.intro ?_ ?_))
 all_goals first
  | exact bY
  | exact pX hn hst.m (dL _ _)
  | exact⟨by dsimp only;decide,fun _=>⟨BU (t:=t) (n:=n) hn hst.m (dL _ _),eZ (BT (t:=t) (n:=n) hn hst.m (dL _ _)) (by omega)⟩,fun e=>absurd e (by dsimp only;decide),⟨(by decide:(0:Int)≤0),(by decide:(0:Int)≤1000)⟩⟩
theorem eT(s:MS)(a:Int):Act1 s (s.loadd a):=⟨rfl,rfl,id,rfl,rfl⟩
theorem wQ(s:MS)(a o x:Int):Act1 s (s.cased a o (WU x)):=HF s _ _ _ _ _ _ _ _ (GS x)
theorem nS(s:MS)(a x:Int):Act1 s (s.added a x):=yC s _ _ _ _ _ _ _ (GS _)
theorem mB{m:List (Int×Int)}{l:List Int}(h:eI l):eI (cI m l):=fun r hr=>h r (List.mem_filter.1 hr).1
theorem sK{m:List (Int×Int)}{l:List Int}(h:eI l):eI (aW m l):=fun r hr=>h r (List.mem_filter.1 hr).1
theorem CO(m:List (Int×Int))(l:List Int):(cI m l).length ≤l.length:=List.length_filter_le _ _
theorem DF{l:List Int}(h:eI l){j:Nat}(hj:j<l.length): -1000000≤List.getD l (j+Int.toNat 0*1) 0∧List.getD l (j+Int.toNat 0*1) 0≤1000000:=by
 have e:j+Int.toNat 0*1=j:=by simp
 rw [e,gD',gE' hj];have:=h _ (List.getElem_mem hj);show _≤l[j]∧l[j]≤_;omega
theorem CT{n a:Int}(hn:1≤n)(ha:1≤a):1≤cS n a∧cS n a≤n:=by
 unfold cS;rw [Int.tmod_eq_emod_of_nonneg (by omega)]
 have:=Int.emod_nonneg a (show n≠0 by omega)
 have:=Int.emod_lt_of_pos a (show 0<n by omega)
 omega
theorem TG{t n me:Int}(hn:1≤n):1≤at0 t n me∧at0 t n me≤n:=by
 unfold at0;cases h:bN n (aP t n me)with
 | true=>exact uY.1 h
 | false=>exact⟨(by decide:(1:Int)≤1),hn⟩
def enI(t n b:Int)(e:ENS):Prop:=match e.ph with
 | 0=>True
 | 1=>okAl n e.x
 | 2=>True
 | 3=>(eI e.y.N∧(e.y.N.length:Int)≤b)∧0≤e.y.i∧e.y.i<2*t
 | 4=>2*t≤e.y.i∧1≤e.y.l∧e.y.gs.length=e.y.j+e.y.l∧eI e.y.gs∧eI e.y.ks∧(e.y.ks.length:Int)≤b
 | _=>False
structure aBw (t n b:Int) (s:MS) (o:EO):Prop where
 a:Act1 s o.s
 st:stW (b+1) o.st
 w:o.d=false→enI t n (b+1) o.e
theorem OM{t n b:Int}{e:ENS}{st:STS}{s:MS}(hb:Bnd t n s)(hx:enI t n b e)(hst:stW b st)(hbb:b≤900000):LN t n e st s:=by
 obtain⟨ht,hn,hc,hw⟩:=hb;have hl:=hst.ln;refine⟨ht,hn,⟨hc.1,by omega⟩,hst.m,by omega,?_⟩
 match e,hx with
 | ⟨0,sh,dn,x,y⟩,hx=>trivial
 | ⟨1,sh,dn,x,y⟩,hx=>exact hx
 | ⟨2,sh,dn,x,y⟩,hx=>trivial
 | ⟨3,sh,dn,x,y⟩,hx=>
   obtain⟨⟨h1,h2⟩,h3⟩:=hx;exact⟨by dsimp only at h2⊢;omega,h3⟩
 | ⟨4,sh,dn,x,y⟩,hx=>
   obtain⟨a1,a2,a3,a4,a5⟩:=hx;exact⟨a1,a2,a3,DF a4 (by omega)⟩
theorem HL{t n b:Int}{e:ENS}{st:STS}{x:AL}{s s0:MS}(ha:Act1 s0 s)(hst:stW b st)(hg:x.got=0)(hx:1≤x.at'∧x.at'≤n)(hl0:0≤x.left+1)(hl:x.left≤1000):aBw t n b s0 (J7 e st x s):=by
 have hl1:=hst.ln;unfold J7;split
 ·exact⟨ha,⟨hst.m,hst.r,by dsimp only;omega⟩,fun _=>trivial⟩
 ·rename_i h;rw [bX,dF']at h;exact⟨ha,iS hst (by omega),fun _=>⟨hg,hx,by show(0:Int)≤x.left;omega,hl⟩⟩
theorem w8{t n b:Int}{e:ENS}{st:STS}{x:AL}{s:MS}(hn:1≤n)(hst:stW b st)(hx:okAl n x):aBw t n b s (qX n e st x s):=by
 obtain⟨hg,ha,hl⟩:=hx;have hl1:=hst.ln;unfold qX;split
 ·split
  ·exact⟨wQ _ _ _ _,⟨hst.m,hst.r,by dsimp only;omega⟩,fun h=>Bool.noConfusion h⟩
  ·exact HL (wQ _ _ _ _) hst rfl (CT hn ha.1) (by dsimp only;omega) (by dsimp only;omega)
 ·split
  ·exact HL (eT _ _) hst rfl (CT hn ha.1) (by dsimp only;omega) (by dsimp only;omega)
  ·exact⟨eT _ _,iS hst (by omega),fun _=>⟨rfl,ha,hl⟩⟩
theorem ON{t n b:Int}{e:ENS}{st:STS}{s:MS}(hb:Bnd t n s)(hx:enI t n b e)(hst:stW b st):aBw t n b s (enF t n e st s):=by
 obtain⟨ht,hn,hc,hw⟩:=hb;have hl1:=hst.ln;have hst1:stW (b+1) st:=iS hst (by omega)
 match e,hx with
 | ⟨0,sh,dn,x,y⟩,hx=>
   unfold enF;dsimp only;cases hc:ieq st.sp 0 with
   | true=>exact w8 hn.1 hst ⟨rfl,TG hn.1,by dsimp only;omega⟩
   | false=>exact⟨eT _ _,hst1,fun h=>Bool.noConfusion h⟩
 | ⟨1,sh,dn,x,y⟩,hx=>exact w8 hn.1 hst hx
 | ⟨2,sh,dn,x,y⟩,hx=>
   exact⟨eT _ _,hst1,fun _=>⟨⟨hst.r,by show(st.R.length:Int)≤_;omega⟩,(by decide:(0:Int)≤1),by show(1:Int)<_;omega⟩⟩
 | ⟨3,sh,dn,x,y⟩,hx=>
   obtain⟨⟨hN,hNl⟩,hi0,hi1⟩:=hx;dsimp only at hN hNl hi0 hi1;have hk:=CO (aX y.m n y.i s) y.N;unfold enF;dsimp only;generalize hsm:aX y.m n y.i s=sm at hk⊢;cases h1:ieq (y.i+1) (2*t)with
   | false=>
     have h1:=fC h1;exact⟨eT _ _,hst1,fun _=>⟨⟨hN,by show((y.N).length :Int)≤_;omega⟩,by show 0≤y.i+1;omega,by show y.i+1<2*t;omega⟩⟩
   | true=>
     have h1:=fY h1;cases h2:ieq ((aW sm y.N).length :Int) 0 with
     | true=>exact⟨eT _ _,⟨hst.m,mB hN,by show((cI sm y.N).length :Int)≤_;omega⟩,fun h=>Bool.noConfusion h⟩
     | false=>
       have h2:=fC h2;exact⟨eT _ _,hst1,fun _=>⟨by show 2*t≤y.i+1;omega,by show 1≤(aW sm y.N).length;omega,by show(aW sm y.N).length =0+(aW sm y.N).length;omega,sK hN,mB hN,by show((cI sm y.N).length :Int)≤_;omega⟩⟩
 | ⟨4,sh,dn,x,y⟩,hx=>
   obtain⟨a1,a2,a3,a4,a5,a6⟩:=hx;dsimp only at a1 a2 a3 a4 a5 a6;unfold enF;dsimp only;cases h1:ieq ((y.l - 1:Nat):Int) 0 with
   | true=>exact⟨nS _ _ _,⟨hst.m,a5,by show((y.ks).length :Int)≤_;omega⟩,fun _=>trivial⟩
   | false=>
     have h1:=fC h1;exact⟨nS _ _ _,hst1,fun _=>⟨a1,by show 1≤y.l - 1;omega,by show(y.gs).length =y.j+1+(y.l - 1);omega,a4,a5,by show((y.ks).length :Int)≤_;omega⟩⟩
def MD(t n b:Int)(y:SWS):Prop:=match y.ph with
 | 0=>True
 | 1=>(eI y.N∧(y.N.length:Int)≤b)∧0≤y.i∧y.i<2*t
 | 2=>2*t≤y.i∧1≤y.l∧y.gs.length=y.j+y.l∧eI y.gs∧eI y.ks∧(y.ks.length:Int)≤b
 | _=>False
structure aHc (t n b:Int) (s:MS) (o:SO):Prop where
 a:Act1 s o.s
 st:stW (b+1) o.st
 w:o.d=false→MD t n (b+1) o.e
theorem aDq{t n b:Int}{e:SWS}{st:STS}{s:MS}(hb:Bnd t n s)(hx:MD t n b e)(hst:stW b st)(hbb:b≤900000):qA t n e st s:=by
 obtain⟨ht,hn,hc,hw⟩:=hb;have hl:=hst.ln;refine⟨ht,hn,⟨hc.1,by omega⟩,by omega,?_⟩
 match e,hx with
 | ⟨0,N,m,i,ks,fs,gs,j,l⟩,hx=>trivial
 | ⟨1,N,m,i,ks,fs,gs,j,l⟩,hx=>
   obtain⟨⟨h1,h2⟩,h3⟩:=hx;exact⟨by dsimp only at h2⊢;omega,h3⟩
 | ⟨2,N,m,i,ks,fs,gs,j,l⟩,hx=>
   obtain⟨a1,a2,a3,a4,a5⟩:=hx;exact⟨a1,a2,a3,DF a4 (by omega)⟩
theorem aDr{t n b:Int}{e:SWS}{st:STS}{s:MS}(hb:Bnd t n s)(hx:MD t n b e)(hst:stW b st):aHc t n b s (swF t n e st s):=by
 obtain⟨ht,hn,hc,hw⟩:=hb;have hl1:=hst.ln;have hst1:stW (b+1) st:=iS hst (by omega)
 match e,hx with
 | ⟨0,N,m,i,ks,fs,gs,j,l⟩,hx=>
   exact⟨eT _ _,hst1,fun _=>⟨⟨hst.r,by show(st.R.length:Int)≤_;omega⟩,(by decide:(0:Int)≤1),by show(1:Int)<_;omega⟩⟩
 | ⟨1,N,m,i,ks,fs,gs,j,l⟩,hx=>
   obtain⟨⟨hN,hNl⟩,hi0,hi1⟩:=hx;dsimp only at hN hNl hi0 hi1;have hk:=CO (aX m n i s) N;unfold swF;dsimp only;generalize hsm:aX m n i s=sm at hk⊢;cases h1:ieq (i+1) (2*t)with
   | false=>
     have h1:=fC h1;exact⟨eT _ _,hst1,fun _=>⟨⟨hN,by show((N).length :Int)≤_;omega⟩,by show 0≤i+1;omega,by show i+1<2*t;omega⟩⟩
   | true=>
     have h1:=fY h1;cases h2:ieq ((aW sm N).length :Int) 0 with
     | true=>exact⟨eT _ _,⟨hst.m,mB hN,by show((cI sm N).length :Int)≤_;omega⟩,fun h=>Bool.noConfusion h⟩
     | false=>
       have h2:=fC h2;exact⟨eT _ _,hst1,fun _=>⟨by show 2*t≤i+1;omega,by show 1≤(aW sm N).length;omega,by show(aW sm N).length =0+(aW sm N).length;omega,sK hN,mB hN,by show((cI sm N).length :Int)≤_;omega⟩⟩
 | ⟨2,N,m,i,ks,fs,gs,j,l⟩,hx=>
   obtain⟨a1,a2,a3,a4,a5,a6⟩:=hx;dsimp only at a1 a2 a3 a4 a5 a6;unfold swF;dsimp only;cases h1:ieq ((l - 1:Nat):Int) 0 with
   | true=>exact⟨nS _ _ _,⟨hst.m,a5,by show((ks).length :Int)≤_;omega⟩,fun h=>Bool.noConfusion h⟩
   | false=>
     have h1:=fC h1;exact⟨nS _ _ _,hst1,fun _=>⟨a1,by show 1≤l - 1;omega,by show(gs).length =j+1+(l - 1);omega,a4,a5,by show((ks).length :Int)≤_;omega⟩⟩
theorem VA(t n u sh kd ky att:Int):OT t n u sh kd ky att:=⟨⟨rfl,rfl⟩,trivial⟩
theorem aEQ(t n:Int){u:Int}(sh kd ky att:Int)(hu:0≤u∧u≤1000):exW t (aBE t n u sh kd ky att):=⟨.inl rfl,hu,⟨(by decide:(0:Int)≤0),(by decide:(0:Int)≤1000)⟩⟩
structure XE (t n b:Int) (st:STS) (x:HPS):Prop where
 h:x.at'=0∨x.at'=1∨x.at'=2∨x.at'=3∨x.at'=4∨x.at'=5∨x.at'=6∨x.at'=7∨x.at'=8∨x.at'=9
 u:0≤x.u∧x.u≤1000
 ex:x.at'=3→exW t x.ex
 en:x.at'=4→enI t n b x.en
 fn:x.at'=5→VK t x.fn∧MP (b - st.R.length) x.fn
 cl:x.at'=7→ZI t x.cl
 ps:0≤x.p.pops∧x.p.pops≤1000
structure aFm (t n b:Int) (s:MS) (o:HpO):Prop where
 a:Act1 s o.s
 st:stW (b+1) o.st
 w:o.d=false→XE t n (b+1) o.st o.x
theorem PZ:(0:Int)≤0∧(0:Int)≤1000:=⟨by decide,by decide⟩
theorem ZY{t n b:Int}{x:HPS}{st:STS}{s:MS}(hb:Bnd t n s)(hx:XE t n b st x)(hst:stW b st)(hbb:b≤900000):(hpT t n x st s).run (aFm t n b s):=by
 have hb':=hb;obtain⟨ht,hn,⟨c0,c1⟩,hw⟩:=hb;obtain⟨n0,n1⟩:=hn;obtain⟨t0,t1⟩:=ht;obtain⟨h,hu,hex,hen,hfn,hcl,hps⟩:=hx;have hR0:=hst.ln;have hst1:stW (b+1) st:=iS hst (by omega)
 have hnn:1≤n∧n≤1000:=⟨n0,n1⟩;have hme:=hst.m;obtain⟨u0,u1⟩:=hu;have b0:0≤b:=by omega
 obtain⟨k0,k1⟩:=u4 hw (2*n+5+2*t+3*x.1+1);unfold hpT;refine aIn (fun h0=>?c0) (fun h0=>aIn (fun h1=>?c1) (fun h1=>aIn (fun h2=>?c2) (fun h2=>aIn (fun h3=>?c3) (fun h3=>aIn (fun h4=>?c4) (fun h4=>aIn (fun h5=>?c5) (fun h5=>aIn (fun h6=>?c6) (fun h6=>aIn (fun h7=>?c7) (fun h7=>aIn (fun h8=>?c8) (fun h8=>aIn (fun h9=>?c9) (fun h9=>?c10))))))))))
 case' c0=>unfold CB w1y
 case' c1=>unfold CC w1y
 case' c2=>unfold CD w1u w1y
 case' c3=>have he:=hex (fY h3);have hE:=aBL hb' he;have hEo:=aBK hb' he;have hA:=hE.a;have hS:stW (b+1) {me:=st.me,sp:=st.sp,R:=st.R++ [(ExO.x (BG t n x.11 s)).1] } :=vO hst hE.p;unfold CE
 case' c4=>have he:=hen (fY h4);have hE:=ON hb' he hst;have hEo:=OM hb' he hst hbb;have hA:=hE.a;have hS:=hE.st;have hme:=hS.m;have hSl:=hS.ln;unfold CF
 case' c5=>obtain⟨hfw,hfq⟩:=hfn (fY h5);have hF:=FK hb' hfw hfq (by omega);have hFo:=FJ hb' hfw hfq (by omega);have hA:=hF.a;have hQ:=hF.q;have hQl:=hQ.ln;have hS:stW (b+1) {me:=st.me,sp:=st.sp,R:=st.R++(aO t n x.fn s).x.ul } :=zJ hst hQ;have hcu:=hQ.cu;unfold CG w1t w1x
 case' c6=>unfold CH w1y
 case' c7=>have hc:=hcl (fY h7);have hC:=yK hb' hc;have hCo:=EX hb' hc;have hA:=hC.a;unfold CI
 case' c8=>have hP:=QM (st:=st) hb' (show Z8 t x.pr from⟨trivial⟩);have hPo:=QL (st:=st) hb' (show Z8 t x.pr from⟨trivial⟩);have hA:=hP.a;have hPs:stW (b+1) (prF t n x.pr st s).st :=(by rw [hP.st];exact hst1);unfold CJ
 case' c9=>have hD:=LW (HPS.p x).1 (HPS.p x).2 (HPS.p x).3 (HPS.p x).4 (HPS.p x).5 (HPS.p x).6 (HPS.p x).7 (HPS.p x).8 (HPS.p x).9 (aA x.6 0 12);have hDo:=LX (HPS.p x).1 (HPS.p x).2 (HPS.p x).3 (HPS.p x).4 (HPS.p x).5 (HPS.p x).6 (HPS.p x).7 (HPS.p x).8 (HPS.p x).9 (aA x.6 0 12);have hS3:stW (b+1) {me:=st.me,sp:=0,R:=st.R} :=RF hst 0;unfold CK w1v w1y
 case c10=>
  simp only [cF,beq_eq_false_iff_ne]at h0 h1 h2 h3 h4 h5 h6 h7 h8 h9;rcases h with e | e | e | e | e | e | e | e | e | e<;>contradiction
 all_goals (repeat' (with_reducible first | exact trivial | rfl | assumption | refine aIr ?_ ?_ | refine Tr.run_ite (fun _=>?_) (fun _=>?_) | refine aIv ?_ | refine And.intro ?_ ?_))
 all_goals first
  | exact bY
  | (simp only [List.length_append,List.length_singleton];done)
  | exact VA _ _ _ _ _ _ _
  | exact pX hnn hme (dL _ _)
  | exact C6 _ _ _ _ _ _ _ hcu
  | exact xP _
  | exact vB _ _ _ _ _ _ _ _ _
  | exact yI _ _ _
  | exact IV _ _ _ _ _
  | (simp only [List.length_append];done)
  | (refine⟨by first | assumption | exact bY,?_,fun hd=>?_⟩
     ·first
       | assumption
       | (dsimp only;rw [QH];assumption)
     ·first
       | exact Bool.noConfusion hd
       | (refine⟨by dsimp only;decide,⟨u0,u1⟩,?_,?_,?_,?_,?_⟩<;>first | (exact nE') | exact hps | exact PZ | (intro _;dsimp only;with_reducible exact aEQ _ _ _ _ _ _ ⟨u0,u1⟩) | (intro _;exact trivial) | (intro _;exact⟨BU (t:=t) (n:=n) hnn hme (dL _ _),eZ (BT (t:=t) (n:=n) hnn hme (dL _ _)) (by dsimp only;omega)⟩) | (intro _;exact hE.w (by assumption)) | (intro _;exact⟨hF.w (by assumption),eZ hQ (by dsimp only;omega)⟩) | (intro _;dsimp only;with_reducible exact EW _ _ _) | exact xQ _ _ _ _ _ _ _ hcu | (intro _;exact hC.w (by assumption))))
theorem PG{t n b:Int}{x:HPS}{st:STS}{s:MS}(hb:Bnd t n s)(hx:XE t n b st x)(hst:stW b st)(hbb:b≤900000):PE t n x st s:=aIC (ZY hb hx hst hbb)
theorem PH{t n b:Int}{x:HPS}{st:STS}{s:MS}(hb:Bnd t n s)(hx:XE t n b st x)(hst:stW b st)(hbb:b≤900000):aFm t n b s (gP t n x st s):=aIx (ZY hb hx hst hbb)
theorem aCq{t n b u no lim:Int}{st:STS}(hu:0≤u∧u≤1000):(K1 t n u no lim st).run (fun r=>XE t n b st r.1∧r.2=st):=by
 unfold K1
 (repeat' (with_reducible first | exact trivial | rfl | assumption | refine aIr ?_ ?_ | refine Tr.run_ite (fun _=>?_) (fun _=>?_) | refine aIv ?_ | refine And.intro ?_ ?_))
 all_goals first
  | exact bY
  | exact⟨by dsimp only;decide,hu,fun e=>absurd e (by dsimp only;decide),fun e=>absurd e (by dsimp only;decide),fun e=>absurd e (by dsimp only;decide),fun e=>absurd e (by dsimp only;decide),PZ⟩
theorem YE{s k y:Int}(h:bU s k y=true):rngU (tskV s k y):=by
 have h:=l9.1 h;unfold tskV;refine⟨?_,?_⟩<;>omega
theorem WL(t n:Int):O7 t n:=⟨⟨rfl,rfl⟩,trivial⟩
theorem aFg(t n:Int):hdW t (aCd t n):=⟨⟨(by decide:(0:Int)≤0),(by decide:(0:Int)≤1000)⟩,⟨(by decide:(-1:Int)≤ -1),(by decide:(-1:Int)≤1000)⟩⟩
theorem UR(t n u:Int):rT t n u:=⟨⟨rfl,rfl⟩,trivial⟩
theorem aEp(t n:Int){u:Int}(hu:0≤u∧u≤1000):drW t (BA t n u):=⟨hu,⟨(by decide:(0:Int)≤0),(by decide:(0:Int)≤2)⟩⟩
theorem TL(t n u:Int):NJ t n u:=⟨⟨rfl,rfl⟩,trivial⟩
theorem aEf(t n:Int){u:Int}(hu:0≤u∧u≤1000):awW t (aAB t n u):=⟨hu⟩
theorem TC(t n u sh kd ky:Int):NI t n u sh kd ky:=⟨trivial,⟨rfl,rfl⟩,trivial⟩
theorem aEc(t n:Int){u:Int}(sh kd ky:Int)(hu:0≤u∧u≤1000):anW t (aAt t n u sh kd ky):=⟨.inl rfl,hu,zH YE DC,DC⟩
theorem W7(t n u no lim:Int)(st:STS):CA t n u no lim st:=by
 unfold CA K1;exact⟨⟨⟨rfl,rfl,rfl⟩,by decide⟩,trivial⟩
theorem ZX{t n b u no lim:Int}{st:STS}(hu:0≤u∧u≤1000):XE t n b st (wI t n u no lim st).1:=(aIx (aCq (b:=b) hu)).1
theorem VO{t n b:Int}(sh kd ky most:Int){st:STS}(hn:1≤n∧n≤1000)(hst:stW b st):uJ t n sh kd ky most st:=aIC (FL hn hst)
theorem aEW{t n b:Int}(sh kd ky most:Int){st:STS}(hn:1≤n∧n≤1000)(hst:stW b st):VU t b st (jU t n sh kd ky most st).1:=(aIx (FL (t:=t) hn hst)).1
theorem OZ{t n b:Int}(sh kd ky most:Int){st:STS}(hn:1≤n∧n≤1000)(hst:stW b st):(jU t n sh kd ky most st).2=st:=(aIx (FL (t:=t) hn hst)).2
structure UO (t n b:Int) (st:STS) (x:DOS):Prop where
 h:x.at'=0∨x.at'=1∨x.at'=2∨x.at'=3∨x.at'=4∨x.at'=5∨x.at'=6∨x.at'=7∨x.at'=8∨x.at'=9
 hd:x.at'=0→hdW t x.hd
 hp:x.at'=1∨x.at'=5→XE t n b st x.hp
 en:x.at'=2→enI t n b x.en
 ft:x.at'=3→VU t b st x.ft
 an:x.at'=4→anW t x.an
 aw:x.at'=6→awW t x.aw
 fn:x.at'=7→VK t x.fn∧MP (b - st.R.length) x.fn
 dr:x.at'=8→drW t x.dr
 sw:x.at'=9→MD t n b x.sw
structure aEn (t n b:Int) (s:MS) (o:DqO):Prop where
 a:Act1 s o.s
 st:stW (b+1) o.st
 w:o.d=false→UO t n (b+1) o.st o.x
theorem ZK{t n b:Int}{x:DOS}{st:STS}{s:MS}(hb:Bnd t n s)(hx:UO t n b st x)(hst:stW b st)(hbb:b≤900000):(dqT t n x st s).run (aEn t n b s):=by
 have hb':=hb;obtain⟨ht,hn,⟨c0,c1⟩,hw⟩:=hb;obtain⟨n0,n1⟩:=hn;obtain⟨t0,t1⟩:=ht;obtain⟨h,xhd,xhp,xen,xft,xan,xaw,xfn,xdr,xsw⟩:=hx;have hR0:=hst.ln;have hst1:stW (b+1) st:=iS hst (by omega)
 have hnn:1≤n∧n≤1000:=⟨n0,n1⟩;have hme:=hst.m;have b0:0≤b:=by omega
 unfold dqT;refine aIn (fun h0=>?c0) (fun h0=>aIn (fun h1=>?c1) (fun h1=>aIn (fun h2=>?c2) (fun h2=>aIn (fun h3=>?c3) (fun h3=>aIn (fun h4=>?c4) (fun h4=>aIn (fun h5=>?c5) (fun h5=>aIn (fun h6=>?c6) (fun h6=>aIn (fun h7=>?c7) (fun h7=>aIn (fun h8=>?c8) (fun h8=>aIn (fun h9=>?c9) (fun h9=>?c10))))))))))
 case' c0=>have hc:=xhd (fY h0);have hC:=aCm hb' hc;have hCo:=aCl hb' hc;have hA:=hC.a;have hS:=hst1;have hSl:=hS.ln;obtain⟨v0,v1⟩:=hC.p;unfold A0 w2d w27 w28
 case' c1=>have hc:=xhp (.inl (fY h1));have hC:=PH hb' hc hst hbb;have hCo:=PG hb' hc hst hbb;have hA:=hC.a;have hS:=hC.st;have hme:=hS.m;have hSl:=hS.ln;unfold A1 w25 w2a w28
 case' c2=>have hc:=xen (fY h2);have hC:=ON hb' hc hst;have hCo:=OM hb' hc hst hbb;have hA:=hC.a;have hS:=hC.st;have hme:=hS.m;have hSl:=hS.ln;unfold A2 w28
 case' c3=>have hc:=xft (fY h3);have hC:=aB2 hb' hc hst hbb;have hCo:=aB1 hb' hc hst hbb;have hA:=hC.a;have hS:=hC.st;have hme:=hS.m;have hSl:=hS.ln;unfold A3 w22 w29 w28
 case' c4=>have hc:=xan (fY h4);have hC:=aAA hb' hc;have hCo:=aAz hb' hc;have hA:=hC.a;have hS:=hst1;have hSl:=hS.ln;unfold A4 w28
 case' c5=>have hc:=xhp (.inr (fY h5));have hC:=PH hb' hc hst hbb;have hCo:=PG hb' hc hst hbb;have hA:=hC.a;have hS:=hC.st;have hme:=hS.m;have hSl:=hS.ln;unfold A5 w2a w28
 case' c6=>have hc:=xaw (fY h6);have hC:=aAJ hb' hc;have hCo:=aAI hb' hc;have hA:=hC.a;have hS:=hst1;have hSl:=hS.ln;unfold A6 w24 w28
 case' c7=>obtain⟨hfw,hfq⟩:=xfn (fY h7);have hF:=FK hb' hfw hfq (by omega);have hFo:=FJ hb' hfw hfq (by omega);have hA:=hF.a;have hQ:=hF.q;have hQl:=hQ.ln;have hS:stW (b+1) {me:=st.me,sp:=st.sp,R:=st.R++(aO t n x.fn s).x.ul } :=zJ hst hQ;unfold A7 w28
 case' c8=>have hc:=xdr (fY h8);have hC:=aBj hb' hc;have hCo:=aBi hb' hc;have hA:=hC.a;have hS:=hst1;unfold A8 w28
 case' c9=>have hc:=xsw (fY h9);have hC:=aDr hb' hc hst;have hCo:=aDq hb' hc hst hbb;have hA:=hC.a;have hS:=hC.st;unfold A9 w28
 case c10=>
  simp only [cF,beq_eq_false_iff_ne]at h0 h1 h2 h3 h4 h5 h6 h7 h8 h9;rcases h with e | e | e | e | e | e | e | e | e | e<;>contradiction
 all_goals (repeat' (with_reducible first | exact trivial | rfl | assumption | refine aIr ?_ ?_ | refine Tr.run_ite (fun _=>?_) (fun _=>?_) | refine aIv ?_ | refine And.intro ?_ ?_))
 all_goals first
  | exact bY
  | (intro _;decide)
  | assumption
  | exact UR _ _ _
  | exact TL _ _ _
  | exact TC _ _ _ _ _ _
  | exact W7 _ _ _ _ _ _
  | exact pX hnn hme (dL _ _)
  | exact VO _ _ _ _ hnn hS
  | (simp only [List.length_append,List.length_singleton];done)
  | (refine⟨by first | assumption | exact bY,by first | assumption | (dsimp only;rw [OZ _ _ _ _ hnn hS];assumption),fun hd=>?_⟩
     first
      | exact Bool.noConfusion hd
      | (refine⟨by dsimp only;decide,?_,?_,?_,?_,?_,?_,?_,?_,?_⟩<;>first | (exact nE') | (intro _;exact hC.w (by assumption)) | (intro _;exact ZX ⟨by first | omega | (simp_all [bX,bG];done) | (simp_all [bX,bG];omega),v1⟩) | (intro _;exact trivial) | (intro _;dsimp only;rw [OZ _ _ _ _ hnn hS];exact aEW _ _ _ _ hnn hS) | (intro _;dsimp only;with_reducible exact aEf _ _ hme) | (intro _;dsimp only;with_reducible exact aEp _ _ hme) | (intro _;dsimp only;with_reducible exact aEc _ _ _ _ _ hme) | (intro _;exact⟨BU (t:=t) (n:=n) hnn hme (dL _ _),eZ (BT (t:=t) (n:=n) hnn hme (dL _ _)) (by dsimp only;omega)⟩) | (intro _;exact ZX hme) | (intro _;exact⟨hF.w (by assumption),eZ hQ (by dsimp only;omega)⟩)))
theorem aBa{t n b:Int}{x:DOS}{st:STS}{s:MS}(hb:Bnd t n s)(hx:UO t n b st x)(hst:stW b st)(hbb:b≤900000):UD t n x st s:=aIC (ZK hb hx hst hbb)
theorem aBb{t n b:Int}{x:DOS}{st:STS}{s:MS}(hb:Bnd t n s)(hx:UO t n b st x)(hst:stW b st)(hbb:b≤900000):aEn t n b s (s7 t n x st s):=aIx (ZK hb hx hst hbb)
theorem aAX{t n b:Int}(sh kd ky lim:Int)(st:STS):(OA t n sh kd ky lim st).run (fun r=>UO t n b st r.1∧r.2=st):=by
 unfold OA
 (repeat' (with_reducible first | exact trivial | rfl | assumption | refine aIr ?_ ?_ | refine Tr.run_ite (fun _=>?_) (fun _=>?_) | refine aIv ?_ | refine And.intro ?_ ?_))
 all_goals first
  | exact bY
  | exact WL _ _
  | (intro _;decide)
  | (refine⟨by dsimp only;decide,fun _=>aFg t n,?_,?_,?_,?_,?_,?_,?_,?_⟩<;>(exact nE'))
structure hstW (e c:Int) (x:HST):Prop where
 he:(x.ev.length:Int)≤e
 hc:(x.cl.length:Int)≤c
 n0:0≤x.n0∧x.n0≤(x.cl.length:Int)
 n1:0≤x.n1∧x.n1≤(x.cl.length:Int)
 n2:0≤x.n2∧x.n2≤(x.cl.length:Int)
 n3:0≤x.n3∧x.n3≤(x.cl.length:Int)
 n4:0≤x.n4∧x.n4≤(x.cl.length:Int)
 n5:0≤x.n5∧x.n5≤(x.cl.length:Int)
 n6:0≤x.n6∧x.n6≤(x.cl.length:Int)
 n7:0≤x.n7∧x.n7≤(x.cl.length:Int)
theorem jJ{e c e' c':Int}{x:HST}(h:hstW e c x)(h1:e≤e')(h2:c≤c'):hstW e' c' x:=⟨Int.le_trans h.he h1,Int.le_trans h.hc h2,h.n0,h.n1,h.n2,h.n3,h.n4,h.n5,h.n6,h.n7⟩
theorem nD{P:Prop}(h:P:=by first | omega | (dsimp only;omega) | (simp only [List.length_append,List.length_singleton,List.length_set,List.length_cons,List.length_nil];done) | (simp only [List.length_append,List.length_singleton,List.length_set,List.length_cons,List.length_nil];omega) | (dsimp only;simp only [List.length_append,List.length_singleton,List.length_set];omega)):P:=h
theorem aFc{e c th:Int}{x:HST}(kd ky:Int)(h:hstW e c x)(he:e≤1000000)(hc:c≤1000000)(h0:0≤th∧th<8):(hbT th x kd ky).run (fun r=>hstW (e+1) (c+1) r.2):=by
 have hh:=h;obtain⟨a,b,m0,m1,m2,m3,m4,m5,m6,m7⟩:=h;unfold hbT;refine aIn (fun q0=>?c0) (fun q0=>aIn (fun q1=>?c1) (fun q1=>aIn (fun q2=>?c2) (fun q2=>aIn (fun q3=>?c3) (fun q3=>aIn (fun q4=>?c4) (fun q4=>aIn (fun q5=>?c5) (fun q5=>aIn (fun q6=>?c6) (fun q6=>aIn (fun q7=>?c7) (fun q7=>?c8))))))))
 case' c0=>unfold HV DW DX
 case' c1=>unfold HW DW DX
 case' c2=>unfold HX DW DX
 case' c3=>unfold HY DW DX
 case' c4=>unfold HZ DW DX
 case' c5=>unfold H0 DW DX
 case' c6=>unfold H1 DW DX
 case' c7=>unfold H2 DW DX
 case c8=>
  have q0:=fC q0;have q1:=fC q1;have q2:=fC q2;have q3:=fC q3;have q4:=fC q4;have q5:=fC q5;have q6:=fC q6;have q7:=fC q7;omega
 all_goals (repeat' (with_reducible first | exact trivial | rfl | assumption | refine aIr ?_ ?_ | refine Tr.run_ite (fun _=>?_) (fun _=>?_) | refine aIv ?_ | refine And.intro ?_ ?_))
 all_goals first
  | exact bY
  | exact jJ hh (by omega) (by omega)
  | exact nD
  | (refine⟨?_,?_,?_,?_,?_,?_,?_,?_,?_,?_⟩<;>exact nD)
theorem ZW{e c th:Int}{x:HST}(code:Int)(okk:Bool)(val:Int)(h:hstW e c x)(he:e≤1000000)(hc:c≤1000000)(h0:0≤th∧th<8):(heT th x code okk val).run (fun r=>hstW (e+1) (c) r.2):=by
 have hh:=h;obtain⟨a,b,m0,m1,m2,m3,m4,m5,m6,m7⟩:=h;unfold heT;refine aIn (fun q0=>?c0) (fun q0=>aIn (fun q1=>?c1) (fun q1=>aIn (fun q2=>?c2) (fun q2=>aIn (fun q3=>?c3) (fun q3=>aIn (fun q4=>?c4) (fun q4=>aIn (fun q5=>?c5) (fun q5=>aIn (fun q6=>?c6) (fun q6=>aIn (fun q7=>?c7) (fun q7=>?c8))))))))
 case' c0=>unfold H3 DY DZ SZ PB;have hW:=cW (x:=x.n0 - 1) ⟨by omega,by omega⟩;change W (x.n0 - 1)=x.n0 - 1 at hW
 case' c1=>unfold H4 DY DZ SZ PB;have hW:=cW (x:=x.n1 - 1) ⟨by omega,by omega⟩;change W (x.n1 - 1)=x.n1 - 1 at hW
 case' c2=>unfold H5 DY DZ SZ PB;have hW:=cW (x:=x.n2 - 1) ⟨by omega,by omega⟩;change W (x.n2 - 1)=x.n2 - 1 at hW
 case' c3=>unfold H6 DY DZ SZ PB;have hW:=cW (x:=x.n3 - 1) ⟨by omega,by omega⟩;change W (x.n3 - 1)=x.n3 - 1 at hW
 case' c4=>unfold H7 DY DZ SZ PB;have hW:=cW (x:=x.n4 - 1) ⟨by omega,by omega⟩;change W (x.n4 - 1)=x.n4 - 1 at hW
 case' c5=>unfold H8 DY DZ SZ PB;have hW:=cW (x:=x.n5 - 1) ⟨by omega,by omega⟩;change W (x.n5 - 1)=x.n5 - 1 at hW
 case' c6=>unfold H9 DY DZ SZ PB;have hW:=cW (x:=x.n6 - 1) ⟨by omega,by omega⟩;change W (x.n6 - 1)=x.n6 - 1 at hW
 case' c7=>unfold IA DY DZ SZ PB;have hW:=cW (x:=x.n7 - 1) ⟨by omega,by omega⟩;change W (x.n7 - 1)=x.n7 - 1 at hW
 case c8=>
  have q0:=fC q0;have q1:=fC q1;have q2:=fC q2;have q3:=fC q3;have q4:=fC q4;have q5:=fC q5;have q6:=fC q6;have q7:=fC q7;omega
 all_goals (repeat' (with_reducible first | exact trivial | rfl | assumption | refine aIr ?_ ?_ | refine Tr.run_ite (fun _=>?_) (fun _=>?_) | refine aIv ?_ | refine And.intro ?_ ?_))
 all_goals first
  | exact bY
  | exact jJ hh (by omega) (by omega)
  | exact nD
  | (rw [hW];simp only [bG,Bool.not_eq_false',dT',Bool.not_eq_true',dF']at*;first | omega | exact nD)
  | (refine⟨?_,?_,?_,?_,?_,?_,?_,?_,?_,?_⟩<;>exact nD)
theorem O0{t b c:Int}{st:STS}{x:FTS}(h:VU t b st x)(hbc:b≤c):VU t c st x:=⟨h.h,fun e=>⟨(h.fn e).1,eZ (h.fn e).2 (by omega)⟩,h.cl,h.ps⟩
theorem BC{t n b c:Int}{e:ENS}(hx:enI t n b e)(hbc:b≤c):enI t n c e:=by
 match e,hx with
 | ⟨0,sh,dn,x,y⟩,hx=>trivial
 | ⟨1,sh,dn,x,y⟩,hx=>exact hx
 | ⟨2,sh,dn,x,y⟩,hx=>trivial
 | ⟨3,sh,dn,x,y⟩,hx=>exact⟨⟨hx.1.1,Int.le_trans hx.1.2 hbc⟩,hx.2⟩
 | ⟨4,sh,dn,x,y⟩,hx=>exact⟨hx.1,hx.2.1,hx.2.2.1,hx.2.2.2.1,hx.2.2.2.2.1,Int.le_trans hx.2.2.2.2.2 hbc⟩
theorem ME{t n b c:Int}{e:SWS}(hx:MD t n b e)(hbc:b≤c):MD t n c e:=by
 match e,hx with
 | ⟨0,N,m,i,ks,fs,gs,j,l⟩,hx=>trivial
 | ⟨1,N,m,i,ks,fs,gs,j,l⟩,hx=>exact⟨⟨hx.1.1,Int.le_trans hx.1.2 hbc⟩,hx.2⟩
 | ⟨2,N,m,i,ks,fs,gs,j,l⟩,hx=>exact⟨hx.1,hx.2.1,hx.2.2.1,hx.2.2.2.1,hx.2.2.2.2.1,Int.le_trans hx.2.2.2.2.2 hbc⟩
theorem PF{t n b c:Int}{st:STS}{x:HPS}(h:XE t n b st x)(hbc:b≤c):XE t n c st x:=⟨h.h,h.u,h.ex,fun e=>BC (h.en e) hbc,fun e=>⟨(h.fn e).1,eZ (h.fn e).2 (by omega)⟩,h.cl,h.ps⟩
theorem OB{t n b c:Int}{st:STS}{x:DOS}(h:UO t n b st x)(hbc:b≤c):UO t n c st x:=⟨h.h,h.hd,fun e=>PF (h.hp e) hbc,fun e=>BC (h.en e) hbc,fun e=>O0 (h.ft e) hbc,h.an,h.aw,fun e=>⟨(h.fn e).1,eZ (h.fn e).2 (by omega)⟩,h.dr,fun e=>ME (h.sw e) hbc⟩
structure Y4 (t n b:Int) (w:WKS):Prop where
 ht:w.t=t
 hn:w.n=n
 st:stW b w.st
 d:w.b=true→UO t n b w.st w.d∧w.en<(w.tk.length:Int)
 e0:0≤w.en
 e1:w.en≤(w.tk.length:Int)
 tl:(w.tl.length:Int)=w.en+(bif w.b then 1 else 0)
 sl:(w.sl.length:Int)≤w.en
 tk:(w.tk.length:Int)≤100000
structure SB (t n b:Int) (w:WK1):Prop where
 ht:w.t=t
 hn:w.n=n
 st:stW b w.st
 d:UO t n b w.st w.d
 e0:0≤w.en
 e1:w.en<(w.tk.length:Int)
 tl:(w.tl.length:Int)=w.en+1
 sl:(w.sl.length:Int)≤w.en
 tk:(w.tk.length:Int)≤100000
theorem SJ{t n b c:Int}{w:WKS}(h:Y4 t n b w)(hbc:b≤c):Y4 t n c w:=⟨h.ht,h.hn,iS h.st hbc,fun e=>⟨OB (h.d e).1 hbc,(h.d e).2⟩,h.e0,h.e1,h.tl,h.sl,h.tk⟩
theorem R7{t n b tr:Int}{w:WKS}(h:Y4 t n b w)(hb:w.b=false)(hl:w.en<(w.tk.length:Int)):(MJ tr w).run (SB t n b):=by
 obtain⟨rfl,rfl,hst,hd,e0,e1,htl,hsl,htk⟩:=h;rw [hb]at htl;have htl:(w.tl.length:Int)=w.en+0:=htl;have hN:=fun sh kd ky lim=>aAX (t:=w.t) (n:=w.n) (b:=b) sh kd ky lim w.st;unfold MJ w2i
 (repeat' (with_reducible first | exact trivial | rfl | assumption | refine aIr ?_ ?_ | refine Tr.run_ite (fun _=>?_) (fun _=>?_) | refine aIv ?_ | refine And.intro ?_ ?_))
 all_goals first
  | exact bY
  | exact aIC (hN _ _ _ _)
  | (simp only [List.length_append,List.length_singleton];done)
  | (refine⟨rfl,rfl,?_,?_,e0,hl,?_,hsl,htk⟩
     ·dsimp only;rw [show(dqNF _ _ _ _ _ _ _).2=w.st from(aIx (hN _ _ _ _)).2];exact hst
     ·dsimp only;rw [show(dqNF _ _ _ _ _ _ _).2=w.st from(aIx (hN _ _ _ _)).2];exact(aIx (hN _ _ _ _)).1
     ·dsimp only;rw [List.length_append,List.length_singleton];omega)
theorem aDD{t n b tr:Int}{w:WKS}(h:Y4 t n b w)(hl:w.en<(w.tk.length:Int)):R8 tr w:=by
 unfold R8;cases hb:w.b with
 | true=>trivial
 | false=>exact aIC (R7 h hb hl)
theorem aDE{t n b tr:Int}{w:WKS}(h:Y4 t n b w)(hl:w.en<(w.tk.length:Int)):SB t n b (wbF tr w):=by
 unfold wbF;cases hb:w.b with
 | true=>
   obtain⟨h1,h2,h3,h4,h5,h6,h7,h8,h9⟩:=h;rw [hb]at h7;exact⟨h1,h2,h3,(h4 hb).1,h5,hl,h7,h8,h9⟩
 | false=>exact aIx (R7 h hb hl)
structure aF8 (t n b:Int) (s:MS) (o:WkO):Prop where
 a:Act1 s o.s
 w:Y4 t n (b+1) o.x
theorem aAk{t n b:Int}{w:WK1}{s:MS}(hb:Bnd t n s)(h:SB t n b w)(hbb:b≤900000):(wsT w s).run (aF8 t n b s):=by
 obtain⟨rfl,rfl,hst,hd,e0,e1,htl,hsl,htk⟩:=h;have hD:=aBb hb hd hst hbb;have hDo:=aBa hb hd hst hbb;have hA:=hD.a;have hW:W (w.en+1)=w.en+1:=cW ⟨by omega,by omega⟩
 unfold wsT w2k w2j
 (repeat' (with_reducible first | exact trivial | rfl | assumption | refine aIr ?_ ?_ | refine Tr.run_ite (fun _=>?_) (fun _=>?_) | refine aIv ?_ | refine And.intro ?_ ?_))
 all_goals first
  | exact bY
  | (simp only [List.length_append,List.length_singleton,List.length_set];done)
  | (refine⟨hA,⟨rfl,rfl,hD.st,?_,?_,?_,?_,?_,htk⟩⟩
     ·first
       | (intro e;exact Bool.noConfusion e)
       | (intro e;exact⟨hD.w (by assumption),e1⟩)
     ·first | exact e0 | (dsimp only;rw [hW];omega)
     ·first | (dsimp only;omega) | (dsimp only;rw [hW];omega)
     ·dsimp only;rw [List.length_set]
      first | (rw [hW];show _=w.en+1+0;omega) | (show _=w.en+1;omega)
     ·dsimp only
      first | (rw [hW];simp only [List.length_append,List.length_singleton];omega) | (rw [hW];omega) | omega)
theorem aDM{t n b:Int}{w:WK1}{s:MS}(hb:Bnd t n s)(h:SB t n b w)(hbb:b≤900000):Y5 w s:=aIC (aAk hb h hbb)
theorem aDN{t n b:Int}{w:WK1}{s:MS}(hb:Bnd t n s)(h:SB t n b w)(hbb:b≤900000):aF8 t n b s (wsF w s):=aIx (aAk hb h hbb)
structure egW (t n:Int) (x:EGS):Prop where
 ht:1≤t∧t≤8
 hn:1≤n∧n≤1000
 st:x.s.t=t
 sn:x.s.n=n
 xt:x.th=t
 xn:x.nd=n
 k:0≤x.k∧x.k≤60000
 c:x.s.c=x.k
 w:XR x.s.xs
 l:(x.ws.length:Int)=t
 ws: ∀i,i<x.ws.length→Y4 t n x.k (bC x.ws i)
 h:hstW (2*x.k) x.k x.h
theorem SE{ws:List WKS}{i j:Nat}{w:WKS}(hi:i<ws.length):bC (dF ws i w) j=if i=j then w else bC ws j:=by
 unfold bC dF;rw [gD',List.getElem?_set,gD']
 by_cases e:i=j
 ·subst e;rw [if_pos rfl,if_pos rfl,if_pos hi];rfl
 ·rw [if_neg e,if_neg e]
theorem x5(ws:List WKS)(i:Nat)(w:WKS):(dF ws i w).length =ws.length:=by unfold dF;exact List.length_set
theorem G7{ws:List WKS}{i:Nat}(hi:i<ws.length):dF ws i (bC ws i)=ws:=by
 unfold dF bC;apply List.ext_getElem
 ·simp
 ·intro j h1 h2;rw [List.getElem_set];split
  ·rename_i e;subst e;rw [gD',gE' hi];rfl
  ·rfl
structure XY (t n:Int) (x:EGS) (r:Bool×EGS):Prop where
 no:r.1=false→r.2=x
 yes:r.1=true→egW t n r.2∧r.2.k=x.k+1∧r.2.sh=x.sh∧r.2.tr=x.tr
 w:egW t n r.2
theorem tB{t n:Int}{x:EGS}(h:egW t n x):XY t n x (false,x):=⟨fun _=>rfl,fun e=>Bool.noConfusion e,h⟩
theorem qC{t n:Int}{x:EGS}{s:MS}{h:HST}{i:Nat}{w:WKS}(hx:egW t n x)(hk:x.k<60000)(hi:i<x.ws.length)(ha:Act1 x.s s)(hw:Y4 t n (x.k+1) w)(hh:hstW (2*(x.k+1)) (x.k+1) h):
 XY t n x (true,{sh:=x.sh,th:=x.th,nd:=x.nd,tr:=x.tr,s:=s,h:=h,ws:=dF x.ws i w,k:=W (x.k+1) }):=by
 obtain⟨ht,hn,st,sn,xt,xn,k,c,wd,l,ws,hst⟩:=hx;have hW:W (x.k+1)=x.k+1:=cW ⟨by omega,by omega⟩
 rw [hW]
 have hr:egW t n {sh:=x.sh,th:=x.th,nd:=x.nd,tr:=x.tr,s:=s,h:=h,ws:=dF x.ws i w,k:=x.k+1} :=by
  refine⟨ht,hn,ha.t.trans st,ha.n.trans sn,xt,xn,?_,?_,ha.w wd,?_,?_,hh⟩
  ·dsimp only;omega
  ·dsimp only;rw [ha.c,c]
  ·dsimp only;rw [x5];exact l
  ·intro j hj;dsimp only at hj⊢;rw [x5]at hj;rw [SE hi];split
   ·exact hw
   ·exact SJ (ws j hj) (by omega)
 exact⟨fun e=>Bool.noConfusion e,fun _=>⟨hr,rfl,rfl,rfl⟩,hr⟩
theorem Z6{t n:Int}{x:EGS}(th:Int)(hx:egW t n x):(pkT th x).run (XY t n x):=by
 have hx':=hx;obtain⟨ht,hn,st,sn,xt,xn,hk,hc,wd,hl,hws,hst⟩:=hx;have hB:Bnd t n x.s:=⟨⟨ht.1,by omega⟩,hn,by omega,wd⟩
 unfold pkT w2n w2o;refine Tr.run_ite (fun e1=>?_) (fun e1=>Tr.run_ite (fun e2=>?_) (fun e2=>?_))
 · (repeat' (with_reducible first | exact trivial | rfl | assumption | refine aIr ?_ ?_ | refine Tr.run_ite (fun _=>?_) (fun _=>?_) | refine aIv ?_ | refine And.intro ?_ ?_));exact tB hx'
 · (repeat' (with_reducible first | exact trivial | rfl | assumption | refine aIr ?_ ?_ | refine Tr.run_ite (fun _=>?_) (fun _=>?_) | refine aIv ?_ | refine And.intro ?_ ?_));exact tB hx'
 rw [bG,dF']at e1;rw [bX,dF']at e2;have hi:0+Int.toNat th*1<x.ws.length:=by omega
 have hw:=hws _ hi;have hself:=G7 hi;generalize hig:0+Int.toNat th*1=i at*;refine aIr ⟨by omega,by omega⟩ (aIr hi (aIr trivial (Tr.run_ite (fun e3=>?_) (fun e3=>Tr.run_ite (fun e4=>?_) (fun e4=>?_)))))
 · (repeat' (with_reducible first | exact trivial | rfl | assumption | refine aIr ?_ ?_ | refine Tr.run_ite (fun _=>?_) (fun _=>?_) | refine aIv ?_ | refine And.intro ?_ ?_))
   all_goals first | assumption | (rw [hself];exact tB hx')
 · (repeat' (with_reducible first | exact trivial | rfl | assumption | refine aIr ?_ ?_ | refine Tr.run_ite (fun _=>?_) (fun _=>?_) | refine aIv ?_ | refine And.intro ?_ ?_))
   all_goals first | assumption | (rw [hself];exact tB hx')
 rw [bX,dF']at e4
 have hen:(bC x.ws i).en <((bC x.ws i).tk.length :Int):=by
  have h0:=hw.e0;have h1:=hw.e1;have h2:=hw.tk;have h3:=fC e3;have hW:=cW (x:=((bC x.ws i).tk.length :Int) - (bC x.ws i).en) ⟨by omega,by omega⟩
  have h4:W (((bC x.ws i).tk.length :Int) - (bC x.ws i).en)≠0:=h3;have hW:W (((bC x.ws i).tk.length :Int) - (bC x.ws i).en)=((bC x.ws i).tk.length :Int) - (bC x.ws i).en :=hW;rw [hW]at h4;omega
 have h1w:=aDE (tr:=x.tr) hw hen;have h1o:=aDD (tr:=x.tr) hw hen;refine aIr h1o ?_;have hS:=aDN hB h1w (by omega)
 have hSo:=aDM hB h1w (by omega)
 generalize wbF x.tr (bC x.ws i)=w1 at*;generalize hsg:wsF w1 x.s=o at*;have hth:0≤th∧th<8:=by omega
 refine Tr.run_ite (fun e5=>?_) (fun e5=>?_)
 ·have hH:=aFc (th:=th) (kd:=(WK1.d w1).6) (ky:=(WK1.d w1).7) hst (by omega) (by omega) hth
  have hHo:hbOk th x.h (WK1.d w1).6 (WK1.d w1).7:=aIC hH;have hHv:hstW (2*x.k+1) (x.k+1) (hbF th x.h (WK1.d w1).6 (WK1.d w1).7).2:=aIx hH;generalize hbF th x.h (WK1.d w1).6 (WK1.d w1).7=y at*;have hE:=ZW (th:=th) (code:=o.1) (okk:=o.2) (val:=o.3) hHv (by omega) (by omega) hth
  have hEo:heOk th y.2 o.1 o.2 o.3:=aIC hE;have hEv:hstW (2*x.k+1+1) (x.k+1) (heF th y.2 o.1 o.2 o.3).2:=aIx hE
  (repeat' (with_reducible first | exact trivial | rfl | assumption | refine aIr ?_ ?_ | refine Tr.run_ite (fun _=>?_) (fun _=>?_) | refine aIv ?_ | refine And.intro ?_ ?_))
  all_goals first
   | assumption
   | exact qC hx' (by omega) hi hS.a hS.w (jJ hEv (by omega) (by omega))
   | exact qC hx' (by omega) hi hS.a hS.w (jJ hHv (by omega) (by omega))
 ·have hE:=ZW (th:=th) (code:=o.1) (okk:=o.2) (val:=o.3) hst (by omega) (by omega) hth
  have hEo:heOk th x.h o.1 o.2 o.3:=aIC hE;have hEv:hstW (2*x.k+1) x.k (heF th x.h o.1 o.2 o.3).2:=aIx hE
  (repeat' (with_reducible first | exact trivial | rfl | assumption | refine aIr ?_ ?_ | refine Tr.run_ite (fun _=>?_) (fun _=>?_) | refine aIv ?_ | refine And.intro ?_ ?_))
  all_goals first
   | assumption
   | exact qC hx' (by omega) hi hS.a hS.w (jJ hEv (by omega) (by omega))
   | exact qC hx' (by omega) hi hS.a hS.w (jJ hst (by omega) (by omega))
theorem P7{t n:Int}{x:EGS}(th:Int)(hx:egW t n x):XX th x:=aIC (Z6 th hx)
theorem y9{t n:Int}{x:EGS}(th:Int)(hx:egW t n x):XY t n x (pkF th x):=aIx (Z6 th hx)
structure rowOk (row:Nat→List AVal):Prop where
 h: ∃th tm:Nat→Int,row=fun i=>[.int .i64 (th i),.int .i64 (tm i)]
structure aEI (x:EGS):Prop where
 h: ∃t n:Int,egW t n x
noncomputable def EUa:=EU9
noncomputable def EUb:=EUa
theorem dW{a b:Int}(h:ilt a b=true):a<b:=by rw [bG]at h;exact of_decide_eq_true h
theorem dV{a b:Int}(h:ilt a b=false): ¬a<b:=by rw [bG]at h;exact of_decide_eq_false h
noncomputable def EUc:=EUb
abbrev XV(m:Nat)(ln:Nat→Nat)(f g:Nat→Nat→Int):AVal:=.view m 1 (fun i=>[.view (ln i) 2 (fun j=>[.I (f i j),.I (g i j)])])
structure er1 (m:Nat) (ln:Nat→Nat) (x:Nat):Prop where
 hi:x≤m
 hl: ∀j,j<x→ln j≤40
structure er2 (sh:Int) (m:Nat) (ln:Nat→Nat) (f g:Nat→Nat→Int) (x:Nat):Prop where
 hi:x≤m
 hl: ∀j,j<x→eR sh (ln j) (f j) (g j)=true
structure er3 (sh:Int) (m:Nat) (ln:Nat→Nat) (f g:Nat→Nat→Int) (i0:Int) (x:Nat×Nat):Prop where
 hi:x.1<m
 h0:(x.1:Int)=i0
 hk:x.2≤ln x.1
 hl: ∀j,j<x.1→eR sh (ln j) (f j) (g j)=true
 hr: ∀j,j<x.2→bU sh (f x.1 j) (g x.1 j)=true
def S0(sh th nd tr:Int)(m:Nat)(ln:Nat→Nat)(f g:Nat→Nat→Int):Hint Ob:= {X:=Nat,st:=fun x=>([.I sh,.I th,.I nd,.I tr,XV m ln f g,.O,.O,.O,.O,.O,.O,.I (x:Int)]++List.replicate 71 .O,[]),ok:=er1 m ln,mu:=fun x=>m - x,keep:=[0,1,2,3,4,11] }
def S1(sh th nd tr:Int)(m:Nat)(ln:Nat→Nat)(f g:Nat→Nat→Int):Hint Ob:= {X:=Nat,st:=fun x=>([.I sh,.O,.O,.O,XV m ln f g,.O,.O,.O,.O,.O,.O,.O,.I (x:Int)]++List.replicate 70 .O,[]),ok:=er2 sh m ln f g,mu:=fun x=>m - x,keep:=[0,4,12] }
def S2(sh th nd tr:Int)(m:Nat)(ln:Nat→Nat)(f g:Nat→Nat→Int)(i0:Int):Hint Ob:= {X:=Nat×Nat,st:=fun x=>([.I sh,.O,.O,.O,XV m ln f g,.O,.O,.O,.O,.O,.O,.O,.I (x.1:Int),.I (x.2:Int)]++List.replicate 69 .O,[]),ok:=er3 sh m ln f g i0,mu:=fun x=>ln x.1 - x.2,keep:=[0,4,12,13] }
def LER(sh th nd tr:Int)(m:Nat)(ln:Nat→Nat)(f g:Nat→Nat→Int):FuncId→Nat→Option (lE Ob):=fun _ k=>match k with
 | 8=>some (.states (S0 sh th nd tr m ln f g))
 | 13=>some (.states (S1 sh th nd tr m ln f g))
 | 16=>some (.statesAt 12 (S2 sh th nd tr m ln f g))
 | _=>none
def U5(sh th nd tr:Int)(m:Nat)(ln:Nat→Nat)(f g:Nat→Nat→Int)(K:AVal→aC Ob→Prop):Prop:=bif ilt sh 1 then K (.I 1) []else bif ilt 4 sh then K (.I 1) []else bif ilt th 1 then K (.I 2) []else bif ilt 8 th then K (.I 2) []else bif ilt nd 1 then K (.I 2) []else bif ilt 200 nd then K (.I 2) []else bif ilt tr 0 then K (.I 2) []else bif ilt 50 tr then K (.I 2) []else bif ilt th (↑m:Int)then K (.I 6) []else cN (S0 sh th nd tr m ln f g) (Hint.ok (S0 sh th nd tr m ln f g)) (.I sh::.I th::.I nd::.I tr::(.view m 1 fun i=>[.view (ln i) 2 fun j=>[.I (f i j),.I (g i j)]])::.O::.O::.O::.O::.O::.O::.I 0::(tO' 71 [])) []∧ ∀(x:Nat),er1 m ln x→bif ilt (↑x:Int) (↑m:Int)then((0:Int)≤(↑x:Int)∧(↑x:Int)<(↑m:Int))∧bif ilt 40 (↑(ln (Int.toNat (↑x:Int))):Int)then K (.I 6) []else cN (S0 sh th nd tr m ln f g) (fun x'=>Hint.ok (S0 sh th nd tr m ln f g) x'∧Hint.mu (S0 sh th nd tr m ln f g) x'<Hint.mu (S0 sh th nd tr m ln f g) x) (.I sh::.I th::.I nd::.I tr::(.view m 1 fun i=>[.view (ln i) 2 fun j=>[.I (f i j),.I (g i j)]])::.O::.O::.O::.O::.O::.O::.I (W ((↑x:Int)+1))::(tO' 71 [])) []else cN (S1 sh th nd tr m ln f g) (Hint.ok (S1 sh th nd tr m ln f g)) (.I sh::.O::.O::.O::(.view m 1 fun i=>[.view (ln i) 2 fun j=>[.I (f i j),.I (g i j)]])::.O::.O::.O::.O::.O::.O::.O::.I 0::(tO' 70 [])) []∧ ∀(x:Nat),er2 sh m ln f g x→bif ilt (↑x:Int) (↑m:Int)then cN (S2 sh th nd tr m ln f g (↑x:Int)) (Hint.ok (S2 sh th nd tr m ln f g (↑x:Int))) (.I sh::.O::.O::.O::(.view m 1 fun i=>[.view (ln i) 2 fun j=>[.I (f i j),.I (g i j)]])::.O::.O::.O::.O::.O::.O::.O::.I (↑x:Int)::.I 0::(tO' 69 [])) []∧ ∀(x_1:(Nat×Nat)),er3 sh m ln f g (↑x:Int) x_1→((0:Int)≤(↑x_1.1:Int)∧(↑x_1.1:Int)<(↑m:Int))∧bif ilt (↑x_1.2:Int) (↑(ln (Int.toNat (↑x_1.1:Int))):Int)then((0:Int)≤(↑x_1.1:Int)∧(↑x_1.1:Int)<(↑m:Int))∧((0:Int)≤(↑x_1.2:Int)∧(↑x_1.2:Int)<(↑(ln (Int.toNat (↑x_1.1:Int))):Int))∧True∧bif !bU sh (f (Int.toNat (↑x_1.1:Int)) (Int.toNat (↑x_1.2:Int))) (g (Int.toNat (↑x_1.1:Int)) (Int.toNat (↑x_1.2:Int)))then K (.I 1) []else cN (S2 sh th nd tr m ln f g (↑x:Int)) (fun x'=>Hint.ok (S2 sh th nd tr m ln f g (↑x:Int)) x'∧Hint.mu (S2 sh th nd tr m ln f g (↑x:Int)) x'<Hint.mu (S2 sh th nd tr m ln f g (↑x:Int)) x_1) (.I sh::.O::.O::.O::(.view m 1 fun i=>[.view (ln i) 2 fun j=>[.I (f i j),.I (g i j)]])::.O::.O::.O::.O::.O::.O::.O::.I (↑x_1.1:Int)::.I (W ((↑x_1.2:Int)+1))::(tO' 69 [])) []else cN (S1 sh th nd tr m ln f g) (fun x'=>Hint.ok (S1 sh th nd tr m ln f g) x'∧Hint.mu (S1 sh th nd tr m ln f g) x'<Hint.mu (S1 sh th nd tr m ln f g) x) (.I sh::.O::.O::.O::(.view m 1 fun i=>[.view (ln i) 2 fun j=>[.I (f i j),.I (g i j)]])::.O::.O::.O::.O::.O::.O::.O::.I (W ((↑x_1.1:Int)+1))::(tO' 70 [])) []else K (.I 0) []
set_option maxRecDepth 100000 in
theorem OQ(sh th nd tr:Int)(m:Nat)(ln:Nat→Nat)(f g:Nat→Nat→Int)(K:AVal→aC Ob→Prop)(h:U5 sh th nd tr m ln f g K):cT' 78 [.I sh,.I th,.I nd,.I tr,XV m ln f g] [] (f9 0 K):=by
 exact aD (E:=EUc) Tryz.checked.mixed (L:=LER sh th nd tr m ln f g) (n:=10) (aK (by kernel_rfl) h)
theorem ZR{sh th nd tr:Int}{m:Nat}{ln:Nat→Nat}{f g:Nat→Nat→Int}(h:gnC sh th nd tr m ln f g=0):wrE sh th nd tr=0:=by
 unfold gnC at h;cases h1:ieq (wrE sh th nd tr) 0 with
 | true=>exact fY h1
 | false=>rw [h1]at h;exact h
theorem aB5{sh th nd tr:Int}{m:Nat}{ln:Nat→Nat}{f g:Nat→Nat→Int}(h:gnC sh th nd tr m ln f g=0):lgB th m ln=false:=by
 have h0:=ZR h;unfold gnC at h;rw [h0]at h;cases e:lgB th m ln with
 | false=>rfl
 | true=>rw [e]at h;exact absurd (show(6:Int)=0 from h) (by decide)
theorem aB6{sh th nd tr:Int}{m:Nat}{ln:Nat→Nat}{f g:Nat→Nat→Int}(h:gnC sh th nd tr m ln f g=0){i:Nat}(hi:i<m):ln i≤40:=by
 have h1:=aB5 h;unfold lgB at h1;rw [Bool.or_eq_false_iff]at h1;have h2:=List.any_eq_false.1 h1.1 i (List.mem_range.2 hi)
 simpa using h2
theorem LP(k:Nat):XR (List.replicate k 0):=by
 refine⟨fun x hx=>?_⟩;rw [List.eq_of_mem_replicate hx];exact⟨by decide,by decide⟩
theorem Y2{sh th nd tr:Int}{m:Nat}{ln:Nat→Nat}{f g:Nat→Nat→Int}(h:gnC sh th nd tr m ln f g=0){j:Nat}(hj:(j:Int)<th)(hth:th≤8):Y4 th nd 0 (gO sh th nd m ln f g j):=by
 have hl:((bif ilt (j:Int) (m:Int)then ofR sh (ln j) (f j) (g j)else []).length :Int)≤40:=by
  cases e:ilt (j:Int) (m:Int)with
  | false=>exact(by decide:((0:Nat):Int)≤40)
  | true=>
    rw [bG,dT']at e;have h1:=aB6 h (i:=j) (by omega)
    show((ofR sh (ln j) (f j) (g j)).length :Int)≤40;unfold ofR;cases eR sh (ln j) (f j) (g j)with
    | false=>exact(by decide:((0:Nat):Int)≤40)
    | true=>show((kC sh (ln j) (f j) (g j)).length :Int)≤40;rw [pI];omega
 unfold gO;generalize (bif ilt (j:Int) (m:Int)then ofR sh (ln j) (f j) (g j)else [])=tk at hl⊢;exact⟨rfl,rfl,⟨⟨by show(0:Int)≤(j:Int);omega,by show(j:Int)≤1000;omega⟩,rH,(by decide:((0:Nat):Int)≤0)⟩,fun e=>Bool.noConfusion e,(by decide:(0:Int)≤0),by show(0:Int)≤(tk.length:Int);omega,rfl,(by decide:((0:Nat):Int)≤0),by show(tk.length:Int)≤100000;omega⟩
theorem UW{sh th nd tr:Int}{m:Nat}{ln:Nat→Nat}{f g:Nat→Nat→Int}(h:gnC sh th nd tr m ln f g=0):egW th nd (eY sh th nd tr m ln f g):=by
 have h0:=ZR h;obtain⟨_,_,⟨t0,t1,n0,n1⟩,_⟩:=SL (by rw [cF,h0];rfl)
 refine⟨⟨t0,t1⟩,⟨n0,by omega⟩,rfl,rfl,rfl,rfl,⟨(by decide:(0:Int)≤0),(by decide:(0:Int)≤60000)⟩,rfl,LP _,?_,?_,?_⟩
 ·show(((List.range th.toNat).map _).length :Int)=th;rw [List.length_map,List.length_range];omega
 ·intro i hi;have hi:i<((List.range th.toNat).map (gO sh th nd m ln f g)).length :=hi;rw [List.length_map,List.length_range]at hi
  have e:bC (eY sh th nd tr m ln f g).ws i=gO sh th nd m ln f g i:=by
   show bC ((List.range th.toNat).map (gO sh th nd m ln f g)) i=_;unfold bC;rw [gD',List.getElem?_map,List.getElem?_range hi];rfl
  rw [e];exact Y2 h (by omega) t1
 ·refine⟨(by decide:((0:Nat):Int)≤2*0),(by decide:((0:Nat):Int)≤0),?_,?_,?_,?_,?_,?_,?_,?_⟩<;>exact⟨(by decide:(0:Int)≤0),(by decide:(0:Int)≤((0:Nat):Int))⟩
theorem kK{sh th nd tr:Int}{m:Nat}{ln:Nat→Nat}{f g:Nat→Nat→Int}{c:Int}(h:wrE sh th nd tr=c)(h0:ieq c 0=false):gnC sh th nd tr m ln f g=c:=by
 unfold gnC;rw [h,h0];rfl
theorem ZS{sh th nd tr:Int}{m:Nat}{ln:Nat→Nat}{f g:Nat→Nat→Int}(h:wrE sh th nd tr=0)(hl:lgB th m ln=true):gnC sh th nd tr m ln f g=6:=by
 unfold gnC;rw [h,hl];rfl
theorem aEZ{sh th nd tr:Int}{m:Nat}{ln:Nat→Nat}{f g:Nat→Nat→Int}(h:wrE sh th nd tr=0)(hl:lgB th m ln=false)(ha: ∃i k,i<m∧k<ln i∧bU sh (f i k) (g i k)=false):gnC sh th nd tr m ln f g=1:=by
 have:((List.range m).all fun j=>eR sh (ln j) (f j) (g j))=false:=by
  obtain⟨i,k,hi,hk,hr⟩:=ha;rw [List.all_eq_false];refine⟨i,List.mem_range.2 hi,?_⟩;intro e;rw [oA.1 e k hk]at hr;cases hr
 unfold gnC;rw [h,hl,this];rfl
theorem aB7{sh th nd tr:Int}{m:Nat}{ln:Nat→Nat}{f g:Nat→Nat→Int}(h:wrE sh th nd tr=0)(hl:lgB th m ln=false)(ha: ∀i,i<m→eR sh (ln i) (f i) (g i)=true):gnC sh th nd tr m ln f g=0:=by
 have:((List.range m).all fun j=>eR sh (ln j) (f j) (g j))=true:=by
  rw [List.all_eq_true];intro i hi;exact ha i (List.mem_range.1 hi)
 unfold gnC;rw [h,hl,this];rfl
theorem qH{t n:Int}(h:t<1∨8<t∨n<1∨200<n):eH t n=false:=by
 cases e:eH t n with
 | false=>rfl
 | true=>have:=sJ.1 e;omega
theorem IH{a b:Int}(h:a<b):ilt a b=true:=by rw [bG];exact decide_eq_true h
theorem sH{a b:Int}(h: ¬a<b):ilt a b=false:=by rw [bG];exact decide_eq_false h
theorem W1{i:Nat}{m:Nat}(hi:i<m)(hm:m≤1000000):W ((i:Int)+1)=((i+1:Nat):Int):=by
 have:=cW (x:=(i:Int)+1) ⟨by omega,by omega⟩
 exact this.trans (by omega)
set_option maxRecDepth 10000 in
theorem aEO(sh th nd tr:Int)(m:Nat)(ln:Nat→Nat)(f g:Nat→Nat→Int)(K:AVal→aC Ob→Prop)(hm:m≤1000000)(hK:K (.I (gnC sh th nd tr m ln f g)) []):U5 sh th nd tr m ln f g K:=by
 have key: ∀c,gnC sh th nd tr m ln f g=c→K (.I c) []:=fun c e=>by rw [←e];exact hK
 have w1:(sh<1∨4<sh)→wrE sh th nd tr=1:=by
  intro h;unfold wrE
  by_cases h1:sh<1
  ·rw [IH h1];rfl
  ·rw [sH h1,IH (show 4<sh by omega)];rfl
 have w2: ¬(sh<1∨4<sh)→(eH th nd=false∨tr<0∨50<tr)→wrE sh th nd tr=2:=by
  intro h h2;unfold wrE;rw [sH (show¬sh<1 by omega),sH (show¬4<sh by omega)]
  cases e:eH th nd with
  | false=>rfl
  | true=>
    rw [e]at h2
    by_cases h3:tr<0
    ·rw [IH h3];rfl
    ·rw [sH h3,IH (show 50<tr by rcases h2 with h2 | h2 | h2<;>first | (exact Bool.noConfusion h2) | omega)];rfl
 unfold U5;refine aR (fun e1=>key 1 (kK (w1 (.inl (dW e1))) rfl)) (fun e1=>?_);refine aR (fun e2=>key 1 (kK (w1 (.inr (dW e2))) rfl)) (fun e2=>?_);have e1:=dV e1;have e2:=dV e2;have hs: ¬(sh<1∨4<sh):=by omega
 refine aR (fun e3=>key 2 (kK (w2 hs (.inl (qH (.inl (dW e3))))) rfl)) (fun e3=>?_);refine aR (fun e4=>key 2 (kK (w2 hs (.inl (qH (.inr (.inl (dW e4)))))) rfl)) (fun e4=>?_);refine aR (fun e5=>key 2 (kK (w2 hs (.inl (qH (.inr (.inr (.inl (dW e5))))))) rfl)) (fun e5=>?_);refine aR (fun e6=>key 2 (kK (w2 hs (.inl (qH (.inr (.inr (.inr (dW e6))))))) rfl)) (fun e6=>?_);refine aR (fun e7=>key 2 (kK (w2 hs (.inr (.inl (dW e7)))) rfl)) (fun e7=>?_);refine aR (fun e8=>key 2 (kK (w2 hs (.inr (.inr (dW e8)))) rfl)) (fun e8=>?_);have e3:=dV e3;have e4:=dV e4;have e5:=dV e5;have e6:=dV e6;have e7:=dV e7;have e8:=dV e8;have hr:eH th nd=true:=sJ.2 ⟨by omega,by omega,by omega,by omega⟩
 have hw:wrE sh th nd tr=0:=by
  unfold wrE;rw [sH e1,sH e2,hr,sH e7,sH e8];rfl
 refine aR (fun e9=>key 6 (ZS hw (IJ (.inr (dW e9))))) (fun e9=>?_);have e9:=dV e9;refine⟨aN (H:=S0 sh th nd tr m ln f g) (0:Nat) rfl ⟨Nat.zero_le _,fun j hj=>absurd hj (Nat.not_lt_zero _)⟩,?_⟩;rintro x ⟨hx,hxl⟩;refine aR (fun a1=>?_) (fun a1=>?_)
 ·have a1:=dW a1;have hxm:x<m:=by omega
  rw [Int.toNat_natCast];refine⟨⟨by omega,by omega⟩,aR (fun a2=>key 6 (ZS hw (IJ (.inl ⟨x,hxm,by have:=dW a2;omega⟩)))) (fun a2=>?_)⟩
  have a2:=dV a2;rw [W1 hxm hm];refine aN (H:=S0 sh th nd tr m ln f g) (x+1:Nat) rfl ⟨⟨hxm,fun j hj=>?_⟩,by show m - (x+1)<m - x;omega⟩
  by_cases e:j=x
  ·subst e;omega
  ·exact hxl j (by omega)
 ·have a1:=dV a1;have hxm:x=m:=by omega
  subst hxm;have hlg:lgB th x ln=false:=PS.2 ⟨hxl,by omega⟩
  refine⟨aN (H:=S1 sh th nd tr x ln f g) (0:Nat) rfl ⟨Nat.zero_le _,fun j hj=>absurd hj (Nat.not_lt_zero _)⟩,?_⟩;rintro i ⟨hi,hil⟩;refine aR (fun b1=>?_) (fun b1=>?_)
  ·have b1:=dW b1;have him:i<x:=by omega
   refine⟨aN (H:=S2 sh th nd tr x ln f g (i:Int)) (i,(0:Nat)) rfl ⟨him,rfl,Nat.zero_le _,hil,fun j hj=>absurd hj (Nat.not_lt_zero _)⟩,?_⟩;rintro⟨i2,k⟩ ⟨ci,c0,ck,cl,cr⟩;dsimp only at ci c0 ck cl cr⊢;have c0:i2=i:=by omega
   subst c0;rw [Int.toNat_natCast,Int.toNat_natCast];have hln:=hxl i2 ci;refine⟨⟨by omega,by omega⟩,aR (fun d1=>?_) (fun d1=>?_)⟩
   ·have d1:=dW d1;refine⟨⟨by omega,by omega⟩,⟨by omega,by omega⟩,trivial,aR (fun d2=>key 1 (aEZ hw hlg ⟨i2,k,ci,by omega,by simpa using d2⟩)) (fun d2=>?_)⟩
    rw [W1 (show k<ln i2 by omega) (by omega)]
    refine aN (H:=S2 sh th nd tr x ln f g (i2:Int)) (i2,(k+1:Nat)) rfl ⟨⟨ci,rfl,by dsimp only;omega,cl,fun j hj=>?_⟩,by show ln i2 - (k+1)<ln i2 - k;omega⟩
    dsimp only at hj⊢
    by_cases e:j=k
    ·subst e;simpa using d2
    ·exact cr j (by omega)
   ·have d1:=dV d1;rw [W1 ci hm];refine aN (H:=S1 sh th nd tr x ln f g) (i2+1:Nat) rfl ⟨⟨ci,fun j hj=>?_⟩,by show x - (i2+1)<x - i2;omega⟩
    by_cases e:j=i2
    ·subst e;exact oA.2 (fun q hq=>cr q (by omega))
    ·exact cl j (by omega)
  ·have b1:=dV b1;have him:i=x:=by omega
   subst him;exact key 0 (aB7 hw hlg hil)
def erS:aH Ob:=fun args h=>match args,h with
 | [.int .i64 sh,.int .i64 th,.int .i64 nd,.int .i64 tr,.view m 1 vr],[]=>some (.pre (m≤1000000∧pF vr) (.ret (.I (gnC sh th nd tr m (vL vr) (vK vr) (vY vr))) []))
 | _,_=>none
theorem HO:sT' 78 erS:=by
 intro args h o ho K hK;unfold erS at ho;split at ho<;>cases ho
 rename_i sh th nd tr m vr;obtain⟨⟨hm,⟨hr⟩⟩,hK⟩:=hK;rw [hr];exact aIl (OQ sh th nd tr m (vL vr) (vK vr) (vY vr) K (aEO sh th nd tr m (vL vr) (vK vr) (vY vr) K hm hK))
noncomputable def EUd:=EUc.addS 78 erS HO
def aC6:bF Ob:=fun args h=>match args,h with
 | [.ptr 0 0,.int .i64 th],[some (.abs (.engine x) [])]=>some (True,.I (cY th x))
 | _,_=>none
theorem YC:sT' 33 aC6.spec:=by
 intro args h o ho K hK;unfold bF.spec at ho;split at ho
 case h_2=>cases ho
 rename_i hv;unfold aC6 at hv;split at hv
 case h_2=>cases hv
 simp only [sI',pI']at hv;obtain⟨rfl,rfl⟩:=hv;simp only [sI']at ho;subst ho;exact QU _ _ _ rfl K hK
def aBD:bF Ob:=fun args h=>match args,h with
 | [.ptr 0 0],[some (.abs (.engine x) [])]=>some (True,.I x.k)
 | _,_=>none
theorem U6:sT' 34 aBD.spec:=by
 intro args h o ho K hK;unfold bF.spec at ho;split at ho
 case h_2=>cases ho
 rename_i hv;unfold aBD at hv;split at hv
 case h_2=>cases hv
 simp only [sI',pI']at hv;obtain⟨rfl,rfl⟩:=hv;simp only [sI']at ho;subst ho;exact OR _ _ _ rfl K hK
def aBp:bF Ob:=fun args h=>match args,h with
 | [.ptr 0 0],[some (.abs (.engine x) [])]=>some (True,.agg [.I x.s.t,.I x.s.n])
 | _,_=>none
theorem UZ:sT' 38 aBp.spec:=by
 intro args h o ho K hK;unfold bF.spec at ho;split at ho
 case h_2=>cases ho
 rename_i hv;unfold aBp at hv;split at hv
 case h_2=>cases hv
 simp only [sI',pI']at hv;obtain⟨rfl,rfl⟩:=hv;simp only [sI']at ho;subst ho;exact OL _ _ _ rfl K hK
def aBA:bF Ob:=fun args h=>match args,h with
 | [.ptr 0 0,.int .i64 a],[some (.abs (.engine x) [])]=>some (True,.int .u64 (aE x.s.xs a))
 | _,_=>none
theorem U4:sT' 37 aBA.spec:=by
 intro args h o ho K hK;unfold bF.spec at ho;split at ho
 case h_2=>cases ho
 rename_i hv;unfold aBA at hv;split at hv
 case h_2=>cases hv
 simp only [sI',pI']at hv;obtain⟨rfl,rfl⟩:=hv;simp only [sI']at ho;subst ho;exact OP _ _ _ rfl K hK
def aDc:cV Ob:=fun args h=>match args,h with
 | [.ptr 0 0,.int .i64 th],[some (.abs (.engine x) [])]=>some (iY x,.slice 1 0 (gM th x).length 1,[.ints (some .i64) (gM th x)])
 | _,_=>none
theorem YG:sT' 32 aDc.spec:=by
 intro args h o ho K hK;unfold cV.spec at ho;split at ho
 case h_2=>cases ho
 rename_i hv;unfold aDc at hv;split at hv
 case h_2=>cases hv
 simp only [sI',pI']at hv;obtain⟨rfl,rfl,rfl⟩:=hv;simp only [sI']at ho;subst ho;exact Q0 _ _ _ rfl K hK
def aDb:cV Ob:=fun args h=>match args,h with
 | [.ptr 0 0,.int .i64 th],[some (.abs (.engine x) [])]=>some (iY x,.slice 1 0 (gJ th x).length 1,[.ints (some .i64) (gJ th x)])
 | _,_=>none
theorem YF:sT' 35 aDb.spec:=by
 intro args h o ho K hK;unfold cV.spec at ho;split at ho
 case h_2=>cases ho
 rename_i hv;unfold aDb at hv;split at hv
 case h_2=>cases hv
 simp only [sI',pI']at hv;obtain⟨rfl,rfl,rfl⟩:=hv;simp only [sI']at ho;subst ho;exact QZ _ _ _ rfl K hK
def aC5:cV Ob:=fun args h=>match args,h with
 | [.ptr 0 0,.int .i64 th],[some (.abs (.engine x) [])]=>some (iY x,.slice 1 0 (gB th x).length 1,[.ints (some .i64) (gB th x)])
 | _,_=>none
theorem YB:sT' 69 aC5.spec:=by
 intro args h o ho K hK;unfold cV.spec at ho;split at ho
 case h_2=>cases ho
 rename_i hv;unfold aC5 at hv;split at hv
 case h_2=>cases hv
 simp only [sI',pI']at hv;obtain⟨rfl,rfl,rfl⟩:=hv;simp only [sI']at ho;subst ho;exact QS _ _ _ rfl K hK
def aBn:cV Ob:=fun args h=>match args,h with
 | [.ptr 0 0],[some (.abs (.engine x) [])]=>some (x.h.ev.length≤4294967296∧x.h.cl.length≤4294967296,.ptr 1 0,[.abs (.hist x.h) []])
 | _,_=>none
theorem UX:sT' 28 aBn.spec:=by
 intro args h o ho K hK;unfold cV.spec at ho;split at ho
 case h_2=>cases ho
 rename_i hv;unfold aBn at hv;split at hv
 case h_2=>cases hv
 simp only [sI',pI']at hv;obtain⟨rfl,rfl,rfl⟩:=hv;simp only [sI']at ho;subst ho;exact OH _ _ _ rfl K hK
def aBo:cV Ob:=fun args h=>match args,h with
 | [.ptr 0 0],[some (.abs (.engine x) [])]=>some (0≤x.s.n∧x.s.n≤100000,.slice 1 0 (dZ x).length 1,[.ints (some .i64) (dZ x)])
 | _,_=>none
theorem UY:sT' 55 aBo.spec:=by
 intro args h o ho K hK;unfold cV.spec at ho;split at ho
 case h_2=>cases ho
 rename_i hv;unfold aBo at hv;split at hv
 case h_2=>cases hv
 simp only [sI',pI']at hv;obtain⟨rfl,rfl,rfl⟩:=hv;simp only [sI']at ho;subst ho;exact OJ _ _ _ rfl K hK
noncomputable def EUe0:=((((((((((EUd.addR 33 aC6 YC).addR 34 aBD U6).addR 38 aBp UZ).addR 37 aBA U4)).addN 32 aDc YG).addN 35 aDb YF).addN 69 aC5 YB).addN 28 aBn UX).addN 55 aBo UY)
theorem F6(t:TypeId)(l off:Nat)(h:aC Ob)(v:AVal)(q:Option Prop)(hk:(uZ tbl Tryz.prog t l off h).map (·,none)=some (v,q))(_:onp q)(V:Val)(hR:PHeap)(w:World)(b k:Nat)(hi:Inv (obI tbl) V (toF h) hR w)(hV:V l=some (b,k)): ∃v',(Instr.loadAt t (.pointer (some ⟨b,off,none⟩))).run Tryz.prog w=.ok v' w∧Rep V v v':=by
 cases e:uZ tbl Tryz.prog t l off h with
 | none=>rw [e]at hk;cases hk
 | some x=>rw [e]at hk;cases hk;exact LK t l off h _ e V hR w b k hi hV
noncomputable def EUe:Env Ob Tryz.prog:= {EUe0 with fld:=fun t l off h=>(uZ tbl Tryz.prog t l off h).map (·,none),fldOk:=F6}
theorem OG{t n:Int}{x:EGS}(h:egW t n x):iY x:=by
 have hk:=h.k;refine⟨by have:=h.l;have:=h.ht;omega,fun i hi=>?_,fun i hi=>?_,fun i hi=>?_⟩
 ·have h1:=(h.ws i hi).tl;have:=(h.ws i hi).e1;have:=(h.ws i hi).tk;cases hb:(bC x.ws i).b with
  | true=>
    rw [hb]at h1;have h1:((bC x.ws i).tl.length :Int)=(bC x.ws i).en +1:=h1;omega
  | false=>
    rw [hb]at h1;have h1:((bC x.ws i).tl.length :Int)=(bC x.ws i).en +0:=h1;omega
 ·have:=(h.ws i hi).sl;have:=(h.ws i hi).e1;have:=(h.ws i hi).tk;omega
 ·have:=(h.ws i hi).st.3;omega
theorem uB{t n:Int}{x:EGS}(h:egW t n x):x.h.ev.length≤4294967296∧x.h.cl.length≤4294967296:=by
 have:=h.h.he;have:=h.h.hc;have hk:=h.k;exact⟨by omega,by omega⟩
end Go.Sh
namespace Go.Sh
open Go Go.Proofs
theorem j9{b:Bool}{x y:aC Mc}(hx:cJ x=true)(hy:cJ y=true):cJ (bif b then x else y)=true:=by cases b<;>assumption
theorem xI{A:Type}(ws:List (Option A)): ∀k,aIO (rowC k ws)=true:=by
 induction ws with
 | nil=>intro k;rfl
 | cons w ws ih=>
   intro k;cases w with
   | none=>exact ih (k+1)
   | some t=>exact ih (k+1)
theorem CU(v:AVal)(hv:v.noV=true)(l:List AVal): ∀i,aIO l=true→aIO (l.set i v)=true:=by
 induction l with
 | nil=>intro i h;exact h
 | cons a l ih=>
   intro i h;obtain⟨h1,h2⟩:=Bool.and_eq_true_iff.1 h;cases i with
   | zero=>exact Bool.and_eq_true_iff.2 ⟨hv,h2⟩
   | succ i=>exact Bool.and_eq_true_iff.2 ⟨h1,ih i h2⟩
theorem CV{A:Type}(ws:List (Option A)):cJ (QY ws)=true:=by
 induction ws with
 | nil=>rfl
 | cons w ws ih=>cases w<;>exact ih
theorem IN{A:Type}(h:aC A): ∀i,cJ h=true→cJ (h.set i none)=true:=by
 induction h with
 | nil=>intro i hh;exact hh
 | cons e h ih=>
   intro i hh;unfold cJ at hh⊢;rw [List.all_cons,Bool.and_eq_true]at hh;cases i with
   | zero=>rw [List.set_cons_zero,List.all_cons,Bool.and_eq_true];exact⟨rfl,hh.2⟩
   | succ i=>rw [List.set_cons_succ,List.all_cons,Bool.and_eq_true];exact⟨hh.1,ih i hh.2⟩
theorem PY{A:Type}(ws:List (Option A)):cJ (rowE ws)=true:=by
 unfold rowE cJ;rw [List.all_cons,Bool.and_eq_true];exact⟨xI _ 1,CV _⟩
theorem LI{A:Type}(ws:List (Option A))(i:Nat):cJ (kL ws i)=true:=by
 unfold kL cJ;rw [List.all_cons,List.all_cons,Bool.and_eq_true,Bool.and_eq_true];exact⟨CU _ rfl _ i (xI _ 2),rfl,IN _ i (CV _)⟩
theorem uX{A:Type}{E:wN A}(h: ∀k x,(E.hd k x).noV =true)(ws:List E.X): ∀k,aIO (eQ E k ws)=true:=by
 induction ws with
 | nil=>intro k;rfl
 | cons w ws ih=>intro k;exact Bool.and_eq_true_iff.2 ⟨h _ _,ih _⟩
theorem xJ{A:Type}{E:wN A}(h: ∀x,(E.en x).noV =true)(ws:List E.X):cJ (DD E ws)=true:=by
 induction ws with
 | nil=>rfl
 | cons w ws ih=>exact Bool.and_eq_true_iff.2 ⟨h _,ih⟩
theorem LJ{A:Type}{E:wN A}(h: ∀k x,(E.hd k x).noV =true)(h2: ∀x,(E.en x).noV =true)(ws:List E.X):cJ (fF E ws)=true:=
 Bool.and_eq_true_iff.2 ⟨uX h ws 1,xJ h2 ws⟩
theorem F5{A:Type}{E:wN A}(h: ∀k x,(E.hd k x).noV =true)(h2: ∀x,(E.en x).noV =true)(ws:List E.X)(i:Nat):cJ (fM E ws i)=true:=by
 unfold fM cJ;rw [List.all_cons,List.all_cons,Bool.and_eq_true,Bool.and_eq_true];refine⟨CU _ ?_ _ i (uX h ws 2),rfl,IN _ i (xJ h2 ws)⟩;unfold B9;split
 ·exact h _ _
 ·rfl
theorem zN(t:Mc):cJ (tbl t).2=true:=by
 cases t with
 | sweep t n y=>show cJ (MC t n y)=true;unfold MC;split<;>rfl
 | ensure t n e=>show cJ (DU t n e)=true;unfold DU;split<;>rfl
 | find t n x=>show cJ (uH t n x)=true;unfold uH;exact j9 rfl rfl
 | fast t n x=>show cJ (m8 t n x)=true;unfold m8;exact j9 rfl (j9 rfl (j9 rfl rfl))
 | help t n x=>show cJ (jV t n x)=true;unfold jV;exact j9 rfl (j9 rfl (j9 rfl (j9 rfl (j9 rfl rfl))))
 | doer t n x=>
   show cJ (eJ t n x)=true;unfold eJ
   repeat' (first | apply j9 | rfl)
 | worker w=>show cJ (wkG w)=true;unfold wkG;exact j9 rfl rfl
 | wrow ws=>exact PY _
 | whole ws i=>exact LI _ i
 | orow ws=>exact LJ (E:=opE) (fun _ _=>rfl) (fun _=>rfl) ws
 | ohole ws i=>exact F5 (E:=opE) (fun _ _=>rfl) (fun _=>rfl) ws i
 | _=>rfl
variable [c:Con]
def MQ(a c:Int)(i:Nat):Int:=bif Nat.beq i 0 then a else c
def newLS:aH Ob:=fun args h=>match args,h with
 | [.agg [.int .i64 sh,.int .i64 th,.int .i64 nd,.int .i64 tr],.slice 0 0 n 1],[some (.cells [.slice 1 0 n1 2,.slice 2 0 n2 2]),some (.cells [.int .i64 p,.int .i64 q]),some (.cells [.int .i64 r,.int .i64 s])]=>some (.pre ((n=2∧n1=1∧n2=1)∧gnC sh th nd tr 2 (fun _=>1) (fun i _=>MQ p r i) (fun i _=>MQ q s i)=0)
    (.ret (.tup [.ptr 3 0,.I 0]) [cE' [.slice 1 0 1 2,.slice 2 0 1 2],cE' [.I p,.I q],cE' [.I r,.I s],some (.abs (.engine (eY sh th nd tr 2 (fun _=>1) (fun i _=>MQ p r i) (fun i _=>MQ q s i))) [])]))
 | _,_=>none
def vr2(p q r s:Int)(i:Nat):List AVal:=[.view 1 2 (fun _=>[.I (MQ p r i),.I (MQ q s i)])]
theorem XN:sT' 25 newLS:=by
 intro args h o ho K hK;unfold newLS at ho;split at ho<;>cases ho
 rename_i sh th nd tr n n1 n2 p q r s;obtain⟨⟨⟨rfl,rfl,rfl⟩,hg⟩,hK⟩:=hK;have hK:K (.tup [.ptr 3 0,.I 0]) [cE' [.slice 1 0 1 2,.slice 2 0 1 2],cE' [.I p,.I q],cE' [.I r,.I s],some (.abs (.engine (eY sh th nd tr 2 (fun _=>1) (fun i _=>MQ p r i) (fun i _=>MQ q s i))) [])]:=hK;refine aI3 (args2:=[.agg [.I sh,.I th,.I nd,.I tr],.view 2 1 (vr2 p q r s)]) zN (fun _=>false) ?_ ?_
 ·intro c' hc V l hm hr;obtain⟨v0,l0,rfl,r0,v1,l1,rfl,r1,r2⟩:=hr;refine⟨v0,_,rfl,Rep.con hc _ _ r0,v1,_,rfl,?_,r2⟩;obtain⟨p0,a1,a2⟩:=hm 0 _ rfl rfl;obtain⟨p1,b1,b2⟩:=hm 1 _ rfl rfl;obtain⟨p2,d1,d2⟩:=hm 2 _ rfl rfl;refine tE (Rep.con hc _ _ r1) a1 a2 ?_ (Nat.le_refl _);intro i hi;refine⟨rfl,fun rs h=>?_⟩
  match i,hi with
  | 0,_=>
    obtain⟨y,ys,rfl,y1,y2⟩:=h;refine⟨y,ys,rfl,?_,y2⟩
    have y3: @Rep c' V (.view 1 2 (fun _=>[.I p,.I q])) y:=tE y1 b1 b2 (fun j hj=>⟨rfl,fun rs h=>by
     match j,hj with
     | 0,_=>exact h
     | j+1,hj=>omega⟩) (Nat.le_refl _)
    exact y3
  | 1,_=>
    obtain⟨y,ys,rfl,y1,y2⟩:=h;refine⟨y,ys,rfl,?_,y2⟩
    have y3: @Rep c' V (.view 1 2 (fun _=>[.I r,.I s])) y:=tE y1 d1 d2 (fun j hj=>⟨rfl,fun rs h=>by
     match j,hj with
     | 0,_=>exact h
     | j+1,hj=>omega⟩) (Nat.le_refl _)
    exact y3
  | i+2,hi=>omega
 ·intro c'
  have h1:=@uM c' [.agg [.I sh,.I th,.I nd,.I tr],.view 2 1 (vr2 p q r s)] [] _ rfl (fun v g=>v=.tup [.ptr 0 0,.I 0]∧g=[some (.abs (.engine (eY sh th nd tr 2 (fun _=>1) (fun i _=>MQ p r i) (fun i _=>MQ q s i))) [])]) ⟨⟨by decide,⟨rfl⟩⟩,by
   show(mI sh th nd tr 2 (fun _=>1) (fun i _=>MQ p r i) (fun i _=>MQ q s i)).run _;unfold mI;rw [hg];exact⟨rfl,rfl⟩⟩
  refine aIU h1 [] rfl (by decide) (fun l hl=>by cases hl) ?_ rfl ?_
  ·intro i l hi;simp at hi
  ·rintro v g ⟨rfl,rfl⟩ _;refine⟨rfl,rfl,?_,hK⟩;intro l hl hS
   match l,hl with
   | 0,_=>rfl
   | 1,_=>rfl
   | 2,_=>rfl
   | l+3,hl=>simp at hl;omega
end Go.Sh
namespace Go.Sh
open Go Go.Proofs
variable [Con]
abbrev aEP:List Code1:=[some .i64,none,some .i64,some .i64,some .i64,none,some .i64]
structure sm1 (ev:List (List Int)) (x:Nat):Prop where
 hi:x≤ev.length
def S7(y:HST)(ev:List (List Int)):Hint Ob:= {X:=Nat,st:=fun x=>([.ptr 0 0,.ptr 1 0,.O,.O,.O,.tslice 2 0 ev.length 7,.tslice 3 0 ev.length 7]++List.replicate 11 .O ++ [.I (ev.length:Int),.I (x:Int)]++List.replicate 12 .O,[some (.abs (.hist y) []),some (.abs (.hist y) []),some (.tab aEP ev),some (.tab aEP ev)]),ok:=sm1 ev,mu:=fun x=>ev.length - x,keep:=[0,1,5,6,18,19] }
def LSM(y:HST)(ev:List (List Int)):FuncId→Nat→Option (lE Ob):=fun _ k=>match k with
 | 5=>some (.states (S7 y ev))
 | _=>none
abbrev w3s(x:HST):Option (aG Ob):=some (.abs (.hist x) [])
def YI(x:HST)(K:AVal→aC Ob→Prop):Prop:=x.1.length≤(4294967296:Nat)∧x.1.length≤(4294967296:Nat)∧bif !ieq (↑x.1.length:Int) (↑x.1.length:Int)then K (.bool false) [w3s x,w3s x]else cN (S7 x (HST.ev x)) (Hint.ok (S7 x (HST.ev x))) [.ptr 0 0,.ptr 1 0,.O,.O,.O,.tslice 2 0 x.1.length 7,.tslice 3 0 x.1.length 7,.O,.O,.O,.O,.O,.O,.O,.O,.O,.O,.O,.I (↑x.1.length:Int),.I 0,.O,.O,.O,.O,.O,.O,.O,.O,.O,.O,.O,.O] [w3s x,w3s x,some (.tab cK7 x.1),some (.tab cK7 x.1)]∧ ∀(x_1:Nat),sm1 x.1 x_1→bif ilt (↑x_1:Int) (↑x.1.length:Int)then((0:Int)≤(↑x_1:Int)∧(↑x_1:Int)<(↑x.1.length:Int))∧0+Int.toNat (↑x_1:Int)<x.1.length∧((0:Int)≤(↑x_1:Int)∧(↑x_1:Int)<(↑x.1.length:Int))∧0+Int.toNat (↑x_1:Int)<x.1.length∧bif !bif ieq (List.headD (List.getD x.1 (0+Int.toNat (↑x_1:Int)) []) 0) (List.headD (List.getD x.1 (0+Int.toNat (↑x_1:Int)) []) 0)then bif bif !ieq (List.headD (List.tail (List.getD x.1 (0+Int.toNat (↑x_1:Int)) [])) 0) 0 then !ieq (List.headD (List.tail (List.getD x.1 (0+Int.toNat (↑x_1:Int)) [])) 0) 0 else !!ieq (List.headD (List.tail (List.getD x.1 (0+Int.toNat (↑x_1:Int)) [])) 0) 0 then bif bif ieq (List.headD (List.tail (List.tail (List.getD x.1 (0+Int.toNat (↑x_1:Int)) []))) 0) (List.headD (List.tail (List.tail (List.getD x.1 (0+Int.toNat (↑x_1:Int)) []))) 0)then bif ieq (List.headD (List.tail (List.tail (List.tail (List.getD x.1 (0+Int.toNat (↑x_1:Int)) [])))) 0) (List.headD (List.tail (List.tail (List.tail (List.getD x.1 (0+Int.toNat (↑x_1:Int)) [])))) 0)then true else false else false then bif bif ieq (List.headD (List.tail (List.tail (List.tail (List.tail (List.getD x.1 (0+Int.toNat (↑x_1:Int)) []))))) 0) (List.headD (List.tail (List.tail (List.tail (List.tail (List.getD x.1 (0+Int.toNat (↑x_1:Int)) []))))) 0)then bif bif !ieq (List.headD (List.tail (List.tail (List.tail (List.tail (List.tail (List.getD x.1 (0+Int.toNat (↑x_1:Int)) [])))))) 0) 0 then !ieq (List.headD (List.tail (List.tail (List.tail (List.tail (List.tail (List.getD x.1 (0+Int.toNat (↑x_1:Int)) [])))))) 0) 0 else !!ieq (List.headD (List.tail (List.tail (List.tail (List.tail (List.tail (List.getD x.1 (0+Int.toNat (↑x_1:Int)) [])))))) 0) 0 then bif ieq (List.headD (List.tail (List.tail (List.tail (List.tail (List.tail (List.tail (List.getD x.1 (0+Int.toNat (↑x_1:Int)) []))))))) 0) (List.headD (List.tail (List.tail (List.tail (List.tail (List.tail (List.tail (List.getD x.1 (0+Int.toNat (↑x_1:Int)) []))))))) 0)then true else false else false else false then true else false else false else false else false then K (.bool false) [w3s x,w3s x]else cN (S7 x (HST.ev x)) (fun x'=>Hint.ok (S7 x (HST.ev x)) x'∧Hint.mu (S7 x (HST.ev x)) x'<Hint.mu (S7 x (HST.ev x)) x_1) [.ptr 0 0,.ptr 1 0,.O,.O,.O,.tslice 2 0 x.1.length 7,.tslice 3 0 x.1.length 7,.O,.O,.O,.O,.O,.O,.O,.O,.O,.O,.O,.I (↑x.1.length:Int),.I (W ((↑x_1:Int)+1)),.O,.O,.O,.O,.O,.O,.O,.O,.O,.O,.O,.O] [w3s x,w3s x,some (.tab cK7 x.1),some (.tab cK7 x.1)]else K (.bool true) [w3s x,w3s x]
theorem RE(x:HST)(K:AVal→aC Ob→Prop)(h:YI x K):cT' 99 [.ptr 0 0,.ptr 1 0] [some (.abs (.hist x) []),some (.abs (.hist x) [])] (f9 2 K):=by
 exact aD (E:=EUe) Tryz.checked.mixed (L:=LSM x x.ev) (n:=10) (aK (by kernel_rfl) h)
theorem PJ(a:Int):ieq a a=true:=by rw [cF];exact decide_eq_true rfl
theorem W2{i:Nat}{m:Nat}(hi:i<m)(hm:m≤4294967296):W ((i:Int)+1)=((i+1:Nat):Int):=by
 have:=cW (x:=(i:Int)+1) ⟨by omega,by omega⟩
 exact this.trans (by omega)
theorem aAK(b:Bool):(bif b then b else !b)=true:=by cases b<;>rfl
theorem aFT(x:HST)(K:AVal→aC Ob→Prop)(hl:x.ev.length≤4294967296)(hK:K (.bool true) [some (.abs (.hist x) []),some (.abs (.hist x) [])]):YI x K:=by
 unfold YI;refine⟨hl,hl,?_⟩;rw [PJ];refine⟨aN (H:=S7 x x.ev) (0:Nat) rfl ⟨Nat.zero_le _⟩,?_⟩;rintro i ⟨hi⟩;refine aR (fun a1=>?_) (fun a1=>hK);have a1:=dW a1;have hil:i<x.ev.length:=by omega
 refine⟨⟨by omega,a1⟩,by show 0+Int.toNat ((i:Nat):Int)<_;rw [Int.toNat_natCast];omega,⟨by omega,a1⟩,by show 0+Int.toNat ((i:Nat):Int)<_;rw [Int.toNat_natCast];omega,?_⟩
 simp only [PJ,aAK,cond_true,Bool.not_true,cond_false];rw [W2 hil hl];exact aN (H:=S7 x x.ev) (i+1:Nat) rfl ⟨⟨hil⟩,by show x.ev.length - (i+1)<x.ev.length - i;omega⟩
def smR:bF Ob:=fun args h=>match args,h with
 | [.ptr 0 0,.ptr 1 0],[some (.abs (.hist x) []),some (.abs (.hist y) [])]=>some (x=y∧x.ev.length≤4294967296,.bool true)
 | _,_=>none
theorem aDe:sT' 99 smR.spec:=by
 intro args h o ho K hK;unfold bF.spec at ho;split at ho
 case h_2=>cases ho
 rename_i p v hv;unfold smR at hv;split at hv
 case h_2=>cases hv
 rename_i x y;simp only [sI',pI']at hv;obtain⟨rfl,rfl⟩:=hv;simp only [sI']at ho;subst ho;obtain⟨⟨rfl,hl⟩,hK⟩:=hK;exact aIl (RE x K (aFT x K hl hK))
noncomputable def EUf:=(EUe).addR 99 smR aDe
structure on1 (x:EGS) (u:Nat):Prop where
 hi:(u:Int)≤x.s.t
structure on2 (x:EGS) (a:Nat):Prop where
 hi:(a:Int)≤2*x.s.n+5*x.s.t+6
def S5(x:EGS):Hint Ob:= {X:=Nat,st:=fun u=>([.ptr 0 0,.ptr 1 0,.O,.O,.O,.ptr 2 0,.I (u:Int)]++List.replicate 97 .O,[some (.abs (.engine x) []),some (.abs (.engine x) []),cE' [.I x.s.t,.I x.s.n]]),ok:=on1 x,mu:=fun u=>(x.s.t - (u:Int)).toNat,keep:=[0,1,5,6] }
def S6(x:EGS):Hint Ob:= {X:=Nat,st:=fun a=>([.ptr 0 0,.ptr 1 0,.O,.O,.O,.ptr 2 0,.O,.I (a:Int)]++List.replicate 96 .O,[some (.abs (.engine x) []),some (.abs (.engine x) []),cE' [.I x.s.t,.I x.s.n]]),ok:=on2 x,mu:=fun a=>(2*x.s.n+5*x.s.t+6 - (a:Int)).toNat,keep:=[0,1,5,7] }
def LON(x:EGS):FuncId→Nat→Option (lE Ob):=fun _ k=>match k with
 | 5=>some (.states (S5 x))
 | 10=>some (.states (S6 x))
 | _=>none
abbrev w3t(x:EGS):Option (aG Ob):=some (.abs (.engine x) [])
abbrev w3u(x:EGS):List AVal:=[.I (EGS.s x).1,.I (EGS.s x).2]
def XT(x:EGS)(K:AVal→aC Ob→Prop):Prop:=True∧True∧bif !bif ieq (EGS.s x).1 (EGS.s x).1 then bif ieq (EGS.s x).2 (EGS.s x).2 then true else false else false then K (.bool false) [w3t x,w3t x]else bif !bif ieq x.1 x.1 then bif ieq x.2 x.2 then bif ieq x.3 x.3 then bif ieq x.4 x.4 then true else false else false else false else false then K (.bool false) [w3t x,w3t x]else True∧True∧bif !ieq x.8 x.8 then K (.bool false) [w3t x,w3t x]else(List.length (EGS.h x).1≤(4294967296:Nat)∧List.length (EGS.h x).2≤(4294967296:Nat))∧(List.length (EGS.h x).1≤(4294967296:Nat)∧List.length (EGS.h x).2≤(4294967296:Nat))∧(x.6=x.6∧List.length (EGS.h x).1≤(4294967296:Nat))∧((0:Int)≤(EGS.s x).2∧(EGS.s x).2≤(100000:Int))∧((0:Int)≤(EGS.s x).2∧(EGS.s x).2≤(100000:Int))∧((lE' (dZ x)∧lE' (dZ x))∧List.length (dZ x)≤(4294967296:Nat))∧bif !nL (dZ x) (dZ x)then K (.bool false) [w3t x,w3t x]else cN (S5 x) (Hint.ok (S5 x)) (.ptr 0 0::.ptr 1 0::.O::.O::.O::.ptr 2 0::.I 0::(tO' 97 [])) [w3t x,w3t x,cE' (w3u x)]∧ ∀(x_1:Nat),on1 x x_1→bif ilt (↑x_1:Int) (EGS.s x).1 then True∧True∧bif !ieq (cY (↑x_1:Int) x) (cY (↑x_1:Int) x)then K (.bool false) [w3t x,w3t x]else iY x∧iY x∧((lE' (gM (↑x_1:Int) x)∧lE' (gM (↑x_1:Int) x))∧List.length (gM (↑x_1:Int) x)≤(4294967296:Nat))∧bif !nL (gM (↑x_1:Int) x) (gM (↑x_1:Int) x)then K (.bool false) [w3t x,w3t x]else iY x∧iY x∧((lE' (gJ (↑x_1:Int) x)∧lE' (gJ (↑x_1:Int) x))∧List.length (gJ (↑x_1:Int) x)≤(4294967296:Nat))∧bif !nL (gJ (↑x_1:Int) x) (gJ (↑x_1:Int) x)then K (.bool false) [w3t x,w3t x]else iY x∧iY x∧((lE' (gB (↑x_1:Int) x)∧lE' (gB (↑x_1:Int) x))∧List.length (gB (↑x_1:Int) x)≤(4294967296:Nat))∧bif !nL (gB (↑x_1:Int) x) (gB (↑x_1:Int) x)then K (.bool false) [w3t x,w3t x]else cN (S5 x) (fun x'=>Hint.ok (S5 x) x'∧Hint.mu (S5 x) x'<Hint.mu (S5 x) x_1) (.ptr 0 0::.ptr 1 0::.O::.O::.O::.ptr 2 0::.I (W ((↑x_1:Int)+1))::(tO' 97 [])) [w3t x,w3t x,cE' (w3u x)]else cN (S6 x) (Hint.ok (S6 x)) (.ptr 0 0::.ptr 1 0::.O::.O::.O::.ptr 2 0::.O::.I 0::(tO' 96 [])) [w3t x,w3t x,cE' (w3u x)]∧ ∀(x_2:Nat),on2 x x_2→(((0:Int)≤(EGS.s x).1∧(EGS.s x).1≤(100000:Int))∧(0:Int)≤(EGS.s x).2∧(EGS.s x).2≤(100000:Int))∧bif ilt (↑x_2:Int) (2*(EGS.s x).2+5*(EGS.s x).1+6)then True∧True∧bif !ieq (aE (EGS.s x).3 (↑x_2:Int)) (aE (EGS.s x).3 (↑x_2:Int))then K (.bool false) [w3t x,w3t x]else cN (S6 x) (fun x'=>Hint.ok (S6 x) x'∧Hint.mu (S6 x) x'<Hint.mu (S6 x) x_2) (.ptr 0 0::.ptr 1 0::.O::.O::.O::.ptr 2 0::.O::.I (W ((↑x_2:Int)+1))::(tO' 96 [])) [w3t x,w3t x,cE' (w3u x)]else K (.bool true) [w3t x,w3t x]
theorem P2(x:EGS)(K:AVal→aC Ob→Prop)(h:XT x K):cT' 42 [.ptr 0 0,.ptr 1 0] [some (.abs (.engine x) []),some (.abs (.engine x) [])] (f9 2 K):=by
 exact aD (E:=EUf) Tryz.checked.mixed (L:=LON x) (n:=10) (aK (by kernel_rfl) h)
noncomputable def EUg:=(EUf.addS 25 (aH.or newLS gnS) (aIJ XN uM))
theorem YH(xs:List Int):nL xs xs=true:=G3.2 rfl
structure P3 (x:EGS):Prop where
 w: ∃t n:Int,egW t n x
theorem KZ(sp:Int)(xs:List Int):(lK sp xs).length ≤xs.length+1:=by
 unfold lK;cases ieq sp 0 with
 | true=>exact Nat.le_succ _
 | false=>exact Nat.le_refl _
theorem MH{x:EGS}(h:iY x)(u:Int):(gM u x).length ≤4294967296:=by
 unfold gM;cases ilt u 0 with
 | true=>exact Nat.zero_le _
 | false=>
   rw [cond_false];cases e:ile (x.ws.length:Int) u with
   | true=>exact Nat.zero_le _
   | false=>
     rw [bX]at e;have e:=of_decide_eq_false e;have h0:=h.h0
     by_cases hu:u.toNat<x.ws.length
     ·exact Nat.le_trans (h.ht _ hu) (by omega)
     ·omega
theorem MA{x:EGS}(h:iY x)(u:Int):(gJ u x).length ≤4294967296:=by
 unfold gJ;cases ilt u 0 with
 | true=>exact Nat.zero_le _
 | false=>
   rw [cond_false];cases e:ile (x.ws.length:Int) u with
   | true=>exact Nat.zero_le _
   | false=>
     rw [bX]at e;have e:=of_decide_eq_false e;have h0:=h.h0
     by_cases hu:u.toNat<x.ws.length
     ·exact Nat.le_trans (h.hs _ hu) (by omega)
     ·omega
theorem KY{x:EGS}(h:iY x)(u:Int):(gB u x).length ≤4294967296:=by
 unfold gB;cases ilt u 0 with
 | true=>exact Nat.zero_le _
 | false=>
   rw [cond_false];cases e:ile (x.ws.length:Int) u with
   | true=>exact Nat.zero_le _
   | false=>
     rw [bX]at e;have e:=of_decide_eq_false e;have h0:=h.h0
     by_cases hu:u.toNat<x.ws.length
     ·have:=h.hr _ hu;exact Nat.le_trans (KZ _ _) (by omega)
     ·omega
theorem FP{x:EGS}(h:0≤x.s.n∧x.s.n≤100000):(dZ x).length ≤4294967296:=by
 have l0:=iO x.s.xs x.s.n 0;have l1:=iO x.s.xs x.s.n 1;have l2:=iO x.s.xs x.s.n 2;have l3:=iO x.s.xs x.s.n 3;have hn:x.s.n.toNat≤100000:=by omega
 unfold dZ;cases ieq x.sh 3 with
 | true=>rw [cond_true];omega
 | false=>
   rw [cond_false];cases ieq x.sh 4 with
   | true=>rw [cond_true];omega
   | false=>rw [cond_false,n8,List.length_append,List.length_append,List.length_append];omega
set_option maxRecDepth 10000 in
theorem aFN(x:EGS)(K:AVal→aC Ob→Prop)(hx:P3 x)(hK:K (.bool true) [some (.abs (.engine x) []),some (.abs (.engine x) [])]):XT x K:=by
 obtain⟨⟨t,n,hw⟩⟩:=hx;have hf:=OG hw;have hl:=uB hw;have ht:=hw.ht;have hn:=hw.hn;have st:=hw.st;have sn:=hw.sn;have hn0:0≤x.s.n∧x.s.n≤100000:=by omega
 have ht0:0≤x.s.t∧x.s.t≤100000:=by omega
 unfold XT;simp only [PJ,YH,cond_true,Bool.not_true,cond_false];refine⟨trivial,trivial,trivial,trivial,hl,hl,⟨trivial,hl.1⟩,hn0,hn0,⟨⟨trivial,trivial⟩,FP hn0⟩,aN (H:=S5 x) (0:Nat) rfl ⟨by show((0:Nat):Int)≤x.s.t;omega⟩,?_⟩
 rintro u ⟨hu⟩;refine aR (fun a1=>?_) (fun a1=>?_)
 ·have a1:=dW a1;refine⟨trivial,trivial,hf,hf,⟨⟨trivial,trivial⟩,MH hf _⟩,hf,hf,⟨⟨trivial,trivial⟩,MA hf _⟩,hf,hf,⟨⟨trivial,trivial⟩,KY hf _⟩,?_⟩;have e:W ((u:Int)+1)=((u+1:Nat):Int):=(cW (x:=(u:Int)+1) ⟨by omega,by omega⟩).trans (by omega)
  rw [e];exact aN (H:=S5 x) (u+1:Nat) rfl ⟨⟨by show((u+1:Nat):Int)≤x.s.t;omega⟩,by show(x.s.t - ((u+1:Nat):Int)).toNat <(x.s.t - (u:Int)).toNat;omega⟩
 ·refine⟨aN (H:=S6 x) (0:Nat) rfl ⟨by show((0:Nat):Int)≤2*x.s.n+5*x.s.t+6;omega⟩,?_⟩
  rintro a ⟨ha⟩;refine⟨⟨ht0,hn0⟩,aR (fun b1=>?_) (fun b1=>hK)⟩;have b1:=dW b1;have e:W ((a:Int)+1)=((a+1:Nat):Int):=(cW (x:=(a:Int)+1) ⟨by omega,by omega⟩).trans (by omega)
  rw [e];exact⟨trivial,trivial,aN (H:=S6 x) (a+1:Nat) rfl ⟨⟨by show((a+1:Nat):Int)≤2*x.s.n+5*x.s.t+6;omega⟩,by show(2*x.s.n+5*x.s.t+6 - ((a+1:Nat):Int)).toNat <(2*x.s.n+5*x.s.t+6 - (a:Int)).toNat;omega⟩⟩
def onS:aH Ob:=fun args h=>match args,h with
 | [.ptr 0 0,.ptr 1 0],[some (.abs (.engine x) []),some (.abs (.engine y) [])]=>some (.pre (x=y∧P3 x) (.ret (.bool true) [some (.abs (.engine x) []),some (.abs (.engine y) [])]))
 | _,_=>none
theorem aFM:sT' 42 onS:=by
 intro args h o ho K hK;unfold onS at ho;split at ho<;>cases ho
 rename_i x y;obtain⟨⟨rfl,hx⟩,hK⟩:=hK;exact aIl (P2 x K (aFN x K hx hK))
end Go.Sh
namespace Go.Sh
open Go Go.Proofs
theorem aB.args [Con]{A:Type}{I:Itp A}{P:Program}{f:FuncId}{args args2:List AVal}{h:aC A}{K:AVal→aC A→Prop}(ha: ∀(V:Val) (l:List Value),aI V args l→aI V args2 l)(h0:aB I P f args2 h K):aB I P f args h K:=
 fun V hR w args' hi hf hr=>h0 V hR w args' hi hf (ha V _ hr)
variable [Con]
def DM:Nat→Int→Int→EGS→EGS
 | 0,_,_,x=>x
 | k+1,l,t,x=>bif ieq (cY t x) l then(bif (pkF t x).1 then DM k l t (pkF t x).2 else(pkF t x).2)else x
def kT(l t:Int)(x:EGS):EGS:=DM (60001 - x.k).toNat l t x
def oO(t:Int)(x:EGS):EGS:=kT (cY t x) t x
structure aF0 (t:Int) (x y:EGS):Prop where
 w: ∃a b:Int,egW a b y
 h:kT (cY t x) t y=kT (cY t x) t x
def S8(t:Int)(x:EGS):Hint Ob:= {X:=EGS,st:=fun y=>([.ptr 0 0,.int .i64 t,.O,.O,.int .i64 (cY t x)]++List.replicate 12 .O,[some (.abs (.engine y) [])]),ok:=aF0 t x,mu:=fun y=>(60000 - y.k).toNat,keep:=[0,1,4] }
def LTU(t:Int)(x:EGS):FuncId→Nat→Option (lE Ob):=fun _ k=>match k with
 | 1=>some (.states (S8 t x))
 | _=>none
abbrev w3v(t:Int)(x:EGS):List AVal:=[.ptr 0 0,.int .i64 t,.O,.O,.int .i64 (cY t x),.O,.O,.O,.O,.O,.O,.O,.O,.O,.O,.O,.O]
def aDA(t:Int)(x:EGS)(K:AVal→aC Ob→Prop):Prop:=True∧cN (S8 t x) (Hint.ok (S8 t x)) (w3v t x) [some (.abs (.engine x) [])]∧ ∀(x_1:EGS),aF0 t x x_1→True∧bif ieq (cY t x_1) (cY t x)then XX t x_1∧bif !(pkF t x_1).1 then K (.tup []) [some (.abs (.engine (pkF t x_1).2) [])]else cN (S8 t x) (fun x'=>Hint.ok (S8 t x) x'∧Hint.mu (S8 t x) x'<Hint.mu (S8 t x) x_1) (w3v t x) [some (.abs (.engine (pkF t x_1).2) [])]else K (.tup []) [some (.abs (.engine x_1) [])]
theorem R0(t:Int)(x:EGS)(K:AVal→aC Ob→Prop)(h:aDA t x K):cT' 76 [.ptr 0 0,.int .i64 t] [some (.abs (.engine x) [])] (f9 1 K):=by
 exact aD (E:=EUg) Tryz.checked.mixed (L:=LTU t x) (n:=10) (aK (by kernel_rfl) h)
end Go.Sh
namespace Go.Sh
open Go Go.Proofs
variable [Con]
theorem xW{l t:Int}{y:EGS}(hk:y.k≤60000)(h:ieq (cY t y) l=false):kT l t y=y:=by
 obtain⟨m,hm⟩: ∃m,(60001 - y.k).toNat =m+1:=⟨(60000 - y.k).toNat,by omega⟩
 unfold kT;rw [hm];show(bif ieq (cY t y) l then _ else y)=y;rw [h];rfl
theorem DO{l t:Int}{y:EGS}(hk:y.k≤60000)(h:ieq (cY t y) l=true)(h2:(pkF t y).1=false):kT l t y=(pkF t y).2:=by
 obtain⟨m,hm⟩: ∃m,(60001 - y.k).toNat =m+1:=⟨(60000 - y.k).toNat,by omega⟩
 unfold kT;rw [hm];show(bif ieq (cY t y) l then(bif (pkF t y).1 then _ else(pkF t y).2)else y)=_;rw [h,h2];rfl
theorem DN{l t:Int}{y:EGS}(hk:y.k≤60000)(h:ieq (cY t y) l=true)(h2:(pkF t y).1=true)(h3:(pkF t y).2.k =y.k+1):kT l t y=kT l t (pkF t y).2:=by
 have hm:(60001 - y.k).toNat =(60001 - (pkF t y).2.k).toNat +1:=by omega
 unfold kT;rw [hm];show(bif ieq (cY t y) l then(bif (pkF t y).1 then DM (60001 - (pkF t y).2.k).toNat l t (pkF t y).2 else(pkF t y).2)else y)=_;rw [h,h2];rfl
theorem aF2(t:Int)(x:EGS)(K:AVal→aC Ob→Prop)(hx: ∃a b:Int,egW a b x)(hK:K (.tup []) [some (.abs (.engine (oO t x)) [])]):aDA t x K:=by
 refine⟨trivial,aN (H:=S8 t x) x rfl ⟨hx,rfl⟩,?_⟩;rintro y ⟨⟨a,b,hy⟩,hh⟩;have hk:=hy.k
 have key: ∀z,kT (cY t x) t y=z→K (.tup []) [some (.abs (.engine z) [])]:=by
  intro z hz;have e:z=oO t x:=hz.symm.trans hh;rw [e];exact hK
 refine⟨trivial,aR (fun e1=>⟨P7 t hy,aR (fun e2=>?_) (fun e2=>?_)⟩) (fun e1=>?_)⟩
 ·exact key _ (DO hk.2 e1 (by simpa using e2))
 ·have e2:(pkF t y).1=true:=by simpa using e2
  obtain⟨h1,h2,_,_⟩:=(y9 t hy).yes e2;refine aN (H:=S8 t x) (pkF t y).2 rfl ⟨⟨⟨a,b,h1⟩,(DN hk.2 e1 e2 h2).symm.trans hh⟩,?_⟩;have:=h1.k;show(60000 - (pkF t y).2.k).toNat <(60000 - y.k).toNat;omega
 ·exact key _ (xW hk.2 e1)
theorem YZ{a b:Int}(l t:Int): ∀(k:Nat) (x:EGS),egW a b x→egW a b (DM k l t x):=by
 intro k
 induction k with
 | zero=>intro x hx;exact hx
 | succ k ih=>
   intro x hx;show egW a b (bif ieq (cY t x) l then(bif (pkF t x).1 then DM k l t (pkF t x).2 else(pkF t x).2)else x);cases ieq (cY t x) l with
   | false=>exact hx
   | true=>
     cases (pkF t x).1 with
     | false=>exact(y9 t hx).w
     | true=>exact ih _ (y9 t hx).w
theorem aDB{a b:Int}(t:Int){x:EGS}(hx:egW a b x):egW a b (oO t x):=YZ _ _ _ _ hx
def tuS:aH Ob:=fun args h=>match args,h with
 | [.ptr 0 0,.int .i64 t],[some (.abs (.engine x) [])]=>some (.pre (aEI x) (.ret (.tup []) [some (.abs (.engine (oO t x)) [])]))
 | _,_=>none
theorem aF1:sT' 76 tuS:=by
 intro args h o ho K hK;unfold tuS at ho;split at ho<;>cases ho
 rename_i t x;obtain⟨⟨hx⟩,hK⟩:=hK;exact aIl (R0 t x K (aF2 t x K hx hK))
abbrev rF:List Code1:=[some .i64,none,some .i64]
def RN(r:List Int):List Int:=[List.headD (List.tail (List.tail (List.tail (List.tail (List.tail (List.tail r)))))) 0,bif !ieq (List.headD (List.tail (List.tail (List.tail (List.tail (List.tail (List.tail (List.tail r))))))) 0) 0 then 1 else 0,List.headD (List.tail (List.tail (List.tail (List.tail (List.tail (List.tail (List.tail (List.tail r)))))))) 0]
def bP(cl:List (List Int)):List (List Int):=(cl.filter fun r=>!ilt (List.headD (List.tail r) 0) 0).map RN
end Go.Sh
namespace Go.Sh
open Go Go.Proofs
theorem YQ [Con](ks:List Code1)(rows:List (List Int))(tail:List Value){i:Nat}(hi:i<rows.length):((bH ks rows++tail).drop (i*ks.length)).take ks.length=cM ks (rows.getD i []):=by
 have hl:=cQ ks rows
 have h2:rows.drop i=rows.getD i []::rows.drop (i+1):=by
  rw [gD',gE' hi];exact List.drop_eq_getElem_cons hi
 have h3:i*ks.length≤(bH ks rows).length :=by rw [hl];exact Nat.mul_le_mul_right _ (by omega)
 rw [List.drop_append_of_le_length h3,mC ks rows i,h2];have h4:bH ks (rows.getD i []::rows.drop (i+1))=cM ks (rows.getD i [])++bH ks (rows.drop (i+1)):=rfl;rw [h4,List.append_assoc];have h5:=cC ks (rows.getD i []);rw [List.take_append_of_le_length (by omega),List.take_of_length_le (by omega)]
theorem RL{c:Con}{A:Type}{I:Itp A}{V:Val}{l n w:Nat}{ks:List Code1}{rows:List (List Int)}{p:PHeap}{v:Value}(hv: @Rep c V (.tslice l 0 n w) v)(he: @aG.interp c A I V l (.tab ks rows) p)(hp: ∀b o,p b=some o→c.con b=some o)(hw:ks.length=w)(hn:n≤rows.length): @Rep c V (.view n w (fun i=>rowA ks (rows.getD i []))) v:=by
 obtain⟨base,cap,e1,e2,e3⟩:=hv;refine⟨base,cap,e1,e2,?_⟩;rcases e3 with⟨b,kk,g1,g2,g3⟩ | ⟨g1,g2⟩
 ·rcases he with⟨h1,_,_⟩ | ⟨b',k',a1,cs,T,tail,a2,a3,a4⟩
  ·right;subst h1;exact Nat.le_zero.1 hn
  ·left;rw [g1]at a1;cases a1;refine⟨b,0*w,cs,T,_,g2,hp b (.cells cs T) (by rw [a2];exact if_pos rfl),fun i hi=>⟨by rw [kR,hw],?_⟩⟩
   rw [a4,Nat.zero_mul,Nat.zero_add,←hw,YQ ks rows tail (by omega)]
   exact @vI c (fun _=>none) ks _
 ·right;exact g1
def oL(ws:List (List (List Int)))(i:Nat):Nat:=(opAt ws i).length
def oK(ws:List (List (List Int)))(i j:Nat):Int:=((opAt ws i).getD j []).headD 0
def oY(ws:List (List (List Int)))(i j:Nat):Int:=((opAt ws i).getD j []).tail.headD 0
def vrO(ws:List (List (List Int)))(i:Nat):List AVal:=[.view (oL ws i) 2 (fun j=>[.int .i64 (oK ws i j),.int .i64 (oY ws i j)])]
theorem xL{c:Con}{V:Val}{l n:Nat}{ws:List (List (List Int))}{p:PHeap}{v:Value}(hv: @Rep c V (.slice l 0 n 1) v)(he: @aG.interp c Ob (@obI c Ob tbl) V l (.abs (.orow ws) []) p)(hp: ∀b o,p b=some o→c.con b=some o)(hn:n≤ws.length): @Rep c V (.view n 1 (vrO ws)) v:=by
 obtain⟨b,k,hV,bs,hlo,N,hob⟩:=he;have hbs:bs=[]:=hlo;subst hbs;cases N with
 | zero=>exact hob.elim
 | succ N=>
 obtain⟨V',gs,g1,g2,g3,⟨g4,g5,g6⟩,g7⟩:=hob
 have hsub: ∀j b o,gs j b=some o→c.con b=some o:=by
  intro j b o hh;refine hp b o ?_;rw [g7];exact aID g6 hh
 have hc:=g4 0 _ (show aJ (fF opE ws) 0=some (.cells (eQ opE 1 ws))from rfl)
 have hv': @Rep c V' (.slice 0 0 n 1) v:=by
  obtain⟨base,cap,e1,e2,e3⟩:=hv;refine⟨base,cap,e1,e2,?_⟩;rw [g1,←hV];exact e3
 have hlen:(eQ opE 1 ws).length =ws.length:=dS (E:=opE) 1 ws
 have key: @Rep c V' (.view n 1 (vrO ws)) v:=by
  refine tE (I:=obN tbl N) hv' hc (hsub 0) ?_ (by rw [hlen];omega)
  intro i hi;refine⟨rfl,fun rs h=>?_⟩;have hi2:i<ws.length:=by omega
  have h1:((eQ opE 1 ws).drop (i*1)).take 1=[opE.hd (1+i) (opAt ws i)]:=by
   have h2:i<(eQ opE 1 ws).length :=by rw [hlen];exact hi2
   rw [Nat.mul_one,List.drop_eq_getElem_cons h2];have h3:(eQ opE 1 ws)[i]? =some (opE.hd (1+i) (opAt ws i)):=(dR (E:=opE) ws 1 i).trans (congrArg (Option.map (opE.hd (1+i))) (qB hi2));obtain⟨_,h4⟩:=List.getElem?_eq_some_iff.1 h3;rw [h4,List.take_succ_cons,List.take_zero]
  rw [h1]at h;obtain⟨y,ys,rfl,y1,y2⟩:=h;have hen:=g4 (i+1) _ (show aJ (fF opE ws) (i+1)=some (opE.en (opAt ws i))from(cB (E:=opE) ws i).trans (congrArg (Option.map opE.en) (qB hi2)))
  rw [Nat.add_comm]at y1;have y3:=RL (w:=2) (n:=(opAt ws i).length) y1 hen (hsub (i+1)) rfl (Nat.le_refl _);exact⟨y,ys,rfl,y3,y2⟩
 exact key
variable [c:Con]
def newRS:aH Ob:=fun args h=>match args,h with
 | [.agg [.int .i64 sh,.int .i64 th,.int .i64 nd,.int .i64 tr],.slice 0 0 m 1],[some (.abs (.orow ws) [])]=>some (.pre (m=ws.length∧m≤1000000) (.ite (ieq (gnC sh th nd tr m (oL ws) (oK ws) (oY ws)) 0) (.ret (.tup [.ptr 1 0,.int .i64 0]) [some (.abs (.orow ws) []),some (.abs (.engine (eY sh th nd tr m (oL ws) (oK ws) (oY ws))) [])]) (.ret (.tup [.raw (.pointer none),.int .i64 (gnC sh th nd tr m (oL ws) (oK ws) (oY ws))]) [some (.abs (.orow ws) [])])))
 | _,_=>none
theorem IM:sT' 25 newRS:=by
 intro args h o ho K hK;unfold newRS at ho;split at ho<;>cases ho
 rename_i sh th nd tr m ws;obtain⟨⟨rfl,hm⟩,hK⟩:=hK;have hK:cond (ieq (gnC sh th nd tr ws.length (oL ws) (oK ws) (oY ws)) 0) (K (.tup [.ptr 1 0,.int .i64 0]) [some (.abs (.orow ws) []),some (.abs (.engine (eY sh th nd tr ws.length (oL ws) (oK ws) (oY ws))) [])]) (K (.tup [.raw (.pointer none),.int .i64 (gnC sh th nd tr ws.length (oL ws) (oK ws) (oY ws))]) [some (.abs (.orow ws) [])]):=hK;refine aI3 (args2:=[.agg [.int .i64 sh,.int .i64 th,.int .i64 nd,.int .i64 tr],.view ws.length 1 (vrO ws)]) zN (fun _=>false) ?_ ?_
 ·intro c' hc V l hm hr;obtain⟨v0,l0,rfl,r0,v1,l1,rfl,r1,r2⟩:=hr;refine⟨v0,_,rfl,Rep.con hc _ _ r0,v1,_,rfl,?_,r2⟩;obtain⟨p0,a1,a2⟩:=hm 0 _ rfl rfl;exact xL (Rep.con hc _ _ r1) a1 a2 (Nat.le_refl _)
 ·intro c';cases hg:ieq (gnC sh th nd tr ws.length (oL ws) (oK ws) (oY ws)) 0 with
  | true=>
    rw [hg]at hK
    have h1:=@uM c' [.agg [.int .i64 sh,.int .i64 th,.int .i64 nd,.int .i64 tr],.view ws.length 1 (vrO ws)] [] _ rfl (fun v g=>v=.tup [.ptr 0 0,.int .i64 0]∧g=[some (.abs (.engine (eY sh th nd tr ws.length (oL ws) (oK ws) (oY ws))) [])]) ⟨⟨hm,⟨rfl⟩⟩,by
     show(mI sh th nd tr ws.length (oL ws) (oK ws) (oY ws)).run _;unfold mI;rw [hg];exact⟨rfl,rfl⟩⟩
    refine aIU h1 [] rfl (by decide) (fun l hl=>by cases hl) ?_ rfl ?_
    ·intro i l hi;simp at hi
    ·rintro v g ⟨rfl,rfl⟩ _;refine⟨rfl,rfl,?_,hK⟩;intro l hl hS
     match l,hl with
     | 0,_=>rfl
     | l+1,hl=>simp at hl
  | false=>
    rw [hg]at hK
    have h1:=@uM c' [.agg [.int .i64 sh,.int .i64 th,.int .i64 nd,.int .i64 tr],.view ws.length 1 (vrO ws)] [] _ rfl (fun v g=>v=.tup [.raw (.pointer none),.int .i64 (gnC sh th nd tr ws.length (oL ws) (oK ws) (oY ws))]∧g=[]) ⟨⟨hm,⟨rfl⟩⟩,by
     show(mI sh th nd tr ws.length (oL ws) (oK ws) (oY ws)).run _;unfold mI;rw [hg];exact⟨rfl,rfl⟩⟩
    refine aIU h1 [] rfl (by decide) (fun l hl=>by cases hl) ?_ rfl ?_
    ·intro i l hi;simp at hi
    ·rintro v g ⟨rfl,rfl⟩ _;refine⟨rfl,rfl,?_,hK⟩;intro l hl hS
     match l,hl with
     | 0,_=>rfl
     | l+1,hl=>simp at hl
def newZS:aH Ob:=fun args h=>match args,h with
 | [.agg [.int .i64 sh,.int .i64 th,.int .i64 nd,.int .i64 tr],.raw (.slice none 0 0)],[]=>some (mI sh th nd tr 0 (fun _=>0) (fun _ _=>0) (fun _ _=>0))
 | _,_=>none
theorem XO:sT' 25 newZS:=by
 intro args h o ho K hK;unfold newZS at ho;split at ho<;>cases ho
 rename_i sh th nd tr;refine aB.args (args2:=[.agg [.int .i64 sh,.int .i64 th,.int .i64 nd,.int .i64 tr],.view 0 1 (fun _=>[.view 0 2 (fun _=>[.int .i64 0,.int .i64 0])])]) ?_ ?_
 ·rintro V l ⟨v0,l0,rfl,r0,v1,l1,rfl,r1,r2⟩;have r1:v1=.slice none 0 0:=r1;exact⟨v0,_,rfl,r0,v1,_,rfl,⟨none,0,r1,Nat.le_refl _,.inr rfl⟩,r2⟩
 ·have hS:gnS [.agg [.int .i64 sh,.int .i64 th,.int .i64 nd,.int .i64 tr],.view 0 1 (fun _=>[.view 0 2 (fun _=>[.int .i64 0,.int .i64 0])])] []=some (.pre (0≤1000000∧pF (fun _=>[.view 0 2 (fun _=>[.int .i64 0,.int .i64 0])])) (mI sh th nd tr 0 (fun _=>0) (fun _ _=>0) (fun _ _=>0))):=rfl;exact uM _ _ _ hS K ⟨⟨Nat.zero_le _,⟨rfl⟩⟩,hK⟩
noncomputable def EUv0:=(EUg.addS 76 tuS aF1).addS 25 (aH.or newZS (aH.or newRS gnS)) (aIJ XO (aIJ IM uM))
theorem VF{I:Itp Ob}(t:TypeId)(l off:Nat)(h:aC Ob)(v:AVal)(q:Option Prop)(hh:(none:Option (AVal×Option Prop))=some (v,q))(_:onp q)(V:Val)(hR:PHeap)(w:World)(b k:Nat)(_:Inv I V (toF h) hR w)(_:V l=some (b,k)): ∃v',(Instr.loadAt t (.pointer (some ⟨b,off,none⟩))).run Tryz.prog w=.ok v' w∧Rep V v v':=by cases hh
theorem aGE{I:Itp Ob}(h:I=obI tbl)(ρ:Operand→AVal)(o:Oper)(g:aC Ob)(r:ORes Ob)(hr:(SV.dro Tryz.prog fun _ _ _=>none) ρ o.op g=some r)(ho:r.obl)(V:Val)(hR:PHeap)(w:World)(ρ':Operand→Value)(hi:Inv I V (toF g) hR w)(hf:iZ V g.length r.new.length)(hρ: ∀x,Rep V (ρ x) (ρ' x)):dK I Tryz.prog V g.length hR w r.v (toF (r.apply g)) r.new.length (execOp ρ' o):=by
 subst h;exact SV.dro_ok x9 uA ρ o g r hr ho V hR w ρ' hi hf hρ
noncomputable def vZ(E:Env Ob Tryz.prog)(h:E.I=obI tbl):Env Ob Tryz.prog:= {E with fld:=fun _ _ _ _=>none,fldOk:=VF,dro:=(SV.dro Tryz.prog fun _ _ _=>none),droCongr:=SV.dro_congr oF,droOk:=aGE h}
noncomputable def EUv:Env Ob Tryz.prog:=vZ EUv0 rfl
end Go.Sh
namespace Go.Sh
open Go Go.Proofs
abbrev tC:List Code1:=[some .i64,some .i64,some .i64]
def opR(r:List Int):List Int:=[List.headD (List.tail r) 0,List.headD (List.tail (List.tail r)) 0]
def nG(ws:List (List (List Int)))(r:List Int):List (List (List Int)):=ws.set (Int.toNat (List.headD r 0)) (opAt ws (Int.toNat (List.headD r 0))++ [opR r])
def opsT(th:Int)(T:List (List Int)):List (List (List Int)):=T.foldl nG (List.replicate th.toNat [])
def ofL(u:Int)(T:List (List Int)):List (List Int):=(T.filter fun r=>ieq (List.headD r 0) u).map opR
def mM(th:Int)(T:List (List Int)):Bool:=T.any fun r=>bif ilt (List.headD r 0) 0 then true else ile th (List.headD r 0)
def trC(sh th nd tr:Int)(T:List (List Int)):Int:=bif !ieq (gnC sh th nd tr 0 (fun _=>0) (fun _ _=>0) (fun _ _=>0)) 0 then gnC sh th nd tr 0 (fun _=>0) (fun _ _=>0) (fun _ _=>0)else bif mM th T then 2 else gnC sh th nd tr th.toNat (oL (opsT th T)) (oK (opsT th T)) (oY (opsT th T))
theorem u5(ws:List (List (List Int)))(r:List Int):(nG ws r).length =ws.length:=by unfold nG;rw [List.length_set]
theorem nH(th:Int)(T:List (List Int)):(opsT th T).length =th.toNat:=by
 have: ∀(T:List (List Int)) (ws:List (List (List Int))),(T.foldl nG ws).length =ws.length:=by
  intro T
  induction T with
  | nil=>intro ws;rfl
  | cons r T ih=>intro ws;rw [List.foldl_cons,ih,u5]
 unfold opsT;rw [this,List.length_replicate]
theorem LQ(th:Int)(T:List (List Int))(r:List Int):opsT th (T++ [r])=nG (opsT th T) r:=by
 unfold opsT;rw [List.foldl_append];rfl
theorem P4{ws:List (List (List Int))}{i:Nat}(hi:i<ws.length)(x:List (List Int))(j:Nat):opAt (ws.set i x) j=if i=j then x else opAt ws j:=by
 unfold opAt;rw [gD',gD',List.getElem?_set];split
 ·rename_i h
  first
   | rfl
   | (rw [if_pos hi];rfl)
 ·rfl
theorem IS{th:Int}(T:List (List Int))(hT: ∀r∈T,0≤List.headD r 0∧List.headD r 0<th){u:Nat}(hu:u<th.toNat):opAt (opsT th T) u=ofL (u:Int) T:=by
 have key: ∀(T:List (List Int)) (ws:List (List (List Int))),ws.length=th.toNat→(∀r∈T,0≤List.headD r 0∧List.headD r 0<th)→opAt (T.foldl nG ws) u=opAt ws u++ofL (u:Int) T:=by
  intro T
  induction T with
  | nil=>intro ws _ _;unfold ofL;simp
  | cons r T ih=>
    intro ws hl hT;have hr:=hT r (by simp)
    rw [List.foldl_cons,ih (nG ws r) (by rw [u5];exact hl) (fun q hq=>hT q (by simp [hq]))]
    have hlt:(List.headD r 0).toNat <ws.length:=by omega
    have e:opAt (nG ws r) u=if (List.headD r 0).toNat =u then opAt ws (List.headD r 0).toNat ++ [opR r]else opAt ws u:=P4 hlt _ _
    rw [e];unfold ofL;rw [List.filter_cons]
    by_cases h:(List.headD r 0).toNat =u
    ·have h2:ieq (List.headD r 0) (u:Int)=true:=by rw [cF];exact decide_eq_true (by omega)
     rw [if_pos h,if_pos h2,List.map_cons,h,List.append_assoc];rfl
    ·have h2:ieq (List.headD r 0) (u:Int)=false:=by rw [cF];exact decide_eq_false (by omega)
     rw [if_neg h,if_neg (by rw [h2];decide)]
 unfold opsT;rw [key T _ (by rw [List.length_replicate]) hT]
 have:opAt (List.replicate th.toNat []) u=[]:=by
  unfold opAt;rw [gD',List.getElem?_replicate,if_pos hu];rfl
 rw [this];rfl
theorem YX{th:Int}{T:List (List Int)}(h:mM th T=false): ∀r∈T,0≤List.headD r 0∧List.headD r 0<th:=by
 intro r hr;unfold mM at h;rw [List.any_eq_false]at h;have h1:=h r hr;cases e:ilt (List.headD r 0) 0 with
 | true=>rw [e]at h1;exact absurd rfl h1
 | false=>
   rw [e]at h1
   have e2:ile th (List.headD r 0)=false:=by
    cases e3:ile th (List.headD r 0)with
    | false=>rfl
    | true=>rw [e3]at h1;exact absurd rfl h1
   rw [bG,dF']at e;rw [bX,dF']at e2;omega
theorem I4{th:Int}{T:List (List Int)}{r:List Int}(hr:r∈T)(h:List.headD r 0<0∨th≤List.headD r 0):mM th T=true:=by
 unfold mM;rw [List.any_eq_true];refine⟨r,hr,?_⟩;rcases h with h | h
 ·rw [show ilt (List.headD r 0) 0=true by rw [bG];exact decide_eq_true h];rfl
 ·cases ilt (List.headD r 0) 0 with
  | true=>rfl
  | false=>show ile th (List.headD r 0)=true;rw [bX];exact decide_eq_true h
theorem I3{th:Int}{T:List (List Int)}(h: ∀r∈T,0≤List.headD r 0∧List.headD r 0<th):mM th T=false:=by
 cases e:mM th T with
 | false=>rfl
 | true=>
   unfold mM at e;rw [List.any_eq_true]at e;obtain⟨r,hr,h1⟩:=e;have:=h r hr;rw [show ilt (List.headD r 0) 0=false by rw [bG];exact decide_eq_false (by omega),show ile th (List.headD r 0)=false by rw [bX];exact decide_eq_false (by omega)]at h1
   cases h1
variable [Con]
theorem XU{th:Int}{T:List (List Int)}(hT: ∀r∈T,0≤List.headD r 0∧List.headD r 0<th):opsT th T=(List.range th.toNat).map (fun(u:Nat)=>ofL (u:Int) T):=by
 apply List.ext_getElem?;intro u;rw [List.getElem?_map]
 by_cases hu:u<th.toNat
 ·rw [qB (by rw [nH];exact hu),IS T hT hu,List.getElem?_range hu];rfl
 ·rw [List.getElem?_eq_none (by rw [nH];omega),List.getElem?_eq_none (by rw [List.length_range];omega)];rfl
end Go.Sh
namespace Go.Sh
open Go Go.Proofs
variable [Con]
structure bg1 (th:Int) (T:List (List Int)) (j:Nat):Prop where
 hj:j≤T.length
 hr: ∀r∈T.take j,0≤List.headD r 0∧List.headD r 0<th
def MT(sh th nd tr:Int)(T:List (List Int)):Hint Ob:= {X:=Nat,st:=fun j=>([.O,.O,.ptr 1 0,.O,.O,.O,.O,.O,.slice 2 0 th.toNat 1]++List.replicate 13 .O ++ [.tslice 0 0 T.length 3,.int .i64 (T.length:Int),.int .i64 (j:Int)]++List.replicate 32 .O,[some (.tab tC T),some (.cells [.int .i64 sh,.int .i64 th,.int .i64 nd,.int .i64 tr]),some (.abs (.orow (opsT th (T.take j))) [])]),ok:=bg1 th T,mu:=fun j=>T.length - j,keep:=[2,8,22,23,24] }
def LBG(sh th nd tr:Int)(T:List (List Int)):FuncId→Nat→Option (lE Ob):=fun _ k=>match k with
 | 6=>some (.states (MT sh th nd tr T))
 | _=>none
abbrev w3w:=Value.pointer none
def bgD(sh th nd tr:Int)(T:List (List Int))(K:AVal→aC Ob→Prop):Prop:=((0:Int)≤th∧th=th∧th≤(4294967296:Int))∧cN (MT sh th nd tr T) (Hint.ok (MT sh th nd tr T)) (.O::.O::.ptr 1 0::.O::.O::.O::.O::.O::.slice 2 0 (Int.toNat th) 1::.O::.O::.O::.O::.O::.O::.O::.O::.O::.O::.O::.O::.O::.tslice 0 0 T.length 3::.int .i64 (↑T.length:Int)::.int .i64 0::(tO' 32 [])) [some (.tab cK3 T),some (.cells [.int .i64 sh,.int .i64 th,.int .i64 nd,.int .i64 tr]),some (.abs (.orow (List.replicate (Int.toNat th) (d4.nil SV))) [])]∧ ∀(x:Nat),bg1 th T x→bif ilt (↑x:Int) (↑T.length:Int)then((0:Int)≤(↑x:Int)∧(↑x:Int)<(↑T.length:Int))∧0+Int.toNat (↑x:Int)<T.length∧bif ilt (List.headD (List.getD T (0+Int.toNat (↑x:Int)) []) 0) 0 then K (.tup [.raw w3w,.int .i64 2]) [some (.tab cK3 T)]else bif ile th (List.headD (List.getD T (0+Int.toNat (↑x:Int)) []) 0)then K (.tup [.raw w3w,.int .i64 2]) [some (.tab cK3 T)]else((0:Int)≤List.headD (List.getD T (0+Int.toNat (↑x:Int)) []) 0∧List.headD (List.getD T (0+Int.toNat (↑x:Int)) []) (0:Int)<(↑(Int.toNat th):Int))∧0+Int.toNat (List.headD (List.getD T (0+Int.toNat (↑x:Int)) []) 0)*(1:Nat)<List.length (opsT th (List.take x T))∧(0=0∧lE' (opAt (opsT th (List.take x T)) (0+Int.toNat (List.headD (List.getD T (0+Int.toNat (↑x:Int)) []) 0)*1))∧List.length (opAt (opsT th (List.take x T)) (0+Int.toNat (List.headD (List.getD T (0+Int.toNat (↑x:Int)) []) 0)*1))+(1:Nat)≤(4294967296:Nat))∧((0:Int)≤List.headD (List.getD T (0+Int.toNat (↑x:Int)) []) 0∧List.headD (List.getD T (0+Int.toNat (↑x:Int)) []) (0:Int)<(↑(Int.toNat th):Int))∧(0+Int.toNat (List.headD (List.getD T (0+Int.toNat (↑x:Int)) []) 0)*(1:Nat)<List.length (opsT th (List.take x T))∧0+Int.toNat (List.headD (List.getD T (0+Int.toNat (↑x:Int)) []) 0)*(1:Nat)=(0:Nat)+Int.toNat (List.headD (List.getD T (0+Int.toNat (↑x:Int)) []) 0)*1∧6=6∧0=0∧List.length (opAt (opsT th (List.take x T)) (0+Int.toNat (List.headD (List.getD T (0+Int.toNat (↑x:Int)) []) 0)*1))+(1:Nat)=List.length (opAt (opsT th (List.take x T)) (0+Int.toNat (List.headD (List.getD T (0+Int.toNat (↑x:Int)) []) 0)*1)++ [[List.headD (List.tail (List.getD T (0+Int.toNat (↑x:Int)) [])) 0,List.headD (List.tail (List.tail (List.getD T (0+Int.toNat (↑x:Int)) []))) 0]])∧2=2)∧cN (MT sh th nd tr T) (fun x'=>Hint.ok (MT sh th nd tr T) x'∧Hint.mu (MT sh th nd tr T) x'<Hint.mu (MT sh th nd tr T) x) (.O::.O::.ptr 1 0::.O::.O::.O::.O::.O::.slice 2 0 (Int.toNat th) 1::.O::.O::.O::.O::.O::.O::.O::.O::.O::.O::.O::.O::.O::.tslice 0 0 T.length 3::.int .i64 (↑T.length:Int)::.int .i64 (W ((↑x:Int)+1))::(tO' 32 [])) [some (.tab cK3 T),some (.cells [.int .i64 sh,.int .i64 th,.int .i64 nd,.int .i64 tr]),some (.abs (.orow (List.set (opsT th (List.take x T)) (0+Int.toNat (List.headD (List.getD T (0+Int.toNat (↑x:Int)) []) 0)*1) (opAt (opsT th (List.take x T)) (0+Int.toNat (List.headD (List.getD T (0+Int.toNat (↑x:Int)) []) 0)*1)++ [[List.headD (List.tail (List.getD T (0+Int.toNat (↑x:Int)) [])) 0,List.headD (List.tail (List.tail (List.getD T (0+Int.toNat (↑x:Int)) []))) 0]]))) [])]else(Int.toNat th=List.length (opsT th (List.take x T))∧Int.toNat th≤(1000000:Nat))∧bif ieq (gnC sh th nd tr (Int.toNat th) (oL (opsT th (List.take x T))) (oK (opsT th (List.take x T))) (oY (opsT th (List.take x T)))) 0 then K (.tup [.ptr 1 0,.int .i64 0]) [some (.tab cK3 T),some (.abs (.engine (eY sh th nd tr (Int.toNat th) (oL (opsT th (List.take x T))) (oK (opsT th (List.take x T))) (oY (opsT th (List.take x T))))) [])]else K (.tup [.raw w3w,.int .i64 (gnC sh th nd tr (Int.toNat th) (oL (opsT th (List.take x T))) (oK (opsT th (List.take x T))) (oY (opsT th (List.take x T))))]) [some (.tab cK3 T)]
def aAL(sh th nd tr:Int)(T:List (List Int))(K:AVal→aC Ob→Prop):Prop:=bif ieq (gnC sh th nd tr 0 (fun x=>(0:Nat)) (fun x x_1=>(0:Int)) fun x x_1=>(0:Int)) 0 then bgD sh th nd tr T K else bif !ieq (gnC sh th nd tr 0 (fun x=>(0:Nat)) (fun x x_1=>(0:Int)) fun x x_1=>(0:Int)) 0 then K (.tup [.raw w3w,.int .i64 (gnC sh th nd tr 0 (fun x=>(0:Nat)) (fun x x_1=>(0:Int)) fun x x_1=>(0:Int))]) [some (.tab cK3 T)]else bgD sh th nd tr T K
theorem NM(sh th nd tr:Int)(T:List (List Int))(K:AVal→aC Ob→Prop)(h:aAL sh th nd tr T K):cT' 75 [.agg [.int .i64 sh,.int .i64 th,.int .i64 nd,.int .i64 tr],.tslice 0 0 T.length 3] [some (.tab tC T)] (f9 1 K):=by
 exact aD (E:=EUv) Tryz.checked.mixed (L:=LBG sh th nd tr T) (n:=10) (aK (by kernel_rfl) h)
end Go.Sh
