import Derived.RangeFuncLeaves
import Derived.Test.YteindpciaceeeaaGreatZSh30
set_option linter.all false
set_option maxHeartbeats 8000000
namespace Go.Sh
open Go Go.Proofs
variable [Con]
abbrev w3d(x:HST):Option (aH Ob):=cE' [.tslice 1 0 x.ev.length 7,.tslice 2 0 x.cl.length 9,.I x.n0,.I x.n1,.I x.n2,.I x.n3,.I x.n4,.I x.n5,.I x.n6,.I x.n7]
abbrev w3e(x:HST):Option (aH Ob):=some (.abs (.hist x) [])
theorem aF3(x:HST):aF (obI tbl) 1 (.tslice 3 0 x.ev.length 7) [w3d x,some (.tab cK7 x.ev),some (.tab cK9 x.cl),some (.tab cK7 x.ev)] (.tslice 1 0 x.ev.length 7) [w3e x,some (.tab cK7 x.ev)]:=by
 exact((aF.move 1 (of_decide_eq_true rfl)).trans ((aF.move 2 (of_decide_eq_true rfl)).trans ((aHl (v2:=.tslice 3 0 x.ev.length 7) (g2:=aP [w3e x,none,none,some (.tab cK7 x.ev)] 0 0 (wO x) []) (by kernel_rfl) (by kernel_rfl)).trans ((aF.pack [w3e x,none,none,some (.tab cK7 x.ev)] (.hist x) 0 0 (wO x) [] rfl rfl rfl (by kernel_rfl)).trans (aF.pick [0,3] rfl)))))
abbrev w3f(x:HST):Option (aH Ob):=cE' [.tslice 1 0 x.1.length 7,.tslice 2 0 x.2.length 9,.I x.3,.I x.4,.I x.5,.I x.6,.I x.7,.I x.8,.I x.9,.I x.10]
def aEM(x:HST)(K:AVal→aC Ob→Prop):Prop:= ∀(b:Bool),(b=true→x.1.length=0)→bif b then K (.raw (Value.slice none 0 0)) [w3f x,some (.tab cK7 x.1),some (.tab cK9 x.2)]else(0+x.1.length≤x.1.length∧x.1.length≤(4294967296:Nat))∧K (.tslice 3 0 x.1.length 7) [w3f x,some (.tab cK7 x.1),some (.tab cK9 x.2),some (.tab cK7 (List.take x.1.length (List.drop 0 x.1)))]
theorem O6(x:HST)(K:AVal→aC Ob→Prop)(h:aEM x K):cT' 29 [.ptr 0 0] [cE' [.tslice 1 0 x.ev.length 7,.tslice 2 0 x.cl.length 9,.I x.n0,.I x.n1,.I x.n2,.I x.n3,.I x.n4,.I x.n5,.I x.n6,.I x.n7],some (.tab cK7 x.ev),some (.tab cK9 x.cl)] (kS 1 K):=by
 exact cM' (E:=EU6) (by kernel_rfl) h
def hvS:aI Ob:=fun args h=>match args,h with
 | [.ptr 0 0],[some (.abs (.hist x) [])]=>some (.pre (x.ev.length≤4294967296) (.ret (.tslice 1 0 x.ev.length 7) [some (.abs (.hist x) []),some (.tab cK7 x.ev)]))
 | _,_=>none
theorem aEN:sT' 29 hvS:=by
 intro args h o ho K hK;unfold hvS at ho;split at ho<;>cases ho
 rename_i x;obtain⟨hl,hK⟩:=hK;have hK:K (.tslice 1 0 x.ev.length 7) [some (.abs (.hist x) []),some (.tab cK7 x.ev)]:=hK;refine aHn ?_;refine aHi (h2:=[cE' [.tslice 1 0 x.ev.length 7,.tslice 2 0 x.cl.length 9,.I x.n0,.I x.n1,.I x.n2,.I x.n3,.I x.n4,.I x.n5,.I x.n6,.I x.n7],some (.tab cK7 x.ev),some (.tab cK9 x.cl)]) (aR.unpack (.hist x) 0 0 (wO x) [] rfl rfl rfl rfl) ?_;have ht:=aF3 x;refine aB.keep (O6 x _ ?_);intro b hb;refine aO (fun e=>?_) (fun e=>?_)
 ·have he:x.ev=[]:=List.length_eq_zero_iff.1 (hb e);rw [he]at ht hK;rw [he];exact⟨⟨_,_,(aHB (cs:=[(.slot 0,.tab cK7)]) rfl).trans ht,hK⟩⟩
 ·have he:List.take x.ev.length (List.drop 0 x.ev)=x.ev:=by simp
  rw [he];exact⟨⟨by omega,hl⟩,⟨⟨_,_,ht,hK⟩⟩⟩
theorem aFX(x:HST):aF (obI tbl) 1 (.tslice 3 0 x.cl.length 9) [w3d x,some (.tab cK7 x.ev),some (.tab cK9 x.cl),some (.tab cK9 x.cl)] (.tslice 1 0 x.cl.length 9) [w3e x,some (.tab cK9 x.cl)]:=by
 exact((aF.move 1 (of_decide_eq_true rfl)).trans ((aF.move 2 (of_decide_eq_true rfl)).trans ((aHl (v2:=.tslice 3 0 x.cl.length 9) (g2:=aP [w3e x,none,none,some (.tab cK9 x.cl)] 0 0 (wO x) []) (by kernel_rfl) (by kernel_rfl)).trans ((aF.pack [w3e x,none,none,some (.tab cK9 x.cl)] (.hist x) 0 0 (wO x) [] rfl rfl rfl (by kernel_rfl)).trans (aF.pick [0,3] rfl)))))
def aEB(x:HST)(K:AVal→aC Ob→Prop):Prop:= ∀(b:Bool),(b=true→x.2.length=0)→bif b then K (.raw (Value.slice none 0 0)) [w3f x,some (.tab cK7 x.1),some (.tab cK9 x.2)]else(0+x.2.length≤x.2.length∧x.2.length≤(4294967296:Nat))∧K (.tslice 3 0 x.2.length 9) [w3f x,some (.tab cK7 x.1),some (.tab cK9 x.2),some (.tab cK9 (List.take x.2.length (List.drop 0 x.2)))]
theorem OV(x:HST)(K:AVal→aC Ob→Prop)(h:aEB x K):cT' 49 [.ptr 0 0] [cE' [.tslice 1 0 x.ev.length 7,.tslice 2 0 x.cl.length 9,.I x.n0,.I x.n1,.I x.n2,.I x.n3,.I x.n4,.I x.n5,.I x.n6,.I x.n7],some (.tab cK7 x.ev),some (.tab cK9 x.cl)] (kS 1 K):=by
 exact cM' (E:=EU6) (by kernel_rfl) h
def hcS:aI Ob:=fun args h=>match args,h with
 | [.ptr 0 0],[some (.abs (.hist x) [])]=>some (.pre (x.cl.length≤4294967296) (.ret (.tslice 1 0 x.cl.length 9) [some (.abs (.hist x) []),some (.tab cK9 x.cl)]))
 | _,_=>none
theorem aEC:sT' 49 hcS:=by
 intro args h o ho K hK;unfold hcS at ho;split at ho<;>cases ho
 rename_i x;obtain⟨hl,hK⟩:=hK;have hK:K (.tslice 1 0 x.cl.length 9) [some (.abs (.hist x) []),some (.tab cK9 x.cl)]:=hK;refine aHn ?_;refine aHi (h2:=[cE' [.tslice 1 0 x.ev.length 7,.tslice 2 0 x.cl.length 9,.I x.n0,.I x.n1,.I x.n2,.I x.n3,.I x.n4,.I x.n5,.I x.n6,.I x.n7],some (.tab cK7 x.ev),some (.tab cK9 x.cl)]) (aR.unpack (.hist x) 0 0 (wO x) [] rfl rfl rfl rfl) ?_;have ht:=aFX x;refine aB.keep (OV x _ ?_);intro b hb;refine aO (fun e=>?_) (fun e=>?_)
 ·have he:x.cl=[]:=List.length_eq_zero_iff.1 (hb e);rw [he]at ht hK;rw [he];exact⟨⟨_,_,(aHB (cs:=[(.slot 0,.tab cK9)]) rfl).trans ht,hK⟩⟩
 ·have he:List.take x.cl.length (List.drop 0 x.cl)=x.cl:=by simp
  rw [he];exact⟨⟨by omega,hl⟩,⟨⟨_,_,ht,hK⟩⟩⟩
def YW(x:HST)(K:AVal→aC Ob→Prop):Prop:= ∀(b:Bool),(b=true→x.1.length=0)→bif b then K (.raw (Value.slice none 0 0)) [w3f x,some (.tab cK7 x.1),some (.tab cK9 x.2)]else(0+x.1.length≤x.1.length∧x.1.length≤(4294967296:Nat))∧K (.tslice 3 0 x.1.length 7) [w3f x,some (.tab cK7 x.1),some (.tab cK9 x.2),some (.tab cK7 (List.take x.1.length (List.drop 0 x.1)))]
theorem KH(x:HST)(K:AVal→aC Ob→Prop)(h:YW x K):cT' 29 [.ptr 0 0] [cE' [.tslice 1 0 x.ev.length 7,.tslice 2 0 x.cl.length 9,.I x.n0,.I x.n1,.I x.n2,.I x.n3,.I x.n4,.I x.n5,.I x.n6,.I x.n7],some (.tab cK7 x.ev),some (.tab cK9 x.cl)] (kS 3 K):=by
 exact cM' (E:=EU6) (by kernel_rfl) h
def hvoS:aI Ob:=fun args h=>match args,h with
 | [.ptr 0 0],[some (.cells [.tslice 1 0 a 7,.tslice 2 0 b 9,.int .i64 n0,.int .i64 n1,.int .i64 n2,.int .i64 n3,.int .i64 n4,.int .i64 n5,.int .i64 n6,.int .i64 n7]),some (.tab [some .i64,none,some .i64,some .i64,some .i64,none,some .i64] ev),some (.tab [some .i64,some .i64,some .i64,some .i64,some .i64,some .i64,some .i64,none,some .i64] cl)]=>some (.pre ((a=ev.length∧b=cl.length)∧ev.length≤4294967296) (.ret (.tslice 3 0 ev.length 7) ([cE' [.tslice 1 0 a 7,.tslice 2 0 b 9,.I n0,.I n1,.I n2,.I n3,.I n4,.I n5,.I n6,.I n7],some (.tab cK7 ev),some (.tab cK9 cl)]++ [some (.tab cK7 ev)])))
 | _,_=>none
theorem aCf:sT' 29 hvoS:=by
 intro args h o ho K hK;unfold hvoS at ho;split at ho<;>cases ho
 rename_i a b n0 n1 n2 n3 n4 n5 n6 n7 ev cl;obtain⟨⟨⟨rfl,rfl⟩,hl⟩,hK⟩:=hK;have hK:K (.tslice 3 0 ev.length 7) ([cE' [.tslice 1 0 ev.length 7,.tslice 2 0 cl.length 9,.I n0,.I n1,.I n2,.I n3,.I n4,.I n5,.I n6,.I n7],some (.tab cK7 ev),some (.tab cK9 cl)]++ [some (.tab cK7 ev)]):=hK;refine aHn (aB.keep (KH ⟨ev,cl,n0,n1,n2,n3,n4,n5,n6,n7⟩ _ ?_));intro b hb;refine aO (fun e=>?_) (fun e=>?_)
 ·have he:ev=[]:=List.length_eq_zero_iff.1 (hb e);subst he;exact⟨⟨_,_,(aHB (cs:=[(.slot 0,.tab cK7)]) rfl),hK⟩⟩
 ·have he:List.take ev.length (List.drop 0 ev)=ev:=by simp
  rw [he];exact⟨⟨by omega,hl⟩,⟨⟨_,_,aHB (cs:=[]) rfl,hK⟩⟩⟩
def YQ(x:HST)(K:AVal→aC Ob→Prop):Prop:= ∀(b:Bool),(b=true→x.2.length=0)→bif b then K (.raw (Value.slice none 0 0)) [w3f x,some (.tab cK7 x.1),some (.tab cK9 x.2)]else(0+x.2.length≤x.2.length∧x.2.length≤(4294967296:Nat))∧K (.tslice 3 0 x.2.length 9) [w3f x,some (.tab cK7 x.1),some (.tab cK9 x.2),some (.tab cK9 (List.take x.2.length (List.drop 0 x.2)))]
theorem J4(x:HST)(K:AVal→aC Ob→Prop)(h:YQ x K):cT' 49 [.ptr 0 0] [cE' [.tslice 1 0 x.ev.length 7,.tslice 2 0 x.cl.length 9,.I x.n0,.I x.n1,.I x.n2,.I x.n3,.I x.n4,.I x.n5,.I x.n6,.I x.n7],some (.tab cK7 x.ev),some (.tab cK9 x.cl)] (kS 3 K):=by
 exact cM' (E:=EU6) (by kernel_rfl) h
def hcoS:aI Ob:=fun args h=>match args,h with
 | [.ptr 0 0],[some (.cells [.tslice 1 0 a 7,.tslice 2 0 b 9,.int .i64 n0,.int .i64 n1,.int .i64 n2,.int .i64 n3,.int .i64 n4,.int .i64 n5,.int .i64 n6,.int .i64 n7]),some (.tab [some .i64,none,some .i64,some .i64,some .i64,none,some .i64] ev),some (.tab [some .i64,some .i64,some .i64,some .i64,some .i64,some .i64,some .i64,none,some .i64] cl)]=>some (.pre ((a=ev.length∧b=cl.length)∧cl.length≤4294967296) (.ret (.tslice 3 0 cl.length 9) ([cE' [.tslice 1 0 a 7,.tslice 2 0 b 9,.I n0,.I n1,.I n2,.I n3,.I n4,.I n5,.I n6,.I n7],some (.tab cK7 ev),some (.tab cK9 cl)]++ [some (.tab cK9 cl)])))
 | _,_=>none
theorem aBO:sT' 49 hcoS:=by
 intro args h o ho K hK;unfold hcoS at ho;split at ho<;>cases ho
 rename_i a b n0 n1 n2 n3 n4 n5 n6 n7 ev cl;obtain⟨⟨⟨rfl,rfl⟩,hl⟩,hK⟩:=hK;have hK:K (.tslice 3 0 cl.length 9) ([cE' [.tslice 1 0 ev.length 7,.tslice 2 0 cl.length 9,.I n0,.I n1,.I n2,.I n3,.I n4,.I n5,.I n6,.I n7],some (.tab cK7 ev),some (.tab cK9 cl)]++ [some (.tab cK9 cl)]):=hK;refine aHn (aB.keep (J4 ⟨ev,cl,n0,n1,n2,n3,n4,n5,n6,n7⟩ _ ?_));intro b hb;refine aO (fun e=>?_) (fun e=>?_)
 ·have he:cl=[]:=List.length_eq_zero_iff.1 (hb e);subst he;exact⟨⟨_,_,(aHB (cs:=[(.slot 0,.tab cK9)]) rfl),hK⟩⟩
 ·have he:List.take cl.length (List.drop 0 cl)=cl:=by simp
  rw [he];exact⟨⟨by omega,hl⟩,⟨⟨_,_,aHB (cs:=[]) rfl,hK⟩⟩⟩
def hvN:dA Ob:=fun args h=>match args,h with
 | [.ptr 0 0],[some (.abs (.hist x) [])]=>some (x.ev.length≤4294967296,.tslice 1 0 x.ev.length 7,[.tab cK7 x.ev])
 | _,_=>none
theorem aCd:sT' 29 hvN.spec:=by
 intro args h o ho K hK;refine aEN args h o ?_ K hK;rw [←ho];unfold hvS dA.spec hvN;split<;>rfl
def aCe:dA Ob:=fun args h=>match args,h with
 | [.ptr 0 0],[some (.cells [.tslice 1 0 a 7,.tslice 2 0 b 9,.int .i64 n0,.int .i64 n1,.int .i64 n2,.int .i64 n3,.int .i64 n4,.int .i64 n5,.int .i64 n6,.int .i64 n7]),some (.tab [some .i64,none,some .i64,some .i64,some .i64,none,some .i64] ev),some (.tab [some .i64,some .i64,some .i64,some .i64,some .i64,some .i64,some .i64,none,some .i64] cl)]=>some ((a=ev.length∧b=cl.length)∧ev.length≤4294967296,.tslice 3 0 ev.length 7,[.tab cK7 ev])
 | _,_=>none
theorem WC:sT' 29 aCe.spec:=by
 intro args h o ho K hK;refine aCf args h o ?_ K hK;rw [←ho];unfold hvoS dA.spec aCe;split<;>rfl
def hcN:dA Ob:=fun args h=>match args,h with
 | [.ptr 0 0],[some (.abs (.hist x) [])]=>some (x.cl.length≤4294967296,.tslice 1 0 x.cl.length 9,[.tab cK9 x.cl])
 | _,_=>none
theorem aBM:sT' 49 hcN.spec:=by
 intro args h o ho K hK;refine aEC args h o ?_ K hK;rw [←ho];unfold hcS dA.spec hcN;split<;>rfl
def aBN:dA Ob:=fun args h=>match args,h with
 | [.ptr 0 0],[some (.cells [.tslice 1 0 a 7,.tslice 2 0 b 9,.int .i64 n0,.int .i64 n1,.int .i64 n2,.int .i64 n3,.int .i64 n4,.int .i64 n5,.int .i64 n6,.int .i64 n7]),some (.tab [some .i64,none,some .i64,some .i64,some .i64,none,some .i64] ev),some (.tab [some .i64,some .i64,some .i64,some .i64,some .i64,some .i64,some .i64,none,some .i64] cl)]=>some ((a=ev.length∧b=cl.length)∧cl.length≤4294967296,.tslice 3 0 cl.length 9,[.tab cK9 cl])
 | _,_=>none
theorem U9:sT' 49 aBN.spec:=by
 intro args h o ho K hK;refine aBO args h o ?_ K hK;rw [←ho];unfold hcoS dA.spec aBN;split<;>rfl
noncomputable def EU7:=(EU6.addN 29 (dA.or hvN aCe) (aIe aCd WC)).addN 49 (dA.or hcN aBN) (aIe aBM U9)
abbrev w3g(x:HST):Option (aH Ob):=cE' [.tslice 4 0 x.ev.length 7,.tslice 5 0 x.cl.length 9,.I x.n0,.I x.n1,.I x.n2,.I x.n3,.I x.n4,.I x.n5,.I x.n6,.I x.n7]
abbrev w3h(x:HST):Option (aH Ob):=some (.abs (.hist x) [])
theorem aED(x:HST):aF (obI tbl) 1 (.ptr 3 0) [cE' [.tslice 1 0 x.ev.length 7,.tslice 2 0 x.cl.length 9,.I x.n0,.I x.n1,.I x.n2,.I x.n3,.I x.n4,.I x.n5,.I x.n6,.I x.n7],some (.tab cK7 x.ev),some (.tab cK9 x.cl),w3g x,some (.tab cK7 x.ev),some (.tab cK9 x.cl)] (.ptr 1 0) [w3h x,w3h x]:=by
 exact((aF.move 1 (of_decide_eq_true rfl)).trans ((aF.move 2 (of_decide_eq_true rfl)).trans ((aHl (v2:=.ptr 3 0) (g2:=aP [w3h x,none,none,w3g x,some (.tab cK7 x.ev),some (.tab cK9 x.cl)] 0 0 (wO x) []) (by kernel_rfl) (by kernel_rfl)).trans ((aF.pack [w3h x,none,none,w3g x,some (.tab cK7 x.ev),some (.tab cK9 x.cl)] (.hist x) 0 0 (wO x) [] rfl rfl rfl (by kernel_rfl)).trans ((aF.move 4 (of_decide_eq_true rfl)).trans ((aF.move 5 (of_decide_eq_true rfl)).trans ((aHl (v2:=.ptr 3 0) (g2:=aP [w3h x,none,none,w3h x,none,none] 3 0 (wO x) []) (by kernel_rfl) (by kernel_rfl)).trans ((aF.pack [w3h x,none,none,w3h x,none,none] (.hist x) 3 0 (wO x) [] rfl rfl rfl (by kernel_rfl)).trans (aF.pick [0,3] rfl)))))))))
def YR(x:HST)(K:AVal→aC Ob→Prop):Prop:=((lE' x.1∧lE' x.2)∧x.1.length≤(4294967296:Nat))∧((lE' x.1∧lE' x.2)∧x.2.length≤(4294967296:Nat))∧K (.ptr 3 0) [cE' [.tslice 1 0 x.1.length 7,.tslice 2 0 x.2.length 9,.I x.3,.I x.4,.I x.5,.I x.6,.I x.7,.I x.8,.I x.9,.I x.10],some (.tab cK7 x.1),some (.tab cK9 x.2),cE' [.tslice 4 0 x.1.length 7,.tslice 5 0 x.2.length 9,.I x.3,.I x.4,.I x.5,.I x.6,.I x.7,.I x.8,.I x.9,.I x.10],some (.tab cK7 x.1),some (.tab cK9 x.2)]
theorem J5(x:HST)(K:AVal→aC Ob→Prop)(h:YR x K):cT' 86 [.ptr 0 0] [cE' [.tslice 1 0 x.ev.length 7,.tslice 2 0 x.cl.length 9,.I x.n0,.I x.n1,.I x.n2,.I x.n3,.I x.n4,.I x.n5,.I x.n6,.I x.n7],some (.tab cK7 x.ev),some (.tab cK9 x.cl)] (kS 1 K):=by
 exact cM' (E:=EU7) (by kernel_rfl) h
def hcpS:aI Ob:=fun args h=>match args,h with
 | [.ptr 0 0],[some (.abs (.hist x) [])]=>some (.pre (x.ev.length≤4294967296∧x.cl.length≤4294967296) (.ret (.ptr 1 0) [some (.abs (.hist x) []),some (.abs (.hist x) [])]))
 | _,_=>none
theorem aBP:sT' 86 hcpS:=by
 intro args h o ho K hK;unfold hcpS at ho;split at ho<;>cases ho
 rename_i x;obtain⟨⟨h1,h2⟩,hK⟩:=hK;have hK:K (.ptr 1 0) [some (.abs (.hist x) []),some (.abs (.hist x) [])]:=hK;refine aHn ?_;refine aHi (h2:=[cE' [.tslice 1 0 x.ev.length 7,.tslice 2 0 x.cl.length 9,.I x.n0,.I x.n1,.I x.n2,.I x.n3,.I x.n4,.I x.n5,.I x.n6,.I x.n7],some (.tab cK7 x.ev),some (.tab cK9 x.cl)]) (aR.unpack (.hist x) 0 0 (wO x) [] rfl rfl rfl rfl) ?_;refine(aB.keep (J5 x _ ?_));exact⟨⟨⟨rfl,rfl⟩,h1⟩,⟨⟨rfl,rfl⟩,h2⟩,⟨⟨_,_,aED x,hK⟩⟩⟩
noncomputable def EU8:=EU7.addS 86 hcpS aBP
abbrev w3i(x:EGS):Option (aH Ob):=some (.abs (.hist x.h) [])
theorem aD6(x:EGS):aF (obI tbl) 1 (.ptr 5 0) [cE' [.I x.sh,.I x.th,.I x.nd,.I x.tr,.ptr 1 0,.ptr 3 0,.slice 4 0 x.ws.length 1,.I x.k],aZ 2 x.s,a8 x.s,w3i x,some (.abs (.wrow x.ws) []),w3i x] (.ptr 1 0) [some (.abs (.engine x) []),w3i x]:=by
 exact((aF.move 1 (of_decide_eq_true rfl)).trans ((aF.move 2 (of_decide_eq_true rfl)).trans ((aF.move 3 (of_decide_eq_true rfl)).trans ((aF.move 4 (of_decide_eq_true rfl)).trans ((aHl (v2:=.ptr 5 0) (g2:=aP [some (.abs (.engine x) []),none,none,none,none,w3i x] 0 0 (egG x) []) (by kernel_rfl) (by kernel_rfl)).trans ((aF.pack [some (.abs (.engine x) []),none,none,none,none,w3i x] (.engine x) 0 0 (egG x) [] rfl rfl rfl (by kernel_rfl)).trans (aF.pick [0,5] rfl)))))))
abbrev w3j(x:EGS):Option (aH Ob):=cE' [.I (EGS.s x).1,.I (EGS.s x).2,.slice 2 0 (List.length (EGS.s x).3) 1,.I (EGS.s x).4,.I (EGS.s x).5,.I (EGS.s x).6,.int .u64 (EGS.s x).7,.int .u64 (EGS.s x).8,.bool (EGS.s x).9]
abbrev w3k(x:EGS):Option (aH Ob):=cE' [.I x.1,.I x.2,.I x.3,.I x.4,.ptr 1 0,.ptr 3 0,.slice 4 0 x.7.length 1,.I x.8]
def YL(x:EGS)(K:AVal→aC Ob→Prop):Prop:=(List.length (EGS.h x).1≤(4294967296:Nat)∧List.length (EGS.h x).2≤(4294967296:Nat))∧K (.ptr 5 0) [w3k x,w3j x,some (.ints (some .u64) (EGS.s x).3),some (.abs (.hist x.6) []),some (.abs (.wrow x.7) []),some (.abs (.hist x.6) [])]
theorem JA(x:EGS)(K:AVal→aC Ob→Prop)(h:YL x K):cT' 28 [.ptr 0 0] (egG x) (kS 1 K):=by
 exact cM' (E:=EU8) (by kernel_rfl) h
noncomputable def EI:=(EU2.addS 110 kyS YY).addS 111 srS ZJ
theorem NT(x:EGS)(ys:List Int):aF (obI tbl) 1 (.slice 5 0 ys.length 1) [cE' [.I x.sh,.I x.th,.I x.nd,.I x.tr,.ptr 1 0,.ptr 3 0,.slice 4 0 x.ws.length 1,.I x.k],aZ 2 x.s,a8 x.s,some (.abs (.hist x.h) []),some (.abs (.wrow x.ws) []),iI' ys] (.slice 1 0 ys.length 1) [some (.abs (.engine x) []),iI' ys]:=by
 exact((aF.move 1 (of_decide_eq_true rfl)).trans ((aF.move 2 (of_decide_eq_true rfl)).trans ((aF.move 3 (of_decide_eq_true rfl)).trans ((aF.move 4 (of_decide_eq_true rfl)).trans ((aHl (v2:=.slice 5 0 ys.length 1) (g2:=aP [some (.abs (.engine x) []),none,none,none,none,iI' ys] 0 0 (egG x) []) (by kernel_rfl) (by kernel_rfl)).trans ((aF.pack [some (.abs (.engine x) []),none,none,none,none,iI' ys] (.engine x) 0 0 (egG x) [] rfl rfl rfl (by kernel_rfl)).trans (aF.pick [0,5] rfl)))))))
def NQ(x:EGS)(K:AVal→aC Ob→Prop):Prop:=bif ieq x.1 3 then((lE' (EGS.s x).3∧((0:Int)≤(EGS.s x).2∧(EGS.s x).2≤(100000:Int))∧(-1000000:Int)≤(0:Int)∧(0:Int)≤(1000000:Int))∧True)∧K (.slice 5 0 (List.length (keyF (EGS.s x).3 (EGS.s x).2 0)) 1) [w3k x,w3j x,some (.ints (some .u64) (EGS.s x).3),some (.abs (.hist x.6) []),some (.abs (.wrow x.7) []),iI' (keyF (EGS.s x).3 (EGS.s x).2 0)]else bif ieq x.1 4 then((lE' (EGS.s x).3∧((0:Int)≤(EGS.s x).2∧(EGS.s x).2≤(100000:Int))∧(-1000000:Int)≤(0:Int)∧(0:Int)≤(1000000:Int))∧True)∧K (.slice 5 0 (List.length (keyF (EGS.s x).3 (EGS.s x).2 0)) 1) [w3k x,w3j x,some (.ints (some .u64) (EGS.s x).3),some (.abs (.hist x.6) []),some (.abs (.wrow x.7) []),iI' (keyF (EGS.s x).3 (EGS.s x).2 0)]else((lE' (EGS.s x).3∧((0:Int)≤(EGS.s x).2∧(EGS.s x).2≤(100000:Int))∧(-1000000:Int)≤(0:Int)∧(0:Int)≤(1000000:Int))∧True)∧(0+List.length (keyF (EGS.s x).3 (EGS.s x).2 0)≤List.length (keyF (EGS.s x).3 (EGS.s x).2 0)∧List.length (keyF (EGS.s x).3 (EGS.s x).2 0)≤(4294967296:Nat))∧((lE' (EGS.s x).3∧((0:Int)≤(EGS.s x).2∧(EGS.s x).2≤(100000:Int))∧(-1000000:Int)≤W (0+1)∧W (0+1)≤(1000000:Int))∧True)∧(0+List.length (keyF (EGS.s x).3 (EGS.s x).2 (W (0+1)))≤List.length (keyF (EGS.s x).3 (EGS.s x).2 (W (0+1)))∧0=0∧List.length (keyF (EGS.s x).3 (EGS.s x).2 0)=List.length (List.take (List.length (keyF (EGS.s x).3 (EGS.s x).2 0)) (List.drop 0 (keyF (EGS.s x).3 (EGS.s x).2 0)))∧1=1∧List.length (keyF (EGS.s x).3 (EGS.s x).2 0)+List.length (keyF (EGS.s x).3 (EGS.s x).2 (W (0+1)))≤(4294967296:Nat))∧((lE' (EGS.s x).3∧((0:Int)≤(EGS.s x).2∧(EGS.s x).2≤(100000:Int))∧(-1000000:Int)≤W (W (0+1)+1)∧W (W (0+1)+1)≤(1000000:Int))∧True)∧(0+List.length (keyF (EGS.s x).3 (EGS.s x).2 (W (W (0+1)+1)))≤List.length (keyF (EGS.s x).3 (EGS.s x).2 (W (W (0+1)+1)))∧0=0∧List.length (keyF (EGS.s x).3 (EGS.s x).2 0)+List.length (keyF (EGS.s x).3 (EGS.s x).2 (W (0+1)))=List.length (List.take (List.length (keyF (EGS.s x).3 (EGS.s x).2 0)) (List.drop 0 (keyF (EGS.s x).3 (EGS.s x).2 0))++List.take (List.length (keyF (EGS.s x).3 (EGS.s x).2 (W (0+1)))) (List.drop 0 (keyF (EGS.s x).3 (EGS.s x).2 (W (0+1)))))∧1=1∧List.length (keyF (EGS.s x).3 (EGS.s x).2 0)+List.length (keyF (EGS.s x).3 (EGS.s x).2 (W (0+1)))+List.length (keyF (EGS.s x).3 (EGS.s x).2 (W (W (0+1)+1)))≤(4294967296:Nat))∧((lE' (EGS.s x).3∧((0:Int)≤(EGS.s x).2∧(EGS.s x).2≤(100000:Int))∧(-1000000:Int)≤W (W (W (0+1)+1)+1)∧W (W (W (0+1)+1)+1)≤(1000000:Int))∧True)∧(0+List.length (keyF (EGS.s x).3 (EGS.s x).2 (W (W (W (0+1)+1)+1)))≤List.length (keyF (EGS.s x).3 (EGS.s x).2 (W (W (W (0+1)+1)+1)))∧0=0∧List.length (keyF (EGS.s x).3 (EGS.s x).2 0)+List.length (keyF (EGS.s x).3 (EGS.s x).2 (W (0+1)))+List.length (keyF (EGS.s x).3 (EGS.s x).2 (W (W (0+1)+1)))=List.length (List.take (List.length (keyF (EGS.s x).3 (EGS.s x).2 0)) (List.drop 0 (keyF (EGS.s x).3 (EGS.s x).2 0))++List.take (List.length (keyF (EGS.s x).3 (EGS.s x).2 (W (0+1)))) (List.drop 0 (keyF (EGS.s x).3 (EGS.s x).2 (W (0+1))))++List.take (List.length (keyF (EGS.s x).3 (EGS.s x).2 (W (W (0+1)+1)))) (List.drop 0 (keyF (EGS.s x).3 (EGS.s x).2 (W (W (0+1)+1)))))∧1=1∧List.length (keyF (EGS.s x).3 (EGS.s x).2 0)+List.length (keyF (EGS.s x).3 (EGS.s x).2 (W (0+1)))+List.length (keyF (EGS.s x).3 (EGS.s x).2 (W (W (0+1)+1)))+List.length (keyF (EGS.s x).3 (EGS.s x).2 (W (W (W (0+1)+1)+1)))≤(4294967296:Nat))∧(List.length (keyF (EGS.s x).3 (EGS.s x).2 0)+List.length (keyF (EGS.s x).3 (EGS.s x).2 (W (0+1)))+List.length (keyF (EGS.s x).3 (EGS.s x).2 (W (W (0+1)+1)))+List.length (keyF (EGS.s x).3 (EGS.s x).2 (W (W (W (0+1)+1)+1)))=List.length (List.take (List.length (keyF (EGS.s x).3 (EGS.s x).2 0)) (List.drop 0 (keyF (EGS.s x).3 (EGS.s x).2 0))++List.take (List.length (keyF (EGS.s x).3 (EGS.s x).2 (W (0+1)))) (List.drop 0 (keyF (EGS.s x).3 (EGS.s x).2 (W (0+1))))++List.take (List.length (keyF (EGS.s x).3 (EGS.s x).2 (W (W (0+1)+1)))) (List.drop 0 (keyF (EGS.s x).3 (EGS.s x).2 (W (W (0+1)+1))))++List.take (List.length (keyF (EGS.s x).3 (EGS.s x).2 (W (W (W (0+1)+1)+1)))) (List.drop 0 (keyF (EGS.s x).3 (EGS.s x).2 (W (W (W (0+1)+1)+1)))))∧List.length (keyF (EGS.s x).3 (EGS.s x).2 0)+List.length (keyF (EGS.s x).3 (EGS.s x).2 (W (0+1)))+List.length (keyF (EGS.s x).3 (EGS.s x).2 (W (W (0+1)+1)))+List.length (keyF (EGS.s x).3 (EGS.s x).2 (W (W (W (0+1)+1)+1)))≤(1000000:Nat))∧K (.slice 5 0 (List.length (keyF (EGS.s x).3 (EGS.s x).2 0)+List.length (keyF (EGS.s x).3 (EGS.s x).2 (W (0+1)))+List.length (keyF (EGS.s x).3 (EGS.s x).2 (W (W (0+1)+1)))+List.length (keyF (EGS.s x).3 (EGS.s x).2 (W (W (W (0+1)+1)+1)))) 1) [w3k x,w3j x,some (.ints (some .u64) (EGS.s x).3),some (.abs (.hist x.6) []),some (.abs (.wrow x.7) []),iI' (mA (List.take (List.length (keyF (EGS.s x).3 (EGS.s x).2 0)) (List.drop 0 (keyF (EGS.s x).3 (EGS.s x).2 0))++List.take (List.length (keyF (EGS.s x).3 (EGS.s x).2 (W (0+1)))) (List.drop 0 (keyF (EGS.s x).3 (EGS.s x).2 (W (0+1))))++List.take (List.length (keyF (EGS.s x).3 (EGS.s x).2 (W (W (0+1)+1)))) (List.drop 0 (keyF (EGS.s x).3 (EGS.s x).2 (W (W (0+1)+1))))++List.take (List.length (keyF (EGS.s x).3 (EGS.s x).2 (W (W (W (0+1)+1)+1)))) (List.drop 0 (keyF (EGS.s x).3 (EGS.s x).2 (W (W (W (0+1)+1)+1))))))]
theorem JB(x:EGS)(K:AVal→aC Ob→Prop)(h:NQ x K):cT' 55 [.ptr 0 0] (egG x) (kS 1 K):=by
 exact aE (E:=EI) Tryz.checked.mixed (L:=fun _ _=>some (.rounds 5)) (n:=10) (aJ (by kernel_rfl) h)
def fY(x:EGS):List Int:=bif ieq x.sh 3 then keyF x.s.xs x.s.n 0 else bif ieq x.sh 4 then keyF x.s.xs x.s.n 0 else mA (keyF x.s.xs x.s.n 0++keyF x.s.xs x.s.n 1++keyF x.s.xs x.s.n 2++keyF x.s.xs x.s.n 3)
def ehiS:aI Ob:=fun args h=>match args,h with
 | [.ptr 0 0],[some (.abs (.engine x) [])]=>some (.pre (x.h.ev.length≤4294967296∧x.h.cl.length≤4294967296) (.ret (.ptr 1 0) [some (.abs (.engine x) []),some (.abs (.hist x.h) [])]))
 | _,_=>none
theorem NP:sT' 28 ehiS:=by
 intro args h o ho K hK;unfold ehiS at ho;split at ho<;>cases ho
 rename_i x;obtain⟨hp,hK⟩:=hK;have hK:K (.ptr 1 0) [some (.abs (.engine x) []),some (.abs (.hist x.h) [])]:=hK;refine aHn ?_;refine aHi (h2:=egG x) (aR.unpack (.engine x) 0 0 (egG x) [] rfl rfl rfl rfl) ?_;refine aB.keep (JA x _ ?_);exact⟨hp,⟨⟨_,_,aD6 x,hK⟩⟩⟩
def eitS:aI Ob:=fun args h=>match args,h with
 | [.ptr 0 0],[some (.abs (.engine x) [])]=>some (.pre (0≤x.s.n∧x.s.n≤100000) (.ret (.slice 1 0 (fY x).length 1) [some (.abs (.engine x) []),iI' (fY x)]))
 | _,_=>none
theorem NR:sT' 55 eitS:=by
 intro args h o ho K hK;unfold eitS at ho;split at ho<;>cases ho
 rename_i x;obtain⟨hp,hK⟩:=hK;have hK:K (.slice 1 0 (fY x).length 1) [some (.abs (.engine x) []),iI' (fY x)]:=hK;refine aHn ?_;refine aHi (h2:=egG x) (aR.unpack (.engine x) 0 0 (egG x) [] rfl rfl rfl rfl) ?_;refine aB.keep (JB x _ ?_);have e1:W (0+1)=1:=by decide
 have e2:W (1+1)=2:=by decide
 have e3:W (2+1)=3:=by decide
 have l0:=pX x.s.xs x.s.n 0;have l1:=pX x.s.xs x.s.n 1;have l2:=pX x.s.xs x.s.n 2;have l3:=pX x.s.xs x.s.n 3;have hn:x.s.n.toNat≤100000:=by omega
 unfold NQ;refine aO (fun c1=>?_) (fun c1=>aO (fun c2=>?_) (fun c2=>?_))
 ·have hv:fY x=keyF x.s.xs x.s.n 0:=by unfold fY;rw [c1];rfl
  rw [hv]at hK;exact⟨⟨⟨rfl,hp,by decide,by decide⟩,trivial⟩,⟨⟨_,_,NT x _,hK⟩⟩⟩
 ·have hv:fY x=keyF x.s.xs x.s.n 0:=by unfold fY;rw [c1,c2];rfl
  rw [hv]at hK;exact⟨⟨⟨rfl,hp,by decide,by decide⟩,trivial⟩,⟨⟨_,_,NT x _,hK⟩⟩⟩
 ·have hv:fY x=mA (keyF x.s.xs x.s.n 0++keyF x.s.xs x.s.n 1++keyF x.s.xs x.s.n 2++keyF x.s.xs x.s.n 3):=by unfold fY;rw [c1,c2];rfl
  rw [hv]at hK;rw [rG,List.length_append,List.length_append,List.length_append]at hK;have ht:=NT x (mA (keyF x.s.xs x.s.n 0++keyF x.s.xs x.s.n 1++keyF x.s.xs x.s.n 2++keyF x.s.xs x.s.n 3));rw [rG,List.length_append,List.length_append,List.length_append]at ht;rw [e1,e2,e3];change _≤_ at l0;change _≤_ at l1;generalize keyF x.s.xs x.s.n 0=k0 at*;generalize keyF x.s.xs x.s.n 1=k1 at*;generalize keyF x.s.xs x.s.n 2=k2 at*;generalize keyF x.s.xs x.s.n 3=k3 at*;have t0: ∀l:List Int,List.take l.length (List.drop 0 l)=l:=fun l=>by simp
  rw [t0 k0,t0 k1,t0 k2,t0 k3];have la:(k0++k1).length =k0.length+k1.length:=List.length_append;have lb:(k0++k1++k2).length =k0.length+k1.length+k2.length:=by rw [List.length_append,la]
  have lc:(k0++k1++k2++k3).length =k0.length+k1.length+k2.length+k3.length:=by rw [List.length_append,lb]
  refine⟨⟨⟨rfl,hp,by decide,by decide⟩,trivial⟩,⟨by omega,by omega⟩,⟨⟨rfl,hp,by decide,by decide⟩,trivial⟩,⟨by omega,by omega,by omega,by omega,by omega⟩,⟨⟨rfl,hp,by decide,by decide⟩,trivial⟩,⟨by omega,by omega,by omega,by omega,by omega⟩,⟨⟨rfl,hp,by decide,by decide⟩,trivial⟩,⟨by omega,by omega,by omega,by omega,by omega⟩,⟨by omega,by omega⟩,⟨⟨_,_,ht,hK⟩⟩⟩
noncomputable def EU9:=(EU8.addS 28 ehiS NP).addS 55 eitS NR
def DK(th tm:Nat→Int):Nat→Nat→Int→List Int
 | 0,_,_=>[]
 | c+1,i,left=>List.replicate (min (tm i) left).toNat (th i)++DK th tm c (i+1) (left - ((min (tm i) left).toNat :Int))
abbrev WS(n:Nat)(th tm:Nat→Int):AVal:=.view n 2 (fun i=>[.int .i64 (th i),.int .i64 (tm i)])
structure alO (n:Nat) (th tm:Nat→Int) (xs:List Int) (x:Nat×Int×Nat):Prop where
 hi:x.1≤n
 hl:0≤x.2.1∧x.2.1≤60000
 hj:x.2.2≤xs.length
 hx:xs.drop x.2.2=DK th tm (n - x.1) x.1 x.2.1
structure alI (n:Nat) (th tm:Nat→Int) (xs:List Int) (i0:Int) (x:Nat×Int×Nat×Int):Prop where
 hi:x.1<n
 h0:(x.1:Int)=i0
 hl:0≤x.2.1∧x.2.1≤60000
 hm:x.2.2.2≤x.2.1
 hj:x.2.2.1≤xs.length
 hx:xs.drop x.2.2.1=List.replicate x.2.2.2.toNat (th x.1)++DK th tm (n - (x.1+1)) (x.1+1) (x.2.1 - (x.2.2.2.toNat:Int))
def RY(l n:Nat)(th tm:Nat→Int)(xs:List Int):Hint Nat:= {X:=Nat×Int×Nat,st:=fun x=>([.func (.yield l) [] [],.ptr 1 0,.O,.int .i64 x.2.1,.O,.O,.O,WS n th tm,.int .i64 (n:Int),.int .i64 (x.1:Int)]++List.replicate 19 .O,[some (.abs x.2.2 []),some (.cells [WS n th tm])]),ok:=alO n th tm xs,mu:=fun x=>n - x.1,keep:=[0,1,3,7,8,9] }
def RX(l n:Nat)(th tm:Nat→Int)(xs:List Int)(i0:Int):Hint Nat:= {X:=Nat×Int×Nat×Int,st:=fun x=>([.func (.yield l) [] [],.ptr 1 0,.O,.int .i64 x.2.1,.O,.ptr 2 0,.int .i64 x.2.2.2,WS n th tm,.int .i64 (n:Int),.int .i64 (x.1:Int)]++List.replicate 19 .O,[some (.abs x.2.2.1 []),some (.cells [WS n th tm]),some (.cells [.int .i64 (th x.1),.int .i64 (tm x.1)])]),ok:=alI n th tm xs i0,mu:=fun x=>x.2.2.2.toNat,keep:=[0,1,3,5,6,7,8,9] }
def aFE(l n:Nat)(th tm:Nat→Int)(xs:List Int):FuncId→Nat→Option (sN Nat):=fun _ k=>match k with
 | 2=>some (.states (RY l n th tm xs))
 | 5=>some (.statesAt 9 (RX l n th tm xs))
 | _=>none
def ZW(l n:Nat)(th tm:Nat→Int)(xs:List Int){Fr:Nat→PHeap→Prop}(hY:jI Tryz.prog l xs Fr)(K:AVal→aC Nat→Prop):Prop:=okSt (RY l n th tm xs) (Hint.ok (RY l n th tm xs)) (.func (Fn.yield l) [] []::.ptr 1 0::.O::.int .i64 60000::.O::.O::.O::(.view n 2 fun i=>[.int .i64 (th i),.int .i64 (tm i)])::.int .i64 (↑n:Int)::.int .i64 0::(tO' 19 [])) [some (.abs 0 []),some (.cells [.view n 2 fun i=>[.int .i64 (th i),.int .i64 (tm i)]])]∧ ∀(x:(Nat×Int×Nat)),alO n th tm xs x→bif ilt (↑x.1:Int) (↑n:Int)then((0:Int)≤(↑x.1:Int)∧(↑x.1:Int)<(↑n:Int))∧okSt (RX l n th tm xs (↑(Prod.fst x):Int)) (Hint.ok (RX l n th tm xs (↑(Prod.fst x):Int))) (.func (Fn.yield l) [] []::.ptr 1 0::.O::.int .i64 (Prod.snd x).1::.O::.ptr 2 0::.int .i64 (bif ilt (Prod.snd x).1 (tm (Int.toNat (↑x.1:Int)))then(Prod.snd x).1 else tm (Int.toNat (↑x.1:Int)))::(.view n 2 fun i=>[.int .i64 (th i),.int .i64 (tm i)])::.int .i64 (↑n:Int)::.int .i64 (↑x.1:Int)::(tO' 19 [])) [some (.abs (Prod.snd x).2 []),some (.cells [.view n 2 fun i=>[.int .i64 (th i),.int .i64 (tm i)]]),some (.cells [.int .i64 (th (Int.toNat (↑x.1:Int))),.int .i64 (tm (Int.toNat (↑x.1:Int)))])]∧ ∀(x_1:(Nat×Int×Nat×Int)),alI n th tm xs (↑x.1:Int) x_1→bif ilt 0 (Prod.snd x_1.2).2 then(l=l∧X5 xs (Prod.fst (Prod.snd (Prod.snd x_1))) (th x_1.1))∧okSt (RX l n th tm xs (↑(Prod.fst x):Int)) (fun x'=>Hint.ok (RX l n th tm xs (↑(Prod.fst x):Int)) x'∧Hint.mu (RX l n th tm xs (↑(Prod.fst x):Int)) x'<Hint.mu (RX l n th tm xs (↑(Prod.fst x):Int)) x_1) (.func (Fn.yield l) [] []::.ptr 1 0::.O::.int .i64 (W ((Prod.snd x_1).1 - 1))::.O::.ptr 2 0::.int .i64 (W ((Prod.snd x_1.2).2 - 1))::(.view n 2 fun i=>[.int .i64 (th i),.int .i64 (tm i)])::.int .i64 (↑n:Int)::.int .i64 (↑x_1.1:Int)::(tO' 19 [])) [some (.abs ((Prod.snd x_1.2).1+1) []),some (.cells [.view n 2 fun i=>[.int .i64 (th i),.int .i64 (tm i)]]),some (.cells [.int .i64 (th x_1.1),.int .i64 (tm x_1.1)])]else okSt (RY l n th tm xs) (fun x'=>Hint.ok (RY l n th tm xs) x'∧Hint.mu (RY l n th tm xs) x'<Hint.mu (RY l n th tm xs) x) (.func (Fn.yield l) [] []::.ptr 1 0::.O::.int .i64 (Prod.snd x_1).1::.O::.O::.O::(.view n 2 fun i=>[.int .i64 (th i),.int .i64 (tm i)])::.int .i64 (↑n:Int)::.int .i64 (W ((↑x_1.1:Int)+1))::(tO' 19 [])) [some (.abs (Prod.snd x_1.2).1 []),some (.cells [.view n 2 fun i=>[.int .i64 (th i),.int .i64 (tm i)]])]else K (.tup []) [some (.abs (Prod.snd x).2 []),some (.cells [.view n 2 fun i=>[.int .i64 (th i),.int .i64 (tm i)]])]
theorem L5(l n:Nat)(th tm:Nat→Int)(xs:List Int){Fr:Nat→PHeap→Prop}(hY:jI Tryz.prog l xs Fr)(K:AVal→aC Nat→Prop)(h:ZW l n th tm xs hY K):aB (frI Fr) Tryz.prog 114 [.func (.yield l) [] [],.ptr 1 0] [some (.abs 0 []),some (.cells [WS n th tm])] K:=by
 exact aE (E:=itE Tryz.prog hY) Tryz.checked.mixed (L:=aFE l n th tm xs) (n:=4) (aJ (by kernel_rfl) h)
theorem aDC(l n:Nat)(th tm:Nat→Int)(xs:List Int){Fr:Nat→PHeap→Prop}(hY:jI Tryz.prog l xs Fr)(K:AVal→aC Nat→Prop)(hn:n≤4294967296)(hxs:xs=DK th tm n 0 60000)(hK:K (.tup []) [some (.abs xs.length []),some (.cells [WS n th tm])]):ZW l n th tm xs hY K:=by
 refine⟨bC (H:=RY l n th tm xs) (0,60000,0) rfl ⟨Nat.zero_le _,⟨by decide,by decide⟩,Nat.zero_le _,by rw [hxs];rfl⟩,?_⟩
 rintro⟨i,leftO,jO⟩ ⟨qK,⟨hlO0,hlO1⟩,hjO,hxO⟩;dsimp only at qK hlO0 hlO1 hjO hxO⊢;refine bI (fun e=>?_) (fun e=>?_)
 ·rw [bB,dT']at e;have hin:i<n:=by omega
  have hmin:(bif ilt leftO (tm (Int.toNat (i:Int)))then leftO else tm (Int.toNat (i:Int)))=min (tm i) leftO:=by
   rw [Int.toNat_natCast,bB]
   by_cases h:leftO<tm i
   ·rw [decide_eq_true h];show leftO=_;omega
   ·rw [decide_eq_false h];show tm i=_;omega
  refine⟨⟨by omega,by omega⟩,?_,?_⟩
  ·rw [hmin,Int.toNat_natCast];refine bC (H:=RX l n th tm xs (i:Int)) (i,leftO,jO,min (tm i) leftO) rfl ⟨hin,rfl,⟨hlO0,hlO1⟩,by dsimp only;omega,hjO,?_⟩
   dsimp only;rw [hxO,show n - i=(n - (i+1))+1 by omega]
   rfl
  ·rintro⟨i2,left,j,m⟩ ⟨hi,h0,⟨hl0,hl1⟩,hm,hj,hx⟩;dsimp only at hi h0 hl0 hl1 hm hj hx⊢;have h0:i2=i:=by omega
   subst h0;refine bI (fun e=>?_) (fun e=>?_)
   ·rw [bB,dT']at e;have e1:W (left - 1)=left - 1:=cP ⟨by omega,by omega⟩
    have e2:W (m - 1)=m - 1:=cP ⟨by omega,by omega⟩
    have hmt:m.toNat=(m - 1).toNat +1:=by omega
    rw [hmt,List.replicate_succ,List.cons_append]at hx;have hlen:=congrArg List.length hx;rw [List.length_drop,List.length_cons]at hlen;refine⟨⟨rfl,⟨?_⟩⟩,?_⟩
    ·have:=congrArg (fun l=>l[0]?) hx
     simpa using this
    ·rw [e1,e2];refine bC (H:=RX l n th tm xs (i2:Int)) (i2,left - 1,j+1,m - 1) rfl ⟨⟨hi,rfl,⟨by dsimp only;omega,by dsimp only;omega⟩,by dsimp only;omega,by dsimp only;omega,?_⟩,?_⟩
     ·dsimp only;have:=congrArg List.tail hx;rw [List.tail_drop,List.tail_cons]at this;rw [this];congr 2;omega
     ·show(m - 1).toNat <m.toNat;omega
   ·rw [bB,dF']at e
    have e1:W ((i2:Int)+1)=((i2+1:Nat):Int):=by
     have:=cP (x:=(i2:Int)+1) ⟨by omega,by omega⟩
     exact this.trans (by omega)
    rw [e1];refine bC (H:=RY l n th tm xs) (i2+1,left,j) rfl ⟨⟨hi,⟨hl0,hl1⟩,hj,?_⟩,?_⟩
    ·dsimp only;have hz:m.toNat=0:=by omega
     rw [hx,hz];show []++_=_;rw [List.nil_append];congr 1;omega
    ·show n - (i2+1)<n - i2;omega
 ·rw [bB,dF']at e;have hin:i=n:=by omega
  subst hin;rw [Nat.sub_self]at hxO;have hlen:=congrArg List.length hxO;rw [List.length_drop]at hlen;have hlen:xs.length - jO=0:=hlen;have hjl:jO=xs.length:=by omega
  subst hjl;exact hK
theorem L9{n:Nat}(th tm:Nat→Int)(hn:n≤4294967296):DA Tryz.prog 114 (WS n th tm) (DK th tm n 0 60000):=by
 intro l Fr hY;exact L5 l n th tm _ hY _ (aDC l n th tm _ hY _ hn rfl rfl)
def jL:Code→Code
 | .seq x _=>x
 | .block _ c=>c
 | c=>c
def jM:Code→Code
 | .seq _ y=>y
 | c=>c
def DY:Code→Code
 | .rangeFunc _ _ a _=>a
 | c=>c
def DZ:Code→Code
 | .rangeFunc _ _ _ b=>b
 | c=>c
noncomputable def mM:Code:=(Tryz.f85.body).getD .skip
noncomputable def YK:Code:=.seq (jL mM) (.seq (jL (jM mM)) (jL (jL (jM (jM mM)))))
noncomputable def qW:Code:=jL (jM (jL (jM (jM mM))))
noncomputable def NJ:Code:=jL (jM (jM (jM mM)))
def GZ(x:EGS)(n:Nat)(row:Nat→List AVal)(K:List AVal→aC Ob→Prop):Prop:=K [.func (Fn.func 41) [.ptr 0 0] [],.view n 2 row,.ptr 1 0,.raw (Value.tuple {toList:=[] }),.int .i64 0,.ptr 2 0,.raw (Value.tuple {toList:=[] }),.view n 2 row,.func (Fn.func 114) [] [.ptr 3 0],.raw (Value.tuple {toList:=[] }),.raw (Value.tuple {toList:=[] }),.raw (Value.tuple {toList:=[] }),.raw (Value.tuple {toList:=[] }),.raw (Value.tuple {toList:=[] }),.raw (Value.tuple {toList:=[] }),.raw (Value.tuple {toList:=[] })] [some (.abs (.engine x) []),some (.cells [.func (Fn.func 41) [.ptr 0 0] []]),some (.cells [.int .i64 0]),some (.cells [.view n 2 row])]
theorem JD(x:EGS)(n:Nat)(row:Nat→List AVal)(K:List AVal→aC Ob→Prop)(h:GZ x n row K):Ev (cI EU9 (mN EU9 LL 9) 16 YK ([.func (.func 41) [.ptr 0 0] [],.view n 2 row]++List.replicate 14 (.raw undef)) [some (.abs (.engine x) [])] K):=aJ (q:=GZ x n row K) (by kernel_rfl) h
def OC(x:EGS)(n:Nat)(row:Nat→List AVal)(c u:Int)(K:aC Ob→Prop):Prop:=WQ u x∧bif (pkF u x).1 then K [some (.abs (.engine (pkF u x).2) []),some (.cells [.func (Fn.func 41) [.ptr 0 0] []]),some (.cells [.int .i64 (W (c+1))])]else K [some (.abs (.engine (pkF u x).2) []),some (.cells [.func (Fn.func 41) [.ptr 0 0] []]),some (.cells [.int .i64 c])]
theorem JE(x:EGS)(n:Nat)(row:Nat→List AVal)(c u:Int)(K:aC Ob→Prop)(h:OC x n row c u K):Ev (cI EU9 (mN EU9 LL 9) 16 (DY qW) (List.set (([.func (.func 41) [.ptr 0 0] [],.view n 2 row,.ptr 1 0,.raw undef,.int .i64 0,.ptr 2 0,.raw undef,.view n 2 row,.O]:List AVal)++List.replicate 7 (.raw undef)) 9 (.int .i64 u)) [some (.abs (.engine x) []),some (.cells [.func (.func 41) [.ptr 0 0] []]),some (.cells [.int .i64 c])] (fun tm1 h1=>cI EU9 (mN EU9 LL 9) 16 (DZ qW) tm1 h1 (fun _ h2=>K h2))):=aJ (q:=OC x n row c u K) (by kernel_rfl) h
def OE(x:EGS)(n:Nat)(row:Nat→List AVal)(c:Int)(K:List AVal→aC Ob→Prop):Prop:=K [.func (Fn.func 41) [.ptr 0 0] [],.view n 2 row,.ptr 1 0,.raw (Value.tuple {toList:=[] }),.int .i64 c,.ptr 2 0,.raw (Value.tuple {toList:=[] }),.view n 2 row,.O,.raw (Value.tuple {toList:=[] }),.raw (Value.tuple {toList:=[] }),.raw (Value.tuple {toList:=[] }),.raw (Value.tuple {toList:=[] }),.raw (Value.tuple {toList:=[] }),.raw (Value.tuple {toList:=[] }),.int .i64 c] [some (.abs (.engine x) []),some (.cells [.func (Fn.func 41) [.ptr 0 0] []]),some (.cells [.int .i64 c])]
theorem JF(x:EGS)(n:Nat)(row:Nat→List AVal)(c:Int)(K:List AVal→aC Ob→Prop)(h:OE x n row c K):Ev (cI EU9 (mN EU9 LL 9) 16 NJ ([.func (.func 41) [.ptr 0 0] [],.view n 2 row,.ptr 1 0,.raw undef,.int .i64 0,.ptr 2 0,.raw undef,.view n 2 row,.O]++List.replicate 7 (.raw undef)) [some (.abs (.engine x) []),some (.cells [.func (.func 41) [.ptr 0 0] []]),some (.cells [.int .i64 c])] K):=aJ (q:=OE x n row c K) (by kernel_rfl) h
theorem nE'{P Q:Prop}(h:¬P:=by dsimp only;decide):P→Q:=fun e=>absurd e h
theorem aHp{X:Type}{K:X→Prop} : ∀ {t:Tr X},t.run K→t.ok
 | .ret x,k=>trivial
 | .ite b l r,k=>by cases b with
   | true=>exact aHp (t:=l) k
   | false=>exact aHp (t:=r) k
 | .pre p t,k=>⟨k.1,aHp (t:=t) k.2⟩
theorem aHj{X:Type}{K:X→Prop} : ∀ {t:Tr X},t.run K→K t.val
 | .ret x,k=>k
 | .ite b l r,k=>by cases b with
   | true=>exact aHj (t:=l) k
   | false=>exact aHj (t:=r) k
 | .pre p t,k=>aHj (t:=t) k.2
theorem BW{a b:Int}(h:ieq a b=true):a=b:=by simpa [cV]using h
theorem dM{a b:Int}(h:ieq a b=false):a≠b:=by simpa [cV]using h
theorem O7{a b:Int}(h:ile a b=true):a≤b:=by simpa [cA]using h
theorem BX{a b:Int}(h:ile a b=false):b<a:=by simpa [cA]using h
theorem Tr.run_ite{X:Type}{K:X→Prop}{b:Bool}{l r:Tr X}(h1:b=true→l.run K)(h2:b=false→r.run K):(Tr.ite b l r).run K:=aO h1 h2
theorem aId{X:Type}{K:X→Prop}{a b:Int}{l r:Tr X}(h1:a<b→l.run K)(h2:b≤a→r.run K):(Tr.ite (ilt a b) l r).run K:=aO (fun h=>h1 (by simpa [bB]using h)) (fun h=>h2 (by simpa [bB]using h))
theorem Tr.run_le{X:Type}{K:X→Prop}{a b:Int}{l r:Tr X}(h1:a≤b→l.run K)(h2:b<a→r.run K):(Tr.ite (ile a b) l r).run K:=aO (fun h=>h1 (O7 h)) (fun h=>h2 (BX h))
theorem Tr.run_eq{X:Type}{K:X→Prop}{a b:Int}{l r:Tr X}(h1:a=b→l.run K)(h2:a≠b→r.run K):(Tr.ite (ieq a b) l r).run K:=aO (fun h=>h1 (BW h)) (fun h=>h2 (dM h))
theorem aIh{X:Type}{K:X→Prop}{b:Bool}{l r:Tr X}(h1:b=false→l.run K)(h2:b=true→r.run K):(Tr.ite (!b) l r).run K:=by
 cases b with
 | true=>exact h2 rfl
 | false=>exact h1 rfl
theorem aHv{X:Type}{K:X→Prop}{b:Bool}{l r:Tr X}(h1:b=true→l.run K)(h2:b=false→r.run K):(bif b then l else r).run K:=by
 cases b with
 | true=>exact h1 rfl
 | false=>exact h2 rfl
theorem aHd{X:Type}{K:X→Prop}{a b:Int}{l r:Tr X}(h1:a=b→l.run K)(h2:a≠b→r.run K):(bif ieq a b then l else r).run K:=aHv (fun h=>h1 (BW h)) (fun h=>h2 (dM h))
theorem aHg{X:Type}{K:X→Prop}{p:Prop}{t:Tr X}(h1:p)(h2:t.run K):(Tr.pre p t).run K:=⟨h1,h2⟩
theorem aHk{X:Type}{K:X→Prop}{x:X}(h:K x):(Tr.ret x).run K:=h
structure lH (x:Int):Prop where
 h0:0≤x
 h1:x≤18446744073709551615
theorem CN:lH 0:=⟨by decide,by decide⟩
theorem yP(x:Int):lH (WU x):=⟨(LZ x).1,(LZ x).2⟩
theorem QG{xs:List Int}(h:WM xs)(a:Int):lH (aD xs a):=⟨(uO h a).1,(uO h a).2⟩
theorem W9{b:Bool}{x y:Int}(h1:b=true→lH x)(h2:lH y):lH (bif b then x else y):=by
 cases b with
 | true=>exact h1 rfl
 | false=>exact h2
theorem kW{n w:Int}(h:aK n w=true):0≤n∧n<2^w.toNat:=by
 unfold aK at h;simp only [Bool.and_eq_true,cA,bB,dT']at h;exact h
theorem MH(b:Bool):0≤bitI b∧bitI b≤1:=by cases b<;>decide
theorem pI(a w:Int):aA 0 a w=0:=by unfold aA;rw [Int.zero_ediv,Int.zero_emod]
structure YI (n x:Int):Prop where
 a:aA x 12 9≤n+4
 b:aA x 39 9≤n
theorem AO{a b c d e f n:Int}{m:Bool}(hn:0≤n)(hb:b≤n+4)(hd:d≤n):lH (bif dOk a b c d e f then cD a b c d m e f else 0)∧YI n (bif dOk a b c d e f then cD a b c d m e f else 0):=by
 cases h:dOk a b c d e f with
 | false=>exact⟨CN,⟨by show aA 0 12 9≤_;rw [pI];omega,by show aA 0 39 9≤_;rw [pI];omega⟩⟩
 | true=>
   unfold dOk at h;simp only [Bool.and_eq_true]at h;obtain⟨h1,h2,h3,h4,h5,h6⟩:=h;have h1:=kW h1;have h2:=kW h2;have h3:=kW h3;have h4:=kW h4;have h5:=kW h5;have h6:=kW h6;have hm:=MH m;simp only [Int.reduceToNat,Int.reducePow]at h1 h2 h3 h4 h5 h6;simp only [cond_true];refine⟨⟨?_,?_⟩,⟨?_,?_⟩⟩<;>unfold cD
   ·omega
   ·omega
   ·unfold aA;simp only [Int.reduceToNat,Int.reducePow];omega
   ·unfold aA;simp only [Int.reduceToNat,Int.reducePow];omega
theorem aFe{a b c v:Int}{m:Bool} :lH (bif bif aK a 10 then bif aK b 9 then bif aK c 5 then aK v 18 else false else false else false then cF a b m c v else 0)∧ ∀n:Int,0≤n→b≤n→aA (bif bif aK a 10 then bif aK b 9 then bif aK c 5 then aK v 18 else false else false else false then cF a b m c v else 0) 10 9≤n:=by
 cases h:bif aK a 10 then bif aK b 9 then bif aK c 5 then aK v 18 else false else false else false with
 | false=>exact⟨CN,fun n hn _=>by show aA 0 10 9≤n;rw [pI];exact hn⟩
 | true=>
   cases h1:aK a 10 with
   | false=>rw [h1]at h;cases h
   | true=>
   cases h2:aK b 9 with
   | false=>rw [h1,h2]at h;cases h
   | true=>
   cases h3:aK c 5 with
   | false=>rw [h1,h2,h3]at h;cases h
   | true=>
   rw [h1,h2,h3]at h;have h:=kW (show aK v 18=true from h)
   have h1:=kW h1;have h2:=kW h2;have h3:=kW h3;have hb:=MH m;simp only [Int.reduceToNat,Int.reducePow]at h h1 h2 h3;simp only [cond_true];refine⟨⟨?_,?_⟩,fun n hn hbn=>?_⟩<;>unfold cF
   ·omega
   ·omega
   ·unfold aA;simp only [Int.reduceToNat,Int.reducePow];omega
theorem XA{a b c v:Int}{m:Bool} :lH (bif bif aK a 10 then bif aK b 9 then bif aK c 5 then aK v 18 else false else false else false then cF a b m c v else 0):=aFe.1
theorem aCs{a b c v n:Int}{m:Bool}(hn:0≤n)(h:b≤n):aA (bif bif aK a 10 then bif aK b 9 then bif aK c 5 then aK v 18 else false else false else false then cF a b m c v else 0) 10 9≤n:=aFe.2 n hn h
theorem QF{a b c d e f:Int}{m:Bool} :lH (bif dOk a b c d e f then cD a b c d m e f else 0):=by
 rcases Int.le_total b d with h | h
 ·by_cases h0:0≤d
  ·exact(AO (n:=d) h0 (by omega) (by omega)).1
  ·exact(AO (b:=b) (n:=0) (by omega) (by omega) (by omega)).1
 ·by_cases h0:0≤b
  ·exact(AO (n:=b) h0 (by omega) (by omega)).1
  ·exact(AO (b:=b) (n:=0) (by omega) (by omega) (by omega)).1
structure MI (t n:Int) (xs:List Int):Prop where
 nx: ∀a,a≤n+4→aA (aD xs a) 10 9≤n
 ds: ∀u,0≤u→u<t→YI n (aD xs (2*n+5+2*t+3*u+2))
structure zI (t n a v:Int):Prop where
 nx:a≤n+4→aA v 10 9≤n
 ds: ∀u,0≤u→u<t→a=2*n+5+2*t+3*u+2→YI n v
theorem SB{t n a v:Int}(ht:1≤t)(hn:1≤n)(ha:a≤n+4)(h:aA v 10 9≤n):zI t n a v∧a≠2*n+5+2*t+3*t:=⟨⟨fun _=>h,fun u h0 h1 e=>by omega⟩,by omega⟩
theorem DH{t n a v:Int}(ht:1≤t)(h0:n+5≤a)(h1:a<2*n+5+2*t):zI t n a v∧a≠2*n+5+2*t+3*t:=⟨⟨fun h=>by omega,fun u h0 h1 e=>by omega⟩,by omega⟩
theorem L3{t n a v u:Int}(hn:1≤n)(hu:0≤u∧u<t)(h:a=2*n+5+2*t+3*u∨a=2*n+5+2*t+3*u+1):zI t n a v∧a≠2*n+5+2*t+3*t:=⟨⟨fun h=>by omega,fun u h0 h1 e=>by omega⟩,by omega⟩
theorem SA{t n v u:Int}(hn:1≤n)(hu:0≤u∧u<t)(h:YI n v):zI t n (2*n+5+2*t+3*u+2) v∧2*n+5+2*t+3*u+2≠2*n+5+2*t+3*t:=⟨⟨fun h=>by omega,fun u h0 h1 e=>h⟩,by omega⟩
theorem rA(xs:List Int)(a v b:Int):(aD (aS xs a v) b=v∧b=a)∨aD (aS xs a v) b=aD xs b:=by
 by_cases h:0≤a∧a<xs.length
 ·by_cases e:b=a
  ·subst e;left;rw [nV h,nT (by rw [List.length_set];exact h),gD',List.getElem?_set_self (by omega)]
   exact⟨rfl,rfl⟩
  ·right
   by_cases hb:0≤b∧b<xs.length
   ·rw [nV h,nT (by rw [List.length_set];exact hb),nT hb,gD',gD',List.getElem?_set_ne (by omega)]
   ·rw [fD hb,fD (by rw [iE];exact hb)]
 ·right;rw [m9 h]
theorem WO{xs:List Int}{a v b:Int}(h:b≠a):aD (aS xs a v) b=aD xs b:=by
 rcases rA xs a v b with⟨_,e⟩ | e
 ·exact absurd e h
 ·exact e
theorem aCu{xs:List Int}{a v:Int}(h:0≤a∧a<xs.length):aD (aS xs a v) a=v:=by
 rw [nV h,nT (by rw [List.length_set];exact h),gD',List.getElem?_set_self (by omega)];rfl
theorem aCk{t n:Int}{xs:List Int}{a v:Int}(h:MI t n xs)(ha:zI t n a v):MI t n (aS xs a v):=by
 refine⟨fun b hb=>?_,fun u h0 h1=>?_⟩
 ·rcases rA xs a v b with⟨e,rfl⟩ | e
  ·rw [e];exact ha.nx hb
  ·rw [e];exact h.nx b hb
 ·rcases rA xs a v (2*n+5+2*t+3*u+2)with⟨e,e2⟩ | e
  ·rw [e];exact ha.ds u h0 h1 e2.symm
  ·rw [e];exact h.ds u h0 h1
structure C8 (t n:Int) (s s':MS):Prop where
 c:s'.c=s.c+1
 len:s'.xs.length=s.xs.length
 w:WM s.xs→WM s'.xs
 th:s'.t=s.t
 nh:s'.n=s.n
 m:MI t n s.xs→MI t n s'.xs
structure kR (t n:Int) (s s':MS):Prop where
 a:C8 t n s s'
 k:aD s'.xs (2*n+5+2*t+3*t)=aD s.xs (2*n+5+2*t+3*t)
theorem tG(t n:Int)(s:MS)(k a o w:Int)(ok:Bool):kR t n s ⟨s.t,s.n,s.xs,s.c+1,k,a,o,w,ok⟩:=⟨⟨rfl,rfl,id,rfl,rfl,id⟩,rfl⟩
theorem zH(t n:Int)(s:MS)(b v k a o w:Int)(ok:Bool)(h:lH v)(ha:zI t n b v):C8 t n s ⟨s.t,s.n,aS s.xs b v,s.c+1,k,a,o,w,ok⟩:=⟨rfl,iE _ _ _,fun hw=>WN hw ⟨h.h0,h.h1⟩,rfl,rfl,fun hm=>aCk hm ha⟩
theorem pF(t n:Int)(s:MS)(b v k a o w:Int)(ok:Bool)(h:lH v)(ha:zI t n b v∧b≠2*n+5+2*t+3*t):kR t n s ⟨s.t,s.n,aS s.xs b v,s.c+1,k,a,o,w,ok⟩:=⟨zH t n s b v k a o w ok h ha.1,WO (fun e=>ha.2 e.symm)⟩
theorem GK(t n:Int)(s:MS)(q:Bool)(b v k a o w:Int)(ok:Bool)(h:lH v)(ha:zI t n b v∧b≠2*n+5+2*t+3*t):kR t n s ⟨s.t,s.n,bif q then aS s.xs b v else s.xs,s.c+1,k,a,o,w,ok⟩:=by
 cases q with
 | true=>exact pF t n s b v k a o w ok h ha
 | false=>exact tG t n s k a o w ok
theorem S4(x a:Int)(w:Int):0≤aA x a w∧aA x a w<2^w.toNat:=S2
structure Bnd (t n:Int) (s:MS):Prop where
 ht:1≤t∧t≤1000
 hn:1≤n∧n≤1000
 hc:0≤s.c∧s.c≤900000
 hw:WM s.xs
 mi:MI t n s.xs
 ln:(s.xs.length:Int)=2*n+5+2*t+3*t+1
theorem j9{P:Prop}(h:P:=by(with_reducible first | exact CN | exact yP _ | exact QF | exact XA | assumption)):P:=h
theorem tS{P:Prop}(h:P:=by(simp only [aA,Int.reduceToNat,Int.reducePow];omega)):P:=h
theorem fH{P:Prop}(h:P:=by(first
 | (with_reducible assumption)
 | omega
 | (with_reducible exact MI.nx (by assumption) _ (by omega))
 | ((with_reducible refine aCs ?_ ?_)<;>omega)
 | (rw [pI];omega))):P:=h
theorem pN{P:Prop}(h:P:=by(first
 | (with_reducible assumption)
 | (with_reducible exact MI.ds (by assumption) _ (by omega) (by omega))
 | (with_reducible exact(AO (by omega) (by omega) (by omega)).2))):P:=h
theorem GL{P:Prop}(h:P:=by(first
 | ((with_reducible refine SA ?_ ⟨?_,?_⟩ ?_)<;>first | omega | exact pN)
 | (exact DH (by omega) (by omega) (by omega))
 | (exact SB (by omega) (by omega) (by omega) fH))):P:=h
theorem bZ{P:Prop}(h:P:=by(first
 | with_reducible exact trivial
 | with_reducible rfl
 | with_reducible assumption
 | with_reducible exact tG _ _ _ _ _ _ _ _
 | ((with_reducible refine pF _ _ _ _ _ _ _ _ _ _ ?_ ?_);exact j9;exact GL)
 | ((with_reducible refine GK _ _ _ _ _ _ _ _ _ _ _ ?_ ?_);exact j9;exact GL)
 | omega
 | exact tS
 | decide)):P:=h
theorem RJ{P:Prop}(h:P:=by first | exact j9 | (exact QG (by assumption) _)):P:=h
theorem IB{P:Prop}(h:P:=by(dsimp only;first | omega | (constructor<;>omega) | exact tS)):P:=h
theorem fF{P:Prop}(h:P:=by(dsimp only;first
 | (with_reducible assumption)
 | decide
 | omega
 | (constructor<;>omega)
 | exact fH
 | exact pN
 | (intro e;exact absurd e (by decide))
 | (intro _;exact pN)
 | exact tS)):P:=h
structure YC (t n:Int) (x:CLS):Prop where
 h:x.at'=0∨x.at'=1∨x.at'=2∨x.at'=3
 ad:x.addr≤n+4
 nx:x.at'≠0→aA x.word 10 9≤n∧0≤aA x.word 20 5 - 1∧aA x.word 20 5 - 1<t
 fo:x.at'=2→YI n x.found
structure aDJ (t n:Int) (s:MS) (o:ClO):Prop where
 a:kR t n s o.s
 w:o.d=false→YC t n o.x
theorem YD{t n:Int}{x:CLS}{s:MS}(hb:Bnd t n s)(hx:YC t n x):(clT t n x s).run (aDJ t n s):=by
 obtain⟨⟨t0,t1⟩,⟨n0,n1⟩,⟨c0,c1⟩,hw,hmi,hln⟩:=hb;obtain⟨h,had,hnx,hfo⟩:=hx;unfold clT;refine aHd (fun h0=>?c0) (fun h0=>aHd (fun h1=>?c1) (fun h1=>aHd (fun h2=>?c2) (fun h2=>aHd (fun h3=>?c3) (fun h3=>?c4))))
 case' c0=>unfold zY
 case' c1=>obtain⟨w1,w2,w3⟩:=hnx (by omega);unfold zZ w04 w05 w06
 case' c2=>obtain⟨w1,w2,w3⟩:=hnx (by omega);have hfo:=hfo h2;obtain⟨f1,f2⟩:=hfo;unfold z6 w05 w06
 case' c3=>obtain⟨w1,w2,w3⟩:=hnx (by omega);unfold z7 w07
 case c4=>omega
 all_goals (repeat' (with_reducible first | exact trivial | rfl | assumption | refine aHg ?_ ?_ | refine aId (fun _=>?_) (fun _=>?_) | refine Tr.run_ite (fun _=>?_) (fun _=>?_) | refine aHk ?_ | refine And.intro ?_ ?_))
 all_goals first | exact bZ | (refine⟨by exact bZ,fun hd=>?_⟩;first | (exact Bool.noConfusion hd) | ((try replace hd:=BX hd);exact⟨fF,fF,fun _=>⟨fF,fF,fF⟩,fF⟩))
theorem DX{t n:Int}{x:CLS}{s:MS}(hb:Bnd t n s)(hx:YC t n x):MN t n x s:=aHp (YD hb hx)
theorem xR{t n:Int}{x:CLS}{s:MS}(hb:Bnd t n s)(hx:YC t n x):aDJ t n s (oC t n x s):=aHj (YD hb hx)
structure hdW (t:Int) (x:HDS):Prop where
 h:0≤x.at'∧x.at'<t
 u: -1≤x.u∧x.u<t
structure aEF (t n:Int) (s:MS) (o:HdO):Prop where
 a:kR t n s o.s
 w:o.d=false→hdW t o.x
 p: -1≤o.x.u∧o.x.u<t
theorem YS{t n:Int}{x:HDS}{s:MS}(hb:Bnd t n s)(hx:hdW t x):(hdT t n x s).run (aEF t n s):=by
 obtain⟨⟨t0,t1⟩,⟨n0,n1⟩,⟨c0,c1⟩,hw,hmi,hln⟩:=hb;obtain⟨⟨h0,h1⟩,⟨u0,u1⟩⟩:=hx;have hW:W (x.at'+1)=x.at'+1:=cP ⟨by omega,by omega⟩
 unfold hdT;unfold VF w08 w09;rw [hW]
 (repeat' (with_reducible first | exact trivial | rfl | assumption | refine aHg ?_ ?_ | refine Tr.run_ite (fun _=>?_) (fun _=>?_) | refine aHk ?_ | refine And.intro ?_ ?_))
 all_goals first | exact bZ | (refine⟨by exact bZ,fun hd=>by first | (exact Bool.noConfusion hd) | ((try replace hd:=BX hd);exact⟨fF,fF⟩),?_⟩;exact IB)
theorem aBX{t n:Int}{x:HDS}{s:MS}(hb:Bnd t n s)(hx:hdW t x):aBU t n x s:=aHp (YS hb hx)
theorem aBY{t n:Int}{x:HDS}{s:MS}(hb:Bnd t n s)(hx:hdW t x):aEF t n s (pD t n x s):=aHj (YS hb hx)
structure drW (t:Int) (x:DRS):Prop where
 h:0≤x.th∧x.th<t
 u:0≤x.at'∧x.at'≤1
structure aDP (t n:Int) (s:MS) (o:DrO):Prop where
 a:kR t n s o.s
 w:o.d=false→drW t o.x
theorem YH{t n:Int}{x:DRS}{s:MS}(hb:Bnd t n s)(hx:drW t x):(drT t n x s).run (aDP t n s):=by
 obtain⟨⟨t0,t1⟩,⟨n0,n1⟩,⟨c0,c1⟩,hw,hmi,hln⟩:=hb;obtain⟨⟨h0,h1⟩,⟨u0,u1⟩⟩:=hx;have hW:W (x.at'+1)=x.at'+1:=cP ⟨by omega,by omega⟩
 unfold drT;unfold TR;rw [hW]
 (repeat' (with_reducible first | exact trivial | rfl | assumption | refine aHg ?_ ?_ | refine Tr.run_ite (fun _=>?_) (fun _=>?_) | refine aHk ?_ | refine And.intro ?_ ?_))
 all_goals first | exact bZ | (refine⟨by exact bZ,fun hd=>?_⟩;first | (exact Bool.noConfusion hd) | ((try replace hd:=BX hd);exact⟨fF,fF⟩))
theorem aAP{t n:Int}{x:DRS}{s:MS}(hb:Bnd t n s)(hx:drW t x):aAM t n x s:=aHp (YH hb hx)
theorem aAQ{t n:Int}{x:DRS}{s:MS}(hb:Bnd t n s)(hx:drW t x):aDP t n s (RU t n x s):=aHj (YH hb hx)
structure X8 (t:Int) (x:ANS):Prop where
 h:x.at'=0∨x.at'=1∨x.at'=2∨x.at'=3∨x.at'=4
 m:0≤x.me∧x.me<t
 b:lH x.bits
 q:lH x.no
 g:x.wrong=false
def drew(t n:Int)(b:Prop)(s s':MS):Prop:=(b∧aD s'.xs (2*n+5+2*t+3*t)=WU (aD s.xs (2*n+5+2*t+3*t)+1))∨(¬b∧aD s'.xs (2*n+5+2*t+3*t)=aD s.xs (2*n+5+2*t+3*t))
structure SH (t n:Int) (s:MS) (x:ANS) (o:AnO):Prop where
 a:C8 t n s o.s
 w:o.d=false→X8 t o.x
 k:drew t n (x.at'=1) s o.s
 e:o.x.at'=x.at'+1
 f:o.d=true→x.at'=4
theorem aAR{t n:Int}{b:Prop}{s s':MS}(h:kR t n s s')(hb: ¬b):drew t n b s s':=.inr ⟨hb,h.k⟩
theorem Z4{t n:Int}{s s':MS}{x:ANS}{o:AnO}(h:kR t n s o.s)(hb: ¬x.at'=1)(hw:o.d=false→X8 t o.x)(he:o.x.at'=x.at'+1)(hf:o.d=true→x.at'=4):SH t n s x o:=⟨h.a,hw,aAR h hb,he,hf⟩
theorem X9{t n:Int}{x:ANS}{s:MS}(hb:Bnd t n s)(hx:X8 t x):(anT t n x s).run (SH t n s x):=by
 obtain⟨⟨t0,t1⟩,⟨n0,n1⟩,⟨c0,c1⟩,hw,hmi,hln⟩:=hb;obtain⟨h,⟨m0,m1⟩,b,q,g⟩:=hx;have had:=fun v=>L3 (n:=n) (v:=v) n0 ⟨m0,m1⟩ (.inl rfl);have hae:=fun v=>L3 (n:=n) (v:=v) n0 ⟨m0,m1⟩ (.inr rfl);unfold anT;refine aHd (fun h0=>?c0) (fun h0=>aHd (fun h1=>?c1) (fun h1=>aHd (fun h2=>?c2) (fun h2=>aHd (fun h3=>?c3) (fun h3=>aHd (fun h4=>?c4) (fun h4=>?c5)))))
 case' c0=>unfold zL w0a
 case' c1=>unfold zM
 case' c2=>unfold zN w0a
 case' c3=>unfold zO w0a
 case' c4=>unfold zP w0b w0a
 case c5=>omega
 all_goals rw [g];refine Tr.run_ite (fun e=>Bool.noConfusion e) (fun _=>?_)
 all_goals (repeat' (with_reducible first | exact trivial | rfl | assumption | refine aHg ?_ ?_ | refine Tr.run_ite (fun _=>?_) (fun _=>?_) | refine aHk ?_ | refine And.intro ?_ ?_))
 all_goals first | exact bZ | (refine⟨zH _ _ _ _ _ _ _ _ _ _ (yP _) ⟨fun h=>by omega,fun u h0 h1 e=>by omega⟩,fun _=>⟨fF,⟨m0,m1⟩,by assumption,by exact RJ,rfl⟩,.inl ⟨by assumption,aCu ⟨by omega,by omega⟩⟩,by rw [show x.at'=1 by assumption];rfl,fun e=>Bool.noConfusion e⟩) | (refine Z4 (s':=s) (by first | exact bZ | exact pF _ _ _ _ _ _ _ _ _ _ j9 (had _) | exact pF _ _ _ _ _ _ _ _ _ _ j9 (hae _)) (by omega) (fun hd=>?_) (by(have e:x.at'=_:=(by assumption));rw [e];rfl) (by first | (intro e;exact Bool.noConfusion e) | (intro _;assumption));first | (exact Bool.noConfusion hd) | exact⟨fF,⟨m0,m1⟩,by assumption,by exact RJ,rfl⟩)
theorem Z5{t n:Int}{x:ANS}{s:MS}(hb:Bnd t n s)(hx:X8 t x):Z2 t n x s:=aHp (X9 hb hx)
theorem Z6{t n:Int}{x:ANS}{s:MS}(hb:Bnd t n s)(hx:X8 t x):SH t n s x (DP t n x s):=aHj (X9 hb hx)
def dS(n:Int)(l:List Int):Prop:= ∀r∈l,1≤r∧r≤n
theorem rF{n:Int} :dS n []:=fun r h=>nomatch h
theorem u7{n:Int}{l:List Int}{a:Int}(h:dS n l)(ha:1≤a∧a≤n):dS n (l++ [a]):=by
 intro r hr;rcases List.mem_append.1 hr with h1 | h1
 ·exact h r h1
 ·rw [List.mem_singleton.1 h1];exact ha
theorem LG{n:Int}{l m:List Int}(h:dS n l)(hm:dS n m):dS n (l++m):=by
 intro r hr;rcases List.mem_append.1 hr with h1 | h1
 ·exact h r h1
 ·exact hm r h1
theorem xP(t n a:Int):pH t n a:=⟨⟨rfl,rfl⟩,trivial⟩
theorem DW{t n a:Int}(h:a≤n+4):YC t n (xO t n a):=⟨.inl rfl,h,fun e=>absurd rfl e,fun e=>absurd e (by show¬(0:Int)=2;decide)⟩
theorem aAp(x a:Int):0≤aA x a 9:=by
 have:=S4 x a 9;omega
theorem GP{x a:Int}(h:aA x a 9≠0):1≤aA x a 9:=by
 have:=aAp x a;omega
structure G5 (t n b:Int) (x:FNS):Prop where
 m:0≤x.me∧x.me<t
 pr:x.pred≤n+4
 pw:aA x.pw 10 9≤n
 cu:0≤x.curr∧x.curr≤n
 cw:aA x.cw 10 9≤n
 fr:x.frm≤n+4
 ul:dS n x.ul
 ln:(x.ul.length:Int)≤b
structure UJ (t n:Int) (x:FNS):Prop where
 h:x.at'=0∨x.at'=1∨x.at'=2∨x.at'=3∨x.at'=4∨x.at'=5∨x.at'=6
 cl:x.at'=4→YC t n x.cl
 c1:x.at'≠0→1≤x.curr
structure aEf (t n b:Int) (s:MS) (o:FnO):Prop where
 a:kR t n s o.s
 q:G5 t n (b+1) o.x
 w:o.d=false→UJ t n o.x
theorem aBq{P:Prop}(h:P:=by(refine⟨?_,⟨?_,?_,?_,?_,?_,?_,?_,?_⟩,fun hd=>?_⟩<;>first
 | exact bZ
 | (exact(xR (by assumption) (by assumption)).a)
 | (dsimp only;with_reducible assumption)
 | (constructor<;>assumption)
 | (dsimp only;omega)
 | (exact⟨aAp _ _,fH⟩)
 | (dsimp only;exact fH)
 | (exact u7 (by assumption) ⟨by assumption,by assumption⟩)
 | exact rF
 | (dsimp only;simp only [List.length_append,List.length_singleton,List.length_nil];omega)
 | exact Bool.noConfusion hd
 | exact⟨by dsimp only;decide,fun e=>absurd e (by dsimp only;decide),fun e=>absurd rfl e⟩
 | exact⟨by dsimp only;decide,fun e=>absurd e (by dsimp only;decide),fun _=>by dsimp only;first | omega | exact GP (dM hd) | exact GP (by assumption)⟩
 | exact⟨by dsimp only;decide,fun e=>(xR (by assumption) (by assumption)).w (by assumption),fun _=>by dsimp only;omega⟩
 | exact⟨by dsimp only;decide,fun e=>by dsimp only;with_reducible exact DW (by omega),fun _=>by dsimp only;omega⟩)):P:=h
theorem YN{t n b:Int}{x:FNS}{s:MS}(hb:Bnd t n s)(hx:UJ t n x)(hq:G5 t n b x)(hbb:b≤900000):(fnT t n x s).run (aEf t n b s):=by
 have hb':=hb;obtain⟨⟨t0,t1⟩,⟨n0,n1⟩,⟨c0,c1⟩,hw,hmi,hln⟩:=hb;obtain⟨h,hcl,hc1⟩:=hx;obtain⟨⟨m0,m1⟩,hpr,hpw,⟨q0,q1⟩,hcw,hfr,hul,hul2⟩:=hq;have b0:0≤b:=by omega
 unfold fnT;refine aHd (fun h0=>?c0) (fun h0=>aHd (fun h1=>?c1) (fun h1=>aHd (fun h2=>?c2) (fun h2=>aHd (fun h3=>?c3) (fun h3=>aHd (fun h4=>?c4) (fun h4=>aHd (fun h5=>?c5) (fun h5=>aHd (fun h6=>?c6) (fun h6=>?c7)))))))
 case' c0=>unfold A7 w11 w16 w0z w13 w15 w14 w1f
 case' c1=>have hcu:=hc1 (by omega);unfold A8
 case' c2=>have hcu:=hc1 (by omega);unfold A9 w11 w16 w0z w13 w15 w1f w14
 case' c3=>have hcu:=hc1 (by omega);unfold BA w1b w1d w1c w1a
 case' c4=>have hcu:=hc1 (by omega);have hcl4:=hcl h4;have hclo:=DX hb' hcl4;unfold BB w19 w14
 case' c5=>have hcu:=hc1 (by omega);unfold BC w0x w0w w19 w14
 case' c6=>have hcu:=hc1 (by omega);unfold BD w14 w1g
 case c7=>omega
 all_goals (repeat' (with_reducible first | exact trivial | rfl | assumption | refine aHg ?_ ?_ | refine Tr.run_eq (fun _=>?_) (fun _=>?_) | refine aId (fun _=>?_) (fun _=>?_) | refine Tr.run_le (fun _=>?_) (fun _=>?_) | refine Tr.run_ite (fun _=>?_) (fun _=>?_) | refine aHk ?_ | refine And.intro ?_ ?_))
 all_goals first | exact bZ | exact xP _ _ _ | (simp only [List.length_append,List.length_singleton];done) | exact aBq
theorem EE{t n b:Int}{x:FNS}{s:MS}(hb:Bnd t n s)(hx:UJ t n x)(hq:G5 t n b x)(hbb:b≤900000):JS t n x s:=aHp (YN hb hx hq hbb)
theorem EG{t n b:Int}{x:FNS}{s:MS}(hb:Bnd t n s)(hx:UJ t n x)(hq:G5 t n b x)(hbb:b≤900000):aEf t n b s (aM t n x s):=aHj (YN hb hx hq hbb)
theorem d5(sh ky:Int):0≤eT sh ky∧eT sh ky≤3:=by
 unfold eT;cases ieq sh 2 with
 | true=>exact⟨Int.emod_nonneg _ (by decide),by have:=Int.emod_lt_of_pos ky (b:=4) (by decide);show ky%4≤3;omega⟩
 | false=>exact⟨Int.le_refl 0,(by decide:(0:Int)≤3)⟩
theorem EC{t n me hd key lim:Int}(hn:1≤n∧n≤1000)(hm:0≤me∧me<t)(hh:0≤hd∧hd≤3):(OJ t n me hd key lim).run (fun x=>UJ t n x∧G5 t n 0 x):=by
 obtain⟨n0,n1⟩:=hn;obtain⟨m0,m1⟩:=hm;obtain⟨e0,e1⟩:=hh;unfold OJ w1h
 (repeat' (with_reducible first | exact trivial | rfl | assumption | refine aHg ?_ ?_ | refine Tr.run_ite (fun _=>?_) (fun _=>?_) | refine aHk ?_ | refine And.intro ?_ ?_))
 all_goals first | exact bZ | exact⟨by dsimp only;decide,fun e=>absurd e (by dsimp only;decide),fun e=>absurd rfl e⟩ | exact⟨⟨m0,m1⟩,by dsimp only;omega,fH,⟨(by decide:(0:Int)≤0),by dsimp only;omega⟩,fH,by dsimp only;omega,rF,(by decide:((0:Nat):Int)≤0)⟩
structure plnW (n:Int) (p:PLN):Prop where
 ad:p.addr≤n+4
 ol:aA p.old 10 9≤n
 nx:p.nxt≤n
 ps:0≤p.pops∧p.pops≤n
theorem H5(sh kd ky:Int){n pred pw cw sp curr:Int}(hn:1≤n)(hp:pred≤n+4)(hpw:aA pw 10 9≤n)(hc:0≤curr∧curr≤n)(hcw:aA cw 10 9≤n)(hs:sp≤n):(CF sh kd ky pred pw curr cw sp).run (plnW n):=by
 obtain⟨c0,c1⟩:=hc;unfold CF w00 w02 w01 w03
 (repeat' (with_reducible first | exact trivial | rfl | assumption | refine aHg ?_ ?_ | refine Tr.run_ite (fun _=>?_) (fun _=>?_) | refine aHk ?_ | refine And.intro ?_ ?_))
 all_goals first | exact bZ | (refine⟨?_,?_,?_,⟨?_,?_⟩⟩<;>dsimp only<;>exact fH)
theorem CH(sh kd ky:Int){t n b:Int}{x:FNS}{sp:Int}(hn:1≤n)(q:G5 t n b x)(hs:sp≤n):uW sh kd ky x.1 x.2 x.3 x.4 sp:=aHp (H5 sh kd ky hn q.pr q.pw q.cu q.cw hs)
theorem yL(sh kd ky:Int){t n b:Int}{x:FNS}{sp:Int}(hn:1≤n)(q:G5 t n b x)(hs:sp≤n):plnW n (bH sh kd ky x.1 x.2 x.3 x.4 sp):=aHj (H5 sh kd ky hn q.pr q.pw q.cu q.cw hs)
theorem CG{n:Int}(hn:1≤n)(a b c d e f:_){g:Int}(h i:_)(hg:g≤n):(uX a b c d e f g h i).run (fun v=>lH v∧aA v 10 9≤n):=by
 unfold uX
 (repeat' (with_reducible first | exact trivial | rfl | assumption | refine aHg ?_ ?_ | refine Tr.run_ite (fun _=>?_) (fun _=>?_) | refine aHk ?_ | refine And.intro ?_ ?_))
 all_goals first | exact bZ | exact j9 | exact fH
theorem K1{n:Int}(hn:1≤n){p:PLN}(h:plnW n p):yK p.1 p.2 p.3 p.4 p.5 p.6 p.7 p.8 p.9:=aHp (CG hn _ _ _ _ _ _ _ _ h.nx)
theorem KZ{n:Int}(hn:1≤n){p:PLN}(h:plnW n p):lH (cY p.1 p.2 p.3 p.4 p.5 p.6 p.7 p.8 p.9)∧aA (cY p.1 p.2 p.3 p.4 p.5 p.6 p.7 p.8 p.9) 10 9≤n:=aHj (CG hn _ _ _ _ _ _ _ _ h.nx)
theorem CE{n:Int}(hn:1≤n)(a b c d:_){e:Int}(f:_){g:Int}(h i j:_)(he:e≤n+4)(hg:g≤n):(uV a b c d e f g h i j).run (fun r=>lH r.1∧YI n r.1):=by
 unfold uV
 (repeat' (with_reducible first | exact trivial | rfl | assumption | refine aHg ?_ ?_ | refine Tr.run_ite (fun _=>?_) (fun _=>?_) | refine aHk ?_ | refine And.intro ?_ ?_))
 all_goals first | exact bZ | (dsimp only;first | exact j9 | exact pN | exact⟨fH,fH⟩ | exact⟨by rw [pI];omega,by rw [pI];omega⟩)
theorem KX{n:Int}(hn:1≤n){p:PLN}(h:plnW n p)(j:Int):yJ p.1 p.2 p.3 p.4 p.5 p.6 p.7 p.8 p.9 j:=aHp (CE hn _ _ _ _ _ _ _ _ h.ad h.nx)
theorem KW{n:Int}(hn:1≤n){p:PLN}(h:plnW n p)(j:Int):lH (fL p.1 p.2 p.3 p.4 p.5 p.6 p.7 p.8 p.9 j).1∧YI n (fL p.1 p.2 p.3 p.4 p.5 p.6 p.7 p.8 p.9 j).1:=aHj (CE hn _ _ _ _ _ _ _ _ h.ad h.nx)
theorem CD(a b c d e f g h i):(uT a b c d e f g h i).run (fun _=>True):=by
 unfold uT
 (repeat' (with_reducible first | exact trivial | rfl | assumption | refine aHg ?_ ?_ | refine Tr.run_ite (fun _=>?_) (fun _=>?_) | refine aHk ?_ | refine And.intro ?_ ?_))
 all_goals exact bZ
theorem wZ(p:PLN):nU p.1 p.2 p.3 p.4 p.5 p.6 p.7 p.8 p.9:=aHp (CD _ _ _ _ _ _ _ _ _)
theorem uU(a b c d e f g h i):nU a b c d e f g h i:=aHp (CD _ _ _ _ _ _ _ _ _)
theorem fB{t n b c:Int}{x:FNS}(h:G5 t n b x)(hbc:b≤c):G5 t n c x:=⟨h.m,h.pr,h.pw,h.cu,h.cw,h.fr,h.ul,Int.le_trans h.ln hbc⟩
theorem s9{t n me hd key lim:Int}(hn:1≤n∧n≤1000)(hm:0≤me∧me<t)(hh:0≤hd∧hd≤3):oD t n me hd key lim:=aHp (EC hn hm hh)
theorem G4{t n me hd key lim:Int}(hn:1≤n∧n≤1000)(hm:0≤me∧me<t)(hh:0≤hd∧hd≤3):UJ t n (t8 t n me hd key lim):=by
 have h:=aHj (EC (key:=key) (lim:=lim) hn hm hh);exact h.1
theorem G3{t n me hd key lim:Int}(hn:1≤n∧n≤1000)(hm:0≤me∧me<t)(hh:0≤hd∧hd≤3):G5 t n 0 (t8 t n me hd key lim):=by
 have h:=aHj (EC (key:=key) (lim:=lim) hn hm hh);exact h.2
structure Y7 (n:Int) (x:PRS):Prop where
 h:x.nxt≤n
theorem aCB(t:Int){n:Int}(key:Int){nx:Int}(st:STS)(h:nx≤n):(K3 t n key nx st).run (fun r=>Y7 n r.1∧r.2=st):=⟨⟨rfl,rfl,rfl⟩,⟨h⟩,rfl⟩
theorem H6(t n key nx:Int)(st:STS):CI t n key nx st:=aHp (t:=K3 t n key nx st) (K:=fun _=>True) ⟨⟨rfl,rfl,rfl⟩,trivial⟩
theorem Y6(t:Int){n:Int}(key:Int){nx:Int}(st:STS)(h:nx≤n):Y7 n (o9 t n key nx st).1:=(aHj (aCB t key st h)).1
theorem P1(t n key nx:Int)(st:STS):(o9 t n key nx st).2=st:=aHj (t:=K3 t n key nx st) (K:=fun r=>r.2=st) (aHg ⟨rfl,rfl,rfl⟩ (aHk rfl))
structure stW (t n b:Int) (st:STS):Prop where
 m:0≤st.me∧st.me<t
 sp:0≤st.sp∧st.sp≤n
 r:dS n st.R
 ln:(st.R.length:Int)≤b
theorem iH{t n b c:Int}{st:STS}(h:stW t n b st)(hbc:b≤c):stW t n c st:=⟨h.m,h.sp,h.r,Int.le_trans h.ln hbc⟩
theorem yR{t n b:Int}{st:STS}{x:FNS}(h:stW t n b st)(hq:G5 t n (b - st.R.length+1) x):stW t n (b+1) {me:=st.me,sp:=st.sp,R:=st.R++x.ul} :=
 ⟨h.m,h.sp,LG h.r hq.ul,by have:=hq.ln;simp only [List.length_append];omega⟩
theorem CR{t n b:Int}{st:STS}{k a:Int}(h:stW t n b st)(hk:0≤k∧k≤n)(ha:1≤a∧a≤n):stW t n (b+1) {me:=st.me,sp:=k,R:=st.R++ [a] } :=
 ⟨h.m,hk,u7 h.r ha,by have:=h.ln;simp only [List.length_append,List.length_singleton];omega⟩
theorem QQ{t n b:Int}{st:STS}(h:stW t n b st){k:Int}(hk:0≤k∧k≤n):stW t n (b+1) {me:=st.me,sp:=k,R:=st.R} :=⟨h.m,hk,h.r,by have:=h.ln;show(st.R.length:Int)≤_;omega⟩
structure aE5 (t n:Int) (s:MS) (st:STS) (o:PrO):Prop where
 a:kR t n s o.s
 w:o.d=false→Y7 n o.x
 st:o.st=st
theorem Y8{t n b:Int}{x:PRS}{st:STS}{s:MS}(hb:Bnd t n s)(hx:Y7 n x)(hst:stW t n b st):(prT t n x st s).run (aE5 t n s st):=by
 obtain⟨⟨t0,t1⟩,⟨n0,n1⟩,⟨c0,c1⟩,hw,hmi,hln⟩:=hb;obtain⟨h⟩:=hx;obtain⟨s0,s1⟩:=hst.sp;unfold prT;unfold WZ w0v
 (repeat' (with_reducible first | exact trivial | rfl | assumption | refine aHg ?_ ?_ | refine Tr.run_ite (fun _=>?_) (fun _=>?_) | refine aHk ?_ | refine And.intro ?_ ?_))
 all_goals first | exact bZ | (refine⟨by exact bZ,fun hd=>?_,rfl⟩;first | (exact Bool.noConfusion hd) | exact⟨by assumption⟩)
theorem P4{t n b:Int}{x:PRS}{st:STS}{s:MS}(hb:Bnd t n s)(hx:Y7 n x)(hst:stW t n b st):P2 t n x st s:=aHp (Y8 hb hx hst)
theorem P5{t n b:Int}{x:PRS}{st:STS}{s:MS}(hb:Bnd t n s)(hx:Y7 n x)(hst:stW t n b st):aE5 t n s st (prF t n x st s):=aHj (Y8 hb hx hst)
structure UT (t n b:Int) (st:STS) (x:FTS):Prop where
 h:x.at'=0∨x.at'=1∨x.at'=2∨x.at'=3
 fn:x.at'=0→UJ t n x.fn∧G5 t n (b - st.R.length) x.fn
 cl:x.at'=1→YC t n x.cl
 pr:x.at'=2→Y7 n x.pr
 ps:plnW n x.p
structure aEi (t n b:Int) (s:MS) (o:FtO):Prop where
 a:kR t n s o.s
 st:stW t n (b+1) o.st
 w:o.d=false→UT t n (b+1) o.st o.x
theorem P0{n:Int}(hn:1≤n)(a:Bool)(b:Int)(c:Bool)(d:Int)(e:Bool):plnW n ⟨a,b,c,d,0,0,0,e,0⟩:=⟨by dsimp only;omega,fH,by dsimp only;omega,⟨Int.le_refl 0,by dsimp only;omega⟩⟩
theorem YO{t n b:Int}{x:FTS}{st:STS}{s:MS}(hb:Bnd t n s)(hx:UT t n b st x)(hst:stW t n b st)(hbb:b≤900000):(ftT t n x st s).run (aEi t n b s):=by
 have hb':=hb;obtain⟨⟨t0,t1⟩,⟨n0,n1⟩,⟨c0,c1⟩,hw,hmi,hln⟩:=hb;obtain⟨h,hfn,hcl,hpr,hps⟩:=hx;have hR0:=hst.ln;have hst1:stW t n (b+1) st:=iH hst (by omega)
 have hnn:1≤n∧n≤1000:=⟨n0,n1⟩;have hme:=hst.m;obtain⟨s0,s1⟩:=hst.sp;have b0:0≤b:=by omega
 unfold ftT;refine aHd (fun h0=>?c0) (fun h0=>aHd (fun h1=>?c1) (fun h1=>aHd (fun h2=>?c2) (fun h2=>aHd (fun h3=>?c3) (fun h3=>?c4))))
 case' c0=>obtain⟨hfw,hfq⟩:=hfn h0;have hF:=EG hb' hfw hfq (by omega);have hFo:=EE hb' hfw hfq (by omega);have hA:=hF.a;have hQ:=hF.q;have hQl:=hQ.ln;have hS:stW t n (b+1) {me:=st.me,sp:=st.sp,R:=st.R++(aM t n x.fn s).x.ul } :=yR hst hQ;obtain⟨u0,u1⟩:=hQ.cu;unfold BF w1i w1q w1k w1o
 case' c1=>have hc:=hcl h1;have hC:=xR hb' hc;have hCo:=DX hb' hc;have hA:=hC.a;unfold BG
 case' c2=>have hp:=hpr h2;have hP:=P5 hb' hp hst;have hPo:=P4 hb' hp hst;have hA:=hP.a;have hPs:stW t n (b+1) (prF t n x.pr st s).st :=(by rw [hP.st];exact hst1);unfold BH
 case' c3=>obtain⟨hW,hWn⟩:=KZ n0 hps;have hWo:=K1 n0 hps;obtain⟨q1,q2,q3,⟨q4,q5⟩⟩:=hps;have hps:plnW n x.p:=⟨q1,q2,q3,⟨q4,q5⟩⟩;have hS3:stW t n (b+1) {me:=st.me,sp:=0,R:=st.R} :=QQ hst ⟨by omega,by omega⟩;unfold BI w1j
 case c4=>omega
 all_goals (repeat' (with_reducible first | exact trivial | rfl | assumption | refine aHg ?_ ?_ | refine Tr.run_ite (fun _=>?_) (fun _=>?_) | refine aHk ?_ | refine And.intro ?_ ?_))
 all_goals first
  | exact bZ
  | exact CH _ _ _ n0 hQ s1
  | exact wZ _
  | exact uU _ _ _ _ _ _ _ _ _
  | exact xP _ _ _
  | exact H6 _ _ _ _ _
  | exact s9 hnn hme (d5 _ _)
  | (simp only [List.length_append,List.length_singleton];done)
  | (refine⟨by first | assumption | exact bZ,?_,fun hd=>?_⟩
     ·first
       | assumption
       | (dsimp only;rw [P1];assumption)
       | exact CR hst ⟨by omega,by omega⟩ ⟨by rename_i e;have e:=dM (by simpa using e);omega,q5⟩
     ·first
       | exact Bool.noConfusion hd
       | (refine⟨by dsimp only;decide,?_,?_,?_,?_⟩
          ·first | (exact nE') | (intro _;exact⟨hF.w (by assumption),fB hQ (by dsimp only;omega)⟩) | (intro _;exact⟨G4 hnn hme (d5 _ _),fB (G3 hnn hme (d5 _ _)) (by dsimp only;omega)⟩)
          ·first | (exact nE') | (intro _;dsimp only;exact DW (yL _ _ _ n0 hQ s1).ad) | (intro _;exact hC.w (by assumption))
          ·first | (exact nE') | (intro _;dsimp only;exact Y6 _ _ _ u1) | (intro _;exact hP.w (by assumption))
          ·first | exact hps | exact yL _ _ _ n0 hQ s1))
theorem aBz{t n b:Int}{x:FTS}{st:STS}{s:MS}(hb:Bnd t n s)(hx:UT t n b st x)(hst:stW t n b st)(hbb:b≤900000):UO t n x st s:=aHp (YO hb hx hst hbb)
theorem aBA{t n b:Int}{x:FTS}{st:STS}{s:MS}(hb:Bnd t n s)(hx:UT t n b st x)(hst:stW t n b st)(hbb:b≤900000):aEi t n b s (gO t n x st s):=aHj (YO hb hx hst hbb)
theorem EJ{t n b sh kd ky most:Int}{st:STS}(hn:1≤n∧n≤1000)(hst:stW t n b st):(OK t n sh kd ky most st).run (fun r=>UT t n b st r.1∧r.2=st):=by
 have hR0:=hst.ln;unfold OK
 (repeat' (with_reducible first | exact trivial | rfl | assumption | refine aHg ?_ ?_ | refine Tr.run_ite (fun _=>?_) (fun _=>?_) | refine aHk ?_ | refine And.intro ?_ ?_))
 all_goals first
  | exact bZ
  | exact s9 hn hst.m (d5 _ _)
  | exact⟨by dsimp only;decide,fun _=>⟨G4 hn hst.m (d5 _ _),fB (G3 hn hst.m (d5 _ _)) (by omega)⟩,fun e=>absurd e (by dsimp only;decide),fun e=>absurd e (by dsimp only;decide),P0 hn.1 _ _ _ _ _⟩
theorem eF(t n:Int)(s:MS)(a:Int):kR t n s (s.loadd a):=⟨⟨rfl,rfl,id,rfl,rfl,id⟩,rfl⟩
theorem vX{t n:Int}(s:MS)(a o x:Int)(ht:1≤t)(ha:1≤a∧a≤n):kR t n s (s.cased (n+4+a) o (WU x)):=GK t n s _ _ _ _ _ _ _ _ (yP x) (DH ht (by omega) (by omega))
theorem nI{t n:Int}(s:MS){gs:List Int}{j:Nat}(x:Int)(ht:1≤t)(h:dS n gs)(hj:j<gs.length):kR t n s (s.added (bR n gs j) x):=by
 have ha:1≤List.getD gs (j+Int.toNat 0*1) 0∧List.getD gs (j+Int.toNat 0*1) 0≤n:=by
  have e:j+Int.toNat 0*1=j:=by simp
  rw [e,gD',gE' hj];exact h _ (List.getElem_mem hj)
 exact pF t n s _ _ _ _ _ _ _ (yP _) (DH ht (by unfold bR;omega) (by unfold bR;omega))
theorem lZ{m:List (Int×Int)}{n:Int}{l:List Int}(h:dS n l):dS n (cC m l):=fun r hr=>h r (List.mem_filter.1 hr).1
theorem sK{m:List (Int×Int)}{n:Int}{l:List Int}(h:dS n l):dS n (aU m l):=fun r hr=>h r (List.mem_filter.1 hr).1
theorem B0(m:List (Int×Int))(l:List Int):(cC m l).length ≤l.length:=List.length_filter_le _ _
theorem CQ{n:Int}{l:List Int}(hn:n≤1000)(h:dS n l){j:Nat}(hj:j<l.length): -1000000≤List.getD l (j+Int.toNat 0*1) 0∧List.getD l (j+Int.toNat 0*1) 0≤1000000:=by
 have e:j+Int.toNat 0*1=j:=by simp
 rw [e,gD',gE' hj];have:=h _ (List.getElem_mem hj);show _≤l[j]∧l[j]≤_;omega
theorem B5{n a:Int}(hn:1≤n)(ha:1≤a):1≤cQ n a∧cQ n a≤n:=by
 unfold cQ;rw [Int.tmod_eq_emod_of_nonneg (by omega)]
 have:=Int.emod_nonneg a (show n≠0 by omega)
 have:=Int.emod_lt_of_pos a (show 0<n by omega)
 omega
theorem SK{t n me:Int}(hn:1≤n):1≤at0 t n me∧at0 t n me≤n:=by
 unfold at0;cases h:bN n (aN t n me)with
 | true=>exact o8.1 h
 | false=>exact⟨(by decide:(1:Int)≤1),hn⟩
def enI(t n b:Int)(e:ENS):Prop:=match e.ph with
 | 0=>True
 | 1=>okAl n e.x
 | 2=>True
 | 3=>(dS n e.y.N∧(e.y.N.length:Int)≤b)∧0≤e.y.i∧e.y.i<2*t
 | 4=>2*t≤e.y.i∧1≤e.y.l∧e.y.gs.length=e.y.j+e.y.l∧dS n e.y.gs∧dS n e.y.ks∧(e.y.ks.length:Int)≤b
 | _=>False
structure aA4 (t n b:Int) (s:MS) (o:EO):Prop where
 a:kR t n s o.s
 st:stW t n (b+1) o.st
 w:o.d=false→enI t n (b+1) o.e
theorem NW{t n b:Int}{e:ENS}{st:STS}{s:MS}(hb:Bnd t n s)(hx:enI t n b e)(hst:stW t n b st)(hbb:b≤900000):KO t n e st s:=by
 obtain⟨ht,hn,hc,hw,hmi,hln⟩:=hb;have hl:=hst.ln;refine⟨ht,hn,⟨hc.1,by omega⟩,⟨hst.m.1,by have:=hst.m.2;omega⟩,by omega,?_⟩
 match e,hx with
 | ⟨0,sh,dn,x,y⟩,hx=>trivial
 | ⟨1,sh,dn,x,y⟩,hx=>exact hx
 | ⟨2,sh,dn,x,y⟩,hx=>trivial
 | ⟨3,sh,dn,x,y⟩,hx=>
   obtain⟨⟨h1,h2⟩,h3⟩:=hx;exact⟨by dsimp only at h2⊢;omega,h3⟩
 | ⟨4,sh,dn,x,y⟩,hx=>
   obtain⟨a1,a2,a3,a4,a5⟩:=hx;exact⟨a1,a2,a3,CQ hn.2 a4 (by omega)⟩
theorem GV{t n b:Int}{e:ENS}{st:STS}{x:AL}{s s0:MS}(ha:kR t n s0 s)(hst:stW t n b st)(hg:x.got=0)(hx:1≤x.at'∧x.at'≤n)(hl0:0≤x.left+1)(hl:x.left≤1000):aA4 t n b s0 (JC e st x s):=by
 have hl1:=hst.ln;have hsp:=hst.sp;unfold JC;split
 ·exact⟨ha,⟨hst.m,⟨by show(0:Int)≤0;omega,by show(0:Int)≤n;omega⟩,hst.r,by dsimp only;omega⟩,fun _=>trivial⟩
 ·rename_i h;rw [cA,dF']at h;exact⟨ha,iH hst (by omega),fun _=>⟨hg,hx,by show(0:Int)≤x.left;omega,hl⟩⟩
theorem wK{t n b:Int}{e:ENS}{st:STS}{x:AL}{s:MS}(ht:1≤t)(hn:1≤n)(hst:stW t n b st)(hx:okAl n x):aA4 t n b s (qX n e st x s):=by
 obtain⟨hg,ha,hl⟩:=hx;have hl1:=hst.ln;unfold qX;split
 ·split
  ·exact⟨vX _ _ _ _ ht ha,⟨hst.m,⟨by dsimp only;omega,ha.2⟩,hst.r,by dsimp only;omega⟩,fun h=>Bool.noConfusion h⟩
  ·exact GV (vX _ _ _ _ ht ha) hst rfl (B5 hn ha.1) (by dsimp only;omega) (by dsimp only;omega)
 ·split
  ·exact GV (eF _ _ _ _) hst rfl (B5 hn ha.1) (by dsimp only;omega) (by dsimp only;omega)
  ·exact⟨eF _ _ _ _,iH hst (by omega),fun _=>⟨rfl,ha,hl⟩⟩
theorem NX{t n b:Int}{e:ENS}{st:STS}{s:MS}(hb:Bnd t n s)(hx:enI t n b e)(hst:stW t n b st):aA4 t n b s (enF t n e st s):=by
 obtain⟨ht,hn,hc,hw,hmi,hln⟩:=hb;have hl1:=hst.ln;have hst1:stW t n (b+1) st:=iH hst (by omega)
 match e,hx with
 | ⟨0,sh,dn,x,y⟩,hx=>
   unfold enF;dsimp only;cases hc:ieq st.sp 0 with
   | true=>exact wK ht.1 hn.1 hst ⟨rfl,SK hn.1,by dsimp only;omega⟩
   | false=>exact⟨eF _ _ _ _,hst1,fun h=>Bool.noConfusion h⟩
 | ⟨1,sh,dn,x,y⟩,hx=>exact wK ht.1 hn.1 hst hx
 | ⟨2,sh,dn,x,y⟩,hx=>
   exact⟨eF _ _ _ _,hst1,fun _=>⟨⟨hst.r,by show(st.R.length:Int)≤_;omega⟩,(by decide:(0:Int)≤1),by show(1:Int)<_;omega⟩⟩
 | ⟨3,sh,dn,x,y⟩,hx=>
   obtain⟨⟨hN,hNl⟩,hi0,hi1⟩:=hx;dsimp only at hN hNl hi0 hi1;have hk:=B0 (aV y.m n y.i s) y.N;unfold enF;dsimp only;generalize hsm:aV y.m n y.i s=sm at hk⊢;cases h1:ieq (y.i+1) (2*t)with
   | false=>
     have h1:=dM h1;exact⟨eF _ _ _ _,hst1,fun _=>⟨⟨hN,by show((y.N).length :Int)≤_;omega⟩,by show 0≤y.i+1;omega,by show y.i+1<2*t;omega⟩⟩
   | true=>
     have h1:=BW h1;cases h2:ieq ((aU sm y.N).length :Int) 0 with
     | true=>exact⟨eF _ _ _ _,⟨hst.m,hst.sp,lZ hN,by show((cC sm y.N).length :Int)≤_;omega⟩,fun h=>Bool.noConfusion h⟩
     | false=>
       have h2:=dM h2;exact⟨eF _ _ _ _,hst1,fun _=>⟨by show 2*t≤y.i+1;omega,by show 1≤(aU sm y.N).length;omega,by show(aU sm y.N).length =0+(aU sm y.N).length;omega,sK hN,lZ hN,by show((cC sm y.N).length :Int)≤_;omega⟩⟩
 | ⟨4,sh,dn,x,y⟩,hx=>
   obtain⟨a1,a2,a3,a4,a5,a6⟩:=hx;dsimp only at a1 a2 a3 a4 a5 a6;unfold enF;dsimp only;cases h1:ieq ((y.l - 1:Nat):Int) 0 with
   | true=>exact⟨nI _ _ ht.1 a4 (by omega),⟨hst.m,hst.sp,a5,by show((y.ks).length :Int)≤_;omega⟩,fun _=>trivial⟩
   | false=>
     have h1:=dM h1;exact⟨nI _ _ ht.1 a4 (by omega),hst1,fun _=>⟨a1,by show 1≤y.l - 1;omega,by show(y.gs).length =y.j+1+(y.l - 1);omega,a4,a5,by show((y.ks).length :Int)≤_;omega⟩⟩
def LI(t n b:Int)(y:SWS):Prop:=match y.ph with
 | 0=>True
 | 1=>(dS n y.N∧(y.N.length:Int)≤b)∧0≤y.i∧y.i<2*t
 | 2=>2*t≤y.i∧1≤y.l∧y.gs.length=y.j+y.l∧dS n y.gs∧dS n y.ks∧(y.ks.length:Int)≤b
 | _=>False
structure aGc (t n b:Int) (s:MS) (o:SO):Prop where
 a:kR t n s o.s
 st:stW t n (b+1) o.st
 w:o.d=false→LI t n (b+1) o.e
theorem aCZ{t n b:Int}{e:SWS}{st:STS}{s:MS}(hb:Bnd t n s)(hx:LI t n b e)(hst:stW t n b st)(hbb:b≤900000):qA t n e st s:=by
 obtain⟨ht,hn,hc,hw,hmi,hln⟩:=hb;have hl:=hst.ln;refine⟨ht,hn,⟨hc.1,by omega⟩,by omega,?_⟩
 match e,hx with
 | ⟨0,N,m,i,ks,fs,gs,j,l⟩,hx=>trivial
 | ⟨1,N,m,i,ks,fs,gs,j,l⟩,hx=>
   obtain⟨⟨h1,h2⟩,h3⟩:=hx;exact⟨by dsimp only at h2⊢;omega,h3⟩
 | ⟨2,N,m,i,ks,fs,gs,j,l⟩,hx=>
   obtain⟨a1,a2,a3,a4,a5⟩:=hx;exact⟨a1,a2,a3,CQ hn.2 a4 (by omega)⟩
theorem aC0{t n b:Int}{e:SWS}{st:STS}{s:MS}(hb:Bnd t n s)(hx:LI t n b e)(hst:stW t n b st):aGc t n b s (swF t n e st s):=by
 obtain⟨ht,hn,hc,hw,hmi,hln⟩:=hb;have hl1:=hst.ln;have hst1:stW t n (b+1) st:=iH hst (by omega)
 match e,hx with
 | ⟨0,N,m,i,ks,fs,gs,j,l⟩,hx=>
   exact⟨eF _ _ _ _,hst1,fun _=>⟨⟨hst.r,by show(st.R.length:Int)≤_;omega⟩,(by decide:(0:Int)≤1),by show(1:Int)<_;omega⟩⟩
 | ⟨1,N,m,i,ks,fs,gs,j,l⟩,hx=>
   obtain⟨⟨hN,hNl⟩,hi0,hi1⟩:=hx;dsimp only at hN hNl hi0 hi1;have hk:=B0 (aV m n i s) N;unfold swF;dsimp only;generalize hsm:aV m n i s=sm at hk⊢;cases h1:ieq (i+1) (2*t)with
   | false=>
     have h1:=dM h1;exact⟨eF _ _ _ _,hst1,fun _=>⟨⟨hN,by show((N).length :Int)≤_;omega⟩,by show 0≤i+1;omega,by show i+1<2*t;omega⟩⟩
   | true=>
     have h1:=BW h1;cases h2:ieq ((aU sm N).length :Int) 0 with
     | true=>exact⟨eF _ _ _ _,⟨hst.m,hst.sp,lZ hN,by show((cC sm N).length :Int)≤_;omega⟩,fun h=>Bool.noConfusion h⟩
     | false=>
       have h2:=dM h2;exact⟨eF _ _ _ _,hst1,fun _=>⟨by show 2*t≤i+1;omega,by show 1≤(aU sm N).length;omega,by show(aU sm N).length =0+(aU sm N).length;omega,sK hN,lZ hN,by show((cC sm N).length :Int)≤_;omega⟩⟩
 | ⟨2,N,m,i,ks,fs,gs,j,l⟩,hx=>
   obtain⟨a1,a2,a3,a4,a5,a6⟩:=hx;dsimp only at a1 a2 a3 a4 a5 a6;unfold swF;dsimp only;cases h1:ieq ((l - 1:Nat):Int) 0 with
   | true=>exact⟨nI _ _ ht.1 a4 (by omega),⟨hst.m,hst.sp,a5,by show((ks).length :Int)≤_;omega⟩,fun h=>Bool.noConfusion h⟩
   | false=>
     have h1:=dM h1;exact⟨nI _ _ ht.1 a4 (by omega),hst1,fun _=>⟨a1,by show 1≤l - 1;omega,by show(gs).length =j+1+(l - 1);omega,a4,a5,by show((ks).length :Int)≤_;omega⟩⟩
structure exW (t n:Int) (x:EXS):Prop where
 h:x.at'=0∨x.at'=1∨x.at'=2∨x.at'=3∨x.at'=4∨x.at'=5∨x.at'=6∨x.at'=7∨x.at'=8∨x.at'=9
 m:0≤x.u∧x.u<t
 po:0≤x.popped∧x.popped≤n
 fo:x.at'≠0→YI n x.found
 wd:x.at'=2∨x.at'=6→aA x.word 10 9≤n
 gv:x.at'=9→1≤aA x.found 39 9
structure aEc (t n:Int) (s:MS) (o:ExO):Prop where
 a:kR t n s o.s
 w:o.d=false→exW t n o.x
 p:0≤o.x.popped∧o.x.popped≤n
theorem YM{t n:Int}{x:EXS}{s:MS}(hb:Bnd t n s)(hx:exW t n x):(exT t n x s).run (aEc t n s):=by
 obtain⟨⟨t0,t1⟩,⟨n0,n1⟩,⟨c0,c1⟩,hw,hmi,hln⟩:=hb;obtain⟨h,⟨m0,m1⟩,⟨p0,p1⟩,hfo,hwd,hgv⟩:=hx;have hc9:=aAp x.word 10;unfold exT;refine aHd (fun h0=>?c0) (fun h0=>aHd (fun h1=>?c1) (fun h1=>aHd (fun h2=>?c2) (fun h2=>aHd (fun h3=>?c3) (fun h3=>aHd (fun h4=>?c4) (fun h4=>aHd (fun h5=>?c5) (fun h5=>aHd (fun h6=>?c6) (fun h6=>aHd (fun h7=>?c7) (fun h7=>aHd (fun h8=>?c8) (fun h8=>aHd (fun h9=>?c9) (fun h9=>?c10))))))))))
 case' c0=>unfold AV w0n w0m w0l w0s w0i w0g
 case' c1=>have hF:=hfo h0;obtain⟨f1,f2⟩:=id hF;unfold AW w0f w0o w0r w0j
 case' c2=>have hF:=hfo h0;obtain⟨f1,f2⟩:=id hF;have hwd:=hwd (.inl h2);unfold AX w0e w0k
 case' c3=>have hF:=hfo h0;obtain⟨f1,f2⟩:=id hF;unfold AY w0k w0g
 case' c4=>have hF:=hfo h0;obtain⟨f1,f2⟩:=id hF;unfold AZ w0k w0g
 case' c5=>have hF:=hfo h0;obtain⟨f1,f2⟩:=id hF;unfold A0 w0p w0r w0d w0j
 case' c6=>have hF:=hfo h0;obtain⟨f1,f2⟩:=id hF;have hwd:=hwd (.inr h6);unfold A1 w0t
 case' c7=>have hF:=hfo h0;obtain⟨f1,f2⟩:=id hF;unfold A2 w0g
 case' c8=>have hF:=hfo h0;obtain⟨f1,f2⟩:=id hF;unfold A3 w0h w0q w0g
 case' c9=>have hF:=hfo h0;obtain⟨f1,f2⟩:=id hF;have hgv:=hgv h9;unfold A4 w0u
 case c10=>omega
 all_goals (repeat' (with_reducible first | exact trivial | rfl | assumption | refine aHg ?_ ?_ | refine Tr.run_ite (fun _=>?_) (fun _=>?_) | refine aHk ?_ | refine And.intro ?_ ?_))
 all_goals first
  | exact bZ
  | (refine⟨by exact bZ,fun hd=>?_,?_⟩
     ·first
       | (exact Bool.noConfusion hd)
       | (refine⟨?_,⟨m0,m1⟩,⟨p0,p1⟩,?_,?_,?_⟩
          ·dsimp only;decide
          ·first | (intro _;exact hF) | (intro _;exact pN) | (intro e;exact absurd rfl e)
          ·first | (exact nE') | (intro _;dsimp only;exact fH)
          ·first | (exact nE') | (intro _;exact(o8.1 (by simpa using hd)).1))
     ·exact IB)
theorem aBi{t n:Int}{x:EXS}{s:MS}(hb:Bnd t n s)(hx:exW t n x):aBg t n x s:=aHp (YM hb hx)
theorem aBj{t n:Int}{x:EXS}{s:MS}(hb:Bnd t n s)(hx:exW t n x):aEc t n s (C2 t n x s):=aHj (YM hb hx)
theorem UB(t n u sh kd ky att:Int):OF t n u sh kd ky att:=⟨⟨rfl,rfl⟩,trivial⟩
theorem aEb(t n:Int){u:Int}(sh kd ky att:Int)(hn:1≤n)(hu:0≤u∧u<t):exW t n (aBc t n u sh kd ky att):=⟨.inl rfl,hu,⟨(by decide:(0:Int)≤0),by show(0:Int)≤n;omega⟩,fun e=>absurd rfl e,fun e=>absurd e (by show¬((0:Int)=2∨(0:Int)=6);decide),fun e=>absurd e (by show¬((0:Int)=9);decide)⟩
structure WA (t n b:Int) (st:STS) (x:HPS):Prop where
 h:x.at'=0∨x.at'=1∨x.at'=2∨x.at'=3∨x.at'=4∨x.at'=5∨x.at'=6∨x.at'=7∨x.at'=8∨x.at'=9
 u:0≤x.u∧x.u<t
 ex:x.at'=3→exW t n x.ex
 en:x.at'=4→enI t n b x.en
 fn:x.at'=5→UJ t n x.fn∧G5 t n (b - st.R.length) x.fn
 cl:x.at'=7→YC t n x.cl
 pr:x.at'=8→Y7 n x.pr
 ps:plnW n x.p
structure aEK (t n b:Int) (s:MS) (o:HpO):Prop where
 a:kR t n s o.s
 st:stW t n (b+1) o.st
 w:o.d=false→WA t n (b+1) o.st o.x
theorem YV{t n b:Int}{x:HPS}{st:STS}{s:MS}(hb:Bnd t n s)(hx:WA t n b st x)(hst:stW t n b st)(hbb:b≤900000):(hpT t n x st s).run (aEK t n b s):=by
 have hb':=hb;obtain⟨⟨t0,t1⟩,⟨n0,n1⟩,⟨c0,c1⟩,hw,hmi,hln⟩:=hb;obtain⟨h,hu,hex,hen,hfn,hcl,hpr,hps⟩:=hx;have hR0:=hst.ln;have hst1:stW t n (b+1) st:=iH hst (by omega)
 have hnn:1≤n∧n≤1000:=⟨n0,n1⟩;have hme:=hst.m;obtain⟨s0,s1⟩:=hst.sp;obtain⟨u0,u1⟩:=hu;have b0:0≤b:=by omega
 obtain⟨k0,k1⟩:=uO hw (2*n+5+2*t+3*x.1+1);unfold hpT;refine aHd (fun h0=>?c0) (fun h0=>aHd (fun h1=>?c1) (fun h1=>aHd (fun h2=>?c2) (fun h2=>aHd (fun h3=>?c3) (fun h3=>aHd (fun h4=>?c4) (fun h4=>aHd (fun h5=>?c5) (fun h5=>aHd (fun h6=>?c6) (fun h6=>aHd (fun h7=>?c7) (fun h7=>aHd (fun h8=>?c8) (fun h8=>aHd (fun h9=>?c9) (fun h9=>?c10))))))))))
 case' c0=>unfold BM w1y
 case' c1=>unfold BN w1y
 case' c2=>unfold BO w1u w1y
 case' c3=>have he:=hex h3;have hE:=aBj hb' he;have hEo:=aBi hb' he;have hA:=hE.a;obtain⟨p0,p1⟩:=hE.p;unfold BP
 case' c4=>have he:=hen h4;have hE:=NX hb' he hst;have hEo:=NW hb' he hst hbb;have hA:=hE.a;have hS:=hE.st;have hme:=hS.m;have hSl:=hS.ln;unfold BQ
 case' c5=>obtain⟨hfw,hfq⟩:=hfn h5;have hF:=EG hb' hfw hfq (by omega);have hFo:=EE hb' hfw hfq (by omega);have hA:=hF.a;have hQ:=hF.q;have hQl:=hQ.ln;have hS:stW t n (b+1) {me:=st.me,sp:=st.sp,R:=st.R++(aM t n x.fn s).x.ul } :=yR hst hQ;obtain⟨q0,q1⟩:=hQ.cu;unfold BR w1t w1x
 case' c6=>have hfl:(bif ieq x.p.code 4 then(1:Int)else 0)≤n:=(by cases ieq x.p.code 4<;>simp<;>omega);unfold BS w1y
 case' c7=>have hc:=hcl h7;have hC:=xR hb' hc;have hCo:=DX hb' hc;have hA:=hC.a;unfold BT
 case' c8=>have hp:=hpr h8;have hP:=P5 hb' hp hst;have hPo:=P4 hb' hp hst;have hA:=hP.a;have hPs:stW t n (b+1) (prF t n x.pr st s).st :=(by rw [hP.st];exact hst1);unfold BU
 case' c9=>obtain⟨hD,hDd⟩:=KW n0 hps (aA x.6 0 12);have hDo:=KX n0 hps (aA x.6 0 12);have hS3:stW t n (b+1) {me:=st.me,sp:=0,R:=st.R} :=QQ hst ⟨by omega,by omega⟩;unfold BV w1v w1y
 case c10=>omega
 all_goals (repeat' (with_reducible first | exact trivial | rfl | assumption | refine aHg ?_ ?_ | refine Tr.run_ite (fun _=>?_) (fun _=>?_) | refine aHk ?_ | refine And.intro ?_ ?_))
 all_goals first
  | exact bZ
  | (simp only [List.length_append,List.length_singleton];done)
  | exact UB _ _ _ _ _ _ _
  | exact s9 hnn hme (d5 _ _)
  | exact CH _ _ _ n0 hQ s1
  | exact wZ _
  | exact uU _ _ _ _ _ _ _ _ _
  | exact xP _ _ _
  | exact H6 _ _ _ _ _
  | (refine⟨by first | assumption | exact bZ,?_,fun hd=>?_⟩
     ·first
       | assumption
       | (dsimp only;rw [P1];assumption)
       | exact CR hst ⟨by omega,by omega⟩ ⟨by rename_i e;have e:=dM (by simpa using e);omega,p1⟩
     ·first
       | exact Bool.noConfusion hd
       | (refine⟨by dsimp only;decide,⟨u0,u1⟩,?_,?_,?_,?_,?_,?_⟩<;>first | (exact nE') | exact hps | exact P0 n0 _ _ _ _ _ | exact yL _ _ _ n0 hQ s1 | (intro _;dsimp only;with_reducible exact aEb _ _ _ _ _ _ n0 ⟨u0,u1⟩) | (intro _;exact trivial) | (intro _;exact⟨G4 hnn hme (d5 _ _),fB (G3 hnn hme (d5 _ _)) (by dsimp only;omega)⟩) | (intro _;exact hE.w (by assumption)) | (intro _;exact⟨hF.w (by assumption),fB hQ (by dsimp only;omega)⟩) | (intro _;dsimp only;exact DW (yL _ _ _ n0 hQ s1).ad) | (intro _;exact hC.w (by assumption)) | (intro _;dsimp only;exact Y6 _ _ _ q1) | (intro _;exact hP.w (by assumption))))
theorem O4{t n b:Int}{x:HPS}{st:STS}{s:MS}(hb:Bnd t n s)(hx:WA t n b st x)(hst:stW t n b st)(hbb:b≤900000):O2 t n x st s:=aHp (YV hb hx hst hbb)
theorem O5{t n b:Int}{x:HPS}{st:STS}{s:MS}(hb:Bnd t n s)(hx:WA t n b st x)(hst:stW t n b st)(hbb:b≤900000):aEK t n b s (gC t n x st s):=aHj (YV hb hx hst hbb)
theorem aB3{t n b u no lim:Int}{st:STS}(hn:1≤n)(hu:0≤u∧u<t):(J6 t n u no lim st).run (fun r=>WA t n b st r.1∧r.2=st):=by
 unfold J6
 (repeat' (with_reducible first | exact trivial | rfl | assumption | refine aHg ?_ ?_ | refine Tr.run_ite (fun _=>?_) (fun _=>?_) | refine aHk ?_ | refine And.intro ?_ ?_))
 all_goals first
  | exact bZ
  | exact⟨by dsimp only;decide,hu,fun e=>absurd e (by dsimp only;decide),fun e=>absurd e (by dsimp only;decide),fun e=>absurd e (by dsimp only;decide),fun e=>absurd e (by dsimp only;decide),fun e=>absurd e (by dsimp only;decide),P0 hn _ _ _ _ _⟩
theorem XB{s k y:Int}(h:bS s k y=true):lH (tskV s k y):=by
 have h:=lX.1 h;unfold tskV;refine⟨?_,?_⟩<;>omega
theorem VC(t n:Int):OW t n:=⟨⟨rfl,rfl⟩,trivial⟩
theorem aEE{t:Int}(n:Int)(ht:1≤t):hdW t (aBQ t n):=⟨⟨(by decide:(0:Int)≤0),by show(0:Int)<t;omega⟩,⟨(by decide:(-1:Int)≤ -1),by show(-1:Int)<t;omega⟩⟩
theorem TP(t n u:Int):rT t n u:=⟨⟨rfl,rfl⟩,trivial⟩
theorem aDO(t n:Int){u:Int}(hu:0≤u∧u<t):drW t (AN t n u):=⟨hu,⟨(by decide:(0:Int)≤0),(by decide:(0:Int)≤1)⟩⟩
theorem SN(t n u:Int):MD t n u:=⟨⟨rfl,rfl⟩,trivial⟩
structure awW (t:Int) (x:AWS):Prop where
 m:0≤x.me∧x.me<t
structure aDG (t n:Int) (s:MS) (o:AwO):Prop where
 a:kR t n s o.s
 w:o.d=false→awW t o.x
theorem YB{t n:Int}{x:AWS}{s:MS}(hb:Bnd t n s)(hx:awW t x):(awT t n x s).run (aDG t n s):=by
 obtain⟨⟨t0,t1⟩,⟨n0,n1⟩,⟨c0,c1⟩,hw,hmi,hln⟩:=hb;obtain⟨⟨m0,m1⟩⟩:=hx;unfold awT;unfold SQ w0c
 (repeat' (with_reducible first | exact trivial | rfl | assumption | refine aHg ?_ ?_ | refine Tr.run_ite (fun _=>?_) (fun _=>?_) | refine aHk ?_ | refine And.intro ?_ ?_))
 all_goals first | exact bZ | (refine⟨by exact bZ,fun hd=>?_⟩;first | (exact Bool.noConfusion hd) | exact⟨⟨m0,m1⟩⟩)
theorem aAe{t n:Int}{x:AWS}{s:MS}(hb:Bnd t n s)(hx:awW t x):aAb t n x s:=aHp (YB hb hx)
theorem aAf{t n:Int}{x:AWS}{s:MS}(hb:Bnd t n s)(hx:awW t x):aDG t n s (rR t n x s):=aHj (YB hb hx)
theorem aDF(t n:Int){u:Int}(hu:0≤u∧u<t):awW t (Z7 t n u):=⟨hu⟩
theorem SF(t n u sh kd ky:Int):MC t n u sh kd ky:=⟨trivial,⟨rfl,rfl⟩,trivial⟩
theorem aDD(t n:Int){u:Int}{sh kd ky:Int}(hr:bS sh kd ky=true)(hu:0≤u∧u<t):X8 t (ZY t n u sh kd ky):=⟨.inl rfl,hu,W9 XB CN,CN,by show(!ieq (bif bS sh kd ky then 0 else 1) 0)=false;rw [hr];rfl⟩
theorem VU(t n u no lim:Int)(st:STS):BL t n u no lim st:=by
 unfold BL J6;exact⟨⟨⟨rfl,rfl,rfl⟩,by decide⟩,trivial⟩
theorem YU{t n b u no lim:Int}{st:STS}(hn:1≤n)(hu:0≤u∧u<t):WA t n b st (vQ t n u no lim st).1:=(aHj (aB3 (b:=b) hn hu)).1
theorem UN{t n b:Int}(sh kd ky most:Int){st:STS}(hn:1≤n∧n≤1000)(hst:stW t n b st):uA t n sh kd ky most st:=aHp (EJ hn hst)
theorem aEh{t n b:Int}(sh kd ky most:Int){st:STS}(hn:1≤n∧n≤1000)(hst:stW t n b st):UT t n b st (jQ t n sh kd ky most st).1:=(aHj (EJ hn hst)).1
theorem OL{t n b:Int}(sh kd ky most:Int){st:STS}(hn:1≤n∧n≤1000)(hst:stW t n b st):(jQ t n sh kd ky most st).2=st:=(aHj (EJ (b:=b) hn hst)).2
structure NB (t n b:Int) (st:STS) (x:DOS):Prop where
 h:x.at'=0∨x.at'=1∨x.at'=2∨x.at'=3∨x.at'=4∨x.at'=5∨x.at'=6∨x.at'=7∨x.at'=8∨x.at'=9
 hd:x.at'=0→hdW t x.hd
 hp:x.at'=1∨x.at'=5→WA t n b st x.hp
 en:x.at'=2→enI t n b x.en
 ft:x.at'=3→UT t n b st x.ft
 an:x.at'=4→X8 t x.an
 aw:x.at'=6→awW t x.aw
 fn:x.at'=7→UJ t n x.fn∧G5 t n (b - st.R.length) x.fn
 dr:x.at'=8→drW t x.dr
 sw:x.at'=9→LI t n b x.sw
 lo:x.at'≤3→x.slow=false
 hi:x.at'=4∨x.at'=5∨x.at'=6→x.slow=true
 ri:x.at'≠0→bS x.sh x.kd x.ky=true
def drw(x:DOS):Bool:=x.slow&& !(ieq x.at' 4&&ile x.an.at' 1)
theorem qV{x:DOS}(h:x.slow=false):drw x=false:=by unfold drw;rw [h];rfl
theorem mL{x:DOS}(h:x.at'≠4):drw x=x.slow:=by
 unfold drw;have:ieq x.at' 4=false:=by simpa [cV]using h
 rw [this];cases x.slow<;>rfl
structure NA (t n b:Int) (s:MS) (x:DOS) (o:DqO):Prop where
 a:C8 t n s o.s
 st:stW t n (b+1) o.st
 w:o.d=false→NB t n (b+1) o.st o.x
 k:(drw x=false∧drw o.x=true∧aD o.s.xs (2*n+5+2*t+3*t)=WU (aD s.xs (2*n+5+2*t+3*t)+1))∨(drw o.x=drw x∧aD o.s.xs (2*n+5+2*t+3*t)=aD s.xs (2*n+5+2*t+3*t))
 e:o.d=true→o.x.slow=drw o.x
theorem YF{t n b:Int}{s:MS}{x:DOS}{o:DqO}(h:kR t n s o.s)(hs:stW t n (b+1) o.st)(hk:drw o.x=drw x)(he:o.d=true→o.x.slow=drw o.x)(hw:o.d=false→NB t n (b+1) o.st o.x):NA t n b s x o:=⟨h.a,hs,hw,.inr ⟨hk,h.k⟩,he⟩
theorem aAE{t n b:Int}{s:MS}{x:DOS}{o:DqO}(h:C8 t n s o.s)(hs:stW t n (b+1) o.st)(hk:(drw x=false∧drw o.x=true∧aD o.s.xs (2*n+5+2*t+3*t)=WU (aD s.xs (2*n+5+2*t+3*t)+1))∨(drw o.x=drw x∧aD o.s.xs (2*n+5+2*t+3*t)=aD s.xs (2*n+5+2*t+3*t)))(he:o.d=true→o.x.slow=drw o.x)(hw:o.d=false→NB t n (b+1) o.st o.x):NA t n b s x o:=⟨h,hs,hw,hk,he⟩
theorem YE{t n:Int}{s:MS}{x y:DOS}{o:AnO}(hx:x.at'=4)(hs:x.slow=true)(hw:X8 t x.an)(h:SH t n s x.an o)(hy:(o.d=false∧y.at'=4∧y.an=o.x∨o.d=true∧y.at'=5)∧y.slow=true):(drw x=false∧drw y=true∧aD o.s.xs (2*n+5+2*t+3*t)=WU (aD s.xs (2*n+5+2*t+3*t)+1))∨(drw y=drw x∧aD o.s.xs (2*n+5+2*t+3*t)=aD s.xs (2*n+5+2*t+3*t)):=by
 obtain⟨hy,hys⟩:=hy;have h5:=hw.h;have ex:drw x= !ile x.an.at' 1:=by unfold drw;rw [hx,hs];rfl
 rcases h.k with⟨k1,k2⟩ | ⟨k1,k2⟩
 ·left;refine⟨by rw [ex,k1];rfl,?_,k2⟩
  rcases hy with⟨_,y1,y2⟩ | ⟨y0,y1⟩
  ·unfold drw;rw [hys,y1,y2,h.e,k1];rfl
  ·have:=h.f y0;omega
 ·right;refine⟨?_,k2⟩;rcases hy with⟨_,y1,y2⟩ | ⟨y0,y1⟩
  ·have ey:drw y= !ile (x.an.at'+1) 1:=by unfold drw;rw [hys,y1,y2,h.e];rfl
   rw [ex,ey];rcases h5 with e | e | e | e | e<;>first | (exact absurd e k1) | (rw [e];rfl)
  ·rw [mL (by omega),hys,ex,h.f y0];rfl
theorem YG{t n b:Int}{x:DOS}{st:STS}{s:MS}(hb:Bnd t n s)(hx:NB t n b st x)(hst:stW t n b st)(hbb:b≤900000):(dqT t n x st s).run (NA t n b s x):=by
 have hb':=hb;obtain⟨⟨t0,t1⟩,⟨n0,n1⟩,⟨c0,c1⟩,hw,hmi,hln⟩:=hb;obtain⟨h,xhd,xhp,xen,xft,xan,xaw,xfn,xdr,xsw,xlo,xhi,xri⟩:=hx;have hR0:=hst.ln;have hst1:stW t n (b+1) st:=iH hst (by omega)
 have hnn:1≤n∧n≤1000:=⟨n0,n1⟩;have hme:=hst.m;have b0:0≤b:=by omega
 unfold dqT;refine aHd (fun h0=>?c0) (fun h0=>aHd (fun h1=>?c1) (fun h1=>aHd (fun h2=>?c2) (fun h2=>aHd (fun h3=>?c3) (fun h3=>aHd (fun h4=>?c4) (fun h4=>aHd (fun h5=>?c5) (fun h5=>aHd (fun h6=>?c6) (fun h6=>aHd (fun h7=>?c7) (fun h7=>aHd (fun h8=>?c8) (fun h8=>aHd (fun h9=>?c9) (fun h9=>?c10))))))))))
 case' c0=>have hc:=xhd h0;have hC:=aBY hb' hc;have hCo:=aBX hb' hc;have hA:=hC.a;have hS:=hst1;have hSl:=hS.ln;obtain⟨v0,v1⟩:=hC.p;have hsl:=xlo (by omega);have hdx:=qV hsl;unfold AC w2d w27 w28
 case' c1=>have hc:=xhp (.inl h1);have hC:=O5 hb' hc hst hbb;have hCo:=O4 hb' hc hst hbb;have hA:=hC.a;have hS:=hC.st;have hme:=hS.m;have hSl:=hS.ln;have hri:=xri h0;have hsl:=xlo (by omega);have hdx:=qV hsl;unfold AD w25 w2a w28
 case' c2=>have hc:=xen h2;have hC:=NX hb' hc hst;have hCo:=NW hb' hc hst hbb;have hA:=hC.a;have hS:=hC.st;have hme:=hS.m;have hSl:=hS.ln;have hri:=xri h0;have hsl:=xlo (by omega);have hdx:=qV hsl;unfold AE w28
 case' c3=>have hc:=xft h3;have hC:=aBA hb' hc hst hbb;have hCo:=aBz hb' hc hst hbb;have hA:=hC.a;have hS:=hC.st;have hme:=hS.m;have hSl:=hS.ln;have hri:=xri h0;have hsl:=xlo (by omega);have hdx:=qV hsl;unfold AF w22 w29 w28
 case' c4=>have hc:=xan h4;have hC:=Z6 hb' hc;have hCo:=Z5 hb' hc;have hA:=hC.a;have hS:=hst1;have hSl:=hS.ln;have hri:=xri h0;have hsl:=xhi (.inl h4);unfold AG w28
 case' c5=>have hc:=xhp (.inr h5);have hC:=O5 hb' hc hst hbb;have hCo:=O4 hb' hc hst hbb;have hA:=hC.a;have hS:=hC.st;have hme:=hS.m;have hSl:=hS.ln;have hri:=xri h0;have hsl:=xhi (.inr (.inl h5));have hdx:=mL h4;unfold AH w2a w28
 case' c6=>have hc:=xaw h6;have hC:=aAf hb' hc;have hCo:=aAe hb' hc;have hA:=hC.a;have hS:=hst1;have hSl:=hS.ln;have hri:=xri h0;have hsl:=xhi (.inr (.inr h6));have hdx:=mL h4;unfold AI w24 w28
 case' c7=>obtain⟨hfw,hfq⟩:=xfn h7;have hF:=EG hb' hfw hfq (by omega);have hFo:=EE hb' hfw hfq (by omega);have hA:=hF.a;have hQ:=hF.q;have hQl:=hQ.ln;have hS:stW t n (b+1) {me:=st.me,sp:=st.sp,R:=st.R++(aM t n x.fn s).x.ul } :=yR hst hQ;have hri:=xri h0;have hdx:=mL h4;unfold AJ w28
 case' c8=>have hc:=xdr h8;have hC:=aAQ hb' hc;have hCo:=aAP hb' hc;have hA:=hC.a;have hS:=hst1;have hri:=xri h0;have hdx:=mL h4;unfold AK w28
 case' c9=>have hc:=xsw h9;have hC:=aC0 hb' hc hst;have hCo:=aCZ hb' hc hst hbb;have hA:=hC.a;have hS:=hC.st;have hri:=xri h0;have hdx:=mL h4;unfold AM w28
 case c10=>omega
 case' c0=>refine aHg trivial (aIh (fun hri=>?c0a) (fun hri=>?_))
 case' c0a=>skip
 all_goals (try refine aHg trivial (aIh (fun e=>absurd (hri.symm.trans e) (by decide)) (fun _=>?_)))
 all_goals (repeat' (with_reducible first | exact trivial | rfl | assumption | refine aHg ?_ ?_ | refine aId (fun _=>?_) (fun _=>?_) | refine Tr.run_ite (fun _=>?_) (fun _=>?_) | refine aHk ?_ | refine And.intro ?_ ?_))
 all_goals first
  | exact bZ
  | (intro _;decide)
  | assumption
  | exact TP _ _ _
  | exact SN _ _ _
  | exact SF _ _ _ _ _ _
  | exact VU _ _ _ _ _ _
  | exact s9 hnn hme (d5 _ _)
  | exact UN _ _ _ _ hnn hS
  | (simp only [List.length_append,List.length_singleton];done)
  | ((first | refine YF hA ?_ ?_ ?_ ?_ | refine aAE hA ?_ ?_ ?_ ?_ | refine YF (tG _ _ _ _ _ _ _ _) ?_ ?_ ?_ ?_)
     ·first | assumption | (dsimp only;rw [OL _ _ _ _ hnn hS];assumption)
     ·first
       | (rw [hdx];first | exact qV hsl | exact mL (by dsimp only;decide) | rfl)
       | exact YE h4 hsl hc hC ⟨.inl ⟨by assumption,rfl,rfl⟩,hsl⟩
       | exact YE h4 hsl hc hC ⟨.inr ⟨by assumption,rfl⟩,hsl⟩
     ·first
       | (intro e;exact Bool.noConfusion e)
       | (intro _;exact(mL (by dsimp only;decide)).symm)
     ·intro hd
      first
      | exact Bool.noConfusion hd
      | (refine⟨by dsimp only;decide,?_,?_,?_,?_,?_,?_,?_,?_,?_,?_,?_,?_⟩<;>first | (exact nE') | (intro _;exact hsl) | (intro _;exact hri) | (intro _;rfl) | (intro _;exact hC.w (by assumption)) | (intro _;exact YU n0 ⟨by omega,v1⟩) | (intro _;exact trivial) | (intro _;dsimp only;rw [OL _ _ _ _ hnn hS];exact aEh _ _ _ _ hnn hS) | (intro _;dsimp only;with_reducible exact aDF _ _ hme) | (intro _;dsimp only;with_reducible exact aDO _ _ hme) | (intro _;dsimp only;with_reducible exact aDD _ _ hri hme) | (intro _;exact⟨G4 hnn hme (d5 _ _),fB (G3 hnn hme (d5 _ _)) (by dsimp only;omega)⟩) | (intro _;exact YU n0 hme) | (intro _;exact⟨hF.w (by assumption),fB hQ (by dsimp only;omega)⟩)))
theorem aAH{t n b:Int}{x:DOS}{st:STS}{s:MS}(hb:Bnd t n s)(hx:NB t n b st x)(hst:stW t n b st)(hbb:b≤900000):TC t n x st s:=aHp (YG hb hx hst hbb)
theorem aAI{t n b:Int}{x:DOS}{st:STS}{s:MS}(hb:Bnd t n s)(hx:NB t n b st x)(hst:stW t n b st)(hbb:b≤900000):NA t n b s x (rS t n x st s):=aHj (YG hb hx hst hbb)
theorem aAt{t n b:Int}(sh kd ky lim:Int)(st:STS)(ht:1≤t):(M7 t n sh kd ky lim st).run (fun r=>NB t n b st r.1∧r.2=st∧drw r.1=false):=by
 unfold M7
 (repeat' (with_reducible first | exact trivial | rfl | assumption | refine aHg ?_ ?_ | refine Tr.run_ite (fun _=>?_) (fun _=>?_) | refine aHk ?_ | refine And.intro ?_ ?_))
 all_goals first
  | exact bZ
  | exact VC _ _
  | (intro _;decide)
  | exact qV rfl
  | (refine⟨by dsimp only;decide,fun _=>aEE n ht,?_,?_,?_,?_,?_,?_,?_,?_,fun _=>rfl,?_,?_⟩<;>(exact nE'))
structure hstW (e c:Int) (x:HST):Prop where
 he:(x.ev.length:Int)≤e
 hc:(x.cl.length:Int)≤c
 n0:0≤x.n0∧x.n0≤(x.cl.length:Int)
 n1:0≤x.n1∧x.n1≤(x.cl.length:Int)
 n2:0≤x.n2∧x.n2≤(x.cl.length:Int)
 n3:0≤x.n3∧x.n3≤(x.cl.length:Int)
 n4:0≤x.n4∧x.n4≤(x.cl.length:Int)
 n5:0≤x.n5∧x.n5≤(x.cl.length:Int)
 n6:0≤x.n6∧x.n6≤(x.cl.length:Int)
 n7:0≤x.n7∧x.n7≤(x.cl.length:Int)
theorem jD{e c e' c':Int}{x:HST}(h:hstW e c x)(h1:e≤e')(h2:c≤c'):hstW e' c' x:=⟨Int.le_trans h.he h1,Int.le_trans h.hc h2,h.n0,h.n1,h.n2,h.n3,h.n4,h.n5,h.n6,h.n7⟩
theorem mW{P:Prop}(h:P:=by first | omega | (dsimp only;omega) | (simp only [List.length_append,List.length_singleton,List.length_set,List.length_cons,List.length_nil];done) | (simp only [List.length_append,List.length_singleton,List.length_set,List.length_cons,List.length_nil];omega) | (dsimp only;simp only [List.length_append,List.length_singleton,List.length_set];omega)):P:=h
theorem aEA{e c th:Int}{x:HST}(kd ky:Int)(h:hstW e c x)(he:e≤1000000)(hc:c≤1000000)(h0:0≤th∧th<8):(hbT th x kd ky).run (fun r=>hstW (e+1) (c+1) r.2):=by
 have hh:=h;obtain⟨a,b,m0,m1,m2,m3,m4,m5,m6,m7⟩:=h;unfold hbT;refine aHv (fun q0=>?c0) (fun q0=>aHv (fun q1=>?c1) (fun q1=>aHv (fun q2=>?c2) (fun q2=>aHv (fun q3=>?c3) (fun q3=>aHv (fun q4=>?c4) (fun q4=>aHv (fun q5=>?c5) (fun q5=>aHv (fun q6=>?c6) (fun q6=>aHv (fun q7=>?c7) (fun q7=>?c8))))))))
 case' c0=>unfold HA C4 C5
 case' c1=>unfold HB C4 C5
 case' c2=>unfold HD C4 C5
 case' c3=>unfold HE C4 C5
 case' c4=>unfold HF C4 C5
 case' c5=>unfold HG C4 C5
 case' c6=>unfold HH C4 C5
 case' c7=>unfold HI C4 C5
 case c8=>
  have q0:=dM q0;have q1:=dM q1;have q2:=dM q2;have q3:=dM q3;have q4:=dM q4;have q5:=dM q5;have q6:=dM q6;have q7:=dM q7;omega
 all_goals (repeat' (with_reducible first | exact trivial | rfl | assumption | refine aHg ?_ ?_ | refine Tr.run_ite (fun _=>?_) (fun _=>?_) | refine aHk ?_ | refine And.intro ?_ ?_))
 all_goals first
  | exact bZ
  | exact jD hh (by omega) (by omega)
  | exact mW
  | (refine⟨?_,?_,?_,?_,?_,?_,?_,?_,?_,?_⟩<;>exact mW)
theorem YT{e c th:Int}{x:HST}(code:Int)(okk:Bool)(val:Int)(h:hstW e c x)(he:e≤1000000)(hc:c≤1000000)(h0:0≤th∧th<8):(heT th x code okk val).run (fun r=>hstW (e+1) (c) r.2):=by
 have hh:=h;obtain⟨a,b,m0,m1,m2,m3,m4,m5,m6,m7⟩:=h;unfold heT;refine aHv (fun q0=>?c0) (fun q0=>aHv (fun q1=>?c1) (fun q1=>aHv (fun q2=>?c2) (fun q2=>aHv (fun q3=>?c3) (fun q3=>aHv (fun q4=>?c4) (fun q4=>aHv (fun q5=>?c5) (fun q5=>aHv (fun q6=>?c6) (fun q6=>aHv (fun q7=>?c7) (fun q7=>?c8))))))))
 case' c0=>unfold HJ C6 C7 RW OZ;have hW:=cP (x:=x.n0 - 1) ⟨by omega,by omega⟩;change W (x.n0 - 1)=x.n0 - 1 at hW
 case' c1=>unfold HK C6 C7 RW OZ;have hW:=cP (x:=x.n1 - 1) ⟨by omega,by omega⟩;change W (x.n1 - 1)=x.n1 - 1 at hW
 case' c2=>unfold HL C6 C7 RW OZ;have hW:=cP (x:=x.n2 - 1) ⟨by omega,by omega⟩;change W (x.n2 - 1)=x.n2 - 1 at hW
 case' c3=>unfold HM C6 C7 RW OZ;have hW:=cP (x:=x.n3 - 1) ⟨by omega,by omega⟩;change W (x.n3 - 1)=x.n3 - 1 at hW
 case' c4=>unfold HN C6 C7 RW OZ;have hW:=cP (x:=x.n4 - 1) ⟨by omega,by omega⟩;change W (x.n4 - 1)=x.n4 - 1 at hW
 case' c5=>unfold HO C6 C7 RW OZ;have hW:=cP (x:=x.n5 - 1) ⟨by omega,by omega⟩;change W (x.n5 - 1)=x.n5 - 1 at hW
 case' c6=>unfold HP C6 C7 RW OZ;have hW:=cP (x:=x.n6 - 1) ⟨by omega,by omega⟩;change W (x.n6 - 1)=x.n6 - 1 at hW
 case' c7=>unfold HQ C6 C7 RW OZ;have hW:=cP (x:=x.n7 - 1) ⟨by omega,by omega⟩;change W (x.n7 - 1)=x.n7 - 1 at hW
 case c8=>
  have q0:=dM q0;have q1:=dM q1;have q2:=dM q2;have q3:=dM q3;have q4:=dM q4;have q5:=dM q5;have q6:=dM q6;have q7:=dM q7;omega
 all_goals (repeat' (with_reducible first | exact trivial | rfl | assumption | refine aHg ?_ ?_ | refine Tr.run_ite (fun _=>?_) (fun _=>?_) | refine aHk ?_ | refine And.intro ?_ ?_))
 all_goals first
  | exact bZ
  | exact jD hh (by omega) (by omega)
  | exact mW
  | (rw [hW];simp only [bB,Bool.not_eq_false',dT',Bool.not_eq_true',dF']at*;first | omega | exact mW)
  | (refine⟨?_,?_,?_,?_,?_,?_,?_,?_,?_,?_⟩<;>exact mW)
theorem OM{t n b c:Int}{st:STS}{x:FTS}(h:UT t n b st x)(hbc:b≤c):UT t n c st x:=⟨h.h,fun e=>⟨(h.fn e).1,fB (h.fn e).2 (by omega)⟩,h.cl,h.pr,h.ps⟩
theorem AS{t n b c:Int}{e:ENS}(hx:enI t n b e)(hbc:b≤c):enI t n c e:=by
 match e,hx with
 | ⟨0,sh,dn,x,y⟩,hx=>trivial
 | ⟨1,sh,dn,x,y⟩,hx=>exact hx
 | ⟨2,sh,dn,x,y⟩,hx=>trivial
 | ⟨3,sh,dn,x,y⟩,hx=>exact⟨⟨hx.1.1,Int.le_trans hx.1.2 hbc⟩,hx.2⟩
 | ⟨4,sh,dn,x,y⟩,hx=>exact⟨hx.1,hx.2.1,hx.2.2.1,hx.2.2.2.1,hx.2.2.2.2.1,Int.le_trans hx.2.2.2.2.2 hbc⟩
theorem LJ{t n b c:Int}{e:SWS}(hx:LI t n b e)(hbc:b≤c):LI t n c e:=by
 match e,hx with
 | ⟨0,N,m,i,ks,fs,gs,j,l⟩,hx=>trivial
 | ⟨1,N,m,i,ks,fs,gs,j,l⟩,hx=>exact⟨⟨hx.1.1,Int.le_trans hx.1.2 hbc⟩,hx.2⟩
 | ⟨2,N,m,i,ks,fs,gs,j,l⟩,hx=>exact⟨hx.1,hx.2.1,hx.2.2.1,hx.2.2.2.1,hx.2.2.2.2.1,Int.le_trans hx.2.2.2.2.2 hbc⟩
theorem O3{t n b c:Int}{st:STS}{x:HPS}(h:WA t n b st x)(hbc:b≤c):WA t n c st x:=⟨h.h,h.u,h.ex,fun e=>AS (h.en e) hbc,fun e=>⟨(h.fn e).1,fB (h.fn e).2 (by omega)⟩,h.cl,h.pr,h.ps⟩
theorem NC{t n b c:Int}{st:STS}{x:DOS}(h:NB t n b st x)(hbc:b≤c):NB t n c st x:=⟨h.h,h.hd,fun e=>O3 (h.hp e) hbc,fun e=>AS (h.en e) hbc,fun e=>OM (h.ft e) hbc,h.an,h.aw,fun e=>⟨(h.fn e).1,fB (h.fn e).2 (by omega)⟩,h.dr,fun e=>LJ (h.sw e) hbc,h.lo,h.hi,h.ri⟩
structure XY (t n b:Int) (w:WKS):Prop where
 ht:w.t=t
 hn:w.n=n
 st:stW t n b w.st
 d:w.b=true→NB t n b w.st w.d∧w.en<(w.tk.length:Int)
 e0:0≤w.en
 e1:w.en≤(w.tk.length:Int)
 tl:(w.tl.length:Int)=w.en+(bif w.b then 1 else 0)
 sl:(w.sl.length:Int)≤w.en
 tk:(w.tk.length:Int)≤100000
 sb: ∀v,v∈w.sl→0≤v∧v<w.en
structure XV (t n b:Int) (w:WK1):Prop where
 ht:w.t=t
 hn:w.n=n
 st:stW t n b w.st
 d:NB t n b w.st w.d
 e0:0≤w.en
 e1:w.en<(w.tk.length:Int)
 tl:(w.tl.length:Int)=w.en+1
 sl:(w.sl.length:Int)≤w.en
 tk:(w.tk.length:Int)≤100000
 sb: ∀v,v∈w.sl→0≤v∧v<w.en
theorem RL{t n b c:Int}{w:WKS}(h:XY t n b w)(hbc:b≤c):XY t n c w:=⟨h.ht,h.hn,iH h.st hbc,fun e=>⟨NC (h.d e).1 hbc,(h.d e).2⟩,h.e0,h.e1,h.tl,h.sl,h.tk,h.sb⟩
def tkc(w:WKS):Int:=(w.sl.length:Int)+bif w.b&&drw w.d then 1 else 0
def CU(w:WK1):Int:=(w.sl.length:Int)+bif drw w.d then 1 else 0
structure wbR (t n b:Int) (u:WKS) (v:WK1):Prop where
 w:XV t n b v
 k:CU v=tkc u
theorem RG{t n b tr:Int}{w:WKS}(h:XY t n b w)(ht:1≤t)(hb:w.b=false)(hl:w.en<(w.tk.length:Int)):(LO tr w).run (wbR t n b w):=by
 obtain⟨rfl,rfl,hst,hd,e0,e1,htl,hsl,htk,hsb⟩:=h;rw [hb]at htl;have htl:(w.tl.length:Int)=w.en+0:=htl;have hN:=fun sh kd ky lim=>aAt (t:=w.t) (n:=w.n) (b:=b) sh kd ky lim w.st ht;unfold LO w2i
 (repeat' (with_reducible first | exact trivial | rfl | assumption | refine aHg ?_ ?_ | refine Tr.run_ite (fun _=>?_) (fun _=>?_) | refine aHk ?_ | refine And.intro ?_ ?_))
 all_goals first
  | exact bZ
  | exact aHp (hN _ _ _ _)
  | (simp only [List.length_append,List.length_singleton];done)
  | (refine⟨⟨rfl,rfl,?_,?_,e0,hl,?_,hsl,htk,hsb⟩,?_⟩
     ·dsimp only;rw [show(dqNF _ _ _ _ _ _ _).2=w.st from(aHj (hN _ _ _ _)).2.1];exact hst
     ·dsimp only;rw [show(dqNF _ _ _ _ _ _ _).2=w.st from(aHj (hN _ _ _ _)).2.1];exact(aHj (hN _ _ _ _)).1
     ·dsimp only;rw [List.length_append,List.length_singleton];omega
     ·unfold tkc CU;dsimp only;rw [show drw (dqNF _ _ _ _ _ _ _).1=false from(aHj (hN _ _ _ _)).2.2,hb];rfl)
theorem aC6{t n b tr:Int}{w:WKS}(h:XY t n b w)(ht:1≤t)(hl:w.en<(w.tk.length:Int)):RH tr w:=by
 unfold RH;cases hb:w.b with
 | true=>trivial
 | false=>exact aHp (RG h ht hb hl)
theorem RI{t n b tr:Int}{w:WKS}(h:XY t n b w)(ht:1≤t)(hl:w.en<(w.tk.length:Int)):wbR t n b w (wbF tr w):=by
 unfold wbF;cases hb:w.b with
 | true=>
   obtain⟨h1,h2,h3,h4,h5,h6,h7,h8,h9,h10⟩:=h;rw [hb]at h7;refine⟨⟨h1,h2,h3,(h4 hb).1,h5,hl,h7,h8,h9,h10⟩,?_⟩;unfold tkc;rw [hb];rfl
 | false=>exact aHj (RG h ht hb hl)
structure aFl (t n b:Int) (s:MS) (u:WK1) (o:WkO):Prop where
 a:C8 t n s o.s
 w:XY t n (b+1) o.x
 k:(tkc o.x=CU u+1∧aD o.s.xs (2*n+5+2*t+3*t)=WU (aD s.xs (2*n+5+2*t+3*t)+1))∨(tkc o.x=CU u∧aD o.s.xs (2*n+5+2*t+3*t)=aD s.xs (2*n+5+2*t+3*t))
theorem wsk{t n b:Int}{s:MS}{x:DOS}{D:DqO}{L:List Int}{w:WK1}{v:WKS}(h:NA t n b s x D)(hx:w.d=x)(hl:w.sl=L)(hv:tkc v=(L.length:Int)+bif drw D.x then 1 else 0):(tkc v=CU w+1∧aD D.s.xs (2*n+5+2*t+3*t)=WU (aD s.xs (2*n+5+2*t+3*t)+1))∨(tkc v=CU w∧aD D.s.xs (2*n+5+2*t+3*t)=aD s.xs (2*n+5+2*t+3*t)):=by
 subst hx;subst hl;rcases h.k with⟨k1,k2,k3⟩ | ⟨k1,k2⟩
 ·exact .inl ⟨by unfold CU;rw [hv,k1,k2];rfl,k3⟩
 ·exact .inr ⟨by unfold CU;rw [hv,k1],k2⟩
theorem ZO{t n b:Int}{w:WK1}{s:MS}(hb:Bnd t n s)(h:XV t n b w)(hbb:b≤900000):(wsT w s).run (aFl t n b s w):=by
 obtain⟨rfl,rfl,hst,hd,e0,e1,htl,hsl,htk,hsb⟩:=h;have hD:=aAI hb hd hst hbb;have hDo:=aAH hb hd hst hbb;have hA:=hD.a;have hW:W (w.en+1)=w.en+1:=cP ⟨by omega,by omega⟩
 unfold wsT w2k w2j
 (repeat' (with_reducible first | exact trivial | rfl | assumption | refine aHg ?_ ?_ | refine Tr.run_ite (fun _=>?_) (fun _=>?_) | refine aHk ?_ | refine And.intro ?_ ?_))
 all_goals first
  | exact bZ
  | (simp only [List.length_append,List.length_singleton,List.length_set];done)
  | (refine⟨hA,⟨rfl,rfl,hD.st,?_,?_,?_,?_,?_,htk,?_⟩,?_⟩
     ·first
       | (intro e;exact Bool.noConfusion e)
       | (intro e;exact⟨hD.w (by assumption),e1⟩)
     ·first | exact e0 | (dsimp only;rw [hW];omega)
     ·first | (dsimp only;omega) | (dsimp only;rw [hW];omega)
     ·dsimp only;rw [List.length_set]
      first | (rw [hW];show _=w.en+1+0;omega) | (show _=w.en+1;omega)
     ·dsimp only
      first | (rw [hW];simp only [List.length_append,List.length_singleton];omega) | (rw [hW];omega) | omega
     ·first
       | exact hsb
       | (dsimp only;rw [hW];intro v hv;have:=hsb v hv;omega)
       | (dsimp only;rw [hW];intro v hv;rcases List.mem_append.1 hv with h | h
          ·have:=hsb v h;omega
          ·have:=List.mem_singleton.1 h;subst this;omega)
     ·refine wsk hD rfl rfl ?_;unfold tkc;dsimp only
      first
       | rfl
       | (rw [←hD.e (by assumption),show(DqO.x (rS _ _ _ _ _)).slow =_ by assumption];simp))
theorem aDd{t n b:Int}{w:WK1}{s:MS}(hb:Bnd t n s)(h:XV t n b w)(hbb:b≤900000):XZ w s:=aHp (ZO hb h hbb)
theorem RM{t n b:Int}{w:WK1}{s:MS}(hb:Bnd t n s)(h:XV t n b w)(hbb:b≤900000):aFl t n b s w (wsF w s):=aHj (ZO hb h hbb)
structure egW (t n:Int) (x:EGS):Prop where
 ht:1≤t∧t≤8
 hn:1≤n∧n≤1000
 st:x.s.t=t
 sn:x.s.n=n
 xt:x.th=t
 xn:x.nd=n
 k:0≤x.k∧x.k≤60000
 c:x.s.c=x.k
 w:WM x.s.xs
 l:(x.ws.length:Int)=t
 ws: ∀i,i<x.ws.length→XY t n x.k (aX x.ws i)
 h:hstW (2*x.k) x.k x.h
 mi:MI t n x.s.xs
 ln:(x.s.xs.length:Int)=2*n+5+2*t+3*t+1
theorem vE{ws:List WKS}{i j:Nat}{w:WKS}(hi:i<ws.length):aX (cG ws i w) j=if i=j then w else aX ws j:=by
 unfold aX cG;rw [gD',List.getElem?_set,gD']
 by_cases e:i=j
 ·subst e;rw [if_pos rfl,if_pos rfl,if_pos hi];rfl
 ·rw [if_neg e,if_neg e]
theorem n8(ws:List WKS)(i:Nat)(w:WKS):(cG ws i w).length =ws.length:=by unfold cG;exact List.length_set
theorem GB{ws:List WKS}{i:Nat}(hi:i<ws.length):cG ws i (aX ws i)=ws:=by
 unfold cG aX;apply List.ext_getElem
 ·simp
 ·intro j h1 h2;rw [List.getElem_set];split
  ·rename_i e;subst e;rw [gD',gE' hi];rfl
  ·rfl
structure WR (t n:Int) (x:EGS) (r:Bool×EGS):Prop where
 no:r.1=false→r.2=x
 yes:r.1=true→egW t n r.2∧r.2.k=x.k+1∧r.2.sh=x.sh∧r.2.tr=x.tr
 w:egW t n r.2
theorem tB{t n:Int}{x:EGS}(h:egW t n x):WR t n x (false,x):=⟨fun _=>rfl,fun e=>Bool.noConfusion e,h⟩
theorem qB{t n:Int}{x:EGS}{s:MS}{h:HST}{i:Nat}{w:WKS}(hx:egW t n x)(hk:x.k<60000)(hi:i<x.ws.length)(ha:C8 t n x.s s)(hw:XY t n (x.k+1) w)(hh:hstW (2*(x.k+1)) (x.k+1) h):
 WR t n x (true,{sh:=x.sh,th:=x.th,nd:=x.nd,tr:=x.tr,s:=s,h:=h,ws:=cG x.ws i w,k:=W (x.k+1) }):=by
 obtain⟨ht,hn,st,sn,xt,xn,k,c,wd,l,ws,hst,mi,ln⟩:=hx;have hW:W (x.k+1)=x.k+1:=cP ⟨by omega,by omega⟩
 rw [hW]
 have hr:egW t n {sh:=x.sh,th:=x.th,nd:=x.nd,tr:=x.tr,s:=s,h:=h,ws:=cG x.ws i w,k:=x.k+1} :=by
  refine⟨ht,hn,ha.th.trans st,ha.nh.trans sn,xt,xn,?_,?_,ha.w wd,?_,?_,hh,ha.m mi,by dsimp only;rw [ha.len];exact ln⟩
  ·dsimp only;omega
  ·dsimp only;rw [ha.c,c]
  ·dsimp only;rw [n8];exact l
  ·intro j hj;dsimp only at hj⊢;rw [n8]at hj;rw [vE hi];split
   ·exact hw
   ·exact RL (ws j hj) (by omega)
 exact⟨fun e=>Bool.noConfusion e,fun _=>⟨hr,rfl,rfl,rfl⟩,hr⟩
theorem Y4{t n:Int}{x:EGS}(th:Int)(hx:egW t n x):(pkT th x).run (WR t n x):=by
 have hx':=hx;obtain⟨ht,hn,st,sn,xt,xn,hk,hc,wd,hl,hws,hst,mi,ln⟩:=hx;have hB:Bnd t n x.s:=⟨⟨ht.1,by omega⟩,hn,by omega,wd,mi,ln⟩
 unfold pkT w2n w2o;refine Tr.run_ite (fun e1=>?_) (fun e1=>Tr.run_ite (fun e2=>?_) (fun e2=>?_))
 · (repeat' (with_reducible first | exact trivial | rfl | assumption | refine aHg ?_ ?_ | refine Tr.run_ite (fun _=>?_) (fun _=>?_) | refine aHk ?_ | refine And.intro ?_ ?_));exact tB hx'
 · (repeat' (with_reducible first | exact trivial | rfl | assumption | refine aHg ?_ ?_ | refine Tr.run_ite (fun _=>?_) (fun _=>?_) | refine aHk ?_ | refine And.intro ?_ ?_));exact tB hx'
 rw [bB,dF']at e1;rw [cA,dF']at e2;have hi:0+Int.toNat th*1<x.ws.length:=by omega
 have hw:=hws _ hi;have hself:=GB hi;generalize hig:0+Int.toNat th*1=i at*;refine aHg ⟨by omega,by omega⟩ (aHg hi (aHg trivial (Tr.run_ite (fun e3=>?_) (fun e3=>Tr.run_ite (fun e4=>?_) (fun e4=>?_)))))
 · (repeat' (with_reducible first | exact trivial | rfl | assumption | refine aHg ?_ ?_ | refine Tr.run_ite (fun _=>?_) (fun _=>?_) | refine aHk ?_ | refine And.intro ?_ ?_))
   all_goals first | assumption | (rw [hself];exact tB hx')
 · (repeat' (with_reducible first | exact trivial | rfl | assumption | refine aHg ?_ ?_ | refine Tr.run_ite (fun _=>?_) (fun _=>?_) | refine aHk ?_ | refine And.intro ?_ ?_))
   all_goals first | assumption | (rw [hself];exact tB hx')
 rw [cA,dF']at e4
 have hen:(aX x.ws i).en <((aX x.ws i).tk.length :Int):=by
  have h0:=hw.e0;have h1:=hw.e1;have h2:=hw.tk;have h3:=dM e3;have hW:=cP (x:=((aX x.ws i).tk.length :Int) - (aX x.ws i).en) ⟨by omega,by omega⟩
  have h4:W (((aX x.ws i).tk.length :Int) - (aX x.ws i).en)≠0:=h3;have hW:W (((aX x.ws i).tk.length :Int) - (aX x.ws i).en)=((aX x.ws i).tk.length :Int) - (aX x.ws i).en :=hW;rw [hW]at h4;omega
 have h1w:=(RI (tr:=x.tr) hw ht.1 hen).w;have h1o:=aC6 (tr:=x.tr) hw ht.1 hen;refine aHg h1o ?_;have hS:=RM hB h1w (by omega)
 have hSo:=aDd hB h1w (by omega)
 generalize wbF x.tr (aX x.ws i)=w1 at*;generalize hsg:wsF w1 x.s=o at*;have hth:0≤th∧th<8:=by omega
 refine Tr.run_ite (fun e5=>?_) (fun e5=>?_)
 ·have hH:=aEA (th:=th) (kd:=(WK1.d w1).6) (ky:=(WK1.d w1).7) hst (by omega) (by omega) hth
  have hHo:hbOk th x.h (WK1.d w1).6 (WK1.d w1).7:=aHp hH;have hHv:hstW (2*x.k+1) (x.k+1) (hbF th x.h (WK1.d w1).6 (WK1.d w1).7).2:=aHj hH;generalize hbF th x.h (WK1.d w1).6 (WK1.d w1).7=y at*;have hE:=YT (th:=th) (code:=o.1) (okk:=o.2) (val:=o.3) hHv (by omega) (by omega) hth
  have hEo:heOk th y.2 o.1 o.2 o.3:=aHp hE;have hEv:hstW (2*x.k+1+1) (x.k+1) (heF th y.2 o.1 o.2 o.3).2:=aHj hE
  (repeat' (with_reducible first | exact trivial | rfl | assumption | refine aHg ?_ ?_ | refine Tr.run_ite (fun _=>?_) (fun _=>?_) | refine aHk ?_ | refine And.intro ?_ ?_))
  all_goals first
   | assumption
   | exact qB hx' (by omega) hi hS.a hS.w (jD hEv (by omega) (by omega))
   | exact qB hx' (by omega) hi hS.a hS.w (jD hHv (by omega) (by omega))
 ·have hE:=YT (th:=th) (code:=o.1) (okk:=o.2) (val:=o.3) hst (by omega) (by omega) hth
  have hEo:heOk th x.h o.1 o.2 o.3:=aHp hE;have hEv:hstW (2*x.k+1) x.k (heF th x.h o.1 o.2 o.3).2:=aHj hE
  (repeat' (with_reducible first | exact trivial | rfl | assumption | refine aHg ?_ ?_ | refine Tr.run_ite (fun _=>?_) (fun _=>?_) | refine aHk ?_ | refine And.intro ?_ ?_))
  all_goals first
   | assumption
   | exact qB hx' (by omega) hi hS.a hS.w (jD hEv (by omega) (by omega))
   | exact qB hx' (by omega) hi hS.a hS.w (jD hst (by omega) (by omega))
theorem aCy{t n:Int}{x:EGS}(th:Int)(hx:egW t n x):WQ th x:=aHp (Y4 th hx)
theorem FP{t n:Int}{x:EGS}(th:Int)(hx:egW t n x):WR t n x (pkF th x):=aHj (Y4 th hx)
def aE8:EGS→Int→List Int→EGS×Int
 | x,c,[]=>(x,c)
 | x,c,u::us=>aE8 (pkF u x).2 (bif (pkF u x).1 then W (c+1)else c) us
def runP(x:EGS)(c:Int)(us:List Int):EGS×Int:=aE8 x c us
theorem QK(us vs:List Int): ∀(x:EGS) (c:Int),runP x c (us++vs)=runP (runP x c us).1 (runP x c us).2 vs:=by
 induction us with
 | nil=>intro x c;rfl
 | cons u us ih=>intro x c;exact ih _ _
theorem F5{t n:Int}(us:List Int): ∀(x:EGS) (c:Int),egW t n x→egW t n (runP x c us).1:=by
 induction us with
 | nil=>intro x c h;exact h
 | cons u us ih=>intro x c h;exact ih _ _ (FP u h).w
def thR(row:Nat→List AVal)(i:Nat):Int:=match row i with
 | .int _ a::_=>a
 | _=>0
def tmR(row:Nat→List AVal)(i:Nat):Int:=match row i with
 | _:: .int _ a::_=>a
 | _=>0
def bW(n:Nat)(row:Nat→List AVal):List Int:=DK (thR row) (tmR row) n 0 60000
structure rowOk (row:Nat→List AVal):Prop where
 h: ∃th tm:Nat→Int,row=fun i=>[.int .i64 (th i),.int .i64 (tm i)]
structure I9 (x:EGS):Prop where
 h: ∃t n:Int,egW t n x
abbrev H4:AVal:=.func (.func 41) [.ptr 0 0] []
abbrev pO(x:EGS)(c:Int):aC Ob:=[some (.abs (.engine x) []),some (.cells [H4]),some (.cells [.int .i64 c])]
abbrev AP(n:Nat)(row:Nat→List AVal):List AVal:=[H4,.view n 2 row,.ptr 1 0,.raw undef,.int .i64 0,.ptr 2 0,.raw undef,.view n 2 row,.O]++List.replicate 7 (.raw undef)
theorem bT.putD{w:World}{l:Nat}{d d':Option (List Deferred)}(h:w.heap[l]? =some (.deferred d)):bT w (w.putObj l (.deferred d')):=by
 have hlt:l<w.heap.size:=(Array.getElem?_eq_some_iff.1 h).1;refine⟨rfl,rfl,?_,?_⟩
 ·show w.heap.size≤(w.heap.setIfInBounds l _).size
  simp
 ·intro a _;unfold World.frozen?
  by_cases e:a.block=l
  ·rw [e,h,World.putObj_heap_same hlt]
  ·rw [World.putObj_heap_other e]
theorem QN{α:Type}{l:List α}{i:Nat}{z:α}(h:l[i]? =some z):l.set i z=l:=by
 apply List.ext_getElem?;intro j
 by_cases e:i=j
 ·subst e;have hlt:=(List.getElem?_eq_some_iff.1 h).1;rw [List.getElem?_set_self hlt,h]
 ·rw [List.getElem?_set_ne e]
theorem K9{V V':Val}{m:Nat}{us:List AVal}{vs:List Value}(h:aG V us vs)(hw:aHf (upto 0 m) us=true)(hv: ∀l y,l<m→V l=some y→V' l=some y):aG V' us vs:=by
 have h1:aG (fun i=>if i<m then V i else none) us vs:=aHy (pl:=upto 0 m) (fun i hi=>by
  have:=(iJ m 0 i).1 hi;show V i=if i<m then V i else none
  rw [if_pos (by omega)]) _ _ hw h
 refine aG.mono ?_ _ _ h1;intro i y e;have e:(if i<m then V i else none)=some y:=e
 by_cases hi:i<m
 ·rw [if_pos hi]at e;exact hv i y hi e
 ·rw [if_neg hi]at e;cases e
theorem NF:YK=.seq (jL mM) (.seq (jL (jM mM)) (jL (jL (jM (jM mM))))):=rfl
abbrev aAS(n:Nat)(th tm:Nat→Int):List AVal:=[H4,.view n 2 (fun i=>[.int .i64 (th i),.int .i64 (tm i)]),.ptr 1 0,.raw undef,.int .i64 0,.ptr 2 0,.raw undef,.view n 2 (fun i=>[.int .i64 (th i),.int .i64 (tm i)]),.func (.func 114) [] [.ptr 3 0]]++List.replicate 7 (.raw undef)
structure NH (x:EGS) (n:Nat) (th tm:Nat→Int) (t:List AVal) (h:aC Ob):Prop where
 ht:t=aAS n th tm
 hh:h=pO x 0++ [some (.cells [WS n th tm])]
theorem NG(x:EGS)(n:Nat)(th tm:Nat→Int):GZ x n (fun i=>[.int .i64 (th i),.int .i64 (tm i)]) (NH x n th tm):=by
 unfold GZ;exact⟨rfl,rfl⟩
theorem NI(x:EGS)(n:Nat)(row:Nat→List AVal)(c u:Int)(hx:WQ u x):Ev (cI EU9 (mN EU9 LL 9) 16 (DY qW) (List.set (AP n row) 9 (.int .i64 u)) (pO x c) (fun tm1 h1=>cI EU9 (mN EU9 LL 9) 16 (DZ qW) tm1 h1 (fun _ h2=>aF (obI tbl) 3 (.bool true) h2 (.bool true) (pO (pkF u x).2 (bif (pkF u x).1 then W (c+1)else c))))):=by
 refine JE x n row c u (fun h2=>aF (obI tbl) 3 (.bool true) h2 (.bool true) (pO (pkF u x).2 (bif (pkF u x).1 then W (c+1)else c))) ?_;unfold OC;refine⟨hx,?_⟩;cases (pkF u x).1 with
 | true=>exact aHr _ _ _
 | false=>exact aHr _ _ _
structure NL (x:EGS) (c:Int) (t:List AVal) (h:aC Ob):Prop where
 ht:t.getD 4 .O =.int .i64 c
 hl:t.length=16
 hh:h=pO x c
theorem NK(x:EGS)(n:Nat)(row:Nat→List AVal)(c:Int):Ev (cI EU9 (mN EU9 LL 9) 16 NJ (AP n row) (pO x c) (NL x c)):=by
 refine JF x n row c (NL x c) ?_;unfold OE;exact⟨rfl,rfl,rfl⟩
theorem I8:Tryz.f85.body=some (.seq (jL mM) (.seq (jL (jM mM)) (.seq (.seq (jL (jL (jM (jM mM)))) (.block 0 (.rangeFunc (.tmp 8) #[9] (DY qW) (DZ qW)))) (.seq NJ .ret)))):=rfl
def eachS:aI Ob:=fun args h=>match args,h with
 | [.func (.func g) [.ptr 0 0] [],.view n 2 row],[some (.abs (.engine x) [])]=>cond (Nat.beq g 41) (some (.pre (I9 x∧n≤4294967296∧rowOk row) (.ret (.int .i64 (runP x 0 (bW n row)).2) [some (.abs (.engine (runP x 0 (bW n row)).1) [])]))) none
 | _,_=>none
theorem TU:sT' 85 eachS:=by
 intro args h o ho K hK;unfold eachS at ho;split at ho
 case h_2=>cases ho
 rename_i g n row x;cases hg:Nat.beq g 41 with
 | false=>rw [hg]at ho;cases ho
 | true=>
 have hg:=Nat.eq_of_beq_eq_true hg;subst hg;simp only [Nat.beq_refl,cond_true,sI']at ho;subst ho;obtain⟨⟨⟨t,m,hx⟩,hn,⟨th,tm,rfl⟩⟩,hK⟩:=hK;obtain⟨xs,hxs⟩: ∃xs,xs=DK th tm n 0 60000:=⟨_,rfl⟩;have hpl:bW n (fun i=>[.int .i64 (th i),.int .i64 (tm i)])=xs:=by rw [hxs];rfl
 rw [hpl]at hK;have hK:K (.int .i64 (runP x 0 xs).2) [some (.abs (.engine (runP x 0 xs).1) [])]:=hK;intro V hR w args' hi hf hr;obtain⟨a0,l0,e0,r0,a1,l1,e1,r1,e2⟩:=hr;have e2:l1=[]:=e2;subst e2;have hargs:args'= #[a0,a1]:=by apply Array.ext';rw [e0,e1]
 subst hargs;have hinl:=mO (E:=EU9) Tryz.checked.mixed LL 9;refine callsIn_wide.1 (callsIn_of_wp_marks (F:=Fence.wide) (n:=0) Tryz.func85 I8 trivial ?_)
 have ht0:aG V ([H4,.view n 2 (fun i=>[.int .i64 (th i),.int .i64 (tm i)])]++List.replicate 14 (.raw undef)) (#[a0,a1]++Array.replicate (Tryz.f85.ntmps - (#[a0,a1]:Array Value).size) undef).toList :=
  ⟨_,_,rfl,r0,_,_,rfl,r1,_,_,rfl,rfl,_,_,rfl,rfl,_,_,rfl,rfl,_,_,rfl,rfl,_,_,rfl,rfl,_,_,rfl,rfl,_,_,rfl,rfl,_,_,rfl,rfl,_,_,rfl,rfl,_,_,rfl,rfl,_,_,rfl,rfl,_,_,rfl,rfl,_,_,rfl,rfl,_,_,rfl,rfl,rfl⟩
 refine LS hinl (ro:=none) (ds:=[]) NF (JD x n (fun i=>[.int .i64 (th i),.int .i64 (tm i)]) (NH x n th tm) (NG x n th tm)) hi hf ht0 rfl ?_;rintro q3 w3 ⟨tm3,V3,g3,⟨e3,e4⟩,y2,y3,y4,y5,y6,y7,y8⟩;subst e3;subst e4;refine wpIn_block ?_;have hcl:=fM y2 (.tmp 8);obtain⟨fs,cs,c1,c2,c3⟩: ∃fs cs,q3.eval (.tmp 8)=.func (.func 114) fs cs∧aG V3 [] fs.toList∧aG V3 [.ptr 3 0] cs.toList:=hcl;obtain⟨v0,vs,c4,⟨blk,k,c5,rfl⟩,c6⟩:=c3;have c6:vs=[]:=c6;subst c6;have c2:fs= #[]:=by apply Array.ext';exact c2
 have c4:cs= #[.pointer (some ⟨blk,0,none⟩)]:=by apply Array.ext';rw [c4]
 subst c2;subst c4
 have htT:aG V3 (AP n (fun i=>[.int .i64 (th i),.int .i64 (tm i)])) q3.tmps.toList:=by
  have hlen:=aG.length y2;obtain⟨z,hz,_⟩:=aG.get y2 8 _ rfl;have:=aG.set y2 8 .O z trivial;rw [QN hz]at this;exact this
 refine(FV (E:=EU9) hinl (fA:=114) (view:=WS n th tm) (xs:=xs) (by rw [hxs];exact L9 th tm hn) (nt:=16) (m:=3) (tm:=AP n (fun i=>[.int .i64 (th i),.int .i64 (tm i)])) (S:=fun j=>pO (runP x 0 (xs.take j)).1 (runP x 0 (xs.take j)).2) (fun j=>rfl) rfl rfl ?_ y6 y4 c5 htT rfl y8 c1 (by kernel_rfl) ?_)
 ·intro j u hu;have hw:=F5 (xs.take j) x 0 hx
  have htk:xs.take (j+1)=xs.take j++ [u]:=by
   rw [List.take_succ,hu];rfl
  have:=NI (runP x 0 (xs.take j)).1 n (fun i=>[.int .i64 (th i),.int .i64 (tm i)]) (runP x 0 (xs.take j)).2 u (aCy u hw);rw [htk,QK];exact this
 ·intro w4 D V4 hv4 hf4 hRD hDw hI4 hg4;rw [List.take_length]at hI4;have htT4:aG V4 (AP n (fun i=>[.int .i64 (th i),.int .i64 (tm i)])) q3.tmps.toList:=K9 htT rfl hv4;refine LR hinl (ro:=none) (ds:=[{target:=.collected D,args:= #[] }]) (NK (runP x 0 xs).1 n (fun i=>[.int .i64 (th i),.int .i64 (tm i)]) (runP x 0 xs).2) hI4 hf4 htT4 rfl ?_;rintro q5 w5 ⟨tm5,V5,g5,⟨p1,p2,p3⟩,p4,p5,p6,p7,p8,p9,p10⟩;subst p3;refine wpIn_ret ?_;show LeavesInM Fence.wide 0 Tryz.prog Tryz.f85 q5.tmps _ q5.defers .returning w5;rw [p10]
  have hD5:w5.heap[D]? =some (.deferred (some [])):=by
   obtain⟨_,_,_,_,_,_,s6,_⟩:=p8;exact s6 D _ (if_pos rfl)
  refine⟨by simp,.inl ⟨D,_,rfl,run_takeDeferred hD5,?_⟩⟩
  refine⟨_,results_tmp rfl _ _ _,?_⟩
  have conD:Con.con D=none:=by
   cases e:Con.con D with
   | none=>rfl
   | some o=>
     obtain⟨_,_,_,_,_,_,_,s7⟩:=hi;rw [s7 D o e]at hRD;cases hRD
  obtain⟨V6,t1,t2,t3,t4,t5⟩:=aF.pick (I:=obI tbl) (n:=1) (v:=.bool true) (g:=pO (runP x 0 xs).1 (runP x 0 xs).2) [0] (by kernel_rfl) V5 _ w5 (.bool true) p8 p6 (by show 1≤3;decide) rfl
  have htr:fQ [0] (pO (runP x 0 xs).1 (runP x 0 xs).2)=[some (.abs (.engine (runP x 0 xs).1) [])]:=by kernel_rfl
  rw [htr]at t2 t3 t5
  have hvle:V.le V6:=by
   intro i z e
   by_cases h0:i<1
   ·refine t1 i z h0 (p5 _ _ (hv4 i z (by omega) (y3 _ _ e)))
   ·rw [hf i (by show 1≤i;omega)]at e;cases e
  have hres:q5.tmps.getD 4 undef=.int .i64 (runP x 0 xs).2:=by
   have hlt:4<tm5.length:=by rw [p2];decide
   have h4:tm5[4]? =some (.int .i64 (runP x 0 xs).2):=by
    rw [gE' hlt];rw [gD',gE' hlt]at p1;exact congrArg some p1
   obtain⟨z,z1,z2⟩:=aG.get p4 4 _ h4;have z2:z=.int .i64 (runP x 0 xs).2:=z2;subst z2;rw [Array.getElem?_toList]at z1;rw [Array.getD_eq_getD_getElem?,z1];rfl
  refine⟨.int .i64 (runP x 0 xs).2,_,V6,_,hK,rfl,hres,hvle,t2,Nat.le_refl _,?_,(y7.trans hg4).trans (p9.trans (bT.putD hD5))⟩;refine Inv.shrink (hX:=fun b=>if b=D then some (.deferred none)else hR b) (Inv.put (o:=.deferred (some [])) t5 (if_pos rfl) (if_pos rfl) ?_ conD) ?_ ?_
  ·intro b hb;show(if b=D then _ else _)=(if b=D then _ else _)
   rw [if_neg hb,if_neg hb]
  ·intro b o e;show(if b=D then _ else _)=_
   rw [if_neg (fun e2=>by subst e2;rw [hRD]at e;cases e)]
   exact e
  ·obtain⟨_,_,_,_,_,_,_,s7⟩:=hi;exact s7
def CC(x:EGS)(i:Nat):WK1:=wbF x.tr (aX x.ws i)
def pkO(x:EGS)(i:Nat):WkO:=wsF (CC x i) x.s
def PQ(th:Int)(x:EGS)(i:Nat):HST:=bif (aX x.ws i).b then x.h else(hbF th x.h (CC x i).d.kd (CC x i).d.ky).2
def pkH(th:Int)(x:EGS)(i:Nat):HST:=bif (pkO x i).d then(heF th (PQ th x i) (pkO x i).code (pkO x i).okk (pkO x i).val).2 else PQ th x i
def aCv(th:Int)(x:EGS)(i:Nat):EGS:= {sh:=x.sh,th:=x.th,nd:=x.nd,tr:=x.tr,s:=(pkO x i).s,h:=pkH th x i,ws:=cG x.ws i (pkO x i).x,k:=W (x.k+1) }
structure Y3 (t n:Int) (th:Int) (x:EGS):Prop where
 h0:0≤th∧th<t
 hi:th.toNat<x.ws.length
 hk:x.k<60000
 he:(aX x.ws th.toNat).en <((aX x.ws th.toNat).tk.length :Int)
 hv:pkF th x=(true,aCv th x th.toNat)
theorem PR{t n:Int}{x:EGS}(th:Int)(hx:egW t n x):pkF th x=(false,x)∨Y3 t n th x:=by
 cases hb:(pkF th x).1 with
 | false=>left;exact Prod.ext hb ((FP th hx).no hb)
 | true=>
   right
   have e0:pkF th x=bif ilt th 0 then(false,x)else bif ile (x.ws.length:Int) th then(false,x)else bif ieq (W (((aX x.ws (0+Int.toNat th*1)).tk.length :Int) - (aX x.ws (0+Int.toNat th*1)).en)) 0 then(false,{sh:=x.sh,th:=x.th,nd:=x.nd,tr:=x.tr,s:=x.s,h:=x.h,ws:=cG x.ws (0+Int.toNat th*1) (aX x.ws (0+Int.toNat th*1)),k:=x.k})else bif ile 60000 x.k then(false,{sh:=x.sh,th:=x.th,nd:=x.nd,tr:=x.tr,s:=x.s,h:=x.h,ws:=cG x.ws (0+Int.toNat th*1) (aX x.ws (0+Int.toNat th*1)),k:=x.k})else
    bif !(aX x.ws (0+Int.toNat th*1)).b then
     (bif (pkO x (0+Int.toNat th*1)).d then(true,{sh:=x.sh,th:=x.th,nd:=x.nd,tr:=x.tr,s:=(pkO x (0+Int.toNat th*1)).s,h:=(heF th (hbF th x.h (CC x (0+Int.toNat th*1)).d.kd (CC x (0+Int.toNat th*1)).d.ky).2 (pkO x (0+Int.toNat th*1)).code (pkO x (0+Int.toNat th*1)).okk (pkO x (0+Int.toNat th*1)).val).2,ws:=cG x.ws (0+Int.toNat th*1) (pkO x (0+Int.toNat th*1)).x,k:=W (x.k+1) })
       else(true,{sh:=x.sh,th:=x.th,nd:=x.nd,tr:=x.tr,s:=(pkO x (0+Int.toNat th*1)).s,h:=(hbF th x.h (CC x (0+Int.toNat th*1)).d.kd (CC x (0+Int.toNat th*1)).d.ky).2,ws:=cG x.ws (0+Int.toNat th*1) (pkO x (0+Int.toNat th*1)).x,k:=W (x.k+1) }))
    else(bif (pkO x (0+Int.toNat th*1)).d then(true,{sh:=x.sh,th:=x.th,nd:=x.nd,tr:=x.tr,s:=(pkO x (0+Int.toNat th*1)).s,h:=(heF th x.h (pkO x (0+Int.toNat th*1)).code (pkO x (0+Int.toNat th*1)).okk (pkO x (0+Int.toNat th*1)).val).2,ws:=cG x.ws (0+Int.toNat th*1) (pkO x (0+Int.toNat th*1)).x,k:=W (x.k+1) })
     else(true,{sh:=x.sh,th:=x.th,nd:=x.nd,tr:=x.tr,s:=(pkO x (0+Int.toNat th*1)).s,h:=x.h,ws:=cG x.ws (0+Int.toNat th*1) (pkO x (0+Int.toNat th*1)).x,k:=W (x.k+1) })):=rfl
   rw [Nat.zero_add,Nat.mul_one]at e0;cases c1:ilt th 0 with
   | true=>rw [e0,c1]at hb;exact Bool.noConfusion hb
   | false=>
   cases c2:ile (x.ws.length:Int) th with
   | true=>rw [e0,c1,c2]at hb;exact Bool.noConfusion hb
   | false=>
   cases c3:ieq (W (((aX x.ws th.toNat).tk.length :Int) - (aX x.ws th.toNat).en)) 0 with
   | true=>rw [e0,c1,c2,c3]at hb;exact Bool.noConfusion hb
   | false=>
   cases c4:ile 60000 x.k with
   | true=>rw [e0,c1,c2,c3,c4]at hb;exact Bool.noConfusion hb
   | false=>
   rw [c1,c2,c3,c4]at e0;have c2':=c2;have c1':=c1;rw [cA,dF']at c2;rw [bB,dF']at c1;rw [cA,dF']at c4;have hl:=hx.l;have hi:th.toNat<x.ws.length:=by omega
   have hw:=hx.ws _ hi;refine⟨⟨by omega,by omega⟩,hi,by omega,?_,?_⟩
   ·have h0:=hw.e0;have h1:=hw.e1;have h2:=hw.tk;have h3:=dM c3;have hW:=cP (x:=((aX x.ws th.toNat).tk.length :Int) - (aX x.ws th.toNat).en) ⟨by omega,by omega⟩
    have h4:W (((aX x.ws th.toNat).tk.length :Int) - (aX x.ws th.toNat).en)≠0:=h3;have hW:W (((aX x.ws th.toNat).tk.length :Int) - (aX x.ws th.toNat).en)=((aX x.ws th.toNat).tk.length :Int) - (aX x.ws th.toNat).en :=hW;rw [hW]at h4;omega
   ·rw [e0];unfold aCv pkH PQ;cases (aX x.ws th.toNat).b <;>cases (pkO x th.toNat).d <;>rfl
theorem th8{th:Int}(h:0≤th∧th<8):th=0∨th=1∨th=2∨th=3∨th=4∨th=5∨th=6∨th=7:=by omega
noncomputable def EUa:=EU9.addS 85 eachS TU
def ZH(x:EGS)(n:Nat)(row:Nat→List AVal)(K:AVal→aC Ob→Prop):Prop:=(I9 x∧n≤(4294967296:Nat)∧rowOk row)∧K (.int .i64 (runP x 0 (bW n row)).2) [some (.abs (.engine (runP x 0 (bW n row)).1) [])]
theorem LF(x:EGS)(n:Nat)(row:Nat→List AVal)(K:AVal→aC Ob→Prop)(h:ZH x n row K):cT' 27 [.ptr 0 0,.view n 2 row] [some (.abs (.engine x) [])] (kS 1 K):=by
 exact cM' (E:=EUa) (by kernel_rfl) h
def runS:aI Ob:=fun args h=>match args,h with
 | [.ptr 0 0,.view n 2 row],[some (.abs (.engine x) [])]=>some (.pre (I9 x∧n≤4294967296∧rowOk row) (.ret (.int .i64 (runP x 0 (bW n row)).2) [some (.abs (.engine (runP x 0 (bW n row)).1) [])]))
 | _,_=>none
theorem F6:sT' 27 runS:=by
 intro args h o ho K hK;unfold runS at ho;split at ho<;>cases ho
 rename_i n row x;obtain⟨hp,hK⟩:=hK;have hK:K (.int .i64 (runP x 0 (bW n row)).2) [some (.abs (.engine (runP x 0 (bW n row)).1) [])]:=hK;exact aHa (LF x n row K ⟨hp,hK⟩)
noncomputable def EUb:=EUa.addS 27 runS F6
theorem iB{a b:Int}(h:ilt a b=true):a<b:=by rw [bB]at h;exact of_decide_eq_true h
theorem gD{a b:Int}(h:ilt a b=false): ¬a<b:=by rw [bB]at h;exact of_decide_eq_false h
noncomputable def EUc:=EUb
abbrev B9(m:Nat)(ln:Nat→Nat)(f g:Nat→Nat→Int):AVal:=.view m 1 (fun i=>[.view (ln i) 2 (fun j=>[.I (f i j),.I (g i j)])])
structure er1 (m:Nat) (ln:Nat→Nat) (x:Nat):Prop where
 hi:x≤m
 hl: ∀j,j<x→ln j≤40
structure er2 (sh:Int) (m:Nat) (ln:Nat→Nat) (f g:Nat→Nat→Int) (x:Nat):Prop where
 hi:x≤m
 hl: ∀j,j<x→d6 sh (ln j) (f j) (g j)=true
structure er3 (sh:Int) (m:Nat) (ln:Nat→Nat) (f g:Nat→Nat→Int) (i0:Int) (x:Nat×Nat):Prop where
 hi:x.1<m
 h0:(x.1:Int)=i0
 hk:x.2≤ln x.1
 hl: ∀j,j<x.1→d6 sh (ln j) (f j) (g j)=true
 hr: ∀j,j<x.2→bS sh (f x.1 j) (g x.1 j)=true
def RZ(sh th nd tr:Int)(m:Nat)(ln:Nat→Nat)(f g:Nat→Nat→Int):Hint Ob:= {X:=Nat,st:=fun x=>([.I sh,.I th,.I nd,.I tr,B9 m ln f g,.O,.O,.O,.O,.O,.O,.I (x:Int)]++List.replicate 71 .O,[]),ok:=er1 m ln,mu:=fun x=>m - x,keep:=[0,1,2,3,4,11] }
def R0(sh th nd tr:Int)(m:Nat)(ln:Nat→Nat)(f g:Nat→Nat→Int):Hint Ob:= {X:=Nat,st:=fun x=>([.I sh,.O,.O,.O,B9 m ln f g,.O,.O,.O,.O,.O,.O,.O,.I (x:Int)]++List.replicate 70 .O,[]),ok:=er2 sh m ln f g,mu:=fun x=>m - x,keep:=[0,4,12] }
def R6(sh th nd tr:Int)(m:Nat)(ln:Nat→Nat)(f g:Nat→Nat→Int)(i0:Int):Hint Ob:= {X:=Nat×Nat,st:=fun x=>([.I sh,.O,.O,.O,B9 m ln f g,.O,.O,.O,.O,.O,.O,.O,.I (x.1:Int),.I (x.2:Int)]++List.replicate 69 .O,[]),ok:=er3 sh m ln f g i0,mu:=fun x=>ln x.1 - x.2,keep:=[0,4,12,13] }
def LER(sh th nd tr:Int)(m:Nat)(ln:Nat→Nat)(f g:Nat→Nat→Int):FuncId→Nat→Option (sN Ob):=fun _ k=>match k with
 | 8=>some (.states (RZ sh th nd tr m ln f g))
 | 13=>some (.states (R0 sh th nd tr m ln f g))
 | 16=>some (.statesAt 12 (R6 sh th nd tr m ln f g))
 | _=>none
def T6(sh th nd tr:Int)(m:Nat)(ln:Nat→Nat)(f g:Nat→Nat→Int)(K:AVal→aC Ob→Prop):Prop:=bif ilt sh 1 then K (.I 1) []else bif ilt 4 sh then K (.I 1) []else bif ilt th 1 then K (.I 2) []else bif ilt 8 th then K (.I 2) []else bif ilt nd 1 then K (.I 2) []else bif ilt 200 nd then K (.I 2) []else bif ilt tr 0 then K (.I 2) []else bif ilt 50 tr then K (.I 2) []else bif ilt th (↑m:Int)then K (.I 6) []else okSt (RZ sh th nd tr m ln f g) (Hint.ok (RZ sh th nd tr m ln f g)) (.I sh::.I th::.I nd::.I tr::(.view m 1 fun i=>[.view (ln i) 2 fun j=>[.I (f i j),.I (g i j)]])::.O::.O::.O::.O::.O::.O::.I 0::(tO' 71 [])) []∧ ∀(x:Nat),er1 m ln x→bif ilt (↑x:Int) (↑m:Int)then((0:Int)≤(↑x:Int)∧(↑x:Int)<(↑m:Int))∧bif ilt 40 (↑(ln (Int.toNat (↑x:Int))):Int)then K (.I 6) []else okSt (RZ sh th nd tr m ln f g) (fun x'=>Hint.ok (RZ sh th nd tr m ln f g) x'∧Hint.mu (RZ sh th nd tr m ln f g) x'<Hint.mu (RZ sh th nd tr m ln f g) x) (.I sh::.I th::.I nd::.I tr::(.view m 1 fun i=>[.view (ln i) 2 fun j=>[.I (f i j),.I (g i j)]])::.O::.O::.O::.O::.O::.O::.I (W ((↑x:Int)+1))::(tO' 71 [])) []else okSt (R0 sh th nd tr m ln f g) (Hint.ok (R0 sh th nd tr m ln f g)) (.I sh::.O::.O::.O::(.view m 1 fun i=>[.view (ln i) 2 fun j=>[.I (f i j),.I (g i j)]])::.O::.O::.O::.O::.O::.O::.O::.I 0::(tO' 70 [])) []∧ ∀(x:Nat),er2 sh m ln f g x→bif ilt (↑x:Int) (↑m:Int)then okSt (R6 sh th nd tr m ln f g (↑x:Int)) (Hint.ok (R6 sh th nd tr m ln f g (↑x:Int))) (.I sh::.O::.O::.O::(.view m 1 fun i=>[.view (ln i) 2 fun j=>[.I (f i j),.I (g i j)]])::.O::.O::.O::.O::.O::.O::.O::.I (↑x:Int)::.I 0::(tO' 69 [])) []∧ ∀(x_1:(Nat×Nat)),er3 sh m ln f g (↑x:Int) x_1→((0:Int)≤(↑x_1.1:Int)∧(↑x_1.1:Int)<(↑m:Int))∧bif ilt (↑x_1.2:Int) (↑(ln (Int.toNat (↑x_1.1:Int))):Int)then((0:Int)≤(↑x_1.1:Int)∧(↑x_1.1:Int)<(↑m:Int))∧((0:Int)≤(↑x_1.2:Int)∧(↑x_1.2:Int)<(↑(ln (Int.toNat (↑x_1.1:Int))):Int))∧True∧bif !bS sh (f (Int.toNat (↑x_1.1:Int)) (Int.toNat (↑x_1.2:Int))) (g (Int.toNat (↑x_1.1:Int)) (Int.toNat (↑x_1.2:Int)))then K (.I 1) []else okSt (R6 sh th nd tr m ln f g (↑x:Int)) (fun x'=>Hint.ok (R6 sh th nd tr m ln f g (↑x:Int)) x'∧Hint.mu (R6 sh th nd tr m ln f g (↑x:Int)) x'<Hint.mu (R6 sh th nd tr m ln f g (↑x:Int)) x_1) (.I sh::.O::.O::.O::(.view m 1 fun i=>[.view (ln i) 2 fun j=>[.I (f i j),.I (g i j)]])::.O::.O::.O::.O::.O::.O::.O::.I (↑x_1.1:Int)::.I (W ((↑x_1.2:Int)+1))::(tO' 69 [])) []else okSt (R0 sh th nd tr m ln f g) (fun x'=>Hint.ok (R0 sh th nd tr m ln f g) x'∧Hint.mu (R0 sh th nd tr m ln f g) x'<Hint.mu (R0 sh th nd tr m ln f g) x) (.I sh::.O::.O::.O::(.view m 1 fun i=>[.view (ln i) 2 fun j=>[.I (f i j),.I (g i j)]])::.O::.O::.O::.O::.O::.O::.O::.I (W ((↑x_1.1:Int)+1))::(tO' 70 [])) []else K (.I 0) []
set_option maxRecDepth 100000 in
theorem OA(sh th nd tr:Int)(m:Nat)(ln:Nat→Nat)(f g:Nat→Nat→Int)(K:AVal→aC Ob→Prop)(h:T6 sh th nd tr m ln f g K):cT' 78 [.I sh,.I th,.I nd,.I tr,B9 m ln f g] [] (kS 0 K):=by
 exact aE (E:=EUc) Tryz.checked.mixed (L:=LER sh th nd tr m ln f g) (n:=10) (aJ (by kernel_rfl) h)
theorem OP{sh th nd tr:Int}{m:Nat}{ln:Nat→Nat}{f g:Nat→Nat→Int}(h:gnC sh th nd tr m ln f g=0):wrE sh th nd tr=0:=by
 unfold gnC at h;cases h1:ieq (wrE sh th nd tr) 0 with
 | true=>exact BW h1
 | false=>rw [h1]at h;exact h
theorem OQ{sh th nd tr:Int}{m:Nat}{ln:Nat→Nat}{f g:Nat→Nat→Int}(h:gnC sh th nd tr m ln f g=0):lgB th m ln=false:=by
 have h0:=OP h;unfold gnC at h;rw [h0]at h;cases e:lgB th m ln with
 | false=>rfl
 | true=>rw [e]at h;exact absurd (show(6:Int)=0 from h) (by decide)
theorem aBF{sh th nd tr:Int}{m:Nat}{ln:Nat→Nat}{f g:Nat→Nat→Int}(h:gnC sh th nd tr m ln f g=0){i:Nat}(hi:i<m):ln i≤40:=by
 have h1:=OQ h;unfold lgB at h1;rw [Bool.or_eq_false_iff]at h1;have h2:=List.any_eq_false.1 h1.1 i (List.mem_range.2 hi)
 simpa using h2
theorem KQ(k:Nat):WM (List.replicate k 0):=by
 refine⟨fun x hx=>?_⟩;rw [List.eq_of_mem_replicate hx];exact⟨by decide,by decide⟩
theorem XW{sh th nd tr:Int}{m:Nat}{ln:Nat→Nat}{f g:Nat→Nat→Int}(h:gnC sh th nd tr m ln f g=0){j:Nat}(hj:(j:Int)<th)(hth:th≤8)(hnd:1≤nd):XY th nd 0 (d7 sh th nd m ln f g j):=by
 have hl:((bif ilt (j:Int) (m:Int)then ofR sh (ln j) (f j) (g j)else []).length :Int)≤40:=by
  cases e:ilt (j:Int) (m:Int)with
  | false=>exact(by decide:((0:Nat):Int)≤40)
  | true=>
    rw [bB,dT']at e;have h1:=aBF h (i:=j) (by omega)
    show((ofR sh (ln j) (f j) (g j)).length :Int)≤40;unfold ofR;cases d6 sh (ln j) (f j) (g j)with
    | false=>exact(by decide:((0:Nat):Int)≤40)
    | true=>show((kC sh (ln j) (f j) (g j)).length :Int)≤40;rw [l4];omega
 unfold d7;generalize (bif ilt (j:Int) (m:Int)then ofR sh (ln j) (f j) (g j)else [])=tk at hl⊢;exact⟨rfl,rfl,⟨⟨by show(0:Int)≤(j:Int);omega,hj⟩,⟨(by decide:(0:Int)≤0),by show(0:Int)≤nd;omega⟩,rF,(by decide:((0:Nat):Int)≤0)⟩,fun e=>Bool.noConfusion e,(by decide:(0:Int)≤0),by show(0:Int)≤(tk.length:Int);omega,rfl,(by decide:((0:Nat):Int)≤0),by show(tk.length:Int)≤100000;omega,fun v hv=>nomatch hv⟩
theorem uS(k:Nat)(a:Int):aD (List.replicate k 0) a=0:=by
 unfold aD;split
 ·rename_i h;rw [gD',List.getElem?_replicate];split<;>rfl
 ·rfl
theorem PF(t n:Int)(hn:1≤n)(k:Nat):MI t n (List.replicate k 0):=by
 have e:=uS k;exact⟨fun a _=>by rw [e,pI];omega,fun u _ _=>by rw [e];exact⟨by rw [pI];omega,by rw [pI];omega⟩⟩
theorem GU{sh th nd tr:Int}{m:Nat}{ln:Nat→Nat}{f g:Nat→Nat→Int}(h:gnC sh th nd tr m ln f g=0):egW th nd (cW sh th nd tr m ln f g):=by
 have h0:=OP h;obtain⟨_,_,⟨t0,t1,n0,n1⟩,_⟩:=ZN (by rw [cV,h0];rfl)
 refine⟨⟨t0,t1⟩,⟨n0,by omega⟩,rfl,rfl,rfl,rfl,⟨(by decide:(0:Int)≤0),(by decide:(0:Int)≤60000)⟩,rfl,KQ _,?_,?_,?_,PF _ _ n0 _,?_⟩
 ·show(((List.range th.toNat).map _).length :Int)=th;rw [List.length_map,List.length_range];omega
 ·intro i hi;have hi:i<((List.range th.toNat).map (d7 sh th nd m ln f g)).length :=hi;rw [List.length_map,List.length_range]at hi
  have e:aX (cW sh th nd tr m ln f g).ws i=d7 sh th nd m ln f g i:=by
   show aX ((List.range th.toNat).map (d7 sh th nd m ln f g)) i=_;unfold aX;rw [gD',List.getElem?_map,List.getElem?_range hi];rfl
  rw [e];exact XW h (by omega) t1 n0
 ·refine⟨(by decide:((0:Nat):Int)≤2*0),(by decide:((0:Nat):Int)≤0),?_,?_,?_,?_,?_,?_,?_,?_⟩<;>exact⟨(by decide:(0:Int)≤0),(by decide:(0:Int)≤((0:Nat):Int))⟩
 ·show((List.replicate _ (0:Int)).length :Int)=_;rw [List.length_replicate];omega
theorem kJ{sh th nd tr:Int}{m:Nat}{ln:Nat→Nat}{f g:Nat→Nat→Int}{c:Int}(h:wrE sh th nd tr=c)(h0:ieq c 0=false):gnC sh th nd tr m ln f g=c:=by
 unfold gnC;rw [h,h0];rfl
theorem YP{sh th nd tr:Int}{m:Nat}{ln:Nat→Nat}{f g:Nat→Nat→Int}(h:wrE sh th nd tr=0)(hl:lgB th m ln=true):gnC sh th nd tr m ln f g=6:=by
 unfold gnC;rw [h,hl];rfl
theorem aEk{sh th nd tr:Int}{m:Nat}{ln:Nat→Nat}{f g:Nat→Nat→Int}(h:wrE sh th nd tr=0)(hl:lgB th m ln=false)(ha: ∃i k,i<m∧k<ln i∧bS sh (f i k) (g i k)=false):gnC sh th nd tr m ln f g=1:=by
 have:((List.range m).all fun j=>d6 sh (ln j) (f j) (g j))=false:=by
  obtain⟨i,k,hi,hk,hr⟩:=ha;rw [List.all_eq_false];refine⟨i,List.mem_range.2 hi,?_⟩;intro e;rw [nX.1 e k hk]at hr;cases hr
 unfold gnC;rw [h,hl,this];rfl
theorem aBG{sh th nd tr:Int}{m:Nat}{ln:Nat→Nat}{f g:Nat→Nat→Int}(h:wrE sh th nd tr=0)(hl:lgB th m ln=false)(ha: ∀i,i<m→d6 sh (ln i) (f i) (g i)=true):gnC sh th nd tr m ln f g=0:=by
 have:((List.range m).all fun j=>d6 sh (ln j) (f j) (g j))=true:=by
  rw [List.all_eq_true];intro i hi;exact ha i (List.mem_range.1 hi)
 unfold gnC;rw [h,hl,this];rfl
theorem qD{t n:Int}(h:t<1∨8<t∨n<1∨200<n):d0 t n=false:=by
 cases e:d0 t n with
 | false=>rfl
 | true=>have:=sJ.1 e;omega
theorem HX{a b:Int}(h:a<b):ilt a b=true:=by rw [bB];exact decide_eq_true h
theorem sH{a b:Int}(h: ¬a<b):ilt a b=false:=by rw [bB];exact decide_eq_false h
theorem W1{i:Nat}{m:Nat}(hi:i<m)(hm:m≤1000000):W ((i:Int)+1)=((i+1:Nat):Int):=by
 have:=cP (x:=(i:Int)+1) ⟨by omega,by omega⟩
 exact this.trans (by omega)
set_option maxRecDepth 10000 in
theorem aEa(sh th nd tr:Int)(m:Nat)(ln:Nat→Nat)(f g:Nat→Nat→Int)(K:AVal→aC Ob→Prop)(hm:m≤1000000)(hK:K (.I (gnC sh th nd tr m ln f g)) []):T6 sh th nd tr m ln f g K:=by
 have key: ∀c,gnC sh th nd tr m ln f g=c→K (.I c) []:=fun c e=>by rw [←e];exact hK
 have w1:(sh<1∨4<sh)→wrE sh th nd tr=1:=by
  intro h;unfold wrE
  by_cases h1:sh<1
  ·rw [HX h1];rfl
  ·rw [sH h1,HX (show 4<sh by omega)];rfl
 have w2: ¬(sh<1∨4<sh)→(d0 th nd=false∨tr<0∨50<tr)→wrE sh th nd tr=2:=by
  intro h h2;unfold wrE;rw [sH (show¬sh<1 by omega),sH (show¬4<sh by omega)]
  cases e:d0 th nd with
  | false=>rfl
  | true=>
    rw [e]at h2
    by_cases h3:tr<0
    ·rw [HX h3];rfl
    ·rw [sH h3,HX (show 50<tr by rcases h2 with h2 | h2 | h2<;>first | (exact Bool.noConfusion h2) | omega)];rfl
 unfold T6;refine bI (fun e1=>key 1 (kJ (w1 (.inl (iB e1))) rfl)) (fun e1=>?_);refine bI (fun e2=>key 1 (kJ (w1 (.inr (iB e2))) rfl)) (fun e2=>?_);have e1:=gD e1;have e2:=gD e2;have hs: ¬(sh<1∨4<sh):=by omega
 refine bI (fun e3=>key 2 (kJ (w2 hs (.inl (qD (.inl (iB e3))))) rfl)) (fun e3=>?_);refine bI (fun e4=>key 2 (kJ (w2 hs (.inl (qD (.inr (.inl (iB e4)))))) rfl)) (fun e4=>?_);refine bI (fun e5=>key 2 (kJ (w2 hs (.inl (qD (.inr (.inr (.inl (iB e5))))))) rfl)) (fun e5=>?_);refine bI (fun e6=>key 2 (kJ (w2 hs (.inl (qD (.inr (.inr (.inr (iB e6))))))) rfl)) (fun e6=>?_);refine bI (fun e7=>key 2 (kJ (w2 hs (.inr (.inl (iB e7)))) rfl)) (fun e7=>?_);refine bI (fun e8=>key 2 (kJ (w2 hs (.inr (.inr (iB e8)))) rfl)) (fun e8=>?_);have e3:=gD e3;have e4:=gD e4;have e5:=gD e5;have e6:=gD e6;have e7:=gD e7;have e8:=gD e8;have hr:d0 th nd=true:=sJ.2 ⟨by omega,by omega,by omega,by omega⟩
 have hw:wrE sh th nd tr=0:=by
  unfold wrE;rw [sH e1,sH e2,hr,sH e7,sH e8];rfl
 refine bI (fun e9=>key 6 (YP hw (HZ (.inr (iB e9))))) (fun e9=>?_);have e9:=gD e9;refine⟨bC (H:=RZ sh th nd tr m ln f g) (0:Nat) rfl ⟨Nat.zero_le _,fun j hj=>absurd hj (Nat.not_lt_zero _)⟩,?_⟩;rintro x ⟨hx,hxl⟩;refine bI (fun a1=>?_) (fun a1=>?_)
 ·have a1:=iB a1;have hxm:x<m:=by omega
  rw [Int.toNat_natCast];refine⟨⟨by omega,by omega⟩,bI (fun a2=>key 6 (YP hw (HZ (.inl ⟨x,hxm,by have:=iB a2;omega⟩)))) (fun a2=>?_)⟩
  have a2:=gD a2;rw [W1 hxm hm];refine bC (H:=RZ sh th nd tr m ln f g) (x+1:Nat) rfl ⟨⟨hxm,fun j hj=>?_⟩,by show m - (x+1)<m - x;omega⟩
  by_cases e:j=x
  ·subst e;omega
  ·exact hxl j (by omega)
 ·have a1:=gD a1;have hxm:x=m:=by omega
  subst hxm;have hlg:lgB th x ln=false:=PC.2 ⟨hxl,by omega⟩
  refine⟨bC (H:=R0 sh th nd tr x ln f g) (0:Nat) rfl ⟨Nat.zero_le _,fun j hj=>absurd hj (Nat.not_lt_zero _)⟩,?_⟩;rintro i ⟨hi,hil⟩;refine bI (fun b1=>?_) (fun b1=>?_)
  ·have b1:=iB b1;have him:i<x:=by omega
   refine⟨bC (H:=R6 sh th nd tr x ln f g (i:Int)) (i,(0:Nat)) rfl ⟨him,rfl,Nat.zero_le _,hil,fun j hj=>absurd hj (Nat.not_lt_zero _)⟩,?_⟩;rintro⟨i2,k⟩ ⟨ci,c0,ck,cl,cr⟩;dsimp only at ci c0 ck cl cr⊢;have c0:i2=i:=by omega
   subst c0;rw [Int.toNat_natCast,Int.toNat_natCast];have hln:=hxl i2 ci;refine⟨⟨by omega,by omega⟩,bI (fun d1=>?_) (fun d1=>?_)⟩
   ·have d1:=iB d1;refine⟨⟨by omega,by omega⟩,⟨by omega,by omega⟩,trivial,bI (fun d2=>key 1 (aEk hw hlg ⟨i2,k,ci,by omega,by simpa using d2⟩)) (fun d2=>?_)⟩
    rw [W1 (show k<ln i2 by omega) (by omega)]
    refine bC (H:=R6 sh th nd tr x ln f g (i2:Int)) (i2,(k+1:Nat)) rfl ⟨⟨ci,rfl,by dsimp only;omega,cl,fun j hj=>?_⟩,by show ln i2 - (k+1)<ln i2 - k;omega⟩
    dsimp only at hj⊢
    by_cases e:j=k
    ·subst e;simpa using d2
    ·exact cr j (by omega)
   ·have d1:=gD d1;rw [W1 ci hm];refine bC (H:=R0 sh th nd tr x ln f g) (i2+1:Nat) rfl ⟨⟨ci,fun j hj=>?_⟩,by show x - (i2+1)<x - i2;omega⟩
    by_cases e:j=i2
    ·subst e;exact nX.2 (fun q hq=>cr q (by omega))
    ·exact cl j (by omega)
  ·have b1:=gD b1;have him:i=x:=by omega
   subst him;exact key 0 (aBG hw hlg hil)
def erS:aI Ob:=fun args h=>match args,h with
 | [.int .i64 sh,.int .i64 th,.int .i64 nd,.int .i64 tr,.view m 1 vr],[]=>some (.pre (m≤1000000∧iO vr) (.ret (.I (gnC sh th nd tr m (vL vr) (vK vr) (vY vr))) []))
 | _,_=>none
theorem aD9:sT' 78 erS:=by
 intro args h o ho K hK;unfold erS at ho;split at ho<;>cases ho
 rename_i sh th nd tr m vr;obtain⟨⟨hm,⟨hr⟩⟩,hK⟩:=hK;rw [hr];exact aHa (OA sh th nd tr m (vL vr) (vK vr) (vY vr) K (aEa sh th nd tr m (vL vr) (vK vr) (vY vr) K hm hK))
noncomputable def EUd:=EUc.addS 78 erS aD9
def aCJ:bE Ob:=fun args h=>match args,h with
 | [.ptr 0 0,.int .i64 th],[some (.abs (.engine x) [])]=>some (True,.I (gE th x))
 | _,_=>none
theorem W8:sT' 33 aCJ.spec:=by
 intro args h o ho K hK;unfold bE.spec at ho;split at ho
 case h_2=>cases ho
 rename_i hv;unfold aCJ at hv;split at hv
 case h_2=>cases hv
 simp only [sI',pI']at hv;obtain⟨rfl,rfl⟩:=hv;simp only [sI']at ho;subst ho;exact QE _ _ _ rfl K hK
def aA9:bE Ob:=fun args h=>match args,h with
 | [.ptr 0 0],[some (.abs (.engine x) [])]=>some (True,.I x.k)
 | _,_=>none
theorem T7:sT' 34 aA9.spec:=by
 intro args h o ho K hK;unfold bE.spec at ho;split at ho
 case h_2=>cases ho
 rename_i hv;unfold aA9 at hv;split at hv
 case h_2=>cases hv
 simp only [sI',pI']at hv;obtain⟨rfl,rfl⟩:=hv;simp only [sI']at ho;subst ho;exact OB _ _ _ rfl K hK
def aAX:bE Ob:=fun args h=>match args,h with
 | [.ptr 0 0],[some (.abs (.engine x) [])]=>some (True,.agg [.I x.s.t,.I x.s.n])
 | _,_=>none
theorem TY:sT' 38 aAX.spec:=by
 intro args h o ho K hK;unfold bE.spec at ho;split at ho
 case h_2=>cases ho
 rename_i hv;unfold aAX at hv;split at hv
 case h_2=>cases hv
 simp only [sI',pI']at hv;obtain⟨rfl,rfl⟩:=hv;simp only [sI']at ho;subst ho;exact NV _ _ _ rfl K hK
def aA8:bE Ob:=fun args h=>match args,h with
 | [.ptr 0 0,.int .i64 a],[some (.abs (.engine x) [])]=>some (True,.int .u64 (aD x.s.xs a))
 | _,_=>none
theorem T5:sT' 37 aA8.spec:=by
 intro args h o ho K hK;unfold bE.spec at ho;split at ho
 case h_2=>cases ho
 rename_i hv;unfold aA8 at hv;split at hv
 case h_2=>cases hv
 simp only [sI',pI']at hv;obtain⟨rfl,rfl⟩:=hv;simp only [sI']at ho;subst ho;exact NZ _ _ _ rfl K hK
def aCL:dA Ob:=fun args h=>match args,h with
 | [.ptr 0 0,.int .i64 th],[some (.abs (.engine x) [])]=>some (wJ x,.slice 1 0 (b9 th x).length 1,[.ints (some .i64) (b9 th x)])
 | _,_=>none
theorem XC:sT' 35 aCL.spec:=by
 intro args h o ho K hK;unfold dA.spec at ho;split at ho
 case h_2=>cases ho
 rename_i hv;unfold aCL at hv;split at hv
 case h_2=>cases hv
 simp only [sI',pI']at hv;obtain⟨rfl,rfl,rfl⟩:=hv;simp only [sI']at ho;subst ho;exact QJ _ _ _ rfl K hK
def aAV:dA Ob:=fun args h=>match args,h with
 | [.ptr 0 0],[some (.abs (.engine x) [])]=>some (x.h.ev.length≤4294967296∧x.h.cl.length≤4294967296,.ptr 1 0,[.abs (.hist x.h) []])
 | _,_=>none
theorem TV:sT' 28 aAV.spec:=by
 intro args h o ho K hK;unfold dA.spec at ho;split at ho
 case h_2=>cases ho
 rename_i hv;unfold aAV at hv;split at hv
 case h_2=>cases hv
 simp only [sI',pI']at hv;obtain⟨rfl,rfl,rfl⟩:=hv;simp only [sI']at ho;subst ho;exact NP _ _ _ rfl K hK
def aAW:dA Ob:=fun args h=>match args,h with
 | [.ptr 0 0],[some (.abs (.engine x) [])]=>some (0≤x.s.n∧x.s.n≤100000,.slice 1 0 (fY x).length 1,[.ints (some .i64) (fY x)])
 | _,_=>none
theorem TW:sT' 55 aAW.spec:=by
 intro args h o ho K hK;unfold dA.spec at ho;split at ho
 case h_2=>cases ho
 rename_i hv;unfold aAW at hv;split at hv
 case h_2=>cases hv
 simp only [sI',pI']at hv;obtain⟨rfl,rfl,rfl⟩:=hv;simp only [sI']at ho;subst ho;exact NR _ _ _ rfl K hK
noncomputable def EUe0:=((((((((((EUd.addR 33 aCJ W8).addR 34 aA9 T7).addR 38 aAX TY).addR 37 aA8 T5))).addN 35 aCL XC)).addN 28 aAV TV).addN 55 aAW TW)
theorem FM(t:TypeId)(l off:Nat)(h:aC Ob)(v:AVal)(q:Option Prop)(hk:(uN tbl Tryz.prog t l off h).map (·,none)=some (v,q))(_:onp q)(V:Val)(hR:PHeap)(w:World)(b k:Nat)(hi:Inv (obI tbl) V (toF h) hR w)(hV:V l=some (b,k)): ∃v',(Instr.loadAt t (.pointer (some ⟨b,off,none⟩))).run Tryz.prog w=.ok v' w∧Rep V v v':=by
 cases e:uN tbl Tryz.prog t l off h with
 | none=>rw [e]at hk;cases hk
 | some x=>rw [e]at hk;cases hk;exact KM t l off h _ e V hR w b k hi hV
noncomputable def EUe:n9 Ob Tryz.prog:= {EUe0 with fld:=fun t l off h=>(uN tbl Tryz.prog t l off h).map (·,none),fldOk:=FM}
theorem NM{t n:Int}{x:EGS}(h:egW t n x):wJ x:=by
 have hk:=h.k;refine⟨by have:=h.l;have:=h.ht;omega,fun i hi=>?_,fun i hi=>?_,fun i hi=>?_⟩
 ·have h1:=(h.ws i hi).tl;have:=(h.ws i hi).e1;have:=(h.ws i hi).tk;cases hb:(aX x.ws i).b with
  | true=>
    rw [hb]at h1;have h1:((aX x.ws i).tl.length :Int)=(aX x.ws i).en +1:=h1;omega
  | false=>
    rw [hb]at h1;have h1:((aX x.ws i).tl.length :Int)=(aX x.ws i).en +0:=h1;omega
 ·have:=(h.ws i hi).sl;have:=(h.ws i hi).e1;have:=(h.ws i hi).tk;omega
 ·have:=(h.ws i hi).st.ln;omega
theorem AQ{t n:Int}{x:EGS}(h:egW t n x):x.h.ev.length≤4294967296∧x.h.cl.length≤4294967296:=by
 have:=h.h.he;have:=h.h.hc;have hk:=h.k;exact⟨by omega,by omega⟩
end Go.Sh
