import Derived.Test.YteindpciaceeeaaGreatZSh30
set_option linter.all false
set_option maxHeartbeats 8000000
namespace Go.Sh
open Go Go.Proofs
variable [Con]
abbrev w4v(x:HST):Option (aH Ob):=cE' [.tslice 1 0 x.ev.length 7,.tslice 2 0 x.cl.length 9,.I x.n0,.I x.n1,.I x.n2,.I x.n3,.I x.n4,.I x.n5,.I x.n6,.I x.n7]
abbrev w4w(x:HST):Option (aH Ob):=some (.abs (.hist x) [])
theorem aFz(x:HST):aF (obI tbl) 1 (.tslice 3 0 x.ev.length 7) [w4v x,some (.tab cK7 x.ev),some (.tab cK9 x.cl),some (.tab cK7 x.ev)] (.tslice 1 0 x.ev.length 7) [w4w x,some (.tab cK7 x.ev)]:=by
 exact((aF.move 1 (of_decide_eq_true rfl)).trans ((aF.move 2 (of_decide_eq_true rfl)).trans ((aGQ (v2:=.tslice 3 0 x.ev.length 7) (g2:=aM [w4w x,none,none,some (.tab cK7 x.ev)] 0 0 (pP x) []) (by kernel_rfl) (by kernel_rfl)).trans ((aF.pack [w4w x,none,none,some (.tab cK7 x.ev)] (.hist x) 0 0 (pP x) [] rfl rfl rfl (by kernel_rfl)).trans (aF.pick [0,3] rfl)))))
abbrev w4x(x:HST):Option (aH Ob):=cE' [.tslice 1 0 x.1.length 7,.tslice 2 0 x.2.length 9,.I x.3,.I x.4,.I x.5,.I x.6,.I x.7,.I x.8,.I x.9,.I x.10]
def aEe(x:HST)(K:AVal→aC Ob→Prop):Prop:= ∀(b:Bool),(b=true→x.1.length=0)→bif b then K (.raw (Value.slice none 0 0)) [w4x x,some (.tab cK7 x.1),some (.tab cK9 x.2)]else(0+x.1.length≤x.1.length∧x.1.length≤(4294967296:Nat))∧K (.tslice 3 0 x.1.length 7) [w4x x,some (.tab cK7 x.1),some (.tab cK9 x.2),some (.tab cK7 (List.take x.1.length (List.drop 0 x.1)))]
theorem OI(x:HST)(K:AVal→aC Ob→Prop)(h:aEe x K):cT' 29 [.ptr 0 0] [cE' [.tslice 1 0 x.ev.length 7,.tslice 2 0 x.cl.length 9,.I x.n0,.I x.n1,.I x.n2,.I x.n3,.I x.n4,.I x.n5,.I x.n6,.I x.n7],some (.tab cK7 x.ev),some (.tab cK9 x.cl)] (kJ 1 K):=by
 exact cM' (E:=EU6) (by kernel_rfl) h
def hvS:aI Ob:=fun args h=>match args,h with
 | [.ptr 0 0],[some (.abs (.hist x) [])]=>some (.pre (x.ev.length≤4294967296) (.ret (.tslice 1 0 x.ev.length 7) [some (.abs (.hist x) []),some (.tab cK7 x.ev)]))
 | _,_=>none
theorem aEf:sT' 29 hvS:=by
 intro args h o ho K hK;unfold hvS at ho;split at ho<;>cases ho
 rename_i x;obtain⟨hl,hK⟩:=hK;have hK:K (.tslice 1 0 x.ev.length 7) [some (.abs (.hist x) []),some (.tab cK7 x.ev)]:=hK;refine aGZ ?_;refine aGU (h2:=[cE' [.tslice 1 0 x.ev.length 7,.tslice 2 0 x.cl.length 9,.I x.n0,.I x.n1,.I x.n2,.I x.n3,.I x.n4,.I x.n5,.I x.n6,.I x.n7],some (.tab cK7 x.ev),some (.tab cK9 x.cl)]) (aS.unpack (.hist x) 0 0 (pP x) [] rfl rfl rfl rfl) ?_;have ht:=aFz x;refine aB.keep (OI x _ ?_);intro b hb;refine aL (fun e=>?_) (fun e=>?_)
 ·have he:x.ev=[]:=List.length_eq_zero_iff.1 (hb e);rw [he]at ht hK;rw [he];exact⟨⟨_,_,(aHa (cs:=[(.slot 0,.tab cK7)]) rfl).trans ht,hK⟩⟩
 ·have he:List.take x.ev.length (List.drop 0 x.ev)=x.ev:=by simp
  rw [he];exact⟨⟨by omega,hl⟩,⟨⟨_,_,ht,hK⟩⟩⟩
theorem aFu(x:HST):aF (obI tbl) 1 (.tslice 3 0 x.cl.length 9) [w4v x,some (.tab cK7 x.ev),some (.tab cK9 x.cl),some (.tab cK9 x.cl)] (.tslice 1 0 x.cl.length 9) [w4w x,some (.tab cK9 x.cl)]:=by
 exact((aF.move 1 (of_decide_eq_true rfl)).trans ((aF.move 2 (of_decide_eq_true rfl)).trans ((aGQ (v2:=.tslice 3 0 x.cl.length 9) (g2:=aM [w4w x,none,none,some (.tab cK9 x.cl)] 0 0 (pP x) []) (by kernel_rfl) (by kernel_rfl)).trans ((aF.pack [w4w x,none,none,some (.tab cK9 x.cl)] (.hist x) 0 0 (pP x) [] rfl rfl rfl (by kernel_rfl)).trans (aF.pick [0,3] rfl)))))
def aD3(x:HST)(K:AVal→aC Ob→Prop):Prop:= ∀(b:Bool),(b=true→x.2.length=0)→bif b then K (.raw (Value.slice none 0 0)) [w4x x,some (.tab cK7 x.1),some (.tab cK9 x.2)]else(0+x.2.length≤x.2.length∧x.2.length≤(4294967296:Nat))∧K (.tslice 3 0 x.2.length 9) [w4x x,some (.tab cK7 x.1),some (.tab cK9 x.2),some (.tab cK9 (List.take x.2.length (List.drop 0 x.2)))]
theorem NZ(x:HST)(K:AVal→aC Ob→Prop)(h:aD3 x K):cT' 49 [.ptr 0 0] [cE' [.tslice 1 0 x.ev.length 7,.tslice 2 0 x.cl.length 9,.I x.n0,.I x.n1,.I x.n2,.I x.n3,.I x.n4,.I x.n5,.I x.n6,.I x.n7],some (.tab cK7 x.ev),some (.tab cK9 x.cl)] (kJ 1 K):=by
 exact cM' (E:=EU6) (by kernel_rfl) h
def hcS:aI Ob:=fun args h=>match args,h with
 | [.ptr 0 0],[some (.abs (.hist x) [])]=>some (.pre (x.cl.length≤4294967296) (.ret (.tslice 1 0 x.cl.length 9) [some (.abs (.hist x) []),some (.tab cK9 x.cl)]))
 | _,_=>none
theorem aD4:sT' 49 hcS:=by
 intro args h o ho K hK;unfold hcS at ho;split at ho<;>cases ho
 rename_i x;obtain⟨hl,hK⟩:=hK;have hK:K (.tslice 1 0 x.cl.length 9) [some (.abs (.hist x) []),some (.tab cK9 x.cl)]:=hK;refine aGZ ?_;refine aGU (h2:=[cE' [.tslice 1 0 x.ev.length 7,.tslice 2 0 x.cl.length 9,.I x.n0,.I x.n1,.I x.n2,.I x.n3,.I x.n4,.I x.n5,.I x.n6,.I x.n7],some (.tab cK7 x.ev),some (.tab cK9 x.cl)]) (aS.unpack (.hist x) 0 0 (pP x) [] rfl rfl rfl rfl) ?_;have ht:=aFu x;refine aB.keep (NZ x _ ?_);intro b hb;refine aL (fun e=>?_) (fun e=>?_)
 ·have he:x.cl=[]:=List.length_eq_zero_iff.1 (hb e);rw [he]at ht hK;rw [he];exact⟨⟨_,_,(aHa (cs:=[(.slot 0,.tab cK9)]) rfl).trans ht,hK⟩⟩
 ·have he:List.take x.cl.length (List.drop 0 x.cl)=x.cl:=by simp
  rw [he];exact⟨⟨by omega,hl⟩,⟨⟨_,_,ht,hK⟩⟩⟩
def X6(x:HST)(K:AVal→aC Ob→Prop):Prop:= ∀(b:Bool),(b=true→x.1.length=0)→bif b then K (.raw (Value.slice none 0 0)) [w4x x,some (.tab cK7 x.1),some (.tab cK9 x.2)]else(0+x.1.length≤x.1.length∧x.1.length≤(4294967296:Nat))∧K (.tslice 3 0 x.1.length 7) [w4x x,some (.tab cK7 x.1),some (.tab cK9 x.2),some (.tab cK7 (List.take x.1.length (List.drop 0 x.1)))]
theorem JV(x:HST)(K:AVal→aC Ob→Prop)(h:X6 x K):cT' 29 [.ptr 0 0] [cE' [.tslice 1 0 x.ev.length 7,.tslice 2 0 x.cl.length 9,.I x.n0,.I x.n1,.I x.n2,.I x.n3,.I x.n4,.I x.n5,.I x.n6,.I x.n7],some (.tab cK7 x.ev),some (.tab cK9 x.cl)] (kJ 3 K):=by
 exact cM' (E:=EU6) (by kernel_rfl) h
def hvoS:aI Ob:=fun args h=>match args,h with
 | [.ptr 0 0],[some (.cells [.tslice 1 0 a 7,.tslice 2 0 b 9,.int .i64 n0,.int .i64 n1,.int .i64 n2,.int .i64 n3,.int .i64 n4,.int .i64 n5,.int .i64 n6,.int .i64 n7]),some (.tab [some .i64,none,some .i64,some .i64,some .i64,none,some .i64] ev),some (.tab [some .i64,some .i64,some .i64,some .i64,some .i64,some .i64,some .i64,none,some .i64] cl)]=>some (.pre ((a=ev.length∧b=cl.length)∧ev.length≤4294967296) (.ret (.tslice 3 0 ev.length 7) ([cE' [.tslice 1 0 a 7,.tslice 2 0 b 9,.I n0,.I n1,.I n2,.I n3,.I n4,.I n5,.I n6,.I n7],some (.tab cK7 ev),some (.tab cK9 cl)]++ [some (.tab cK7 ev)])))
 | _,_=>none
theorem aBD:sT' 29 hvoS:=by
 intro args h o ho K hK;unfold hvoS at ho;split at ho<;>cases ho
 rename_i a b n0 n1 n2 n3 n4 n5 n6 n7 ev cl;obtain⟨⟨⟨rfl,rfl⟩,hl⟩,hK⟩:=hK;have hK:K (.tslice 3 0 ev.length 7) ([cE' [.tslice 1 0 ev.length 7,.tslice 2 0 cl.length 9,.I n0,.I n1,.I n2,.I n3,.I n4,.I n5,.I n6,.I n7],some (.tab cK7 ev),some (.tab cK9 cl)]++ [some (.tab cK7 ev)]):=hK;refine aGZ (aB.keep (JV ⟨ev,cl,n0,n1,n2,n3,n4,n5,n6,n7⟩ _ ?_));intro b hb;refine aL (fun e=>?_) (fun e=>?_)
 ·have he:ev=[]:=List.length_eq_zero_iff.1 (hb e);subst he;exact⟨⟨_,_,(aHa (cs:=[(.slot 0,.tab cK7)]) rfl),hK⟩⟩
 ·have he:List.take ev.length (List.drop 0 ev)=ev:=by simp
  rw [he];exact⟨⟨by omega,hl⟩,⟨⟨_,_,aHa (cs:=[]) rfl,hK⟩⟩⟩
def X0(x:HST)(K:AVal→aC Ob→Prop):Prop:= ∀(b:Bool),(b=true→x.2.length=0)→bif b then K (.raw (Value.slice none 0 0)) [w4x x,some (.tab cK7 x.1),some (.tab cK9 x.2)]else(0+x.2.length≤x.2.length∧x.2.length≤(4294967296:Nat))∧K (.tslice 3 0 x.2.length 9) [w4x x,some (.tab cK7 x.1),some (.tab cK9 x.2),some (.tab cK9 (List.take x.2.length (List.drop 0 x.2)))]
theorem JI(x:HST)(K:AVal→aC Ob→Prop)(h:X0 x K):cT' 49 [.ptr 0 0] [cE' [.tslice 1 0 x.ev.length 7,.tslice 2 0 x.cl.length 9,.I x.n0,.I x.n1,.I x.n2,.I x.n3,.I x.n4,.I x.n5,.I x.n6,.I x.n7],some (.tab cK7 x.ev),some (.tab cK9 x.cl)] (kJ 3 K):=by
 exact cM' (E:=EU6) (by kernel_rfl) h
def hcoS:aI Ob:=fun args h=>match args,h with
 | [.ptr 0 0],[some (.cells [.tslice 1 0 a 7,.tslice 2 0 b 9,.int .i64 n0,.int .i64 n1,.int .i64 n2,.int .i64 n3,.int .i64 n4,.int .i64 n5,.int .i64 n6,.int .i64 n7]),some (.tab [some .i64,none,some .i64,some .i64,some .i64,none,some .i64] ev),some (.tab [some .i64,some .i64,some .i64,some .i64,some .i64,some .i64,some .i64,none,some .i64] cl)]=>some (.pre ((a=ev.length∧b=cl.length)∧cl.length≤4294967296) (.ret (.tslice 3 0 cl.length 9) ([cE' [.tslice 1 0 a 7,.tslice 2 0 b 9,.I n0,.I n1,.I n2,.I n3,.I n4,.I n5,.I n6,.I n7],some (.tab cK7 ev),some (.tab cK9 cl)]++ [some (.tab cK9 cl)])))
 | _,_=>none
theorem aBe:sT' 49 hcoS:=by
 intro args h o ho K hK;unfold hcoS at ho;split at ho<;>cases ho
 rename_i a b n0 n1 n2 n3 n4 n5 n6 n7 ev cl;obtain⟨⟨⟨rfl,rfl⟩,hl⟩,hK⟩:=hK;have hK:K (.tslice 3 0 cl.length 9) ([cE' [.tslice 1 0 ev.length 7,.tslice 2 0 cl.length 9,.I n0,.I n1,.I n2,.I n3,.I n4,.I n5,.I n6,.I n7],some (.tab cK7 ev),some (.tab cK9 cl)]++ [some (.tab cK9 cl)]):=hK;refine aGZ (aB.keep (JI ⟨ev,cl,n0,n1,n2,n3,n4,n5,n6,n7⟩ _ ?_));intro b hb;refine aL (fun e=>?_) (fun e=>?_)
 ·have he:cl=[]:=List.length_eq_zero_iff.1 (hb e);subst he;exact⟨⟨_,_,(aHa (cs:=[(.slot 0,.tab cK9)]) rfl),hK⟩⟩
 ·have he:List.take cl.length (List.drop 0 cl)=cl:=by simp
  rw [he];exact⟨⟨by omega,hl⟩,⟨⟨_,_,aHa (cs:=[]) rfl,hK⟩⟩⟩
def hvN:dG Ob:=fun args h=>match args,h with
 | [.ptr 0 0],[some (.abs (.hist x) [])]=>some (x.ev.length≤4294967296,.tslice 1 0 x.ev.length 7,[.tab cK7 x.ev])
 | _,_=>none
theorem aBB:sT' 29 hvN.spec:=by
 intro args h o ho K hK;refine aEf args h o ?_ K hK;rw [←ho];unfold hvS dG.spec hvN;split<;>rfl
def aBC:dG Ob:=fun args h=>match args,h with
 | [.ptr 0 0],[some (.cells [.tslice 1 0 a 7,.tslice 2 0 b 9,.int .i64 n0,.int .i64 n1,.int .i64 n2,.int .i64 n3,.int .i64 n4,.int .i64 n5,.int .i64 n6,.int .i64 n7]),some (.tab [some .i64,none,some .i64,some .i64,some .i64,none,some .i64] ev),some (.tab [some .i64,some .i64,some .i64,some .i64,some .i64,some .i64,some .i64,none,some .i64] cl)]=>some ((a=ev.length∧b=cl.length)∧ev.length≤4294967296,.tslice 3 0 ev.length 7,[.tab cK7 ev])
 | _,_=>none
theorem VI:sT' 29 aBC.spec:=by
 intro args h o ho K hK;refine aBD args h o ?_ K hK;rw [←ho];unfold hvoS dG.spec aBC;split<;>rfl
def hcN:dG Ob:=fun args h=>match args,h with
 | [.ptr 0 0],[some (.abs (.hist x) [])]=>some (x.cl.length≤4294967296,.tslice 1 0 x.cl.length 9,[.tab cK9 x.cl])
 | _,_=>none
theorem aBc:sT' 49 hcN.spec:=by
 intro args h o ho K hK;refine aD4 args h o ?_ K hK;rw [←ho];unfold hcS dG.spec hcN;split<;>rfl
def aBd:dG Ob:=fun args h=>match args,h with
 | [.ptr 0 0],[some (.cells [.tslice 1 0 a 7,.tslice 2 0 b 9,.int .i64 n0,.int .i64 n1,.int .i64 n2,.int .i64 n3,.int .i64 n4,.int .i64 n5,.int .i64 n6,.int .i64 n7]),some (.tab [some .i64,none,some .i64,some .i64,some .i64,none,some .i64] ev),some (.tab [some .i64,some .i64,some .i64,some .i64,some .i64,some .i64,some .i64,none,some .i64] cl)]=>some ((a=ev.length∧b=cl.length)∧cl.length≤4294967296,.tslice 3 0 cl.length 9,[.tab cK9 cl])
 | _,_=>none
theorem UQ:sT' 49 aBd.spec:=by
 intro args h o ho K hK;refine aBe args h o ?_ K hK;rw [←ho];unfold hcoS dG.spec aBd;split<;>rfl
noncomputable def EU7:=(EU6.addN 29 (dG.or hvN aBC) (aHM aBB VI)).addN 49 (dG.or hcN aBd) (aHM aBc UQ)
abbrev w4y(x:HST):Option (aH Ob):=cE' [.tslice 4 0 x.ev.length 7,.tslice 5 0 x.cl.length 9,.I x.n0,.I x.n1,.I x.n2,.I x.n3,.I x.n4,.I x.n5,.I x.n6,.I x.n7]
abbrev w4z(x:HST):Option (aH Ob):=some (.abs (.hist x) [])
theorem aD5(x:HST):aF (obI tbl) 1 (.ptr 3 0) [cE' [.tslice 1 0 x.ev.length 7,.tslice 2 0 x.cl.length 9,.I x.n0,.I x.n1,.I x.n2,.I x.n3,.I x.n4,.I x.n5,.I x.n6,.I x.n7],some (.tab cK7 x.ev),some (.tab cK9 x.cl),w4y x,some (.tab cK7 x.ev),some (.tab cK9 x.cl)] (.ptr 1 0) [w4z x,w4z x]:=by
 exact((aF.move 1 (of_decide_eq_true rfl)).trans ((aF.move 2 (of_decide_eq_true rfl)).trans ((aGQ (v2:=.ptr 3 0) (g2:=aM [w4z x,none,none,w4y x,some (.tab cK7 x.ev),some (.tab cK9 x.cl)] 0 0 (pP x) []) (by kernel_rfl) (by kernel_rfl)).trans ((aF.pack [w4z x,none,none,w4y x,some (.tab cK7 x.ev),some (.tab cK9 x.cl)] (.hist x) 0 0 (pP x) [] rfl rfl rfl (by kernel_rfl)).trans ((aF.move 4 (of_decide_eq_true rfl)).trans ((aF.move 5 (of_decide_eq_true rfl)).trans ((aGQ (v2:=.ptr 3 0) (g2:=aM [w4z x,none,none,w4z x,none,none] 3 0 (pP x) []) (by kernel_rfl) (by kernel_rfl)).trans ((aF.pack [w4z x,none,none,w4z x,none,none] (.hist x) 3 0 (pP x) [] rfl rfl rfl (by kernel_rfl)).trans (aF.pick [0,3] rfl)))))))))
def X1(x:HST)(K:AVal→aC Ob→Prop):Prop:=((lE' x.1∧lE' x.2)∧x.1.length≤(4294967296:Nat))∧((lE' x.1∧lE' x.2)∧x.2.length≤(4294967296:Nat))∧K (.ptr 3 0) [cE' [.tslice 1 0 x.1.length 7,.tslice 2 0 x.2.length 9,.I x.3,.I x.4,.I x.5,.I x.6,.I x.7,.I x.8,.I x.9,.I x.10],some (.tab cK7 x.1),some (.tab cK9 x.2),cE' [.tslice 4 0 x.1.length 7,.tslice 5 0 x.2.length 9,.I x.3,.I x.4,.I x.5,.I x.6,.I x.7,.I x.8,.I x.9,.I x.10],some (.tab cK7 x.1),some (.tab cK9 x.2)]
theorem JJ(x:HST)(K:AVal→aC Ob→Prop)(h:X1 x K):cT' 86 [.ptr 0 0] [cE' [.tslice 1 0 x.ev.length 7,.tslice 2 0 x.cl.length 9,.I x.n0,.I x.n1,.I x.n2,.I x.n3,.I x.n4,.I x.n5,.I x.n6,.I x.n7],some (.tab cK7 x.ev),some (.tab cK9 x.cl)] (kJ 1 K):=by
 exact cM' (E:=EU7) (by kernel_rfl) h
def hcpS:aI Ob:=fun args h=>match args,h with
 | [.ptr 0 0],[some (.abs (.hist x) [])]=>some (.pre (x.ev.length≤4294967296∧x.cl.length≤4294967296) (.ret (.ptr 1 0) [some (.abs (.hist x) []),some (.abs (.hist x) [])]))
 | _,_=>none
theorem aBf:sT' 86 hcpS:=by
 intro args h o ho K hK;unfold hcpS at ho;split at ho<;>cases ho
 rename_i x;obtain⟨⟨h1,h2⟩,hK⟩:=hK;have hK:K (.ptr 1 0) [some (.abs (.hist x) []),some (.abs (.hist x) [])]:=hK;refine aGZ ?_;refine aGU (h2:=[cE' [.tslice 1 0 x.ev.length 7,.tslice 2 0 x.cl.length 9,.I x.n0,.I x.n1,.I x.n2,.I x.n3,.I x.n4,.I x.n5,.I x.n6,.I x.n7],some (.tab cK7 x.ev),some (.tab cK9 x.cl)]) (aS.unpack (.hist x) 0 0 (pP x) [] rfl rfl rfl rfl) ?_;refine(aB.keep (JJ x _ ?_));exact⟨⟨⟨rfl,rfl⟩,h1⟩,⟨⟨rfl,rfl⟩,h2⟩,⟨⟨_,_,aD5 x,hK⟩⟩⟩
noncomputable def EU8:=EU7.addS 86 hcpS aBf
abbrev w50(x:EGS):Option (aH Ob):=some (.abs (.hist x.h) [])
theorem aDB(x:EGS):aF (obI tbl) 1 (.ptr 5 0) [cE' [.I x.sh,.I x.th,.I x.nd,.I x.tr,.ptr 1 0,.ptr 3 0,.slice 4 0 x.ws.length 1,.I x.k],bE 2 x.s,bF x.s,w50 x,some (.abs (.wrow x.ws) []),w50 x] (.ptr 1 0) [some (.abs (.engine x) []),w50 x]:=by
 exact((aF.move 1 (of_decide_eq_true rfl)).trans ((aF.move 2 (of_decide_eq_true rfl)).trans ((aF.move 3 (of_decide_eq_true rfl)).trans ((aF.move 4 (of_decide_eq_true rfl)).trans ((aGQ (v2:=.ptr 5 0) (g2:=aM [some (.abs (.engine x) []),none,none,none,none,w50 x] 0 0 (egG x) []) (by kernel_rfl) (by kernel_rfl)).trans ((aF.pack [some (.abs (.engine x) []),none,none,none,none,w50 x] (.engine x) 0 0 (egG x) [] rfl rfl rfl (by kernel_rfl)).trans (aF.pick [0,5] rfl)))))))
abbrev w51(x:EGS):Option (aH Ob):=cE' [.I (EGS.s x).1,.I (EGS.s x).2,.slice 2 0 (List.length (EGS.s x).3) 1,.I (EGS.s x).4,.I (EGS.s x).5,.I (EGS.s x).6,.int .u64 (EGS.s x).7,.int .u64 (EGS.s x).8,.bool (EGS.s x).9]
abbrev w52(x:EGS):Option (aH Ob):=cE' [.I x.1,.I x.2,.I x.3,.I x.4,.ptr 1 0,.ptr 3 0,.slice 4 0 x.7.length 1,.I x.8]
def XU(x:EGS)(K:AVal→aC Ob→Prop):Prop:=(List.length (EGS.h x).1≤(4294967296:Nat)∧List.length (EGS.h x).2≤(4294967296:Nat))∧K (.ptr 5 0) [w52 x,w51 x,some (.ints (some .u64) (EGS.s x).3),some (.abs (.hist x.6) []),some (.abs (.wrow x.7) []),some (.abs (.hist x.6) [])]
theorem IN(x:EGS)(K:AVal→aC Ob→Prop)(h:XU x K):cT' 28 [.ptr 0 0] (egG x) (kJ 1 K):=by
 exact cM' (E:=EU8) (by kernel_rfl) h
noncomputable def EI:=(EU2.addS 110 kyS X8).addS 111 srS YN
theorem MX(x:EGS)(ys:List Int):aF (obI tbl) 1 (.slice 5 0 ys.length 1) [cE' [.I x.sh,.I x.th,.I x.nd,.I x.tr,.ptr 1 0,.ptr 3 0,.slice 4 0 x.ws.length 1,.I x.k],bE 2 x.s,bF x.s,some (.abs (.hist x.h) []),some (.abs (.wrow x.ws) []),iI' ys] (.slice 1 0 ys.length 1) [some (.abs (.engine x) []),iI' ys]:=by
 exact((aF.move 1 (of_decide_eq_true rfl)).trans ((aF.move 2 (of_decide_eq_true rfl)).trans ((aF.move 3 (of_decide_eq_true rfl)).trans ((aF.move 4 (of_decide_eq_true rfl)).trans ((aGQ (v2:=.slice 5 0 ys.length 1) (g2:=aM [some (.abs (.engine x) []),none,none,none,none,iI' ys] 0 0 (egG x) []) (by kernel_rfl) (by kernel_rfl)).trans ((aF.pack [some (.abs (.engine x) []),none,none,none,none,iI' ys] (.engine x) 0 0 (egG x) [] rfl rfl rfl (by kernel_rfl)).trans (aF.pick [0,5] rfl)))))))
def MU(x:EGS)(K:AVal→aC Ob→Prop):Prop:=bif ieq x.1 3 then((lE' (EGS.s x).3∧((0:Int)≤(EGS.s x).2∧(EGS.s x).2≤(100000:Int))∧(-1000000:Int)≤(0:Int)∧(0:Int)≤(1000000:Int))∧True)∧K (.slice 5 0 (List.length (keyF (EGS.s x).3 (EGS.s x).2 0)) 1) [w52 x,w51 x,some (.ints (some .u64) (EGS.s x).3),some (.abs (.hist x.6) []),some (.abs (.wrow x.7) []),iI' (keyF (EGS.s x).3 (EGS.s x).2 0)]else bif ieq x.1 4 then((lE' (EGS.s x).3∧((0:Int)≤(EGS.s x).2∧(EGS.s x).2≤(100000:Int))∧(-1000000:Int)≤(0:Int)∧(0:Int)≤(1000000:Int))∧True)∧K (.slice 5 0 (List.length (keyF (EGS.s x).3 (EGS.s x).2 0)) 1) [w52 x,w51 x,some (.ints (some .u64) (EGS.s x).3),some (.abs (.hist x.6) []),some (.abs (.wrow x.7) []),iI' (keyF (EGS.s x).3 (EGS.s x).2 0)]else((lE' (EGS.s x).3∧((0:Int)≤(EGS.s x).2∧(EGS.s x).2≤(100000:Int))∧(-1000000:Int)≤(0:Int)∧(0:Int)≤(1000000:Int))∧True)∧(0+List.length (keyF (EGS.s x).3 (EGS.s x).2 0)≤List.length (keyF (EGS.s x).3 (EGS.s x).2 0)∧List.length (keyF (EGS.s x).3 (EGS.s x).2 0)≤(4294967296:Nat))∧((lE' (EGS.s x).3∧((0:Int)≤(EGS.s x).2∧(EGS.s x).2≤(100000:Int))∧(-1000000:Int)≤W (0+1)∧W (0+1)≤(1000000:Int))∧True)∧(0+List.length (keyF (EGS.s x).3 (EGS.s x).2 (W (0+1)))≤List.length (keyF (EGS.s x).3 (EGS.s x).2 (W (0+1)))∧0=0∧List.length (keyF (EGS.s x).3 (EGS.s x).2 0)=List.length (List.take (List.length (keyF (EGS.s x).3 (EGS.s x).2 0)) (List.drop 0 (keyF (EGS.s x).3 (EGS.s x).2 0)))∧1=1∧List.length (keyF (EGS.s x).3 (EGS.s x).2 0)+List.length (keyF (EGS.s x).3 (EGS.s x).2 (W (0+1)))≤(4294967296:Nat))∧((lE' (EGS.s x).3∧((0:Int)≤(EGS.s x).2∧(EGS.s x).2≤(100000:Int))∧(-1000000:Int)≤W (W (0+1)+1)∧W (W (0+1)+1)≤(1000000:Int))∧True)∧(0+List.length (keyF (EGS.s x).3 (EGS.s x).2 (W (W (0+1)+1)))≤List.length (keyF (EGS.s x).3 (EGS.s x).2 (W (W (0+1)+1)))∧0=0∧List.length (keyF (EGS.s x).3 (EGS.s x).2 0)+List.length (keyF (EGS.s x).3 (EGS.s x).2 (W (0+1)))=List.length (List.take (List.length (keyF (EGS.s x).3 (EGS.s x).2 0)) (List.drop 0 (keyF (EGS.s x).3 (EGS.s x).2 0))++List.take (List.length (keyF (EGS.s x).3 (EGS.s x).2 (W (0+1)))) (List.drop 0 (keyF (EGS.s x).3 (EGS.s x).2 (W (0+1)))))∧1=1∧List.length (keyF (EGS.s x).3 (EGS.s x).2 0)+List.length (keyF (EGS.s x).3 (EGS.s x).2 (W (0+1)))+List.length (keyF (EGS.s x).3 (EGS.s x).2 (W (W (0+1)+1)))≤(4294967296:Nat))∧((lE' (EGS.s x).3∧((0:Int)≤(EGS.s x).2∧(EGS.s x).2≤(100000:Int))∧(-1000000:Int)≤W (W (W (0+1)+1)+1)∧W (W (W (0+1)+1)+1)≤(1000000:Int))∧True)∧(0+List.length (keyF (EGS.s x).3 (EGS.s x).2 (W (W (W (0+1)+1)+1)))≤List.length (keyF (EGS.s x).3 (EGS.s x).2 (W (W (W (0+1)+1)+1)))∧0=0∧List.length (keyF (EGS.s x).3 (EGS.s x).2 0)+List.length (keyF (EGS.s x).3 (EGS.s x).2 (W (0+1)))+List.length (keyF (EGS.s x).3 (EGS.s x).2 (W (W (0+1)+1)))=List.length (List.take (List.length (keyF (EGS.s x).3 (EGS.s x).2 0)) (List.drop 0 (keyF (EGS.s x).3 (EGS.s x).2 0))++List.take (List.length (keyF (EGS.s x).3 (EGS.s x).2 (W (0+1)))) (List.drop 0 (keyF (EGS.s x).3 (EGS.s x).2 (W (0+1))))++List.take (List.length (keyF (EGS.s x).3 (EGS.s x).2 (W (W (0+1)+1)))) (List.drop 0 (keyF (EGS.s x).3 (EGS.s x).2 (W (W (0+1)+1)))))∧1=1∧List.length (keyF (EGS.s x).3 (EGS.s x).2 0)+List.length (keyF (EGS.s x).3 (EGS.s x).2 (W (0+1)))+List.length (keyF (EGS.s x).3 (EGS.s x).2 (W (W (0+1)+1)))+List.length (keyF (EGS.s x).3 (EGS.s x).2 (W (W (W (0+1)+1)+1)))≤(4294967296:Nat))∧(List.length (keyF (EGS.s x).3 (EGS.s x).2 0)+List.length (keyF (EGS.s x).3 (EGS.s x).2 (W (0+1)))+List.length (keyF (EGS.s x).3 (EGS.s x).2 (W (W (0+1)+1)))+List.length (keyF (EGS.s x).3 (EGS.s x).2 (W (W (W (0+1)+1)+1)))=List.length (List.take (List.length (keyF (EGS.s x).3 (EGS.s x).2 0)) (List.drop 0 (keyF (EGS.s x).3 (EGS.s x).2 0))++List.take (List.length (keyF (EGS.s x).3 (EGS.s x).2 (W (0+1)))) (List.drop 0 (keyF (EGS.s x).3 (EGS.s x).2 (W (0+1))))++List.take (List.length (keyF (EGS.s x).3 (EGS.s x).2 (W (W (0+1)+1)))) (List.drop 0 (keyF (EGS.s x).3 (EGS.s x).2 (W (W (0+1)+1))))++List.take (List.length (keyF (EGS.s x).3 (EGS.s x).2 (W (W (W (0+1)+1)+1)))) (List.drop 0 (keyF (EGS.s x).3 (EGS.s x).2 (W (W (W (0+1)+1)+1)))))∧List.length (keyF (EGS.s x).3 (EGS.s x).2 0)+List.length (keyF (EGS.s x).3 (EGS.s x).2 (W (0+1)))+List.length (keyF (EGS.s x).3 (EGS.s x).2 (W (W (0+1)+1)))+List.length (keyF (EGS.s x).3 (EGS.s x).2 (W (W (W (0+1)+1)+1)))≤(1000000:Nat))∧K (.slice 5 0 (List.length (keyF (EGS.s x).3 (EGS.s x).2 0)+List.length (keyF (EGS.s x).3 (EGS.s x).2 (W (0+1)))+List.length (keyF (EGS.s x).3 (EGS.s x).2 (W (W (0+1)+1)))+List.length (keyF (EGS.s x).3 (EGS.s x).2 (W (W (W (0+1)+1)+1)))) 1) [w52 x,w51 x,some (.ints (some .u64) (EGS.s x).3),some (.abs (.hist x.6) []),some (.abs (.wrow x.7) []),iI' (mK (List.take (List.length (keyF (EGS.s x).3 (EGS.s x).2 0)) (List.drop 0 (keyF (EGS.s x).3 (EGS.s x).2 0))++List.take (List.length (keyF (EGS.s x).3 (EGS.s x).2 (W (0+1)))) (List.drop 0 (keyF (EGS.s x).3 (EGS.s x).2 (W (0+1))))++List.take (List.length (keyF (EGS.s x).3 (EGS.s x).2 (W (W (0+1)+1)))) (List.drop 0 (keyF (EGS.s x).3 (EGS.s x).2 (W (W (0+1)+1))))++List.take (List.length (keyF (EGS.s x).3 (EGS.s x).2 (W (W (W (0+1)+1)+1)))) (List.drop 0 (keyF (EGS.s x).3 (EGS.s x).2 (W (W (W (0+1)+1)+1))))))]
theorem IP(x:EGS)(K:AVal→aC Ob→Prop)(h:MU x K):cT' 55 [.ptr 0 0] (egG x) (kJ 1 K):=by
 exact aD (E:=EI) Tryz.checked.mixed (L:=fun _ _=>some (.rounds 5)) (n:=10) (aJ (by kernel_rfl) h)
def gH(x:EGS):List Int:=bif ieq x.sh 3 then keyF x.s.xs x.s.n 0 else bif ieq x.sh 4 then keyF x.s.xs x.s.n 0 else mK (keyF x.s.xs x.s.n 0++keyF x.s.xs x.s.n 1++keyF x.s.xs x.s.n 2++keyF x.s.xs x.s.n 3)
def ehiS:aI Ob:=fun args h=>match args,h with
 | [.ptr 0 0],[some (.abs (.engine x) [])]=>some (.pre (x.h.ev.length≤4294967296∧x.h.cl.length≤4294967296) (.ret (.ptr 1 0) [some (.abs (.engine x) []),some (.abs (.hist x.h) [])]))
 | _,_=>none
theorem MT:sT' 28 ehiS:=by
 intro args h o ho K hK;unfold ehiS at ho;split at ho<;>cases ho
 rename_i x;obtain⟨hp,hK⟩:=hK;have hK:K (.ptr 1 0) [some (.abs (.engine x) []),some (.abs (.hist x.h) [])]:=hK;refine aGZ ?_;refine aGU (h2:=egG x) (aS.unpack (.engine x) 0 0 (egG x) [] rfl rfl rfl rfl) ?_;refine aB.keep (IN x _ ?_);exact⟨hp,⟨⟨_,_,aDB x,hK⟩⟩⟩
def eitS:aI Ob:=fun args h=>match args,h with
 | [.ptr 0 0],[some (.abs (.engine x) [])]=>some (.pre (0≤x.s.n∧x.s.n≤100000) (.ret (.slice 1 0 (gH x).length 1) [some (.abs (.engine x) []),iI' (gH x)]))
 | _,_=>none
theorem MV:sT' 55 eitS:=by
 intro args h o ho K hK;unfold eitS at ho;split at ho<;>cases ho
 rename_i x;obtain⟨hp,hK⟩:=hK;have hK:K (.slice 1 0 (gH x).length 1) [some (.abs (.engine x) []),iI' (gH x)]:=hK;refine aGZ ?_;refine aGU (h2:=egG x) (aS.unpack (.engine x) 0 0 (egG x) [] rfl rfl rfl rfl) ?_;refine aB.keep (IP x _ ?_);have e1:W (0+1)=1:=by decide
 have e2:W (1+1)=2:=by decide
 have e3:W (2+1)=3:=by decide
 have l0:=qI x.s.xs x.s.n 0;have l1:=qI x.s.xs x.s.n 1;have l2:=qI x.s.xs x.s.n 2;have l3:=qI x.s.xs x.s.n 3;have hn:x.s.n.toNat≤100000:=by omega
 unfold MU;refine aL (fun c1=>?_) (fun c1=>aL (fun c2=>?_) (fun c2=>?_))
 ·have hv:gH x=keyF x.s.xs x.s.n 0:=by unfold gH;rw [c1];rfl
  rw [hv]at hK;exact⟨⟨⟨rfl,hp,by decide,by decide⟩,trivial⟩,⟨⟨_,_,MX x _,hK⟩⟩⟩
 ·have hv:gH x=keyF x.s.xs x.s.n 0:=by unfold gH;rw [c1,c2];rfl
  rw [hv]at hK;exact⟨⟨⟨rfl,hp,by decide,by decide⟩,trivial⟩,⟨⟨_,_,MX x _,hK⟩⟩⟩
 ·have hv:gH x=mK (keyF x.s.xs x.s.n 0++keyF x.s.xs x.s.n 1++keyF x.s.xs x.s.n 2++keyF x.s.xs x.s.n 3):=by unfold gH;rw [c1,c2];rfl
  rw [hv]at hK;rw [rV,List.length_append,List.length_append,List.length_append]at hK;have ht:=MX x (mK (keyF x.s.xs x.s.n 0++keyF x.s.xs x.s.n 1++keyF x.s.xs x.s.n 2++keyF x.s.xs x.s.n 3));rw [rV,List.length_append,List.length_append,List.length_append]at ht;rw [e1,e2,e3];change _≤_ at l0;change _≤_ at l1;generalize keyF x.s.xs x.s.n 0=k0 at*;generalize keyF x.s.xs x.s.n 1=k1 at*;generalize keyF x.s.xs x.s.n 2=k2 at*;generalize keyF x.s.xs x.s.n 3=k3 at*;have t0: ∀l:List Int,List.take l.length (List.drop 0 l)=l:=fun l=>by simp
  rw [t0 k0,t0 k1,t0 k2,t0 k3];have la:(k0++k1).length =k0.length+k1.length:=List.length_append;have lb:(k0++k1++k2).length =k0.length+k1.length+k2.length:=by rw [List.length_append,la]
  have lc:(k0++k1++k2++k3).length =k0.length+k1.length+k2.length+k3.length:=by rw [List.length_append,lb]
  refine⟨⟨⟨rfl,hp,by decide,by decide⟩,trivial⟩,⟨by omega,by omega⟩,⟨⟨rfl,hp,by decide,by decide⟩,trivial⟩,⟨by omega,by omega,by omega,by omega,by omega⟩,⟨⟨rfl,hp,by decide,by decide⟩,trivial⟩,⟨by omega,by omega,by omega,by omega,by omega⟩,⟨⟨rfl,hp,by decide,by decide⟩,trivial⟩,⟨by omega,by omega,by omega,by omega,by omega⟩,⟨by omega,by omega⟩,⟨⟨_,_,ht,hK⟩⟩⟩
noncomputable def EU9:=(EU8.addS 28 ehiS MT).addS 55 eitS MV
end Go.Sh
