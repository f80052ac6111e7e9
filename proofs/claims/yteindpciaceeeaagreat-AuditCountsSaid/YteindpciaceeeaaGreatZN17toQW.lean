import Derived.RangeFuncLeaves
import Derived.Test.YteindpciaceeeaaGreatZSh30
set_option linter.all false
set_option maxHeartbeats 8000000
namespace Go.Sh
open Go Go.Proofs
variable [Con]
abbrev w3d(x:HST):Option (aG Ob):=cE' [.tslice 1 0 x.ev.length 7,.tslice 2 0 x.cl.length 9,.I x.n0,.I x.n1,.I x.n2,.I x.n3,.I x.n4,.I x.n5,.I x.n6,.I x.n7]
abbrev w3e(x:HST):Option (aG Ob):=some (.abs (.hist x) [])
theorem aIB(x:HST):aF (obI tbl) 1 (.tslice 3 0 x.ev.length 7) [w3d x,some (.tab cK7 x.ev),some (.tab cK9 x.cl),some (.tab cK7 x.ev)] (.tslice 1 0 x.ev.length 7) [w3e x,some (.tab cK7 x.ev)]:=by
 exact((aF.move 1 (of_decide_eq_true rfl)).trans ((aF.move 2 (of_decide_eq_true rfl)).trans ((aJ8 (v2:=.tslice 3 0 x.ev.length 7) (g2:=aP [w3e x,none,none,some (.tab cK7 x.ev)] 0 0 (z1 x) []) (by kernel_rfl) (by kernel_rfl)).trans ((aF.pack [w3e x,none,none,some (.tab cK7 x.ev)] (.hist x) 0 0 (z1 x) [] rfl rfl rfl (by kernel_rfl)).trans (aF.pick [0,3] rfl)))))
abbrev w3f(x:HST):Option (aG Ob):=cE' [.tslice 1 0 x.1.length 7,.tslice 2 0 x.2.length 9,.I x.3,.I x.4,.I x.5,.I x.6,.I x.7,.I x.8,.I x.9,.I x.10]
def aGX(x:HST)(K:AVal->aC Ob->Prop):Prop:= ∀(b:Bool),(b=true->x.1.length=0)->bif b then K (.raw (Value.slice none 0 0)) [w3f x,some (.tab cK7 x.1),some (.tab cK9 x.2)]else(0+x.1.length<=x.1.length/\x.1.length<=(4294967296:Nat))/\K (.tslice 3 0 x.1.length 7) [w3f x,some (.tab cK7 x.1),some (.tab cK9 x.2),some (.tab cK7 (List.take x.1.length (List.drop 0 x.1)))]
theorem QS(x:HST)(K:AVal->aC Ob->Prop)(h:aGX x K):cT' 29 [.ptr 0 0] [cE' [.tslice 1 0 x.ev.length 7,.tslice 2 0 x.cl.length 9,.I x.n0,.I x.n1,.I x.n2,.I x.n3,.I x.n4,.I x.n5,.I x.n6,.I x.n7],some (.tab cK7 x.ev),some (.tab cK9 x.cl)] (eD 1 K):=by
 exact cM' (E:=EU6) (by kernel_rfl) h
def hvS:aH Ob:=fun args h=>match args,h with
 | [.ptr 0 0],[some (.abs (.hist x) [])]=>some (.pre (x.ev.length<=4294967296) (.ret (.tslice 1 0 x.ev.length 7) [some (.abs (.hist x) []),some (.tab cK7 x.ev)]))
 | _,_=>none
theorem aGY:sT' 29 hvS:=by
 intro args h o ho K hK;unfold hvS at ho;split at ho<;>cases ho
 rename_i x;obtain⟨hl,hK⟩:=hK;have hK:K (.tslice 1 0 x.ev.length 7) [some (.abs (.hist x) []),some (.tab cK7 x.ev)]:=hK;refine aJ9 ?_;refine aJ6 (h2:=[cE' [.tslice 1 0 x.ev.length 7,.tslice 2 0 x.cl.length 9,.I x.n0,.I x.n1,.I x.n2,.I x.n3,.I x.n4,.I x.n5,.I x.n6,.I x.n7],some (.tab cK7 x.ev),some (.tab cK9 x.cl)]) (aQ.unpack (.hist x) 0 0 (z1 x) [] rfl rfl rfl rfl) ?_;have ht:=aIB x;refine aA.keep (QS x _ ?_);intro b hb;refine aJ (fun e=>?_) (fun e=>?_)
 ·have he:x.ev=[]:=List.length_eq_zero_iff.1 (hb e);rw [he]at ht hK;rw [he];exact⟨⟨_,_,(aF.cast (cs:=[(.slot 0,.tab cK7)]) rfl).trans ht,hK⟩⟩
 ·have he:List.take x.ev.length (List.drop 0 x.ev)=x.ev:=by simp
  rw [he];exact⟨⟨by omega,hl⟩,⟨⟨_,_,ht,hK⟩⟩⟩
theorem aIw(x:HST):aF (obI tbl) 1 (.tslice 3 0 x.cl.length 9) [w3d x,some (.tab cK7 x.ev),some (.tab cK9 x.cl),some (.tab cK9 x.cl)] (.tslice 1 0 x.cl.length 9) [w3e x,some (.tab cK9 x.cl)]:=by
 exact((aF.move 1 (of_decide_eq_true rfl)).trans ((aF.move 2 (of_decide_eq_true rfl)).trans ((aJ8 (v2:=.tslice 3 0 x.cl.length 9) (g2:=aP [w3e x,none,none,some (.tab cK9 x.cl)] 0 0 (z1 x) []) (by kernel_rfl) (by kernel_rfl)).trans ((aF.pack [w3e x,none,none,some (.tab cK9 x.cl)] (.hist x) 0 0 (z1 x) [] rfl rfl rfl (by kernel_rfl)).trans (aF.pick [0,3] rfl)))))
def aGM(x:HST)(K:AVal->aC Ob->Prop):Prop:= ∀(b:Bool),(b=true->x.2.length=0)->bif b then K (.raw (Value.slice none 0 0)) [w3f x,some (.tab cK7 x.1),some (.tab cK9 x.2)]else(0+x.2.length<=x.2.length/\x.2.length<=(4294967296:Nat))/\K (.tslice 3 0 x.2.length 9) [w3f x,some (.tab cK7 x.1),some (.tab cK9 x.2),some (.tab cK9 (List.take x.2.length (List.drop 0 x.2)))]
theorem QC(x:HST)(K:AVal->aC Ob->Prop)(h:aGM x K):cT' 49 [.ptr 0 0] [cE' [.tslice 1 0 x.ev.length 7,.tslice 2 0 x.cl.length 9,.I x.n0,.I x.n1,.I x.n2,.I x.n3,.I x.n4,.I x.n5,.I x.n6,.I x.n7],some (.tab cK7 x.ev),some (.tab cK9 x.cl)] (eD 1 K):=by
 exact cM' (E:=EU6) (by kernel_rfl) h
def hcS:aH Ob:=fun args h=>match args,h with
 | [.ptr 0 0],[some (.abs (.hist x) [])]=>some (.pre (x.cl.length<=4294967296) (.ret (.tslice 1 0 x.cl.length 9) [some (.abs (.hist x) []),some (.tab cK9 x.cl)]))
 | _,_=>none
theorem aGN:sT' 49 hcS:=by
 intro args h o ho K hK;unfold hcS at ho;split at ho<;>cases ho
 rename_i x;obtain⟨hl,hK⟩:=hK;have hK:K (.tslice 1 0 x.cl.length 9) [some (.abs (.hist x) []),some (.tab cK9 x.cl)]:=hK;refine aJ9 ?_;refine aJ6 (h2:=[cE' [.tslice 1 0 x.ev.length 7,.tslice 2 0 x.cl.length 9,.I x.n0,.I x.n1,.I x.n2,.I x.n3,.I x.n4,.I x.n5,.I x.n6,.I x.n7],some (.tab cK7 x.ev),some (.tab cK9 x.cl)]) (aQ.unpack (.hist x) 0 0 (z1 x) [] rfl rfl rfl rfl) ?_;have ht:=aIw x;refine aA.keep (QC x _ ?_);intro b hb;refine aJ (fun e=>?_) (fun e=>?_)
 ·have he:x.cl=[]:=List.length_eq_zero_iff.1 (hb e);rw [he]at ht hK;rw [he];exact⟨⟨_,_,(aF.cast (cs:=[(.slot 0,.tab cK9)]) rfl).trans ht,hK⟩⟩
 ·have he:List.take x.cl.length (List.drop 0 x.cl)=x.cl:=by simp
  rw [he];exact⟨⟨by omega,hl⟩,⟨⟨_,_,ht,hK⟩⟩⟩
def aA0(x:HST)(K:AVal->aC Ob->Prop):Prop:= ∀(b:Bool),(b=true->x.1.length=0)->bif b then K (.raw (Value.slice none 0 0)) [w3f x,some (.tab cK7 x.1),some (.tab cK9 x.2)]else(0+x.1.length<=x.1.length/\x.1.length<=(4294967296:Nat))/\K (.tslice 3 0 x.1.length 7) [w3f x,some (.tab cK7 x.1),some (.tab cK9 x.2),some (.tab cK7 (List.take x.1.length (List.drop 0 x.1)))]
theorem LY(x:HST)(K:AVal->aC Ob->Prop)(h:aA0 x K):cT' 29 [.ptr 0 0] [cE' [.tslice 1 0 x.ev.length 7,.tslice 2 0 x.cl.length 9,.I x.n0,.I x.n1,.I x.n2,.I x.n3,.I x.n4,.I x.n5,.I x.n6,.I x.n7],some (.tab cK7 x.ev),some (.tab cK9 x.cl)] (eD 3 K):=by
 exact cM' (E:=EU6) (by kernel_rfl) h
def hvoS:aH Ob:=fun args h=>match args,h with
 | [.ptr 0 0],[some (.cells [.tslice 1 0 a 7,.tslice 2 0 b 9,.int .i64 n0,.int .i64 n1,.int .i64 n2,.int .i64 n3,.int .i64 n4,.int .i64 n5,.int .i64 n6,.int .i64 n7]),some (.tab [some .i64,none,some .i64,some .i64,some .i64,none,some .i64] ev),some (.tab [some .i64,some .i64,some .i64,some .i64,some .i64,some .i64,some .i64,none,some .i64] cl)]=>some (.pre ((a=ev.length/\b=cl.length)/\ev.length<=4294967296) (.ret (.tslice 3 0 ev.length 7) ([cE' [.tslice 1 0 a 7,.tslice 2 0 b 9,.I n0,.I n1,.I n2,.I n3,.I n4,.I n5,.I n6,.I n7],some (.tab cK7 ev),some (.tab cK9 cl)]++ [some (.tab cK7 ev)])))
 | _,_=>none
theorem aD6:sT' 29 hvoS:=by
 intro args h o ho K hK;unfold hvoS at ho;split at ho<;>cases ho
 rename_i a b n0 n1 n2 n3 n4 n5 n6 n7 ev cl;obtain⟨⟨⟨rfl,rfl⟩,hl⟩,hK⟩:=hK;have hK:K (.tslice 3 0 ev.length 7) ([cE' [.tslice 1 0 ev.length 7,.tslice 2 0 cl.length 9,.I n0,.I n1,.I n2,.I n3,.I n4,.I n5,.I n6,.I n7],some (.tab cK7 ev),some (.tab cK9 cl)]++ [some (.tab cK7 ev)]):=hK;refine aJ9 (aA.keep (LY ⟨ev,cl,n0,n1,n2,n3,n4,n5,n6,n7⟩ _ ?_));intro b hb;refine aJ (fun e=>?_) (fun e=>?_)
 ·have he:ev=[]:=List.length_eq_zero_iff.1 (hb e);subst he;exact⟨⟨_,_,(aF.cast (cs:=[(.slot 0,.tab cK7)]) rfl),hK⟩⟩
 ·have he:List.take ev.length (List.drop 0 ev)=ev:=by simp
  rw [he];exact⟨⟨by omega,hl⟩,⟨⟨_,_,aF.cast (cs:=[]) rfl,hK⟩⟩⟩
def aAU(x:HST)(K:AVal->aC Ob->Prop):Prop:= ∀(b:Bool),(b=true->x.2.length=0)->bif b then K (.raw (Value.slice none 0 0)) [w3f x,some (.tab cK7 x.1),some (.tab cK9 x.2)]else(0+x.2.length<=x.2.length/\x.2.length<=(4294967296:Nat))/\K (.tslice 3 0 x.2.length 9) [w3f x,some (.tab cK7 x.1),some (.tab cK9 x.2),some (.tab cK9 (List.take x.2.length (List.drop 0 x.2)))]
theorem LI(x:HST)(K:AVal->aC Ob->Prop)(h:aAU x K):cT' 49 [.ptr 0 0] [cE' [.tslice 1 0 x.ev.length 7,.tslice 2 0 x.cl.length 9,.I x.n0,.I x.n1,.I x.n2,.I x.n3,.I x.n4,.I x.n5,.I x.n6,.I x.n7],some (.tab cK7 x.ev),some (.tab cK9 x.cl)] (eD 3 K):=by
 exact cM' (E:=EU6) (by kernel_rfl) h
def hcoS:aH Ob:=fun args h=>match args,h with
 | [.ptr 0 0],[some (.cells [.tslice 1 0 a 7,.tslice 2 0 b 9,.int .i64 n0,.int .i64 n1,.int .i64 n2,.int .i64 n3,.int .i64 n4,.int .i64 n5,.int .i64 n6,.int .i64 n7]),some (.tab [some .i64,none,some .i64,some .i64,some .i64,none,some .i64] ev),some (.tab [some .i64,some .i64,some .i64,some .i64,some .i64,some .i64,some .i64,none,some .i64] cl)]=>some (.pre ((a=ev.length/\b=cl.length)/\cl.length<=4294967296) (.ret (.tslice 3 0 cl.length 9) ([cE' [.tslice 1 0 a 7,.tslice 2 0 b 9,.I n0,.I n1,.I n2,.I n3,.I n4,.I n5,.I n6,.I n7],some (.tab cK7 ev),some (.tab cK9 cl)]++ [some (.tab cK9 cl)])))
 | _,_=>none
theorem aDG:sT' 49 hcoS:=by
 intro args h o ho K hK;unfold hcoS at ho;split at ho<;>cases ho
 rename_i a b n0 n1 n2 n3 n4 n5 n6 n7 ev cl;obtain⟨⟨⟨rfl,rfl⟩,hl⟩,hK⟩:=hK;have hK:K (.tslice 3 0 cl.length 9) ([cE' [.tslice 1 0 ev.length 7,.tslice 2 0 cl.length 9,.I n0,.I n1,.I n2,.I n3,.I n4,.I n5,.I n6,.I n7],some (.tab cK7 ev),some (.tab cK9 cl)]++ [some (.tab cK9 cl)]):=hK;refine aJ9 (aA.keep (LI ⟨ev,cl,n0,n1,n2,n3,n4,n5,n6,n7⟩ _ ?_));intro b hb;refine aJ (fun e=>?_) (fun e=>?_)
 ·have he:cl=[]:=List.length_eq_zero_iff.1 (hb e);subst he;exact⟨⟨_,_,(aF.cast (cs:=[(.slot 0,.tab cK9)]) rfl),hK⟩⟩
 ·have he:List.take cl.length (List.drop 0 cl)=cl:=by simp
  rw [he];exact⟨⟨by omega,hl⟩,⟨⟨_,_,aF.cast (cs:=[]) rfl,hK⟩⟩⟩
def hvN:cV Ob:=fun args h=>match args,h with
 | [.ptr 0 0],[some (.abs (.hist x) [])]=>some (x.ev.length<=4294967296,.tslice 1 0 x.ev.length 7,[.tab cK7 x.ev])
 | _,_=>none
theorem aD4:sT' 29 hvN.spec:=by
 intro args h o ho K hK;refine aGY args h o ?_ K hK;rw [<-ho];unfold hvS cV.spec hvN;split<;>rfl
def aD5:cV Ob:=fun args h=>match args,h with
 | [.ptr 0 0],[some (.cells [.tslice 1 0 a 7,.tslice 2 0 b 9,.int .i64 n0,.int .i64 n1,.int .i64 n2,.int .i64 n3,.int .i64 n4,.int .i64 n5,.int .i64 n6,.int .i64 n7]),some (.tab [some .i64,none,some .i64,some .i64,some .i64,none,some .i64] ev),some (.tab [some .i64,some .i64,some .i64,some .i64,some .i64,some .i64,some .i64,none,some .i64] cl)]=>some ((a=ev.length/\b=cl.length)/\ev.length<=4294967296,.tslice 3 0 ev.length 7,[.tab cK7 ev])
 | _,_=>none
theorem YY:sT' 29 aD5.spec:=by
 intro args h o ho K hK;refine aD6 args h o ?_ K hK;rw [<-ho];unfold hvoS cV.spec aD5;split<;>rfl
def hcN:cV Ob:=fun args h=>match args,h with
 | [.ptr 0 0],[some (.abs (.hist x) [])]=>some (x.cl.length<=4294967296,.tslice 1 0 x.cl.length 9,[.tab cK9 x.cl])
 | _,_=>none
theorem aDE:sT' 49 hcN.spec:=by
 intro args h o ho K hK;refine aGN args h o ?_ K hK;rw [<-ho];unfold hcS cV.spec hcN;split<;>rfl
def aDF:cV Ob:=fun args h=>match args,h with
 | [.ptr 0 0],[some (.cells [.tslice 1 0 a 7,.tslice 2 0 b 9,.int .i64 n0,.int .i64 n1,.int .i64 n2,.int .i64 n3,.int .i64 n4,.int .i64 n5,.int .i64 n6,.int .i64 n7]),some (.tab [some .i64,none,some .i64,some .i64,some .i64,none,some .i64] ev),some (.tab [some .i64,some .i64,some .i64,some .i64,some .i64,some .i64,some .i64,none,some .i64] cl)]=>some ((a=ev.length/\b=cl.length)/\cl.length<=4294967296,.tslice 3 0 cl.length 9,[.tab cK9 cl])
 | _,_=>none
theorem X5:sT' 49 aDF.spec:=by
 intro args h o ho K hK;refine aDG args h o ?_ K hK;rw [<-ho];unfold hcoS cV.spec aDF;split<;>rfl
noncomputable def EU7:=(EU6.addN 29 (cV.or hvN aD5) (aK3 aD4 YY)).addN 49 (cV.or hcN aDF) (aK3 aDE X5)
abbrev w3g(x:HST):Option (aG Ob):=cE' [.tslice 4 0 x.ev.length 7,.tslice 5 0 x.cl.length 9,.I x.n0,.I x.n1,.I x.n2,.I x.n3,.I x.n4,.I x.n5,.I x.n6,.I x.n7]
abbrev w3h(x:HST):Option (aG Ob):=some (.abs (.hist x) [])
theorem aGO(x:HST):aF (obI tbl) 1 (.ptr 3 0) [cE' [.tslice 1 0 x.ev.length 7,.tslice 2 0 x.cl.length 9,.I x.n0,.I x.n1,.I x.n2,.I x.n3,.I x.n4,.I x.n5,.I x.n6,.I x.n7],some (.tab cK7 x.ev),some (.tab cK9 x.cl),w3g x,some (.tab cK7 x.ev),some (.tab cK9 x.cl)] (.ptr 1 0) [w3h x,w3h x]:=by
 exact((aF.move 1 (of_decide_eq_true rfl)).trans ((aF.move 2 (of_decide_eq_true rfl)).trans ((aJ8 (v2:=.ptr 3 0) (g2:=aP [w3h x,none,none,w3g x,some (.tab cK7 x.ev),some (.tab cK9 x.cl)] 0 0 (z1 x) []) (by kernel_rfl) (by kernel_rfl)).trans ((aF.pack [w3h x,none,none,w3g x,some (.tab cK7 x.ev),some (.tab cK9 x.cl)] (.hist x) 0 0 (z1 x) [] rfl rfl rfl (by kernel_rfl)).trans ((aF.move 4 (of_decide_eq_true rfl)).trans ((aF.move 5 (of_decide_eq_true rfl)).trans ((aJ8 (v2:=.ptr 3 0) (g2:=aP [w3h x,none,none,w3h x,none,none] 3 0 (z1 x) []) (by kernel_rfl) (by kernel_rfl)).trans ((aF.pack [w3h x,none,none,w3h x,none,none] (.hist x) 3 0 (z1 x) [] rfl rfl rfl (by kernel_rfl)).trans (aF.pick [0,3] rfl)))))))))
def aAV(x:HST)(K:AVal->aC Ob->Prop):Prop:=((lE' x.1/\lE' x.2)/\x.1.length<=(4294967296:Nat))/\((lE' x.1/\lE' x.2)/\x.2.length<=(4294967296:Nat))/\K (.ptr 3 0) [cE' [.tslice 1 0 x.1.length 7,.tslice 2 0 x.2.length 9,.I x.3,.I x.4,.I x.5,.I x.6,.I x.7,.I x.8,.I x.9,.I x.10],some (.tab cK7 x.1),some (.tab cK9 x.2),cE' [.tslice 4 0 x.1.length 7,.tslice 5 0 x.2.length 9,.I x.3,.I x.4,.I x.5,.I x.6,.I x.7,.I x.8,.I x.9,.I x.10],some (.tab cK7 x.1),some (.tab cK9 x.2)]
theorem LJ(x:HST)(K:AVal->aC Ob->Prop)(h:aAV x K):cT' 86 [.ptr 0 0] [cE' [.tslice 1 0 x.ev.length 7,.tslice 2 0 x.cl.length 9,.I x.n0,.I x.n1,.I x.n2,.I x.n3,.I x.n4,.I x.n5,.I x.n6,.I x.n7],some (.tab cK7 x.ev),some (.tab cK9 x.cl)] (eD 1 K):=by
 exact cM' (E:=EU7) (by kernel_rfl) h
def hcpS:aH Ob:=fun args h=>match args,h with
 | [.ptr 0 0],[some (.abs (.hist x) [])]=>some (.pre (x.ev.length<=4294967296/\x.cl.length<=4294967296) (.ret (.ptr 1 0) [some (.abs (.hist x) []),some (.abs (.hist x) [])]))
 | _,_=>none
theorem aDH:sT' 86 hcpS:=by
 intro args h o ho K hK;unfold hcpS at ho;split at ho<;>cases ho
 rename_i x;obtain⟨⟨h1,h2⟩,hK⟩:=hK;have hK:K (.ptr 1 0) [some (.abs (.hist x) []),some (.abs (.hist x) [])]:=hK;refine aJ9 ?_;refine aJ6 (h2:=[cE' [.tslice 1 0 x.ev.length 7,.tslice 2 0 x.cl.length 9,.I x.n0,.I x.n1,.I x.n2,.I x.n3,.I x.n4,.I x.n5,.I x.n6,.I x.n7],some (.tab cK7 x.ev),some (.tab cK9 x.cl)]) (aQ.unpack (.hist x) 0 0 (z1 x) [] rfl rfl rfl rfl) ?_;refine(aA.keep (LJ x _ ?_));exact⟨⟨⟨rfl,rfl⟩,h1⟩,⟨⟨rfl,rfl⟩,h2⟩,⟨⟨_,_,aGO x,hK⟩⟩⟩
noncomputable def EU8:=EU7.addS 86 hcpS aDH
abbrev w3i(x:EGS):Option (aG Ob):=some (.abs (.hist x.h) [])
theorem aGh(x:EGS):aF (obI tbl) 1 (.ptr 5 0) [cE' [.I x.sh,.I x.th,.I x.nd,.I x.tr,.ptr 1 0,.ptr 3 0,.slice 4 0 x.ws.length 1,.I x.k],aX 2 x.s,aY x.s,w3i x,some (.abs (.wrow x.ws) []),w3i x] (.ptr 1 0) [some (.abs (.engine x) []),w3i x]:=by
 exact((aF.move 1 (of_decide_eq_true rfl)).trans ((aF.move 2 (of_decide_eq_true rfl)).trans ((aF.move 3 (of_decide_eq_true rfl)).trans ((aF.move 4 (of_decide_eq_true rfl)).trans ((aJ8 (v2:=.ptr 5 0) (g2:=aP [some (.abs (.engine x) []),none,none,none,none,w3i x] 0 0 (egG x) []) (by kernel_rfl) (by kernel_rfl)).trans ((aF.pack [some (.abs (.engine x) []),none,none,none,none,w3i x] (.engine x) 0 0 (egG x) [] rfl rfl rfl (by kernel_rfl)).trans (aF.pick [0,5] rfl)))))))
abbrev w3j(x:EGS):Option (aG Ob):=cE' [.I (EGS.s x).1,.I (EGS.s x).2,.slice 2 0 (List.length (EGS.s x).3) 1,.I (EGS.s x).4,.I (EGS.s x).5,.I (EGS.s x).6,.int .u64 (EGS.s x).7,.int .u64 (EGS.s x).8,.bool (EGS.s x).9]
abbrev w3k(x:EGS):Option (aG Ob):=cE' [.I x.1,.I x.2,.I x.3,.I x.4,.ptr 1 0,.ptr 3 0,.slice 4 0 x.7.length 1,.I x.8]
def aAM(x:EGS)(K:AVal->aC Ob->Prop):Prop:=(List.length (EGS.h x).1<=(4294967296:Nat)/\List.length (EGS.h x).2<=(4294967296:Nat))/\K (.ptr 5 0) [w3k x,w3j x,some (.ints (some .u64) (EGS.s x).3),some (.abs (.hist x.6) []),some (.abs (.wrow x.7) []),some (.abs (.hist x.6) [])]
theorem KO(x:EGS)(K:AVal->aC Ob->Prop)(h:aAM x K):cT' 28 [.ptr 0 0] (egG x) (eD 1 K):=by
 exact cM' (E:=EU8) (by kernel_rfl) h
noncomputable def EI:=(EU2.addS 110 kyS aA2).addS 111 srS aBj
theorem PI(x:EGS)(ys:List Int):aF (obI tbl) 1 (.slice 5 0 ys.length 1) [cE' [.I x.sh,.I x.th,.I x.nd,.I x.tr,.ptr 1 0,.ptr 3 0,.slice 4 0 x.ws.length 1,.I x.k],aX 2 x.s,aY x.s,some (.abs (.hist x.h) []),some (.abs (.wrow x.ws) []),iI' ys] (.slice 1 0 ys.length 1) [some (.abs (.engine x) []),iI' ys]:=by
 exact((aF.move 1 (of_decide_eq_true rfl)).trans ((aF.move 2 (of_decide_eq_true rfl)).trans ((aF.move 3 (of_decide_eq_true rfl)).trans ((aF.move 4 (of_decide_eq_true rfl)).trans ((aJ8 (v2:=.slice 5 0 ys.length 1) (g2:=aP [some (.abs (.engine x) []),none,none,none,none,iI' ys] 0 0 (egG x) []) (by kernel_rfl) (by kernel_rfl)).trans ((aF.pack [some (.abs (.engine x) []),none,none,none,none,iI' ys] (.engine x) 0 0 (egG x) [] rfl rfl rfl (by kernel_rfl)).trans (aF.pick [0,5] rfl)))))))
def PG(x:EGS)(K:AVal->aC Ob->Prop):Prop:=bif ieq x.1 3 then((lE' (EGS.s x).3/\((0:Int)<=(EGS.s x).2/\(EGS.s x).2<=(100000:Int))/\(-1000000:Int)<=(0:Int)/\(0:Int)<=(1000000:Int))/\True)/\K (.slice 5 0 (List.length (keyF (EGS.s x).3 (EGS.s x).2 0)) 1) [w3k x,w3j x,some (.ints (some .u64) (EGS.s x).3),some (.abs (.hist x.6) []),some (.abs (.wrow x.7) []),iI' (keyF (EGS.s x).3 (EGS.s x).2 0)]else bif ieq x.1 4 then((lE' (EGS.s x).3/\((0:Int)<=(EGS.s x).2/\(EGS.s x).2<=(100000:Int))/\(-1000000:Int)<=(0:Int)/\(0:Int)<=(1000000:Int))/\True)/\K (.slice 5 0 (List.length (keyF (EGS.s x).3 (EGS.s x).2 0)) 1) [w3k x,w3j x,some (.ints (some .u64) (EGS.s x).3),some (.abs (.hist x.6) []),some (.abs (.wrow x.7) []),iI' (keyF (EGS.s x).3 (EGS.s x).2 0)]else((lE' (EGS.s x).3/\((0:Int)<=(EGS.s x).2/\(EGS.s x).2<=(100000:Int))/\(-1000000:Int)<=(0:Int)/\(0:Int)<=(1000000:Int))/\True)/\(0+List.length (keyF (EGS.s x).3 (EGS.s x).2 0)<=List.length (keyF (EGS.s x).3 (EGS.s x).2 0)/\List.length (keyF (EGS.s x).3 (EGS.s x).2 0)<=(4294967296:Nat))/\((lE' (EGS.s x).3/\((0:Int)<=(EGS.s x).2/\(EGS.s x).2<=(100000:Int))/\(-1000000:Int)<=W (0+1)/\W (0+1)<=(1000000:Int))/\True)/\(0+List.length (keyF (EGS.s x).3 (EGS.s x).2 (W (0+1)))<=List.length (keyF (EGS.s x).3 (EGS.s x).2 (W (0+1)))/\0=0/\List.length (keyF (EGS.s x).3 (EGS.s x).2 0)=List.length (List.take (List.length (keyF (EGS.s x).3 (EGS.s x).2 0)) (List.drop 0 (keyF (EGS.s x).3 (EGS.s x).2 0)))/\1=1/\List.length (keyF (EGS.s x).3 (EGS.s x).2 0)+List.length (keyF (EGS.s x).3 (EGS.s x).2 (W (0+1)))<=(4294967296:Nat))/\((lE' (EGS.s x).3/\((0:Int)<=(EGS.s x).2/\(EGS.s x).2<=(100000:Int))/\(-1000000:Int)<=W (W (0+1)+1)/\W (W (0+1)+1)<=(1000000:Int))/\True)/\(0+List.length (keyF (EGS.s x).3 (EGS.s x).2 (W (W (0+1)+1)))<=List.length (keyF (EGS.s x).3 (EGS.s x).2 (W (W (0+1)+1)))/\0=0/\List.length (keyF (EGS.s x).3 (EGS.s x).2 0)+List.length (keyF (EGS.s x).3 (EGS.s x).2 (W (0+1)))=List.length (List.take (List.length (keyF (EGS.s x).3 (EGS.s x).2 0)) (List.drop 0 (keyF (EGS.s x).3 (EGS.s x).2 0))++List.take (List.length (keyF (EGS.s x).3 (EGS.s x).2 (W (0+1)))) (List.drop 0 (keyF (EGS.s x).3 (EGS.s x).2 (W (0+1)))))/\1=1/\List.length (keyF (EGS.s x).3 (EGS.s x).2 0)+List.length (keyF (EGS.s x).3 (EGS.s x).2 (W (0+1)))+List.length (keyF (EGS.s x).3 (EGS.s x).2 (W (W (0+1)+1)))<=(4294967296:Nat))/\((lE' (EGS.s x).3/\((0:Int)<=(EGS.s x).2/\(EGS.s x).2<=(100000:Int))/\(-1000000:Int)<=W (W (W (0+1)+1)+1)/\W (W (W (0+1)+1)+1)<=(1000000:Int))/\True)/\(0+List.length (keyF (EGS.s x).3 (EGS.s x).2 (W (W (W (0+1)+1)+1)))<=List.length (keyF (EGS.s x).3 (EGS.s x).2 (W (W (W (0+1)+1)+1)))/\0=0/\List.length (keyF (EGS.s x).3 (EGS.s x).2 0)+List.length (keyF (EGS.s x).3 (EGS.s x).2 (W (0+1)))+List.length (keyF (EGS.s x).3 (EGS.s x).2 (W (W (0+1)+1)))=List.length (List.take (List.length (keyF (EGS.s x).3 (EGS.s x).2 0)) (List.drop 0 (keyF (EGS.s x).3 (EGS.s x).2 0))++List.take (List.length (keyF (EGS.s x).3 (EGS.s x).2 (W (0+1)))) (List.drop 0 (keyF (EGS.s x).3 (EGS.s x).2 (W (0+1))))++List.take (List.length (keyF (EGS.s x).3 (EGS.s x).2 (W (W (0+1)+1)))) (List.drop 0 (keyF (EGS.s x).3 (EGS.s x).2 (W (W (0+1)+1)))))/\1=1/\List.length (keyF (EGS.s x).3 (EGS.s x).2 0)+List.length (keyF (EGS.s x).3 (EGS.s x).2 (W (0+1)))+List.length (keyF (EGS.s x).3 (EGS.s x).2 (W (W (0+1)+1)))+List.length (keyF (EGS.s x).3 (EGS.s x).2 (W (W (W (0+1)+1)+1)))<=(4294967296:Nat))/\(List.length (keyF (EGS.s x).3 (EGS.s x).2 0)+List.length (keyF (EGS.s x).3 (EGS.s x).2 (W (0+1)))+List.length (keyF (EGS.s x).3 (EGS.s x).2 (W (W (0+1)+1)))+List.length (keyF (EGS.s x).3 (EGS.s x).2 (W (W (W (0+1)+1)+1)))=List.length (List.take (List.length (keyF (EGS.s x).3 (EGS.s x).2 0)) (List.drop 0 (keyF (EGS.s x).3 (EGS.s x).2 0))++List.take (List.length (keyF (EGS.s x).3 (EGS.s x).2 (W (0+1)))) (List.drop 0 (keyF (EGS.s x).3 (EGS.s x).2 (W (0+1))))++List.take (List.length (keyF (EGS.s x).3 (EGS.s x).2 (W (W (0+1)+1)))) (List.drop 0 (keyF (EGS.s x).3 (EGS.s x).2 (W (W (0+1)+1))))++List.take (List.length (keyF (EGS.s x).3 (EGS.s x).2 (W (W (W (0+1)+1)+1)))) (List.drop 0 (keyF (EGS.s x).3 (EGS.s x).2 (W (W (W (0+1)+1)+1)))))/\List.length (keyF (EGS.s x).3 (EGS.s x).2 0)+List.length (keyF (EGS.s x).3 (EGS.s x).2 (W (0+1)))+List.length (keyF (EGS.s x).3 (EGS.s x).2 (W (W (0+1)+1)))+List.length (keyF (EGS.s x).3 (EGS.s x).2 (W (W (W (0+1)+1)+1)))<=(1000000:Nat))/\K (.slice 5 0 (List.length (keyF (EGS.s x).3 (EGS.s x).2 0)+List.length (keyF (EGS.s x).3 (EGS.s x).2 (W (0+1)))+List.length (keyF (EGS.s x).3 (EGS.s x).2 (W (W (0+1)+1)))+List.length (keyF (EGS.s x).3 (EGS.s x).2 (W (W (W (0+1)+1)+1)))) 1) [w3k x,w3j x,some (.ints (some .u64) (EGS.s x).3),some (.abs (.hist x.6) []),some (.abs (.wrow x.7) []),iI' (mK (List.take (List.length (keyF (EGS.s x).3 (EGS.s x).2 0)) (List.drop 0 (keyF (EGS.s x).3 (EGS.s x).2 0))++List.take (List.length (keyF (EGS.s x).3 (EGS.s x).2 (W (0+1)))) (List.drop 0 (keyF (EGS.s x).3 (EGS.s x).2 (W (0+1))))++List.take (List.length (keyF (EGS.s x).3 (EGS.s x).2 (W (W (0+1)+1)))) (List.drop 0 (keyF (EGS.s x).3 (EGS.s x).2 (W (W (0+1)+1))))++List.take (List.length (keyF (EGS.s x).3 (EGS.s x).2 (W (W (W (0+1)+1)+1)))) (List.drop 0 (keyF (EGS.s x).3 (EGS.s x).2 (W (W (W (0+1)+1)+1))))))]
theorem KP(x:EGS)(K:AVal->aC Ob->Prop)(h:PG x K):cT' 55 [.ptr 0 0] (egG x) (eD 1 K):=by
 exact aD (E:=EI) Tryz.checked.mixed (L:=fun _ _=>some (.rounds 5)) (n:=10) (aK (by kernel_rfl) h)
def bD(x:EGS):List Int:=bif ieq x.sh 3 then keyF x.s.xs x.s.n 0 else bif ieq x.sh 4 then keyF x.s.xs x.s.n 0 else mK (keyF x.s.xs x.s.n 0++keyF x.s.xs x.s.n 1++keyF x.s.xs x.s.n 2++keyF x.s.xs x.s.n 3)
def ehiS:aH Ob:=fun args h=>match args,h with
 | [.ptr 0 0],[some (.abs (.engine x) [])]=>some (.pre (x.h.ev.length<=4294967296/\x.h.cl.length<=4294967296) (.ret (.ptr 1 0) [some (.abs (.engine x) []),some (.abs (.hist x.h) [])]))
 | _,_=>none
theorem PF:sT' 28 ehiS:=by
 intro args h o ho K hK;unfold ehiS at ho;split at ho<;>cases ho
 rename_i x;obtain⟨hp,hK⟩:=hK;have hK:K (.ptr 1 0) [some (.abs (.engine x) []),some (.abs (.hist x.h) [])]:=hK;refine aJ9 ?_;refine aJ6 (h2:=egG x) (aQ.unpack (.engine x) 0 0 (egG x) [] rfl rfl rfl rfl) ?_;refine aA.keep (KO x _ ?_);exact⟨hp,⟨⟨_,_,aGh x,hK⟩⟩⟩
def eitS:aH Ob:=fun args h=>match args,h with
 | [.ptr 0 0],[some (.abs (.engine x) [])]=>some (.pre (0<=x.s.n/\x.s.n<=100000) (.ret (.slice 1 0 (bD x).length 1) [some (.abs (.engine x) []),iI' (bD x)]))
 | _,_=>none
theorem PH:sT' 55 eitS:=by
 intro args h o ho K hK;unfold eitS at ho;split at ho<;>cases ho
 rename_i x;obtain⟨hp,hK⟩:=hK;have hK:K (.slice 1 0 (bD x).length 1) [some (.abs (.engine x) []),iI' (bD x)]:=hK;refine aJ9 ?_;refine aJ6 (h2:=egG x) (aQ.unpack (.engine x) 0 0 (egG x) [] rfl rfl rfl rfl) ?_;refine aA.keep (KP x _ ?_);have e1:W (0+1)=1:=by decide
 have e2:W (1+1)=2:=by decide
 have e3:W (2+1)=3:=by decide
 have l0:=iL x.s.xs x.s.n 0;have l1:=iL x.s.xs x.s.n 1;have l2:=iL x.s.xs x.s.n 2;have l3:=iL x.s.xs x.s.n 3;have hn:x.s.n.toNat<=100000:=by omega
 unfold PG;refine aJ (fun c1=>?_) (fun c1=>aJ (fun c2=>?_) (fun c2=>?_))
 ·have hv:bD x=keyF x.s.xs x.s.n 0:=by unfold bD;rw [c1];rfl
  rw [hv]at hK;exact⟨⟨⟨rfl,hp,by decide,by decide⟩,trivial⟩,⟨⟨_,_,PI x _,hK⟩⟩⟩
 ·have hv:bD x=keyF x.s.xs x.s.n 0:=by unfold bD;rw [c1,c2];rfl
  rw [hv]at hK;exact⟨⟨⟨rfl,hp,by decide,by decide⟩,trivial⟩,⟨⟨_,_,PI x _,hK⟩⟩⟩
 ·have hv:bD x=mK (keyF x.s.xs x.s.n 0++keyF x.s.xs x.s.n 1++keyF x.s.xs x.s.n 2++keyF x.s.xs x.s.n 3):=by unfold bD;rw [c1,c2];rfl
  rw [hv]at hK;rw [oE,List.length_append,List.length_append,List.length_append]at hK;have ht:=PI x (mK (keyF x.s.xs x.s.n 0++keyF x.s.xs x.s.n 1++keyF x.s.xs x.s.n 2++keyF x.s.xs x.s.n 3));rw [oE,List.length_append,List.length_append,List.length_append]at ht;rw [e1,e2,e3];change _<=_ at l0;change _<=_ at l1;generalize keyF x.s.xs x.s.n 0=k0 at*;generalize keyF x.s.xs x.s.n 1=k1 at*;generalize keyF x.s.xs x.s.n 2=k2 at*;generalize keyF x.s.xs x.s.n 3=k3 at*;have t0: ∀l:List Int,List.take l.length (List.drop 0 l)=l:=fun l=>by simp
  rw [t0 k0,t0 k1,t0 k2,t0 k3];have la:(k0++k1).length =k0.length+k1.length:=List.length_append;have lb:(k0++k1++k2).length =k0.length+k1.length+k2.length:=by rw [List.length_append,la]
  have lc:(k0++k1++k2++k3).length =k0.length+k1.length+k2.length+k3.length:=by rw [List.length_append,lb]
  refine⟨⟨⟨rfl,hp,by decide,by decide⟩,trivial⟩,⟨by omega,by omega⟩,⟨⟨rfl,hp,by decide,by decide⟩,trivial⟩,⟨by omega,by omega,by omega,by omega,by omega⟩,⟨⟨rfl,hp,by decide,by decide⟩,trivial⟩,⟨by omega,by omega,by omega,by omega,by omega⟩,⟨⟨rfl,hp,by decide,by decide⟩,trivial⟩,⟨by omega,by omega,by omega,by omega,by omega⟩,⟨by omega,by omega⟩,⟨⟨_,_,ht,hK⟩⟩⟩
noncomputable def EU9:=(EU8.addS 28 ehiS PF).addS 55 eitS PH
theorem nE'{P Q:Prop}(h:¬P:=by dsimp only;decide):P->Q:=fun e=>absurd e h
theorem aKj{X:Type}{K:X->Prop} : ∀ {t:Tr X},t.run K->t.ok
 | .ret x,k=>trivial
 | .ite b l r,k=>by cases b with
   | true=>exact aKj (t:=l) k
   | false=>exact aKj (t:=r) k
 | .pre p t,k=>⟨k.1,aKj (t:=t) k.2⟩
theorem aKc{X:Type}{K:X->Prop} : ∀ {t:Tr X},t.run K->K t.val
 | .ret x,k=>k
 | .ite b l r,k=>by cases b with
   | true=>exact aKc (t:=l) k
   | false=>exact aKc (t:=r) k
 | .pre p t,k=>aKc (t:=t) k.2
theorem sX{a b:Int}(h:ieq a b=true):a=b:=by simpa [cI]using h
theorem dT{a b:Int}(h:ieq a b=false):a≠b:=by simpa [cI]using h
theorem sY{a b:Int}(h:ile a b=true):a<=b:=by simpa [bZ]using h
theorem nC{a b:Int}(h:ile a b=false):b<a:=by simpa [bZ]using h
theorem Tr.run_ite{X:Type}{K:X->Prop}{b:Bool}{l r:Tr X}(h1:b=true->l.run K)(h2:b=false->r.run K):(Tr.ite b l r).run K:=aJ h1 h2
theorem aK2{X:Type}{K:X->Prop}{a b:Int}{l r:Tr X}(h1:a<b->l.run K)(h2:b<=a->r.run K):(Tr.ite (ilt a b) l r).run K:=aJ (fun h=>h1 (by simpa [bI]using h)) (fun h=>h2 (by simpa [bI]using h))
theorem Tr.run_le{X:Type}{K:X->Prop}{a b:Int}{l r:Tr X}(h1:a<=b->l.run K)(h2:b<a->r.run K):(Tr.ite (ile a b) l r).run K:=aJ (fun h=>h1 (sY h)) (fun h=>h2 (nC h))
theorem Tr.run_eq{X:Type}{K:X->Prop}{a b:Int}{l r:Tr X}(h1:a=b->l.run K)(h2:a≠b->r.run K):(Tr.ite (ieq a b) l r).run K:=aJ (fun h=>h1 (sX h)) (fun h=>h2 (dT h))
theorem aK7{X:Type}{K:X->Prop}{b:Bool}{l r:Tr X}(h1:b=false->l.run K)(h2:b=true->r.run K):(Tr.ite (!b) l r).run K:=by
 cases b with
 | true=>exact h2 rfl
 | false=>exact h1 rfl
theorem aKn{X:Type}{K:X->Prop}{b:Bool}{l r:Tr X}(h1:b=true->l.run K)(h2:b=false->r.run K):(bif b then l else r).run K:=by
 cases b with
 | true=>exact h1 rfl
 | false=>exact h2 rfl
theorem aJ4{X:Type}{K:X->Prop}{a b:Int}{l r:Tr X}(h1:a=b->l.run K)(h2:a≠b->r.run K):(bif ieq a b then l else r).run K:=aKn (fun h=>h1 (sX h)) (fun h=>h2 (dT h))
theorem aJ7{X:Type}{K:X->Prop}{p:Prop}{t:Tr X}(h1:p)(h2:t.run K):(Tr.pre p t).run K:=⟨h1,h2⟩
theorem aKd{X:Type}{K:X->Prop}{x:X}(h:K x):(Tr.ret x).run K:=h
structure lO (x:Int):Prop where
 h0:0<=x
 h1:x<=18446744073709551615
theorem DD:lO 0:=⟨by decide,by decide⟩
theorem zM(x:Int):lO (WU x):=⟨(NY x).1,(NY x).2⟩
theorem DE{xs:List Int}(h:ZC xs)(a:Int):lO (aE xs a):=⟨(vJ h a).1,(vJ h a).2⟩
theorem ZU{b:Bool}{x y:Int}(h1:b=true->lO x)(h2:lO y):lO (bif b then x else y):=by
 cases b with
 | true=>exact h1 rfl
 | false=>exact h2
theorem k9{n w:Int}(h:aN n w=true):0<=n/\n<2^w.toNat:=by
 unfold aN at h;simp only [Bool.and_eq_true,bZ,bI,dT']at h;exact h
theorem OS(b:Bool):0<=bitI b/\bitI b<=1:=by cases b<;>decide
theorem p7(a w:Int):aB 0 a w=0:=by unfold aB;rw [Int.zero_ediv,Int.zero_emod]
structure dsc (n x:Int):Prop where
 a:aB x 12 9<=n+4
 b:aB x 39 9<=n
theorem BE{a b c d e f n:Int}{m:Bool}(hn:0<=n)(hb:b<=n+4)(hd:d<=n):lO (bif dOk a b c d e f then cM a b c d m e f else 0)/\dsc n (bif dOk a b c d e f then cM a b c d m e f else 0):=by
 cases h:dOk a b c d e f with
 | false=>exact⟨DD,⟨by show aB 0 12 9<=_;rw [p7];omega,by show aB 0 39 9<=_;rw [p7];omega⟩⟩
 | true=>
   unfold dOk at h;simp only [Bool.and_eq_true]at h;obtain⟨h1,h2,h3,h4,h5,h6⟩:=h;have h1:=k9 h1;have h2:=k9 h2;have h3:=k9 h3;have h4:=k9 h4;have h5:=k9 h5;have h6:=k9 h6;have hm:=OS m;simp only [Int.reduceToNat,Int.reducePow]at h1 h2 h3 h4 h5 h6;simp only [cond_true];refine⟨⟨?_,?_⟩,⟨?_,?_⟩⟩<;>unfold cM
   ·omega
   ·omega
   ·unfold aB;simp only [Int.reduceToNat,Int.reducePow];omega
   ·unfold aB;simp only [Int.reduceToNat,Int.reducePow];omega
theorem aHt{a b c v:Int}{m:Bool} :lO (bif bif aN a 10 then bif aN b 9 then bif aN c 5 then aN v 18 else false else false else false then cR a b m c v else 0)/\ ∀n:Int,0<=n->b<=n->aB (bif bif aN a 10 then bif aN b 9 then bif aN c 5 then aN v 18 else false else false else false then cR a b m c v else 0) 10 9<=n:=by
 cases h:bif aN a 10 then bif aN b 9 then bif aN c 5 then aN v 18 else false else false else false with
 | false=>exact⟨DD,fun n hn _=>by show aB 0 10 9<=n;rw [p7];exact hn⟩
 | true=>
   cases h1:aN a 10 with
   | false=>rw [h1]at h;cases h
   | true=>
   cases h2:aN b 9 with
   | false=>rw [h1,h2]at h;cases h
   | true=>
   cases h3:aN c 5 with
   | false=>rw [h1,h2,h3]at h;cases h
   | true=>
   rw [h1,h2,h3]at h;have h:=k9 (show aN v 18=true from h)
   have h1:=k9 h1;have h2:=k9 h2;have h3:=k9 h3;have hb:=OS m;simp only [Int.reduceToNat,Int.reducePow]at h h1 h2 h3;simp only [cond_true];refine⟨⟨?_,?_⟩,fun n hn hbn=>?_⟩<;>unfold cR
   ·omega
   ·omega
   ·unfold aB;simp only [Int.reduceToNat,Int.reducePow];omega
theorem ZV{a b c v:Int}{m:Bool} :lO (bif bif aN a 10 then bif aN b 9 then bif aN c 5 then aN v 18 else false else false else false then cR a b m c v else 0):=aHt.1
theorem aEn{a b c v n:Int}{m:Bool}(hn:0<=n)(h:b<=n):aB (bif bif aN a 10 then bif aN b 9 then bif aN c 5 then aN v 18 else false else false else false then cR a b m c v else 0) 10 9<=n:=aHt.2 n hn h
theorem SS{a b c d e f:Int}{m:Bool} :lO (bif dOk a b c d e f then cM a b c d m e f else 0):=by
 rcases Int.le_total b d with h | h
 ·by_cases h0:0<=d
  ·exact(BE (n:=d) h0 (by omega) (by omega)).1
  ·exact(BE (b:=b) (n:=0) (by omega) (by omega) (by omega)).1
 ·by_cases h0:0<=b
  ·exact(BE (n:=b) h0 (by omega) (by omega)).1
  ·exact(BE (b:=b) (n:=0) (by omega) (by omega) (by omega)).1
structure MI (t n:Int) (xs:List Int):Prop where
 nx: ∀a,a<=n+4->aB (aE xs a) 10 9<=n
 ds: ∀u,0<=u->u<t->dsc n (aE xs (2*n+5+2*t+3*u+2))
structure AF (t n a v:Int):Prop where
 r:0<=a/\a<=2*n+5+2*t+3*t
 nx:a<=n+4->aB v 10 9<=n
 ds: ∀u,0<=u->u<t->a=2*n+5+2*t+3*u+2->dsc n v
theorem UN{t n a v:Int}(ht:1<=t)(hn:1<=n)(h0:0<=a)(ha:a<=n+4)(h:aB v 10 9<=n):AF t n a v/\a≠2*n+5+2*t+3*t:=⟨⟨by omega,fun _=>h,fun u h0 h1 e=>by omega⟩,by omega⟩
theorem EE{t n a v:Int}(ht:1<=t)(h0:n+5<=a)(h1:a<2*n+5+2*t)(hn:1<=n:=by omega):AF t n a v/\a≠2*n+5+2*t+3*t:=⟨⟨by omega,fun h=>by omega,fun u h0 h1 e=>by omega⟩,by omega⟩
theorem OE{t n a v u:Int}(hn:1<=n)(hu:0<=u/\u<t)(h:a=2*n+5+2*t+3*u\/a=2*n+5+2*t+3*u+1):AF t n a v/\a≠2*n+5+2*t+3*t:=⟨⟨by omega,fun h=>by omega,fun u h0 h1 e=>by omega⟩,by omega⟩
theorem UM{t n v u:Int}(hn:1<=n)(hu:0<=u/\u<t)(h:dsc n v):AF t n (2*n+5+2*t+3*u+2) v/\2*n+5+2*t+3*u+2≠2*n+5+2*t+3*t:=⟨⟨by omega,fun h=>by omega,fun u h0 h1 e=>h⟩,by omega⟩
theorem rW(xs:List Int)(a v b:Int):(aE (bA xs a v) b=v/\b=a)\/aE (bA xs a v) b=aE xs b:=by
 by_cases h:0<=a/\a<xs.length
 ·by_cases e:b=a
  ·subst e;left;rw [oD h,oB (by rw [List.length_set];exact h),gD',List.getElem?_set_self (by omega)]
   exact⟨rfl,rfl⟩
  ·right
   by_cases hb:0<=b/\b<xs.length
   ·rw [oD h,oB (by rw [List.length_set];exact hb),oB hb,gD',gD',List.getElem?_set_ne (by omega)]
   ·rw [fJ hb,fJ (by rw [iM];exact hb)]
 ·right;rw [nL h]
theorem JB{xs:List Int}{a v b:Int}(h:b≠a):aE (bA xs a v) b=aE xs b:=by
 rcases rW xs a v b with⟨_,e⟩ | e
 ·exact absurd e h
 ·exact e
theorem aEq{xs:List Int}{a v:Int}(h:0<=a/\a<xs.length):aE (bA xs a v) a=v:=by
 rw [oD h,oB (by rw [List.length_set];exact h),gD',List.getElem?_set_self (by omega)];rfl
theorem aEe{t n:Int}{xs:List Int}{a v:Int}(h:MI t n xs)(ha:AF t n a v):MI t n (bA xs a v):=by
 refine⟨fun b hb=>?_,fun u h0 h1=>?_⟩
 ·rcases rW xs a v b with⟨e,rfl⟩ | e
  ·rw [e];exact ha.nx hb
  ·rw [e];exact h.nx b hb
 ·rcases rW xs a v (2*n+5+2*t+3*u+2)with⟨e,e2⟩ | e
  ·rw [e];exact ha.ds u h0 h1 e2.symm
  ·rw [e];exact h.ds u h0 h1
structure D3 (t n:Int) (s s':MS):Prop where
 c:s'.c=s.c+1
 len:s'.xs.length=s.xs.length
 w:ZC s.xs->ZC s'.xs
 th:s'.t=s.t
 nh:s'.n=s.n
 m:MI t n s.xs->MI t n s'.xs
 z: ∀b,b≠s'.a->aE s'.xs b=aE s.xs b
 ra:0<=s'.a/\s'.a<=2*n+5+2*t+3*t
structure kW (t n:Int) (s s':MS):Prop where
 a:D3 t n s s'
 k:aE s'.xs (2*n+5+2*t+3*t)=aE s.xs (2*n+5+2*t+3*t)
theorem uD(t n:Int)(s:MS)(k a o w:Int)(ok:Bool)(hr:0<=a/\a<=2*n+5+2*t+3*t):kW t n s ⟨s.t,s.n,s.xs,s.c+1,k,a,o,w,ok⟩:=⟨⟨rfl,rfl,id,rfl,rfl,id,fun _ _=>rfl,hr⟩,rfl⟩
theorem AE(t n:Int)(s:MS)(b v k o w:Int)(ok:Bool)(h:lO v)(ha:AF t n b v):D3 t n s ⟨s.t,s.n,bA s.xs b v,s.c+1,k,b,o,w,ok⟩:=⟨rfl,iM _ _ _,fun hw=>ZD hw ⟨h.h0,h.h1⟩,rfl,rfl,fun hm=>aEe hm ha,fun _ hb=>JB hb,ha.r⟩
theorem pW(t n:Int)(s:MS)(b v k o w:Int)(ok:Bool)(h:lO v)(ha:AF t n b v/\b≠2*n+5+2*t+3*t):kW t n s ⟨s.t,s.n,bA s.xs b v,s.c+1,k,b,o,w,ok⟩:=⟨AE t n s b v k o w ok h ha.1,JB (fun e=>ha.2 e.symm)⟩
theorem HQ(t n:Int)(s:MS)(q:Bool)(b v k o w:Int)(ok:Bool)(h:lO v)(ha:AF t n b v/\b≠2*n+5+2*t+3*t):kW t n s ⟨s.t,s.n,bif q then bA s.xs b v else s.xs,s.c+1,k,b,o,w,ok⟩:=by
 cases q with
 | true=>exact pW t n s b v k o w ok h ha
 | false=>exact uD t n s k b o w ok ha.1.r
theorem VR(x a:Int)(w:Int):0<=aB x a w/\aB x a w<2^w.toNat:=VP
structure Bnd (t n:Int) (s:MS):Prop where
 ht:1<=t/\t<=1000
 hn:1<=n/\n<=1000
 hc:0<=s.c/\s.c<=900000
 hw:ZC s.xs
 mi:MI t n s.xs
 ln:(s.xs.length:Int)=2*n+5+2*t+3*t+1
theorem kF{P:Prop}(h:P:=by(with_reducible first | exact DD | exact zM _ | exact SS | exact ZV | assumption)):P:=h
theorem uP{P:Prop}(h:P:=by(simp only [aB,Int.reduceToNat,Int.reducePow];omega)):P:=h
theorem fO{P:Prop}(h:P:=by(first
 | (with_reducible assumption)
 | omega
 | (with_reducible exact MI.nx (by assumption) _ (by omega))
 | ((with_reducible refine aEn ?_ ?_)<;>omega)
 | (rw [p7];omega))):P:=h
theorem qC{P:Prop}(h:P:=by(first
 | (with_reducible assumption)
 | (with_reducible exact MI.ds (by assumption) _ (by omega) (by omega))
 | (with_reducible exact(BE (by omega) (by omega) (by omega)).2))):P:=h
theorem HR{P:Prop}(h:P:=by(first
 | ((with_reducible refine UM ?_ ⟨?_,?_⟩ ?_)<;>first | omega | exact qC)
 | (exact EE (by omega) (by omega) (by omega))
 | (exact UN (by omega) (by omega) (by omega) (by omega) fO))):P:=h
theorem b8{P:Prop}(h:P:=by(first
 | with_reducible exact trivial
 | with_reducible rfl
 | with_reducible assumption
 | ((with_reducible refine uD _ _ _ _ _ _ _ _ ?_);omega)
 | ((with_reducible refine pW _ _ _ _ _ _ _ _ _ ?_ ?_);exact kF;exact HR)
 | ((with_reducible refine HQ _ _ _ _ _ _ _ _ _ _ ?_ ?_);exact kF;exact HR)
 | omega
 | exact uP
 | decide)):P:=h
theorem TL{P:Prop}(h:P:=by first | exact kF | (exact DE (by assumption) _)):P:=h
theorem JL{P:Prop}(h:P:=by(dsimp only;first | omega | (constructor<;>omega) | exact uP)):P:=h
theorem fM{P:Prop}(h:P:=by(dsimp only;first
 | (with_reducible assumption)
 | decide
 | omega
 | (constructor<;>omega)
 | exact fO
 | exact qC
 | (intro e;exact absurd e (by decide))
 | (intro _;exact qC)
 | exact uP)):P:=h
structure clW (t n:Int) (x:CLS):Prop where
 h:x.at'=0\/x.at'=1\/x.at'=2\/x.at'=3
 ad:0<=x.addr/\x.addr<=n+4
 nx:x.at'≠0->aB x.word 10 9<=n/\0<=aB x.word 20 5 - 1/\aB x.word 20 5 - 1<t
 fo:x.at'=2->dsc n x.found
structure aFR (t n:Int) (s:MS) (o:ClO):Prop where
 a:kW t n s o.s
 w:o.d=false->clW t n o.x
theorem aAF{t n:Int}{x:CLS}{s:MS}(hb:Bnd t n s)(hx:clW t n x):(clT t n x s).run (aFR t n s):=by
 obtain⟨⟨t0,t1⟩,⟨n0,n1⟩,⟨c0,c1⟩,hw,hmi,hln⟩:=hb;obtain⟨h,⟨had0,had⟩,hnx,hfo⟩:=hx;unfold clT;refine aJ4 (fun h0=>?c0) (fun h0=>aJ4 (fun h1=>?c1) (fun h1=>aJ4 (fun h2=>?c2) (fun h2=>aJ4 (fun h3=>?c3) (fun h3=>?c4))))
 case' c0=>unfold AW
 case' c1=>obtain⟨w1,w2,w3⟩:=hnx (by omega);unfold AX w04 w06 w05
 case' c2=>obtain⟨w1,w2,w3⟩:=hnx (by omega);have hfo:=hfo h2;obtain⟨f1,f2⟩:=hfo;unfold AY w06 w05
 case' c3=>obtain⟨w1,w2,w3⟩:=hnx (by omega);unfold AZ
 case c4=>omega
 all_goals (repeat' (with_reducible first | exact trivial | rfl | assumption | refine aJ7 ?_ ?_ | refine aK2 (fun _=>?_) (fun _=>?_) | refine Tr.run_ite (fun _=>?_) (fun _=>?_) | refine aKd ?_ | refine And.intro ?_ ?_))
 all_goals first | exact b8 | (refine⟨by exact b8,fun hd=>?_⟩;first | (exact Bool.noConfusion hd) | ((try replace hd:=nC hd);exact⟨fM,fM,fun _=>⟨fM,fM,fM⟩,fM⟩))
theorem FG{t n:Int}{x:CLS}{s:MS}(hb:Bnd t n s)(hx:clW t n x):OV t n x s:=aKj (aAF hb hx)
theorem yM{t n:Int}{x:CLS}{s:MS}(hb:Bnd t n s)(hx:clW t n x):aFR t n s (oM t n x s):=aKc (aAF hb hx)
structure hdW (t:Int) (x:HDS):Prop where
 h:0<=x.at'/\x.at'<t
 u: -1<=x.u/\x.u<t
structure aGQ (t n:Int) (s:MS) (o:HdO):Prop where
 a:kW t n s o.s
 w:o.d=false->hdW t o.x
 p: -1<=o.x.u/\o.x.u<t
theorem aAW{t n:Int}{x:HDS}{s:MS}(hb:Bnd t n s)(hx:hdW t x):(hdT t n x s).run (aGQ t n s):=by
 obtain⟨⟨t0,t1⟩,⟨n0,n1⟩,⟨c0,c1⟩,hw,hmi,hln⟩:=hb;obtain⟨⟨h0,h1⟩,⟨u0,u1⟩⟩:=hx;have hW:W (x.at'+1)=x.at'+1:=cH ⟨by omega,by omega⟩
 unfold hdT;unfold YA w08 w07;rw [hW]
 (repeat' (with_reducible first | exact trivial | rfl | assumption | refine aJ7 ?_ ?_ | refine Tr.run_ite (fun _=>?_) (fun _=>?_) | refine aKd ?_ | refine And.intro ?_ ?_))
 all_goals first | exact b8 | (refine⟨by exact b8,fun hd=>by first | (exact Bool.noConfusion hd) | ((try replace hd:=nC hd);exact⟨fM,fM⟩),?_⟩;exact JL)
theorem aDQ{t n:Int}{x:HDS}{s:MS}(hb:Bnd t n s)(hx:hdW t x):aDN t n x s:=aKj (aAW hb hx)
theorem aDR{t n:Int}{x:HDS}{s:MS}(hb:Bnd t n s)(hx:hdW t x):aGQ t n s (pR t n x s):=aKc (aAW hb hx)
structure drW (t:Int) (x:DRS):Prop where
 h:0<=x.th/\x.th<t
 u:0<=x.at'/\x.at'<=1
structure aFW (t n:Int) (s:MS) (o:DrO):Prop where
 a:kW t n s o.s
 w:o.d=false->drW t o.x
theorem aAJ{t n:Int}{x:DRS}{s:MS}(hb:Bnd t n s)(hx:drW t x):(drT t n x s).run (aFW t n s):=by
 obtain⟨⟨t0,t1⟩,⟨n0,n1⟩,⟨c0,c1⟩,hw,hmi,hln⟩:=hb;obtain⟨⟨h0,h1⟩,⟨u0,u1⟩⟩:=hx;have hW:W (x.at'+1)=x.at'+1:=cH ⟨by omega,by omega⟩
 unfold drT;unfold WN;rw [hW]
 (repeat' (with_reducible first | exact trivial | rfl | assumption | refine aJ7 ?_ ?_ | refine Tr.run_ite (fun _=>?_) (fun _=>?_) | refine aKd ?_ | refine And.intro ?_ ?_))
 all_goals first | exact b8 | (refine⟨by exact b8,fun hd=>?_⟩;first | (exact Bool.noConfusion hd) | ((try replace hd:=nC hd);exact⟨fM,fM⟩))
theorem aCG{t n:Int}{x:DRS}{s:MS}(hb:Bnd t n s)(hx:drW t x):aCD t n x s:=aKj (aAJ hb hx)
theorem aCH{t n:Int}{x:DRS}{s:MS}(hb:Bnd t n s)(hx:drW t x):aFW t n s (TY t n x s):=aKc (aAJ hb hx)
structure anW (t:Int) (x:ANS):Prop where
 h:x.at'=0\/x.at'=1\/x.at'=2\/x.at'=3\/x.at'=4
 m:0<=x.me/\x.me<t
 b:lO x.bits
 q:lO x.no
 g:x.wrong=false
def drew(t n:Int)(b:Prop)(s s':MS):Prop:=(b/\aE s'.xs (2*n+5+2*t+3*t)=WU (aE s.xs (2*n+5+2*t+3*t)+1))\/(¬b/\aE s'.xs (2*n+5+2*t+3*t)=aE s.xs (2*n+5+2*t+3*t))
structure UT (t n:Int) (s:MS) (x:ANS) (o:AnO):Prop where
 a:D3 t n s o.s
 w:o.d=false->anW t o.x
 k:drew t n (x.at'=1) s o.s
 e:o.x.at'=x.at'+1
 f:o.d=true->x.at'=4
theorem aCI{t n:Int}{b:Prop}{s s':MS}(h:kW t n s s')(hb: ¬b):drew t n b s s':=.inr ⟨hb,h.k⟩
theorem aBT{t n:Int}{s s':MS}{x:ANS}{o:AnO}(h:kW t n s o.s)(hb: ¬x.at'=1)(hw:o.d=false->anW t o.x)(he:o.x.at'=x.at'+1)(hf:o.d=true->x.at'=4):UT t n s x o:=⟨h.a,hw,aCI h hb,he,hf⟩
theorem aAw{t n:Int}{x:ANS}{s:MS}(hb:Bnd t n s)(hx:anW t x):(anT t n x s).run (UT t n s x):=by
 obtain⟨⟨t0,t1⟩,⟨n0,n1⟩,⟨c0,c1⟩,hw,hmi,hln⟩:=hb;obtain⟨h,⟨m0,m1⟩,b,q,g⟩:=hx;have had:=fun v=>OE (n:=n) (v:=v) n0 ⟨m0,m1⟩ (.inl rfl);have hae:=fun v=>OE (n:=n) (v:=v) n0 ⟨m0,m1⟩ (.inr rfl);unfold anT;refine aJ4 (fun h0=>?c0) (fun h0=>aJ4 (fun h1=>?c1) (fun h1=>aJ4 (fun h2=>?c2) (fun h2=>aJ4 (fun h3=>?c3) (fun h3=>aJ4 (fun h4=>?c4) (fun h4=>?c5)))))
 case' c0=>unfold AI w09
 case' c1=>unfold AJ
 case' c2=>unfold AK w09
 case' c3=>unfold AM w09
 case' c4=>unfold AN w09
 case c5=>omega
 all_goals rw [g];refine Tr.run_ite (fun e=>Bool.noConfusion e) (fun _=>?_)
 all_goals (repeat' (with_reducible first | exact trivial | rfl | assumption | refine aJ7 ?_ ?_ | refine Tr.run_ite (fun _=>?_) (fun _=>?_) | refine aKd ?_ | refine And.intro ?_ ?_))
 all_goals first | exact b8 | (refine⟨AE _ _ _ _ _ _ _ _ _ (zM _) ⟨by omega,fun h=>by omega,fun u h0 h1 e=>by omega⟩,fun _=>⟨fM,⟨m0,m1⟩,by assumption,by exact TL,rfl⟩,.inl ⟨by assumption,aEq ⟨by omega,by omega⟩⟩,by rw [show x.at'=1 by assumption];rfl,fun e=>Bool.noConfusion e⟩) | (refine aBT (s':=s) (by first | exact b8 | exact pW _ _ _ _ _ _ _ _ _ kF (had _) | exact pW _ _ _ _ _ _ _ _ _ kF (hae _)) (by omega) (fun hd=>?_) (by(have e:x.at'=_:=(by assumption));rw [e];rfl) (by first | (intro e;exact Bool.noConfusion e) | (intro _;assumption));first | (exact Bool.noConfusion hd) | exact⟨fM,⟨m0,m1⟩,by assumption,by exact TL,rfl⟩)
theorem aBU{t n:Int}{x:ANS}{s:MS}(hb:Bnd t n s)(hx:anW t x):aBR t n x s:=aKj (aAw hb hx)
theorem aBV{t n:Int}{x:ANS}{s:MS}(hb:Bnd t n s)(hx:anW t x):UT t n s x (EP t n x s):=aKc (aAw hb hx)
def dZ(n:Int)(l:List Int):Prop:= ∀r∈l,1<=r/\r<=n
theorem sC{n:Int} :dZ n []:=fun r h=>nomatch h
theorem vZ{n:Int}{l:List Int}{a:Int}(h:dZ n l)(ha:1<=a/\a<=n):dZ n (l++ [a]):=by
 intro r hr;rcases List.mem_append.1 hr with h1 | h1
 ·exact h r h1
 ·rw [List.mem_singleton.1 h1];exact ha
theorem NB{n:Int}{l m:List Int}(h:dZ n l)(hm:dZ n m):dZ n (l++m):=by
 intro r hr;rcases List.mem_append.1 hr with h1 | h1
 ·exact h r h1
 ·exact hm r h1
theorem yK(t n a:Int):p5 t n a:=⟨⟨rfl,rfl⟩,trivial⟩
theorem FF{t n a:Int}(h:0<=a/\a<=n+4):clW t n (yJ t n a):=⟨.inl rfl,h,fun e=>absurd rfl e,fun e=>absurd e (by show¬(0:Int)=2;decide)⟩
theorem VO(x a:Int):0<=aB x a 9:=by
 have:=VR x a 9;omega
theorem HW{x a:Int}(h:aB x a 9≠0):1<=aB x a 9:=by
 have:=VO x a;omega
structure IB (t n b:Int) (x:FNS):Prop where
 m:0<=x.me/\x.me<t
 pr:0<=x.pred/\x.pred<=n+4
 pw:aB x.pw 10 9<=n
 cu:0<=x.curr/\x.curr<=n
 cw:aB x.cw 10 9<=n
 fr:0<=x.frm/\x.frm<=n+4
 ul:dZ n x.ul
 ln:(x.ul.length:Int)<=b
structure XF (t n:Int) (x:FNS):Prop where
 h:x.at'=0\/x.at'=1\/x.at'=2\/x.at'=3\/x.at'=4\/x.at'=5\/x.at'=6
 cl:x.at'=4->clW t n x.cl
 c1:x.at'≠0->1<=x.curr
structure aGr (t n b:Int) (s:MS) (o:FnO):Prop where
 a:kW t n s o.s
 q:IB t n (b+1) o.x
 w:o.d=false->XF t n o.x
theorem aDi{P:Prop}(h:P:=by(refine⟨?_,⟨?_,?_,?_,?_,?_,?_,?_,?_⟩,fun hd=>?_⟩<;>first
 | exact b8
 | (exact(yM (by assumption) (by assumption)).a)
 | (dsimp only;with_reducible assumption)
 | (constructor<;>assumption)
 | (dsimp only;omega)
 | (exact⟨VO _ _,fO⟩)
 | (dsimp only;exact fO)
 | (exact vZ (by assumption) ⟨by assumption,by assumption⟩)
 | exact sC
 | (dsimp only;simp only [List.length_append,List.length_singleton,List.length_nil];omega)
 | exact Bool.noConfusion hd
 | exact⟨by dsimp only;decide,fun e=>absurd e (by dsimp only;decide),fun e=>absurd rfl e⟩
 | exact⟨by dsimp only;decide,fun e=>absurd e (by dsimp only;decide),fun _=>by dsimp only;first | omega | exact HW (dT hd) | exact HW (by assumption)⟩
 | exact⟨by dsimp only;decide,fun e=>(yM (by assumption) (by assumption)).w (by assumption),fun _=>by dsimp only;omega⟩
 | exact⟨by dsimp only;decide,fun e=>by dsimp only;with_reducible exact FF (by omega),fun _=>by dsimp only;omega⟩)):P:=h
theorem aAP{t n b:Int}{x:FNS}{s:MS}(hb:Bnd t n s)(hx:XF t n x)(hq:IB t n b x)(hbb:b<=900000):(fnT t n x s).run (aGr t n b s):=by
 have hb':=hb;obtain⟨⟨t0,t1⟩,⟨n0,n1⟩,⟨c0,c1⟩,hw,hmi,hln⟩:=hb;obtain⟨h,hcl,hc1⟩:=hx;obtain⟨⟨m0,m1⟩,⟨hpr0,hpr⟩,hpw,⟨q0,q1⟩,hcw,⟨hfr0,hfr⟩,hul,hul2⟩:=hq;have b0:0<=b:=by omega
 unfold fnT;refine aJ4 (fun h0=>?c0) (fun h0=>aJ4 (fun h1=>?c1) (fun h1=>aJ4 (fun h2=>?c2) (fun h2=>aJ4 (fun h3=>?c3) (fun h3=>aJ4 (fun h4=>?c4) (fun h4=>aJ4 (fun h5=>?c5) (fun h5=>aJ4 (fun h6=>?c6) (fun h6=>?c7)))))))
 case' c0=>unfold BX w0y w16 w0x w0u w13 w0v w15
 case' c1=>have hcu:=hc1 (by omega);unfold BY
 case' c2=>have hcu:=hc1 (by omega);unfold BZ w0y w16 w0x w0u w13 w15 w0v
 case' c3=>have hcu:=hc1 (by omega);unfold B0
 case' c4=>have hcu:=hc1 (by omega);have hcl4:=hcl h4;have hclo:=FG hb' hcl4;unfold B1 w11 w0v
 case' c5=>have hcu:=hc1 (by omega);unfold B2 w0r w0w w0s w11 w0v
 case' c6=>have hcu:=hc1 (by omega);unfold B3 w0v w19 w17
 case c7=>omega
 all_goals (repeat' (with_reducible first | exact trivial | rfl | assumption | refine aJ7 ?_ ?_ | refine Tr.run_eq (fun _=>?_) (fun _=>?_) | refine aK2 (fun _=>?_) (fun _=>?_) | refine Tr.run_le (fun _=>?_) (fun _=>?_) | refine Tr.run_ite (fun _=>?_) (fun _=>?_) | refine aKd ?_ | refine And.intro ?_ ?_))
 all_goals first | exact b8 | exact yK _ _ _ | (simp only [List.length_append,List.length_singleton];done) | exact aDi
theorem FS{t n b:Int}{x:FNS}{s:MS}(hb:Bnd t n s)(hx:XF t n x)(hq:IB t n b x)(hbb:b<=900000):K6 t n x s:=aKj (aAP hb hx hq hbb)
theorem FT{t n b:Int}{x:FNS}{s:MS}(hb:Bnd t n s)(hx:XF t n x)(hq:IB t n b x)(hbb:b<=900000):aGr t n b s (aM t n x s):=aKc (aAP hb hx hq hbb)
theorem eF(sh ky:Int):0<=fA sh ky/\fA sh ky<=3:=by
 unfold fA;cases ieq sh 2 with
 | true=>exact⟨Int.emod_nonneg _ (by decide),by have:=Int.emod_lt_of_pos ky (b:=4) (by decide);show ky%4<=3;omega⟩
 | false=>exact⟨Int.le_refl 0,(by decide:(0:Int)<=3)⟩
theorem FR{t n me hd key lim:Int}(hn:1<=n/\n<=1000)(hm:0<=me/\me<t)(hh:0<=hd/\hd<=3):(PZ t n me hd key lim).run (fun x=>XF t n x/\IB t n 0 x):=by
 obtain⟨n0,n1⟩:=hn;obtain⟨m0,m1⟩:=hm;obtain⟨e0,e1⟩:=hh;unfold PZ w1a
 (repeat' (with_reducible first | exact trivial | rfl | assumption | refine aJ7 ?_ ?_ | refine Tr.run_ite (fun _=>?_) (fun _=>?_) | refine aKd ?_ | refine And.intro ?_ ?_))
 all_goals first | exact b8 | exact⟨by dsimp only;decide,fun e=>absurd e (by dsimp only;decide),fun e=>absurd rfl e⟩ | exact⟨⟨m0,m1⟩,by dsimp only;omega,fO,⟨(by decide:(0:Int)<=0),by dsimp only;omega⟩,fO,by dsimp only;omega,sC,(by decide:((0:Nat):Int)<=0)⟩
structure plnW (n:Int) (p:PLN):Prop where
 ad:0<=p.addr/\p.addr<=n+4
 ol:aB p.old 10 9<=n
 nx:p.nxt<=n
 ps:0<=p.pops/\p.pops<=n
theorem JC(sh kd ky:Int){n pred pw cw sp curr:Int}(hn:1<=n)(hp:0<=pred/\pred<=n+4)(hpw:aB pw 10 9<=n)(hc:0<=curr/\curr<=n)(hcw:aB cw 10 9<=n)(hs:sp<=n):(C5 sh kd ky pred pw curr cw sp).run (plnW n):=by
 obtain⟨c0,c1⟩:=hc;obtain⟨p0,p1⟩:=hp;unfold C5 w00 w02 w01 w03
 (repeat' (with_reducible first | exact trivial | rfl | assumption | refine aJ7 ?_ ?_ | refine Tr.run_ite (fun _=>?_) (fun _=>?_) | refine aKd ?_ | refine And.intro ?_ ?_))
 all_goals first | exact b8 | (refine⟨⟨?_,?_⟩,?_,?_,⟨?_,?_⟩⟩<;>dsimp only<;>exact fO)
theorem C7(sh kd ky:Int){t n b:Int}{x:FNS}{sp:Int}(hn:1<=n)(q:IB t n b x)(hs:sp<=n):vT sh kd ky x.1 x.2 x.3 x.4 sp:=aKj (JC sh kd ky hn q.pr q.pw q.cu q.cw hs)
theorem zI(sh kd ky:Int){t n b:Int}{x:FNS}{sp:Int}(hn:1<=n)(q:IB t n b x)(hs:sp<=n):plnW n (bL sh kd ky x.1 x.2 x.3 x.4 sp):=aKc (JC sh kd ky hn q.pr q.pw q.cu q.cw hs)
theorem C6{n:Int}(hn:1<=n)(a b c d e f:_){g:Int}(h i:_)(hg:g<=n):(vU a b c d e f g h i).run (fun v=>lO v/\aB v 10 9<=n):=by
 unfold vU
 (repeat' (with_reducible first | exact trivial | rfl | assumption | refine aJ7 ?_ ?_ | refine Tr.run_ite (fun _=>?_) (fun _=>?_) | refine aKd ?_ | refine And.intro ?_ ?_))
 all_goals first | exact b8 | exact kF | exact fO
theorem MM{n:Int}(hn:1<=n){p:PLN}(h:plnW n p):zH p.1 p.2 p.3 p.4 p.5 p.6 p.7 p.8 p.9:=aKj (C6 hn _ _ _ _ _ _ _ _ h.nx)
theorem MK{n:Int}(hn:1<=n){p:PLN}(h:plnW n p):lO (dS p.1 p.2 p.3 p.4 p.5 p.6 p.7 p.8 p.9)/\aB (dS p.1 p.2 p.3 p.4 p.5 p.6 p.7 p.8 p.9) 10 9<=n:=aKc (C6 hn _ _ _ _ _ _ _ _ h.nx)
theorem C4{n:Int}(hn:1<=n)(a b c d:_){e:Int}(f:_){g:Int}(h i j:_)(he:0<=e/\e<=n+4)(hg:g<=n):(vS a b c d e f g h i j).run (fun r=>lO r.1/\dsc n r.1):=by
 obtain⟨he0,he⟩:=he;unfold vS
 (repeat' (with_reducible first | exact trivial | rfl | assumption | refine aJ7 ?_ ?_ | refine Tr.run_ite (fun _=>?_) (fun _=>?_) | refine aKd ?_ | refine And.intro ?_ ?_))
 all_goals first | exact b8 | (dsimp only;first | exact kF | exact qC | exact⟨fO,fO⟩ | exact⟨by rw [p7];omega,by rw [p7];omega⟩)
theorem MH{n:Int}(hn:1<=n){p:PLN}(h:plnW n p)(j:Int):zG p.1 p.2 p.3 p.4 p.5 p.6 p.7 p.8 p.9 j:=aKj (C4 hn _ _ _ _ _ _ _ _ h.ad h.nx)
theorem MG{n:Int}(hn:1<=n){p:PLN}(h:plnW n p)(j:Int):lO (iW p.1 p.2 p.3 p.4 p.5 p.6 p.7 p.8 p.9 j).1/\dsc n (iW p.1 p.2 p.3 p.4 p.5 p.6 p.7 p.8 p.9 j).1:=aKc (C4 hn _ _ _ _ _ _ _ _ h.ad h.nx)
theorem C3(a b c d e f g h i):(vP a b c d e f g h i).run (fun _=>True):=by
 unfold vP
 (repeat' (with_reducible first | exact trivial | rfl | assumption | refine aJ7 ?_ ?_ | refine Tr.run_ite (fun _=>?_) (fun _=>?_) | refine aKd ?_ | refine And.intro ?_ ?_))
 all_goals exact b8
theorem xX(p:PLN):oC p.1 p.2 p.3 p.4 p.5 p.6 p.7 p.8 p.9:=aKj (C3 _ _ _ _ _ _ _ _ _)
theorem vQ(a b c d e f g h i):oC a b c d e f g h i:=aKj (C3 _ _ _ _ _ _ _ _ _)
theorem fG{t n b c:Int}{x:FNS}(h:IB t n b x)(hbc:b<=c):IB t n c x:=⟨h.m,h.pr,h.pw,h.cu,h.cw,h.fr,h.ul,Int.le_trans h.ln hbc⟩
theorem tV{t n me hd key lim:Int}(hn:1<=n/\n<=1000)(hm:0<=me/\me<t)(hh:0<=hd/\hd<=3):oO t n me hd key lim:=aKj (FR hn hm hh)
theorem IA{t n me hd key lim:Int}(hn:1<=n/\n<=1000)(hm:0<=me/\me<t)(hh:0<=hd/\hd<=3):XF t n (u3 t n me hd key lim):=by
 have h:=aKc (FR (key:=key) (lim:=lim) hn hm hh);exact h.1
theorem H9{t n me hd key lim:Int}(hn:1<=n/\n<=1000)(hm:0<=me/\me<t)(hh:0<=hd/\hd<=3):IB t n 0 (u3 t n me hd key lim):=by
 have h:=aKc (FR (key:=key) (lim:=lim) hn hm hh);exact h.2
structure prW (n:Int) (x:PRS):Prop where
 h:x.nxt<=n
theorem aEw(t:Int){n:Int}(key:Int){nx:Int}(st:STS)(h:nx<=n):(MO t n key nx st).run (fun r=>prW n r.1/\r.2=st):=⟨⟨rfl,rfl,rfl⟩,⟨h⟩,rfl⟩
theorem JD(t n key nx:Int)(st:STS):C8 t n key nx st:=aKj (t:=MO t n key nx st) (K:=fun _=>True) ⟨⟨rfl,rfl,rfl⟩,trivial⟩
theorem aA9(t:Int){n:Int}(key:Int){nx:Int}(st:STS)(h:nx<=n):prW n (pJ t n key nx st).1:=(aKc (aEw t key st h)).1
theorem SE(t n key nx:Int)(st:STS):(pJ t n key nx st).2=st:=aKc (t:=MO t n key nx st) (K:=fun r=>r.2=st) (aJ7 ⟨rfl,rfl,rfl⟩ (aKd rfl))
structure stW (t n b:Int) (st:STS):Prop where
 m:0<=st.me/\st.me<t
 sp:0<=st.sp/\st.sp<=n
 r:dZ n st.R
 ln:(st.R.length:Int)<=b
theorem iP{t n b c:Int}{st:STS}(h:stW t n b st)(hbc:b<=c):stW t n c st:=⟨h.m,h.sp,h.r,Int.le_trans h.ln hbc⟩
theorem zO{t n b:Int}{st:STS}{x:FNS}(h:stW t n b st)(hq:IB t n (b - st.R.length+1) x):stW t n (b+1) {me:=st.me,sp:=st.sp,R:=st.R++x.ul} :=
 ⟨h.m,h.sp,NB h.r hq.ul,by have:=hq.ln;simp only [List.length_append];omega⟩
theorem DJ{t n b:Int}{st:STS}{k a:Int}(h:stW t n b st)(hk:0<=k/\k<=n)(ha:1<=a/\a<=n):stW t n (b+1) {me:=st.me,sp:=k,R:=st.R++ [a] } :=
 ⟨h.m,hk,vZ h.r ha,by have:=h.ln;simp only [List.length_append,List.length_singleton];omega⟩
theorem S3{t n b:Int}{st:STS}(h:stW t n b st){k:Int}(hk:0<=k/\k<=n):stW t n (b+1) {me:=st.me,sp:=k,R:=st.R} :=⟨h.m,hk,h.r,by have:=h.ln;show(st.R.length:Int)<=_;omega⟩
structure aHn (t n:Int) (s:MS) (st:STS) (o:PrO):Prop where
 a:kW t n s o.s
 w:o.d=false->prW n o.x
 st:o.st=st
theorem aBb{t n b:Int}{x:PRS}{st:STS}{s:MS}(hb:Bnd t n s)(hx:prW n x)(hst:stW t n b st):(prT t n x st s).run (aHn t n s st):=by
 obtain⟨⟨t0,t1⟩,⟨n0,n1⟩,⟨c0,c1⟩,hw,hmi,hln⟩:=hb;obtain⟨h⟩:=hx;obtain⟨s0,s1⟩:=hst.sp;unfold prT;unfold ZL
 (repeat' (with_reducible first | exact trivial | rfl | assumption | refine aJ7 ?_ ?_ | refine Tr.run_ite (fun _=>?_) (fun _=>?_) | refine aKd ?_ | refine And.intro ?_ ?_))
 all_goals first | exact b8 | (refine⟨by exact b8,fun hd=>?_,rfl⟩;first | (exact Bool.noConfusion hd) | exact⟨by assumption⟩)
theorem SH{t n b:Int}{x:PRS}{st:STS}{s:MS}(hb:Bnd t n s)(hx:prW n x)(hst:stW t n b st):SF t n x st s:=aKj (aBb hb hx hst)
theorem SI{t n b:Int}{x:PRS}{st:STS}{s:MS}(hb:Bnd t n s)(hx:prW n x)(hst:stW t n b st):aHn t n s st (prF t n x st s):=aKc (aBb hb hx hst)
structure XP (t n b:Int) (st:STS) (x:FTS):Prop where
 h:x.at'=0\/x.at'=1\/x.at'=2\/x.at'=3
 fn:x.at'=0->XF t n x.fn/\IB t n (b - st.R.length) x.fn
 cl:x.at'=1->clW t n x.cl
 pr:x.at'=2->prW n x.pr
 ps:plnW n x.p
structure aGu (t n b:Int) (s:MS) (o:FtO):Prop where
 a:kW t n s o.s
 st:stW t n (b+1) o.st
 w:o.d=false->XP t n (b+1) o.st o.x
theorem SD{n:Int}(hn:1<=n)(a:Bool)(b:Int)(c:Bool)(d:Int)(e:Bool):plnW n ⟨a,b,c,d,0,0,0,e,0⟩:=⟨⟨Int.le_refl 0,by dsimp only;omega⟩,fO,by dsimp only;omega,⟨Int.le_refl 0,by dsimp only;omega⟩⟩
theorem aAQ{t n b:Int}{x:FTS}{st:STS}{s:MS}(hb:Bnd t n s)(hx:XP t n b st x)(hst:stW t n b st)(hbb:b<=900000):(ftT t n x st s).run (aGu t n b s):=by
 have hb':=hb;obtain⟨⟨t0,t1⟩,⟨n0,n1⟩,⟨c0,c1⟩,hw,hmi,hln⟩:=hb;obtain⟨h,hfn,hcl,hpr,hps⟩:=hx;have hR0:=hst.ln;have hst1:stW t n (b+1) st:=iP hst (by omega)
 have hnn:1<=n/\n<=1000:=⟨n0,n1⟩;have hme:=hst.m;obtain⟨s0,s1⟩:=hst.sp;have b0:0<=b:=by omega
 unfold ftT;refine aJ4 (fun h0=>?c0) (fun h0=>aJ4 (fun h1=>?c1) (fun h1=>aJ4 (fun h2=>?c2) (fun h2=>aJ4 (fun h3=>?c3) (fun h3=>?c4))))
 case' c0=>obtain⟨hfw,hfq⟩:=hfn h0;have hF:=FT hb' hfw hfq (by omega);have hFo:=FS hb' hfw hfq (by omega);have hA:=hF.a;have hQ:=hF.q;have hQl:=hQ.ln;have hS:stW t n (b+1) {me:=st.me,sp:=st.sp,R:=st.R++(aM t n x.fn s).x.ul } :=zO hst hQ;obtain⟨u0,u1⟩:=hQ.cu;unfold B5 w1b w1i w1d
 case' c1=>have hc:=hcl h1;have hC:=yM hb' hc;have hCo:=FG hb' hc;have hA:=hC.a;unfold B6
 case' c2=>have hp:=hpr h2;have hP:=SI hb' hp hst;have hPo:=SH hb' hp hst;have hA:=hP.a;have hPs:stW t n (b+1) (prF t n x.pr st s).st :=(by rw [hP.st];exact hst1);unfold B7
 case' c3=>obtain⟨hW,hWn⟩:=MK n0 hps;have hWo:=MM n0 hps;obtain⟨⟨q0,q1⟩,q2,q3,⟨q4,q5⟩⟩:=hps;have hps:plnW n x.p:=⟨⟨q0,q1⟩,q2,q3,⟨q4,q5⟩⟩;have hS3:stW t n (b+1) {me:=st.me,sp:=0,R:=st.R} :=S3 hst ⟨by omega,by omega⟩;unfold B8 w1c
 case c4=>omega
 all_goals (repeat' (with_reducible first | exact trivial | rfl | assumption | refine aJ7 ?_ ?_ | refine Tr.run_ite (fun _=>?_) (fun _=>?_) | refine aKd ?_ | refine And.intro ?_ ?_))
 all_goals first
  | exact b8
  | exact C7 _ _ _ n0 hQ s1
  | exact xX _
  | exact vQ _ _ _ _ _ _ _ _ _
  | exact yK _ _ _
  | exact JD _ _ _ _ _
  | exact tV hnn hme (eF _ _)
  | (simp only [List.length_append,List.length_singleton];done)
  | (refine⟨by first | assumption | exact b8,?_,fun hd=>?_⟩
     ·first
       | assumption
       | (dsimp only;rw [SE];assumption)
       | exact DJ hst ⟨by omega,by omega⟩ ⟨by rename_i e;have e:=dT (by simpa using e);omega,q5⟩
     ·first
       | exact Bool.noConfusion hd
       | (refine⟨by dsimp only;decide,?_,?_,?_,?_⟩
          ·first | (exact nE') | (intro _;exact⟨hF.w (by assumption),fG hQ (by dsimp only;omega)⟩) | (intro _;exact⟨IA hnn hme (eF _ _),fG (H9 hnn hme (eF _ _)) (by dsimp only;omega)⟩)
          ·first | (exact nE') | (intro _;dsimp only;exact FF (zI _ _ _ n0 hQ s1).ad) | (intro _;exact hC.w (by assumption))
          ·first | (exact nE') | (intro _;dsimp only;exact aA9 _ _ _ u1) | (intro _;exact hP.w (by assumption))
          ·first | exact hps | exact zI _ _ _ n0 hQ s1))
theorem aDs{t n b:Int}{x:FTS}{st:STS}{s:MS}(hb:Bnd t n s)(hx:XP t n b st x)(hst:stW t n b st)(hbb:b<=900000):XK t n x st s:=aKj (aAQ hb hx hst hbb)
theorem aDt{t n b:Int}{x:FTS}{st:STS}{s:MS}(hb:Bnd t n s)(hx:XP t n b st x)(hst:stW t n b st)(hbb:b<=900000):aGu t n b s (hO t n x st s):=aKc (aAQ hb hx hst hbb)
theorem FU{t n b sh kd ky most:Int}{st:STS}(hn:1<=n/\n<=1000)(hst:stW t n b st):(P0 t n sh kd ky most st).run (fun r=>XP t n b st r.1/\r.2=st):=by
 have hR0:=hst.ln;unfold P0
 (repeat' (with_reducible first | exact trivial | rfl | assumption | refine aJ7 ?_ ?_ | refine Tr.run_ite (fun _=>?_) (fun _=>?_) | refine aKd ?_ | refine And.intro ?_ ?_))
 all_goals first
  | exact b8
  | exact tV hn hst.m (eF _ _)
  | exact⟨by dsimp only;decide,fun _=>⟨IA hn hst.m (eF _ _),fG (H9 hn hst.m (eF _ _)) (by omega)⟩,fun e=>absurd e (by dsimp only;decide),fun e=>absurd e (by dsimp only;decide),SD hn.1 _ _ _ _ _⟩
theorem eP(t n:Int)(s:MS)(a:Int)(hr:0<=a/\a<=2*n+5+2*t+3*t):kW t n s (s.loadd a):=⟨⟨rfl,rfl,id,rfl,rfl,id,fun _ _=>rfl,hr⟩,rfl⟩
theorem wV{t n:Int}(s:MS)(a o x:Int)(ht:1<=t)(ha:1<=a/\a<=n):kW t n s (s.cased (n+4+a) o (WU x)):=HQ t n s _ _ _ _ _ _ _ (zM x) (EE ht (by omega) (by omega) (by omega))
theorem nW{t n:Int}(s:MS){gs:List Int}{j:Nat}(x:Int)(ht:1<=t)(h:dZ n gs)(hj:j<gs.length):kW t n s (s.added (bQ n gs j) x):=by
 have ha:1<=List.getD gs (j+Int.toNat 0*1) 0/\List.getD gs (j+Int.toNat 0*1) 0<=n:=by
  have e:j+Int.toNat 0*1=j:=by simp
  rw [e,gD',gE' hj];exact h _ (List.getElem_mem hj)
 exact pW t n s _ _ _ _ _ _ (zM _) (EE ht (by unfold bQ;omega) (by unfold bQ;omega) (by omega))
theorem mE{m:List (Int×Int)}{n:Int}{l:List Int}(h:dZ n l):dZ n (cF m l):=fun r hr=>h r (List.mem_filter.1 hr).1
theorem s9{m:List (Int×Int)}{n:Int}{l:List Int}(h:dZ n l):dZ n (aS m l):=fun r hr=>h r (List.mem_filter.1 hr).1
theorem CP(m:List (Int×Int))(l:List Int):(cF m l).length <=l.length:=List.length_filter_le _ _
theorem DI{n:Int}{l:List Int}(hn:n<=1000)(h:dZ n l){j:Nat}(hj:j<l.length): -1000000<=List.getD l (j+Int.toNat 0*1) 0/\List.getD l (j+Int.toNat 0*1) 0<=1000000:=by
 have e:j+Int.toNat 0*1=j:=by simp
 rw [e,gD',gE' hj];have:=h _ (List.getElem_mem hj);show _<=l[j]/\l[j]<=_;omega
theorem CU{n a:Int}(hn:1<=n)(ha:1<=a):1<=cP n a/\cP n a<=n:=by
 unfold cP;rw [Int.tmod_eq_emod_of_nonneg (by omega)]
 have:=Int.emod_nonneg a (show n≠0 by omega)
 have:=Int.emod_lt_of_pos a (show 0<n by omega)
 omega
theorem UY{t n me:Int}(hn:1<=n):1<=at0 t n me/\at0 t n me<=n:=by
 unfold at0;cases h:bC n (aO t n me)with
 | true=>exact cQ.1 h
 | false=>exact⟨(by decide:(1:Int)<=1),hn⟩
def enI(t n b:Int)(e:ENS):Prop:=match e.ph with
 | 0=>True
 | 1=>okAl n e.x
 | 2=>True
 | 3=>(dZ n e.y.N/\(e.y.N.length:Int)<=b)/\0<=e.y.i/\e.y.i<2*t
 | 4=>2*t<=e.y.i/\1<=e.y.l/\e.y.gs.length=e.y.j+e.y.l/\dZ n e.y.gs/\dZ n e.y.ks/\(e.y.ks.length:Int)<=b
 | _=>False
structure aCV (t n b:Int) (s:MS) (o:EO):Prop where
 a:kW t n s o.s
 st:stW t n (b+1) o.st
 w:o.d=false->enI t n (b+1) o.e
theorem PM{t n b:Int}{e:ENS}{st:STS}{s:MS}(hb:Bnd t n s)(hx:enI t n b e)(hst:stW t n b st)(hbb:b<=900000):L8 t n e st s:=by
 obtain⟨ht,hn,hc,hw,hmi,hln⟩:=hb;have hl:=hst.ln;refine⟨ht,hn,⟨hc.1,by omega⟩,⟨hst.m.1,by have:=hst.m.2;omega⟩,by omega,?_⟩
 match e,hx with
 | ⟨0,sh,dn,x,y⟩,hx=>trivial
 | ⟨1,sh,dn,x,y⟩,hx=>exact hx
 | ⟨2,sh,dn,x,y⟩,hx=>trivial
 | ⟨3,sh,dn,x,y⟩,hx=>
   obtain⟨⟨h1,h2⟩,h3⟩:=hx;exact⟨by dsimp only at h2⊢;omega,h3⟩
 | ⟨4,sh,dn,x,y⟩,hx=>
   obtain⟨a1,a2,a3,a4,a5⟩:=hx;exact⟨a1,a2,a3,DI hn.2 a4 (by omega)⟩
theorem HZ{t n b:Int}{e:ENS}{st:STS}{x:AL}{s s0:MS}(ha:kW t n s0 s)(hst:stW t n b st)(hg:x.got=0)(hx:1<=x.at'/\x.at'<=n)(hl0:0<=x.left+1)(hl:x.left<=1000):aCV t n b s0 (KQ e st x s):=by
 have hl1:=hst.ln;have hsp:=hst.sp;unfold KQ;split
 ·exact⟨ha,⟨hst.m,⟨by show(0:Int)<=0;omega,by show(0:Int)<=n;omega⟩,hst.r,by dsimp only;omega⟩,fun _=>trivial⟩
 ·rename_i h;rw [bZ,dF']at h;exact⟨ha,iP hst (by omega),fun _=>⟨hg,hx,by show(0:Int)<=x.left;omega,hl⟩⟩
theorem xG{t n b:Int}{e:ENS}{st:STS}{x:AL}{s:MS}(ht:1<=t)(hn:1<=n)(hst:stW t n b st)(hx:okAl n x):aCV t n b s (rQ n e st x s):=by
 obtain⟨hg,ha,hl⟩:=hx;have hl1:=hst.ln;unfold rQ;split
 ·split
  ·exact⟨wV _ _ _ _ ht ha,⟨hst.m,⟨by dsimp only;omega,ha.2⟩,hst.r,by dsimp only;omega⟩,fun h=>Bool.noConfusion h⟩
  ·exact HZ (wV _ _ _ _ ht ha) hst rfl (CU hn ha.1) (by dsimp only;omega) (by dsimp only;omega)
 ·split
  ·exact HZ (eP _ _ _ _ (by first | omega | (unfold bG;omega) | (dsimp only;unfold bG;omega))) hst rfl (CU hn ha.1) (by dsimp only;omega) (by dsimp only;omega)
  ·exact⟨eP _ _ _ _ (by first | omega | (unfold bG;omega) | (dsimp only;unfold bG;omega)),iP hst (by omega),fun _=>⟨rfl,ha,hl⟩⟩
theorem PN{t n b:Int}{e:ENS}{st:STS}{s:MS}(hb:Bnd t n s)(hx:enI t n b e)(hst:stW t n b st):aCV t n b s (enF t n e st s):=by
 obtain⟨ht,hn,hc,hw,hmi,hln⟩:=hb;have hl1:=hst.ln;have hst1:stW t n (b+1) st:=iP hst (by omega)
 match e,hx with
 | ⟨0,sh,dn,x,y⟩,hx=>
   unfold enF;dsimp only;cases hc:ieq st.sp 0 with
   | true=>exact xG ht.1 hn.1 hst ⟨rfl,UY hn.1,by dsimp only;omega⟩
   | false=>exact⟨eP _ _ _ _ (by first | omega | (unfold bG;omega) | (dsimp only;unfold bG;omega)),hst1,fun h=>Bool.noConfusion h⟩
 | ⟨1,sh,dn,x,y⟩,hx=>exact xG ht.1 hn.1 hst hx
 | ⟨2,sh,dn,x,y⟩,hx=>
   exact⟨eP _ _ _ _ (by first | omega | (unfold bG;omega) | (dsimp only;unfold bG;omega)),hst1,fun _=>⟨⟨hst.r,by show(st.R.length:Int)<=_;omega⟩,(by decide:(0:Int)<=1),by show(1:Int)<_;omega⟩⟩
 | ⟨3,sh,dn,x,y⟩,hx=>
   obtain⟨⟨hN,hNl⟩,hi0,hi1⟩:=hx;dsimp only at hN hNl hi0 hi1;have hk:=CP (aT y.m n y.i s) y.N;unfold enF;dsimp only;generalize hsm:aT y.m n y.i s=sm at hk⊢;cases h1:ieq (y.i+1) (2*t)with
   | false=>
     have h1:=dT h1;exact⟨eP _ _ _ _ (by first | omega | (unfold bG;omega) | (dsimp only;unfold bG;omega)),hst1,fun _=>⟨⟨hN,by show((y.N).length :Int)<=_;omega⟩,by show 0<=y.i+1;omega,by show y.i+1<2*t;omega⟩⟩
   | true=>
     have h1:=sX h1;cases h2:ieq ((aS sm y.N).length :Int) 0 with
     | true=>exact⟨eP _ _ _ _ (by first | omega | (unfold bG;omega) | (dsimp only;unfold bG;omega)),⟨hst.m,hst.sp,mE hN,by show((cF sm y.N).length :Int)<=_;omega⟩,fun h=>Bool.noConfusion h⟩
     | false=>
       have h2:=dT h2;exact⟨eP _ _ _ _ (by first | omega | (unfold bG;omega) | (dsimp only;unfold bG;omega)),hst1,fun _=>⟨by show 2*t<=y.i+1;omega,by show 1<=(aS sm y.N).length;omega,by show(aS sm y.N).length =0+(aS sm y.N).length;omega,s9 hN,mE hN,by show((cF sm y.N).length :Int)<=_;omega⟩⟩
 | ⟨4,sh,dn,x,y⟩,hx=>
   obtain⟨a1,a2,a3,a4,a5,a6⟩:=hx;dsimp only at a1 a2 a3 a4 a5 a6;unfold enF;dsimp only;cases h1:ieq ((y.l - 1:Nat):Int) 0 with
   | true=>exact⟨nW _ _ ht.1 a4 (by omega),⟨hst.m,hst.sp,a5,by show((y.ks).length :Int)<=_;omega⟩,fun _=>trivial⟩
   | false=>
     have h1:=dT h1;exact⟨nW _ _ ht.1 a4 (by omega),hst1,fun _=>⟨a1,by show 1<=y.l - 1;omega,by show(y.gs).length =y.j+1+(y.l - 1);omega,a4,a5,by show((y.ks).length :Int)<=_;omega⟩⟩
def NE(t n b:Int)(y:SWS):Prop:=match y.ph with
 | 0=>True
 | 1=>(dZ n y.N/\(y.N.length:Int)<=b)/\0<=y.i/\y.i<2*t
 | 2=>2*t<=y.i/\1<=y.l/\y.gs.length=y.j+y.l/\dZ n y.gs/\dZ n y.ks/\(y.ks.length:Int)<=b
 | _=>False
structure aIQ (t n b:Int) (s:MS) (o:SO):Prop where
 a:kW t n s o.s
 st:stW t n (b+1) o.st
 w:o.d=false->NE t n (b+1) o.e
theorem aEY{t n b:Int}{e:SWS}{st:STS}{s:MS}(hb:Bnd t n s)(hx:NE t n b e)(hst:stW t n b st)(hbb:b<=900000):qQ t n e st s:=by
 obtain⟨ht,hn,hc,hw,hmi,hln⟩:=hb;have hl:=hst.ln;refine⟨ht,hn,⟨hc.1,by omega⟩,by omega,?_⟩
 match e,hx with
 | ⟨0,N,m,i,ks,fs,gs,j,l⟩,hx=>trivial
 | ⟨1,N,m,i,ks,fs,gs,j,l⟩,hx=>
   obtain⟨⟨h1,h2⟩,h3⟩:=hx;exact⟨by dsimp only at h2⊢;omega,h3⟩
 | ⟨2,N,m,i,ks,fs,gs,j,l⟩,hx=>
   obtain⟨a1,a2,a3,a4,a5⟩:=hx;exact⟨a1,a2,a3,DI hn.2 a4 (by omega)⟩
theorem aEZ{t n b:Int}{e:SWS}{st:STS}{s:MS}(hb:Bnd t n s)(hx:NE t n b e)(hst:stW t n b st):aIQ t n b s (swF t n e st s):=by
 obtain⟨ht,hn,hc,hw,hmi,hln⟩:=hb;have hl1:=hst.ln;have hst1:stW t n (b+1) st:=iP hst (by omega)
 match e,hx with
 | ⟨0,N,m,i,ks,fs,gs,j,l⟩,hx=>
   exact⟨eP _ _ _ _ (by first | omega | (unfold bG;omega) | (dsimp only;unfold bG;omega)),hst1,fun _=>⟨⟨hst.r,by show(st.R.length:Int)<=_;omega⟩,(by decide:(0:Int)<=1),by show(1:Int)<_;omega⟩⟩
 | ⟨1,N,m,i,ks,fs,gs,j,l⟩,hx=>
   obtain⟨⟨hN,hNl⟩,hi0,hi1⟩:=hx;dsimp only at hN hNl hi0 hi1;have hk:=CP (aT m n i s) N;unfold swF;dsimp only;generalize hsm:aT m n i s=sm at hk⊢;cases h1:ieq (i+1) (2*t)with
   | false=>
     have h1:=dT h1;exact⟨eP _ _ _ _ (by first | omega | (unfold bG;omega) | (dsimp only;unfold bG;omega)),hst1,fun _=>⟨⟨hN,by show((N).length :Int)<=_;omega⟩,by show 0<=i+1;omega,by show i+1<2*t;omega⟩⟩
   | true=>
     have h1:=sX h1;cases h2:ieq ((aS sm N).length :Int) 0 with
     | true=>exact⟨eP _ _ _ _ (by first | omega | (unfold bG;omega) | (dsimp only;unfold bG;omega)),⟨hst.m,hst.sp,mE hN,by show((cF sm N).length :Int)<=_;omega⟩,fun h=>Bool.noConfusion h⟩
     | false=>
       have h2:=dT h2;exact⟨eP _ _ _ _ (by first | omega | (unfold bG;omega) | (dsimp only;unfold bG;omega)),hst1,fun _=>⟨by show 2*t<=i+1;omega,by show 1<=(aS sm N).length;omega,by show(aS sm N).length =0+(aS sm N).length;omega,s9 hN,mE hN,by show((cF sm N).length :Int)<=_;omega⟩⟩
 | ⟨2,N,m,i,ks,fs,gs,j,l⟩,hx=>
   obtain⟨a1,a2,a3,a4,a5,a6⟩:=hx;dsimp only at a1 a2 a3 a4 a5 a6;unfold swF;dsimp only;cases h1:ieq ((l - 1:Nat):Int) 0 with
   | true=>exact⟨nW _ _ ht.1 a4 (by omega),⟨hst.m,hst.sp,a5,by show((ks).length :Int)<=_;omega⟩,fun h=>Bool.noConfusion h⟩
   | false=>
     have h1:=dT h1;exact⟨nW _ _ ht.1 a4 (by omega),hst1,fun _=>⟨a1,by show 1<=l - 1;omega,by show(gs).length =j+1+(l - 1);omega,a4,a5,by show((ks).length :Int)<=_;omega⟩⟩
structure exW (t n:Int) (x:EXS):Prop where
 h:x.at'=0\/x.at'=1\/x.at'=2\/x.at'=3\/x.at'=4\/x.at'=5\/x.at'=6\/x.at'=7\/x.at'=8\/x.at'=9
 m:0<=x.u/\x.u<t
 po:0<=x.popped/\x.popped<=n
 fo:x.at'≠0->dsc n x.found
 wd:x.at'=2\/x.at'=6->aB x.word 10 9<=n
 gv:x.at'=9->1<=aB x.found 39 9
structure aGo (t n:Int) (s:MS) (o:ExO):Prop where
 a:kW t n s o.s
 w:o.d=false->exW t n o.x
 p:0<=o.x.popped/\o.x.popped<=n
theorem aAN{t n:Int}{x:EXS}{s:MS}(hb:Bnd t n s)(hx:exW t n x):(exT t n x s).run (aGo t n s):=by
 obtain⟨⟨t0,t1⟩,⟨n0,n1⟩,⟨c0,c1⟩,hw,hmi,hln⟩:=hb;obtain⟨h,⟨m0,m1⟩,⟨p0,p1⟩,hfo,hwd,hgv⟩:=hx;have hc9:=VO x.word 10;have hd9:=VO x.found 12;unfold exT;refine aJ4 (fun h0=>?c0) (fun h0=>aJ4 (fun h1=>?c1) (fun h1=>aJ4 (fun h2=>?c2) (fun h2=>aJ4 (fun h3=>?c3) (fun h3=>aJ4 (fun h4=>?c4) (fun h4=>aJ4 (fun h5=>?c5) (fun h5=>aJ4 (fun h6=>?c6) (fun h6=>aJ4 (fun h7=>?c7) (fun h7=>aJ4 (fun h8=>?c8) (fun h8=>aJ4 (fun h9=>?c9) (fun h9=>?c10))))))))))
 case' c0=>unfold BK w0q w0p w0o w0k w0h w0c
 case' c1=>have hF:=hfo h0;obtain⟨f1,f2⟩:=id hF;unfold BL w0e w0m w0i w0f
 case' c2=>have hF:=hfo h0;obtain⟨f1,f2⟩:=id hF;have hwd:=hwd (.inl h2);unfold BM w0b w0j
 case' c3=>have hF:=hfo h0;obtain⟨f1,f2⟩:=id hF;unfold BN w0j w0c
 case' c4=>have hF:=hfo h0;obtain⟨f1,f2⟩:=id hF;unfold BO w0j w0c
 case' c5=>have hF:=hfo h0;obtain⟨f1,f2⟩:=id hF;unfold BP w0n w0i w0d w0f
 case' c6=>have hF:=hfo h0;obtain⟨f1,f2⟩:=id hF;have hwd:=hwd (.inr h6);unfold BQ
 case' c7=>have hF:=hfo h0;obtain⟨f1,f2⟩:=id hF;unfold BR w0c
 case' c8=>have hF:=hfo h0;obtain⟨f1,f2⟩:=id hF;unfold BS w0g w0l w0c
 case' c9=>have hF:=hfo h0;obtain⟨f1,f2⟩:=id hF;have hgv:=hgv h9;unfold BT
 case c10=>omega
 all_goals (repeat' (with_reducible first | exact trivial | rfl | assumption | refine aJ7 ?_ ?_ | refine Tr.run_ite (fun _=>?_) (fun _=>?_) | refine aKd ?_ | refine And.intro ?_ ?_))
 all_goals first
  | exact b8
  | (refine⟨by exact b8,fun hd=>?_,?_⟩
     ·first
       | (exact Bool.noConfusion hd)
       | (refine⟨?_,⟨m0,m1⟩,⟨p0,p1⟩,?_,?_,?_⟩
          ·dsimp only;decide
          ·first | (intro _;exact hF) | (intro _;exact qC) | (intro e;exact absurd rfl e)
          ·first | (exact nE') | (intro _;dsimp only;exact fO)
          ·first | (exact nE') | (intro _;exact(cQ.1 (by simpa using hd)).1))
     ·exact JL)
theorem aDa{t n:Int}{x:EXS}{s:MS}(hb:Bnd t n s)(hx:exW t n x):aC8 t n x s:=aKj (aAN hb hx)
theorem aDb{t n:Int}{x:EXS}{s:MS}(hb:Bnd t n s)(hx:exW t n x):aGo t n s (DV t n x s):=aKc (aAN hb hx)
theorem W7(t n u sh kd ky att:Int):PV t n u sh kd ky att:=⟨⟨rfl,rfl⟩,trivial⟩
theorem aGn(t n:Int){u:Int}(sh kd ky att:Int)(hn:1<=n)(hu:0<=u/\u<t):exW t n (aC4 t n u sh kd ky att):=⟨.inl rfl,hu,⟨(by decide:(0:Int)<=0),by show(0:Int)<=n;omega⟩,fun e=>absurd rfl e,fun e=>absurd e (by show¬((0:Int)=2\/(0:Int)=6);decide),fun e=>absurd e (by show¬((0:Int)=9);decide)⟩
structure YX (t n b:Int) (st:STS) (x:HPS):Prop where
 h:x.at'=0\/x.at'=1\/x.at'=2\/x.at'=3\/x.at'=4\/x.at'=5\/x.at'=6\/x.at'=7\/x.at'=8\/x.at'=9
 u:0<=x.u/\x.u<t
 ex:x.at'=3->exW t n x.ex
 en:x.at'=4->enI t n b x.en
 fn:x.at'=5->XF t n x.fn/\IB t n (b - st.R.length) x.fn
 cl:x.at'=7->clW t n x.cl
 pr:x.at'=8->prW n x.pr
 ps:plnW n x.p
structure aGV (t n b:Int) (s:MS) (o:HpO):Prop where
 a:kW t n s o.s
 st:stW t n (b+1) o.st
 w:o.d=false->YX t n (b+1) o.st o.x
theorem aAZ{t n b:Int}{x:HPS}{st:STS}{s:MS}(hb:Bnd t n s)(hx:YX t n b st x)(hst:stW t n b st)(hbb:b<=900000):(hpT t n x st s).run (aGV t n b s):=by
 have hb':=hb;obtain⟨⟨t0,t1⟩,⟨n0,n1⟩,⟨c0,c1⟩,hw,hmi,hln⟩:=hb;obtain⟨h,hu,hex,hen,hfn,hcl,hpr,hps⟩:=hx;have hR0:=hst.ln;have hst1:stW t n (b+1) st:=iP hst (by omega)
 have hnn:1<=n/\n<=1000:=⟨n0,n1⟩;have hme:=hst.m;obtain⟨s0,s1⟩:=hst.sp;obtain⟨u0,u1⟩:=hu;have b0:0<=b:=by omega
 obtain⟨k0,k1⟩:=vJ hw (2*n+5+2*t+3*x.1+1);unfold hpT;refine aJ4 (fun h0=>?c0) (fun h0=>aJ4 (fun h1=>?c1) (fun h1=>aJ4 (fun h2=>?c2) (fun h2=>aJ4 (fun h3=>?c3) (fun h3=>aJ4 (fun h4=>?c4) (fun h4=>aJ4 (fun h5=>?c5) (fun h5=>aJ4 (fun h6=>?c6) (fun h6=>aJ4 (fun h7=>?c7) (fun h7=>aJ4 (fun h8=>?c8) (fun h8=>aJ4 (fun h9=>?c9) (fun h9=>?c10))))))))))
 case' c0=>unfold CC w1q
 case' c1=>unfold CD w1q
 case' c2=>unfold CE w1m w1q
 case' c3=>have he:=hex h3;have hE:=aDb hb' he;have hEo:=aDa hb' he;have hA:=hE.a;obtain⟨p0,p1⟩:=hE.p;unfold CF
 case' c4=>have he:=hen h4;have hE:=PN hb' he hst;have hEo:=PM hb' he hst hbb;have hA:=hE.a;have hS:=hE.st;have hme:=hS.m;have hSl:=hS.ln;unfold CG
 case' c5=>obtain⟨hfw,hfq⟩:=hfn h5;have hF:=FT hb' hfw hfq (by omega);have hFo:=FS hb' hfw hfq (by omega);have hA:=hF.a;have hQ:=hF.q;have hQl:=hQ.ln;have hS:stW t n (b+1) {me:=st.me,sp:=st.sp,R:=st.R++(aM t n x.fn s).x.ul } :=zO hst hQ;obtain⟨q0,q1⟩:=hQ.cu;unfold CH w1l w1p
 case' c6=>have hfl:(bif ieq x.p.code 4 then(1:Int)else 0)<=n:=(by cases ieq x.p.code 4<;>simp<;>omega);unfold CI w1q
 case' c7=>have hc:=hcl h7;have hC:=yM hb' hc;have hCo:=FG hb' hc;have hA:=hC.a;unfold CJ
 case' c8=>have hp:=hpr h8;have hP:=SI hb' hp hst;have hPo:=SH hb' hp hst;have hA:=hP.a;have hPs:stW t n (b+1) (prF t n x.pr st s).st :=(by rw [hP.st];exact hst1);unfold CK
 case' c9=>obtain⟨hD,hDd⟩:=MG n0 hps (aB x.6 0 12);have hDo:=MH n0 hps (aB x.6 0 12);have hS3:stW t n (b+1) {me:=st.me,sp:=0,R:=st.R} :=S3 hst ⟨by omega,by omega⟩;unfold CL w1o w1q
 case c10=>omega
 all_goals (repeat' (with_reducible first | exact trivial | rfl | assumption | refine aJ7 ?_ ?_ | refine Tr.run_ite (fun _=>?_) (fun _=>?_) | refine aKd ?_ | refine And.intro ?_ ?_))
 all_goals first
  | exact b8
  | (simp only [List.length_append,List.length_singleton];done)
  | exact W7 _ _ _ _ _ _ _
  | exact tV hnn hme (eF _ _)
  | exact C7 _ _ _ n0 hQ s1
  | exact xX _
  | exact vQ _ _ _ _ _ _ _ _ _
  | exact yK _ _ _
  | exact JD _ _ _ _ _
  | (refine⟨by first | assumption | exact b8,?_,fun hd=>?_⟩
     ·first
       | assumption
       | (dsimp only;rw [SE];assumption)
       | exact DJ hst ⟨by omega,by omega⟩ ⟨by rename_i e;have e:=dT (by simpa using e);omega,p1⟩
     ·first
       | exact Bool.noConfusion hd
       | (refine⟨by dsimp only;decide,⟨u0,u1⟩,?_,?_,?_,?_,?_,?_⟩<;>first | (exact nE') | exact hps | exact SD n0 _ _ _ _ _ | exact zI _ _ _ n0 hQ s1 | (intro _;dsimp only;with_reducible exact aGn _ _ _ _ _ _ n0 ⟨u0,u1⟩) | (intro _;exact trivial) | (intro _;exact⟨IA hnn hme (eF _ _),fG (H9 hnn hme (eF _ _)) (by dsimp only;omega)⟩) | (intro _;exact hE.w (by assumption)) | (intro _;exact⟨hF.w (by assumption),fG hQ (by dsimp only;omega)⟩) | (intro _;dsimp only;exact FF (zI _ _ _ n0 hQ s1).ad) | (intro _;exact hC.w (by assumption)) | (intro _;dsimp only;exact aA9 _ _ _ q1) | (intro _;exact hP.w (by assumption))))
theorem QQ{t n b:Int}{x:HPS}{st:STS}{s:MS}(hb:Bnd t n s)(hx:YX t n b st x)(hst:stW t n b st)(hbb:b<=900000):QO t n x st s:=aKj (aAZ hb hx hst hbb)
theorem QR{t n b:Int}{x:HPS}{st:STS}{s:MS}(hb:Bnd t n s)(hx:YX t n b st x)(hst:stW t n b st)(hbb:b<=900000):aGV t n b s (gN t n x st s):=aKc (aAZ hb hx hst hbb)
theorem aDV{t n b u no lim:Int}{st:STS}(hn:1<=n)(hu:0<=u/\u<t):(LN t n u no lim st).run (fun r=>YX t n b st r.1/\r.2=st):=by
 unfold LN
 (repeat' (with_reducible first | exact trivial | rfl | assumption | refine aJ7 ?_ ?_ | refine Tr.run_ite (fun _=>?_) (fun _=>?_) | refine aKd ?_ | refine And.intro ?_ ?_))
 all_goals first
  | exact b8
  | exact⟨by dsimp only;decide,hu,fun e=>absurd e (by dsimp only;decide),fun e=>absurd e (by dsimp only;decide),fun e=>absurd e (by dsimp only;decide),fun e=>absurd e (by dsimp only;decide),fun e=>absurd e (by dsimp only;decide),SD hn _ _ _ _ _⟩
theorem ZW{s k y:Int}(h:bR s k y=true):lO (tskV s k y):=by
 have h:=mC.1 h;unfold tskV;refine⟨?_,?_⟩<;>omega
theorem X8(t n:Int):QG t n:=⟨⟨rfl,rfl⟩,trivial⟩
theorem aGP{t:Int}(n:Int)(ht:1<=t):hdW t (aDJ t n):=⟨⟨(by decide:(0:Int)<=0),by show(0:Int)<t;omega⟩,⟨(by decide:(-1:Int)<= -1),by show(-1:Int)<t;omega⟩⟩
theorem WL(t n u:Int):sK t n u:=⟨⟨rfl,rfl⟩,trivial⟩
theorem aFV(t n:Int){u:Int}(hu:0<=u/\u<t):drW t (BD t n u):=⟨hu,⟨(by decide:(0:Int)<=0),(by decide:(0:Int)<=1)⟩⟩
theorem U8(t n u:Int):OP t n u:=⟨⟨rfl,rfl⟩,trivial⟩
structure awW (t:Int) (x:AWS):Prop where
 m:0<=x.me/\x.me<t
structure aFM (t n:Int) (s:MS) (o:AwO):Prop where
 a:kW t n s o.s
 w:o.d=false->awW t o.x
theorem aAB{t n:Int}{x:AWS}{s:MS}(hb:Bnd t n s)(hx:awW t x):(awT t n x s).run (aFM t n s):=by
 obtain⟨⟨t0,t1⟩,⟨n0,n1⟩,⟨c0,c1⟩,hw,hmi,hln⟩:=hb;obtain⟨⟨m0,m1⟩⟩:=hx;unfold awT;unfold VA w0a
 (repeat' (with_reducible first | exact trivial | rfl | assumption | refine aJ7 ?_ ?_ | refine Tr.run_ite (fun _=>?_) (fun _=>?_) | refine aKd ?_ | refine And.intro ?_ ?_))
 all_goals first | exact b8 | (refine⟨by exact b8,fun hd=>?_⟩;first | (exact Bool.noConfusion hd) | exact⟨⟨m0,m1⟩⟩)
theorem aB6{t n:Int}{x:AWS}{s:MS}(hb:Bnd t n s)(hx:awW t x):aB3 t n x s:=aKj (aAB hb hx)
theorem aB7{t n:Int}{x:AWS}{s:MS}(hb:Bnd t n s)(hx:awW t x):aFM t n s (sI t n x s):=aKc (aAB hb hx)
theorem aFL(t n:Int){u:Int}(hu:0<=u/\u<t):awW t (aBZ t n u):=⟨hu⟩
theorem UR(t n u sh kd ky:Int):OL t n u sh kd ky:=⟨trivial,⟨rfl,rfl⟩,trivial⟩
theorem aFH(t n:Int){u:Int}{sh kd ky:Int}(hr:bR sh kd ky=true)(hu:0<=u/\u<t):anW t (aBN t n u sh kd ky):=⟨.inl rfl,hu,ZU ZW DD,DD,by show(!ieq (bif bR sh kd ky then 0 else 1) 0)=false;rw [hr];rfl⟩
theorem YQ(t n u no lim:Int)(st:STS):CB t n u no lim st:=by
 unfold CB LN;exact⟨⟨⟨rfl,rfl,rfl⟩,by decide⟩,trivial⟩
theorem aAY{t n b u no lim:Int}{st:STS}(hn:1<=n)(hu:0<=u/\u<t):YX t n b st (wO t n u no lim st).1:=(aKc (aDV (b:=b) hn hu)).1
theorem XJ{t n b:Int}(sh kd ky most:Int){st:STS}(hn:1<=n/\n<=1000)(hst:stW t n b st):u4 t n sh kd ky most st:=aKj (FU hn hst)
theorem aGt{t n b:Int}(sh kd ky most:Int){st:STS}(hn:1<=n/\n<=1000)(hst:stW t n b st):XP t n b st (jY t n sh kd ky most st).1:=(aKc (FU hn hst)).1
theorem P1{t n b:Int}(sh kd ky most:Int){st:STS}(hn:1<=n/\n<=1000)(hst:stW t n b st):(jY t n sh kd ky most st).2=st:=(aKc (FU (b:=b) hn hst)).2
structure O8 (t n b:Int) (st:STS) (x:DOS):Prop where
 h:x.at'=0\/x.at'=1\/x.at'=2\/x.at'=3\/x.at'=4\/x.at'=5\/x.at'=6\/x.at'=7\/x.at'=8\/x.at'=9
 hd:x.at'=0->hdW t x.hd
 hp:x.at'=1\/x.at'=5->YX t n b st x.hp
 en:x.at'=2->enI t n b x.en
 ft:x.at'=3->XP t n b st x.ft
 an:x.at'=4->anW t x.an
 aw:x.at'=6->awW t x.aw
 fn:x.at'=7->XF t n x.fn/\IB t n (b - st.R.length) x.fn
 dr:x.at'=8->drW t x.dr
 sw:x.at'=9->NE t n b x.sw
 lo:x.at'<=3->x.slow=false
 hi:x.at'=4\/x.at'=5\/x.at'=6->x.slow=true
 ri:x.at'≠0->bR x.sh x.kd x.ky=true
def drw(x:DOS):Bool:=x.slow&& !(ieq x.at' 4&&ile x.an.at' 1)
theorem rP{x:DOS}(h:x.slow=false):drw x=false:=by unfold drw;rw [h];rfl
theorem mX{x:DOS}(h:x.at'≠4):drw x=x.slow:=by
 unfold drw;have:ieq x.at' 4=false:=by simpa [cI]using h
 rw [this];cases x.slow<;>rfl
structure O7 (t n b:Int) (s:MS) (x:DOS) (o:DqO):Prop where
 a:D3 t n s o.s
 st:stW t n (b+1) o.st
 w:o.d=false->O8 t n (b+1) o.st o.x
 k:(drw x=false/\drw o.x=true/\aE o.s.xs (2*n+5+2*t+3*t)=WU (aE s.xs (2*n+5+2*t+3*t)+1))\/(drw o.x=drw x/\aE o.s.xs (2*n+5+2*t+3*t)=aE s.xs (2*n+5+2*t+3*t))
 e:o.d=true->o.x.slow=drw o.x
theorem aAH{t n b:Int}{s:MS}{x:DOS}{o:DqO}(h:kW t n s o.s)(hs:stW t n (b+1) o.st)(hk:drw o.x=drw x)(he:o.d=true->o.x.slow=drw o.x)(hw:o.d=false->O8 t n (b+1) o.st o.x):O7 t n b s x o:=⟨h.a,hs,hw,.inr ⟨hk,h.k⟩,he⟩
theorem aCv{t n b:Int}{s:MS}{x:DOS}{o:DqO}(h:D3 t n s o.s)(hs:stW t n (b+1) o.st)(hk:(drw x=false/\drw o.x=true/\aE o.s.xs (2*n+5+2*t+3*t)=WU (aE s.xs (2*n+5+2*t+3*t)+1))\/(drw o.x=drw x/\aE o.s.xs (2*n+5+2*t+3*t)=aE s.xs (2*n+5+2*t+3*t)))(he:o.d=true->o.x.slow=drw o.x)(hw:o.d=false->O8 t n (b+1) o.st o.x):O7 t n b s x o:=⟨h,hs,hw,hk,he⟩
theorem aAG{t n:Int}{s:MS}{x y:DOS}{o:AnO}(hx:x.at'=4)(hs:x.slow=true)(hw:anW t x.an)(h:UT t n s x.an o)(hy:(o.d=false/\y.at'=4/\y.an=o.x\/o.d=true/\y.at'=5)/\y.slow=true):(drw x=false/\drw y=true/\aE o.s.xs (2*n+5+2*t+3*t)=WU (aE s.xs (2*n+5+2*t+3*t)+1))\/(drw y=drw x/\aE o.s.xs (2*n+5+2*t+3*t)=aE s.xs (2*n+5+2*t+3*t)):=by
 obtain⟨hy,hys⟩:=hy;have h5:=hw.h;have ex:drw x= !ile x.an.at' 1:=by unfold drw;rw [hx,hs];rfl
 rcases h.k with⟨k1,k2⟩ | ⟨k1,k2⟩
 ·left;refine⟨by rw [ex,k1];rfl,?_,k2⟩
  rcases hy with⟨_,y1,y2⟩ | ⟨y0,y1⟩
  ·unfold drw;rw [hys,y1,y2,h.e,k1];rfl
  ·have:=h.f y0;omega
 ·right;refine⟨?_,k2⟩;rcases hy with⟨_,y1,y2⟩ | ⟨y0,y1⟩
  ·have ey:drw y= !ile (x.an.at'+1) 1:=by unfold drw;rw [hys,y1,y2,h.e];rfl
   rw [ex,ey];rcases h5 with e | e | e | e | e<;>first | (exact absurd e k1) | (rw [e];rfl)
  ·rw [mX (by omega),hys,ex,h.f y0];rfl
theorem aAI{t n b:Int}{x:DOS}{st:STS}{s:MS}(hb:Bnd t n s)(hx:O8 t n b st x)(hst:stW t n b st)(hbb:b<=900000):(dqT t n x st s).run (O7 t n b s x):=by
 have hb':=hb;obtain⟨⟨t0,t1⟩,⟨n0,n1⟩,⟨c0,c1⟩,hw,hmi,hln⟩:=hb;obtain⟨h,xhd,xhp,xen,xft,xan,xaw,xfn,xdr,xsw,xlo,xhi,xri⟩:=hx;have hR0:=hst.ln;have hst1:stW t n (b+1) st:=iP hst (by omega)
 have hnn:1<=n/\n<=1000:=⟨n0,n1⟩;have hme:=hst.m;have b0:0<=b:=by omega
 unfold dqT;refine aJ4 (fun h0=>?c0) (fun h0=>aJ4 (fun h1=>?c1) (fun h1=>aJ4 (fun h2=>?c2) (fun h2=>aJ4 (fun h3=>?c3) (fun h3=>aJ4 (fun h4=>?c4) (fun h4=>aJ4 (fun h5=>?c5) (fun h5=>aJ4 (fun h6=>?c6) (fun h6=>aJ4 (fun h7=>?c7) (fun h7=>aJ4 (fun h8=>?c8) (fun h8=>aJ4 (fun h9=>?c9) (fun h9=>?c10))))))))))
 case' c0=>have hc:=xhd h0;have hC:=aDR hb' hc;have hCo:=aDQ hb' hc;have hA:=hC.a;have hS:=hst1;have hSl:=hS.ln;obtain⟨v0,v1⟩:=hC.p;have hsl:=xlo (by omega);have hdx:=rP hsl;unfold A3 w26 w1z w20
 case' c1=>have hc:=xhp (.inl h1);have hC:=QR hb' hc hst hbb;have hCo:=QQ hb' hc hst hbb;have hA:=hC.a;have hS:=hC.st;have hme:=hS.m;have hSl:=hS.ln;have hri:=xri h0;have hsl:=xlo (by omega);have hdx:=rP hsl;unfold A4 w1x w23 w20
 case' c2=>have hc:=xen h2;have hC:=PN hb' hc hst;have hCo:=PM hb' hc hst hbb;have hA:=hC.a;have hS:=hC.st;have hme:=hS.m;have hSl:=hS.ln;have hri:=xri h0;have hsl:=xlo (by omega);have hdx:=rP hsl;unfold A5 w20
 case' c3=>have hc:=xft h3;have hC:=aDt hb' hc hst hbb;have hCo:=aDs hb' hc hst hbb;have hA:=hC.a;have hS:=hC.st;have hme:=hS.m;have hSl:=hS.ln;have hri:=xri h0;have hsl:=xlo (by omega);have hdx:=rP hsl;unfold A6 w1u w21 w20
 case' c4=>have hc:=xan h4;have hC:=aBV hb' hc;have hCo:=aBU hb' hc;have hA:=hC.a;have hS:=hst1;have hSl:=hS.ln;have hri:=xri h0;have hsl:=xhi (.inl h4);unfold A7 w20
 case' c5=>have hc:=xhp (.inr h5);have hC:=QR hb' hc hst hbb;have hCo:=QQ hb' hc hst hbb;have hA:=hC.a;have hS:=hC.st;have hme:=hS.m;have hSl:=hS.ln;have hri:=xri h0;have hsl:=xhi (.inr (.inl h5));have hdx:=mX h4;unfold A8 w23 w20
 case' c6=>have hc:=xaw h6;have hC:=aB7 hb' hc;have hCo:=aB6 hb' hc;have hA:=hC.a;have hS:=hst1;have hSl:=hS.ln;have hri:=xri h0;have hsl:=xhi (.inr (.inr h6));have hdx:=mX h4;unfold A9 w1w w20
 case' c7=>obtain⟨hfw,hfq⟩:=xfn h7;have hF:=FT hb' hfw hfq (by omega);have hFo:=FS hb' hfw hfq (by omega);have hA:=hF.a;have hQ:=hF.q;have hQl:=hQ.ln;have hS:stW t n (b+1) {me:=st.me,sp:=st.sp,R:=st.R++(aM t n x.fn s).x.ul } :=zO hst hQ;have hri:=xri h0;have hdx:=mX h4;unfold BA w20
 case' c8=>have hc:=xdr h8;have hC:=aCH hb' hc;have hCo:=aCG hb' hc;have hA:=hC.a;have hS:=hst1;have hri:=xri h0;have hdx:=mX h4;unfold BB w20
 case' c9=>have hc:=xsw h9;have hC:=aEZ hb' hc hst;have hCo:=aEY hb' hc hst hbb;have hA:=hC.a;have hS:=hC.st;have hri:=xri h0;have hdx:=mX h4;unfold BC w20
 case c10=>omega
 case' c0=>refine aJ7 trivial (aK7 (fun hri=>?c0a) (fun hri=>?_))
 case' c0a=>skip
 all_goals (try refine aJ7 trivial (aK7 (fun e=>absurd (hri.symm.trans e) (by decide)) (fun _=>?_)))
 all_goals (repeat' (with_reducible first | exact trivial | rfl | assumption | refine aJ7 ?_ ?_ | refine aK2 (fun _=>?_) (fun _=>?_) | refine Tr.run_ite (fun _=>?_) (fun _=>?_) | refine aKd ?_ | refine And.intro ?_ ?_))
 all_goals first
  | exact b8
  | (intro _;decide)
  | assumption
  | exact WL _ _ _
  | exact U8 _ _ _
  | exact UR _ _ _ _ _ _
  | exact YQ _ _ _ _ _ _
  | exact tV hnn hme (eF _ _)
  | exact XJ _ _ _ _ hnn hS
  | (simp only [List.length_append,List.length_singleton];done)
  | ((first | refine aAH hA ?_ ?_ ?_ ?_ | refine aCv hA ?_ ?_ ?_ ?_ | refine aAH (uD _ _ _ _ _ _ _ _ (by omega)) ?_ ?_ ?_ ?_)
     ·first | assumption | (dsimp only;rw [P1 _ _ _ _ hnn hS];assumption)
     ·first
       | (rw [hdx];first | exact rP hsl | exact mX (by dsimp only;decide) | rfl)
       | exact aAG h4 hsl hc hC ⟨.inl ⟨by assumption,rfl,rfl⟩,hsl⟩
       | exact aAG h4 hsl hc hC ⟨.inr ⟨by assumption,rfl⟩,hsl⟩
     ·first
       | (intro e;exact Bool.noConfusion e)
       | (intro _;exact(mX (by dsimp only;decide)).symm)
     ·intro hd
      first
      | exact Bool.noConfusion hd
      | (refine⟨by dsimp only;decide,?_,?_,?_,?_,?_,?_,?_,?_,?_,?_,?_,?_⟩<;>first | (exact nE') | (intro _;exact hsl) | (intro _;exact hri) | (intro _;rfl) | (intro _;exact hC.w (by assumption)) | (intro _;exact aAY n0 ⟨by omega,v1⟩) | (intro _;exact trivial) | (intro _;dsimp only;rw [P1 _ _ _ _ hnn hS];exact aGt _ _ _ _ hnn hS) | (intro _;dsimp only;with_reducible exact aFL _ _ hme) | (intro _;dsimp only;with_reducible exact aFV _ _ hme) | (intro _;dsimp only;with_reducible exact aFH _ _ hri hme) | (intro _;exact⟨IA hnn hme (eF _ _),fG (H9 hnn hme (eF _ _)) (by dsimp only;omega)⟩) | (intro _;exact aAY n0 hme) | (intro _;exact⟨hF.w (by assumption),fG hQ (by dsimp only;omega)⟩)))
theorem aCy{t n b:Int}{x:DOS}{st:STS}{s:MS}(hb:Bnd t n s)(hx:O8 t n b st x)(hst:stW t n b st)(hbb:b<=900000):VZ t n x st s:=aKj (aAI hb hx hst hbb)
theorem aCz{t n b:Int}{x:DOS}{st:STS}{s:MS}(hb:Bnd t n s)(hx:O8 t n b st x)(hst:stW t n b st)(hbb:b<=900000):O7 t n b s x (tE t n x st s):=aKc (aAI hb hx hst hbb)
theorem aCk{t n b:Int}(sh kd ky lim:Int)(st:STS)(ht:1<=t):(O6 t n sh kd ky lim st).run (fun r=>O8 t n b st r.1/\r.2=st/\drw r.1=false):=by
 unfold O6
 (repeat' (with_reducible first | exact trivial | rfl | assumption | refine aJ7 ?_ ?_ | refine Tr.run_ite (fun _=>?_) (fun _=>?_) | refine aKd ?_ | refine And.intro ?_ ?_))
 all_goals first
  | exact b8
  | exact X8 _ _
  | (intro _;decide)
  | exact rP rfl
  | (refine⟨by dsimp only;decide,fun _=>aGP n ht,?_,?_,?_,?_,?_,?_,?_,?_,fun _=>rfl,?_,?_⟩<;>(exact nE'))
structure hstW (e c:Int) (x:HST):Prop where
 he:(x.ev.length:Int)<=e
 hc:(x.cl.length:Int)<=c
 n0:0<=x.n0/\x.n0<=(x.cl.length:Int)
 n1:0<=x.n1/\x.n1<=(x.cl.length:Int)
 n2:0<=x.n2/\x.n2<=(x.cl.length:Int)
 n3:0<=x.n3/\x.n3<=(x.cl.length:Int)
 n4:0<=x.n4/\x.n4<=(x.cl.length:Int)
 n5:0<=x.n5/\x.n5<=(x.cl.length:Int)
 n6:0<=x.n6/\x.n6<=(x.cl.length:Int)
 n7:0<=x.n7/\x.n7<=(x.cl.length:Int)
theorem jM{e c e' c':Int}{x:HST}(h:hstW e c x)(h1:e<=e')(h2:c<=c'):hstW e' c' x:=⟨Int.le_trans h.he h1,Int.le_trans h.hc h2,h.n0,h.n1,h.n2,h.n3,h.n4,h.n5,h.n6,h.n7⟩
theorem nE{P:Prop}(h:P:=by first | omega | (dsimp only;omega) | (simp only [List.length_append,List.length_singleton,List.length_set,List.length_cons,List.length_nil];done) | (simp only [List.length_append,List.length_singleton,List.length_set,List.length_cons,List.length_nil];omega) | (dsimp only;simp only [List.length_append,List.length_singleton,List.length_set];omega)):P:=h
theorem aGL{e c th:Int}{x:HST}(kd ky:Int)(h:hstW e c x)(he:e<=1000000)(hc:c<=1000000)(h0:0<=th/\th<8):(hbT th x kd ky).run (fun r=>hstW (e+1) (c+1) r.2):=by
 have hh:=h;obtain⟨a,b,m0,m1,m2,m3,m4,m5,m6,m7⟩:=h;unfold hbT;refine aKn (fun q0=>?c0) (fun q0=>aKn (fun q1=>?c1) (fun q1=>aKn (fun q2=>?c2) (fun q2=>aKn (fun q3=>?c3) (fun q3=>aKn (fun q4=>?c4) (fun q4=>aKn (fun q5=>?c5) (fun q5=>aKn (fun q6=>?c6) (fun q6=>aKn (fun q7=>?c7) (fun q7=>?c8))))))))
 case' c0=>unfold IG DX DY
 case' c1=>unfold IH DX DY
 case' c2=>unfold II DX DY
 case' c3=>unfold IJ DX DY
 case' c4=>unfold IK DX DY
 case' c5=>unfold IL DX DY
 case' c6=>unfold IM DX DY
 case' c7=>unfold IN DX DY
 case c8=>
  have q0:=dT q0;have q1:=dT q1;have q2:=dT q2;have q3:=dT q3;have q4:=dT q4;have q5:=dT q5;have q6:=dT q6;have q7:=dT q7;omega
 all_goals (repeat' (with_reducible first | exact trivial | rfl | assumption | refine aJ7 ?_ ?_ | refine Tr.run_ite (fun _=>?_) (fun _=>?_) | refine aKd ?_ | refine And.intro ?_ ?_))
 all_goals first
  | exact b8
  | exact jM hh (by omega) (by omega)
  | exact nE
  | (refine⟨?_,?_,?_,?_,?_,?_,?_,?_,?_,?_⟩<;>exact nE)
theorem aAX{e c th:Int}{x:HST}(code:Int)(okk:Bool)(val:Int)(h:hstW e c x)(he:e<=1000000)(hc:c<=1000000)(h0:0<=th/\th<8):(heT th x code okk val).run (fun r=>hstW (e+1) (c) r.2):=by
 have hh:=h;obtain⟨a,b,m0,m1,m2,m3,m4,m5,m6,m7⟩:=h;unfold heT;refine aKn (fun q0=>?c0) (fun q0=>aKn (fun q1=>?c1) (fun q1=>aKn (fun q2=>?c2) (fun q2=>aKn (fun q3=>?c3) (fun q3=>aKn (fun q4=>?c4) (fun q4=>aKn (fun q5=>?c5) (fun q5=>aKn (fun q6=>?c6) (fun q6=>aKn (fun q7=>?c7) (fun q7=>?c8))))))))
 case' c0=>unfold IP DZ D0 T4 QL;have hW:=cH (x:=x.n0 - 1) ⟨by omega,by omega⟩;change W (x.n0 - 1)=x.n0 - 1 at hW
 case' c1=>unfold IQ DZ D0 T4 QL;have hW:=cH (x:=x.n1 - 1) ⟨by omega,by omega⟩;change W (x.n1 - 1)=x.n1 - 1 at hW
 case' c2=>unfold IR DZ D0 T4 QL;have hW:=cH (x:=x.n2 - 1) ⟨by omega,by omega⟩;change W (x.n2 - 1)=x.n2 - 1 at hW
 case' c3=>unfold IS DZ D0 T4 QL;have hW:=cH (x:=x.n3 - 1) ⟨by omega,by omega⟩;change W (x.n3 - 1)=x.n3 - 1 at hW
 case' c4=>unfold IT DZ D0 T4 QL;have hW:=cH (x:=x.n4 - 1) ⟨by omega,by omega⟩;change W (x.n4 - 1)=x.n4 - 1 at hW
 case' c5=>unfold IU DZ D0 T4 QL;have hW:=cH (x:=x.n5 - 1) ⟨by omega,by omega⟩;change W (x.n5 - 1)=x.n5 - 1 at hW
 case' c6=>unfold IV DZ D0 T4 QL;have hW:=cH (x:=x.n6 - 1) ⟨by omega,by omega⟩;change W (x.n6 - 1)=x.n6 - 1 at hW
 case' c7=>unfold IW DZ D0 T4 QL;have hW:=cH (x:=x.n7 - 1) ⟨by omega,by omega⟩;change W (x.n7 - 1)=x.n7 - 1 at hW
 case c8=>
  have q0:=dT q0;have q1:=dT q1;have q2:=dT q2;have q3:=dT q3;have q4:=dT q4;have q5:=dT q5;have q6:=dT q6;have q7:=dT q7;omega
 all_goals (repeat' (with_reducible first | exact trivial | rfl | assumption | refine aJ7 ?_ ?_ | refine Tr.run_ite (fun _=>?_) (fun _=>?_) | refine aKd ?_ | refine And.intro ?_ ?_))
 all_goals first
  | exact b8
  | exact jM hh (by omega) (by omega)
  | exact nE
  | (rw [hW];simp only [bI,Bool.not_eq_false',dT',Bool.not_eq_true',dF']at*;first | omega | exact nE)
  | (refine⟨?_,?_,?_,?_,?_,?_,?_,?_,?_,?_⟩<;>exact nE)
theorem P2{t n b c:Int}{st:STS}{x:FTS}(h:XP t n b st x)(hbc:b<=c):XP t n c st x:=⟨h.h,fun e=>⟨(h.fn e).1,fG (h.fn e).2 (by omega)⟩,h.cl,h.pr,h.ps⟩
theorem BG{t n b c:Int}{e:ENS}(hx:enI t n b e)(hbc:b<=c):enI t n c e:=by
 match e,hx with
 | ⟨0,sh,dn,x,y⟩,hx=>trivial
 | ⟨1,sh,dn,x,y⟩,hx=>exact hx
 | ⟨2,sh,dn,x,y⟩,hx=>trivial
 | ⟨3,sh,dn,x,y⟩,hx=>exact⟨⟨hx.1.1,Int.le_trans hx.1.2 hbc⟩,hx.2⟩
 | ⟨4,sh,dn,x,y⟩,hx=>exact⟨hx.1,hx.2.1,hx.2.2.1,hx.2.2.2.1,hx.2.2.2.2.1,Int.le_trans hx.2.2.2.2.2 hbc⟩
theorem NF{t n b c:Int}{e:SWS}(hx:NE t n b e)(hbc:b<=c):NE t n c e:=by
 match e,hx with
 | ⟨0,N,m,i,ks,fs,gs,j,l⟩,hx=>trivial
 | ⟨1,N,m,i,ks,fs,gs,j,l⟩,hx=>exact⟨⟨hx.1.1,Int.le_trans hx.1.2 hbc⟩,hx.2⟩
 | ⟨2,N,m,i,ks,fs,gs,j,l⟩,hx=>exact⟨hx.1,hx.2.1,hx.2.2.1,hx.2.2.2.1,hx.2.2.2.2.1,Int.le_trans hx.2.2.2.2.2 hbc⟩
theorem QP{t n b c:Int}{st:STS}{x:HPS}(h:YX t n b st x)(hbc:b<=c):YX t n c st x:=⟨h.h,h.u,h.ex,fun e=>BG (h.en e) hbc,fun e=>⟨(h.fn e).1,fG (h.fn e).2 (by omega)⟩,h.cl,h.pr,h.ps⟩
theorem O9{t n b c:Int}{st:STS}{x:DOS}(h:O8 t n b st x)(hbc:b<=c):O8 t n c st x:=⟨h.h,h.hd,fun e=>QP (h.hp e) hbc,fun e=>BG (h.en e) hbc,fun e=>P2 (h.ft e) hbc,h.an,h.aw,fun e=>⟨(h.fn e).1,fG (h.fn e).2 (by omega)⟩,h.dr,fun e=>NF (h.sw e) hbc,h.lo,h.hi,h.ri⟩
structure wkW (t n b:Int) (w:WKS):Prop where
 ht:w.t=t
 hn:w.n=n
 st:stW t n b w.st
 d:w.b=true->O8 t n b w.st w.d/\w.en<(w.tk.length:Int)
 e0:0<=w.en
 e1:w.en<=(w.tk.length:Int)
 tl:(w.tl.length:Int)=w.en+(bif w.b then 1 else 0)
 sl:(w.sl.length:Int)<=w.en
 tk:(w.tk.length:Int)<=100000
 sb: ∀v,v∈w.sl->0<=v/\v<w.en
structure aAi (t n b:Int) (w:WK1):Prop where
 ht:w.t=t
 hn:w.n=n
 st:stW t n b w.st
 d:O8 t n b w.st w.d
 e0:0<=w.en
 e1:w.en<(w.tk.length:Int)
 tl:(w.tl.length:Int)=w.en+1
 sl:(w.sl.length:Int)<=w.en
 tk:(w.tk.length:Int)<=100000
 sb: ∀v,v∈w.sl->0<=v/\v<w.en
theorem TO{t n b c:Int}{w:WKS}(h:wkW t n b w)(hbc:b<=c):wkW t n c w:=⟨h.ht,h.hn,iP h.st hbc,fun e=>⟨O9 (h.d e).1 hbc,(h.d e).2⟩,h.e0,h.e1,h.tl,h.sl,h.tk,h.sb⟩
def tkc(w:WKS):Int:=(w.sl.length:Int)+bif w.b&&drw w.d then 1 else 0
def DN(w:WK1):Int:=(w.sl.length:Int)+bif drw w.d then 1 else 0
structure wbR (t n b:Int) (u:WKS) (v:WK1):Prop where
 w:aAi t n b v
 k:DN v=tkc u
theorem TJ{t n b tr:Int}{w:WKS}(h:wkW t n b w)(ht:1<=t)(hb:w.b=false)(hl:w.en<(w.tk.length:Int)):(NK tr w).run (wbR t n b w):=by
 obtain⟨rfl,rfl,hst,hd,e0,e1,htl,hsl,htk,hsb⟩:=h;rw [hb]at htl;have htl:(w.tl.length:Int)=w.en+0:=htl;have hN:=fun sh kd ky lim=>aCk (t:=w.t) (n:=w.n) (b:=b) sh kd ky lim w.st ht;unfold NK w2b
 (repeat' (with_reducible first | exact trivial | rfl | assumption | refine aJ7 ?_ ?_ | refine Tr.run_ite (fun _=>?_) (fun _=>?_) | refine aKd ?_ | refine And.intro ?_ ?_))
 all_goals first
  | exact b8
  | exact aKj (hN _ _ _ _)
  | (simp only [List.length_append,List.length_singleton];done)
  | (refine⟨⟨rfl,rfl,?_,?_,e0,hl,?_,hsl,htk,hsb⟩,?_⟩
     ·dsimp only;rw [show(dqNF _ _ _ _ _ _ _).2=w.st from(aKc (hN _ _ _ _)).2.1];exact hst
     ·dsimp only;rw [show(dqNF _ _ _ _ _ _ _).2=w.st from(aKc (hN _ _ _ _)).2.1];exact(aKc (hN _ _ _ _)).1
     ·dsimp only;rw [List.length_append,List.length_singleton];omega
     ·unfold tkc DN;dsimp only;rw [show drw (dqNF _ _ _ _ _ _ _).1=false from(aKc (hN _ _ _ _)).2.2,hb];rfl)
theorem aE3{t n b tr:Int}{w:WKS}(h:wkW t n b w)(ht:1<=t)(hl:w.en<(w.tk.length:Int)):TK tr w:=by
 unfold TK;cases hb:w.b with
 | true=>trivial
 | false=>exact aKj (TJ h ht hb hl)
theorem aE4{t n b tr:Int}{w:WKS}(h:wkW t n b w)(ht:1<=t)(hl:w.en<(w.tk.length:Int)):wbR t n b w (wbF tr w):=by
 unfold wbF;cases hb:w.b with
 | true=>
   obtain⟨h1,h2,h3,h4,h5,h6,h7,h8,h9,h10⟩:=h;rw [hb]at h7;refine⟨⟨h1,h2,h3,(h4 hb).1,h5,hl,h7,h8,h9,h10⟩,?_⟩;unfold tkc;rw [hb];rfl
 | false=>exact aKc (TJ h ht hb hl)
structure aHA (t n b:Int) (s:MS) (u:WK1) (o:WkO):Prop where
 a:D3 t n s o.s
 w:wkW t n (b+1) o.x
 k:(tkc o.x=DN u+1/\aE o.s.xs (2*n+5+2*t+3*t)=WU (aE s.xs (2*n+5+2*t+3*t)+1))\/(tkc o.x=DN u/\aE o.s.xs (2*n+5+2*t+3*t)=aE s.xs (2*n+5+2*t+3*t))
theorem wsk{t n b:Int}{s:MS}{x:DOS}{D:DqO}{L:List Int}{w:WK1}{v:WKS}(h:O7 t n b s x D)(hx:w.d=x)(hl:w.sl=L)(hv:tkc v=(L.length:Int)+bif drw D.x then 1 else 0):(tkc v=DN w+1/\aE D.s.xs (2*n+5+2*t+3*t)=WU (aE s.xs (2*n+5+2*t+3*t)+1))\/(tkc v=DN w/\aE D.s.xs (2*n+5+2*t+3*t)=aE s.xs (2*n+5+2*t+3*t)):=by
 subst hx;subst hl;rcases h.k with⟨k1,k2,k3⟩ | ⟨k1,k2⟩
 ·exact .inl ⟨by unfold DN;rw [hv,k1,k2];rfl,k3⟩
 ·exact .inr ⟨by unfold DN;rw [hv,k1],k2⟩
theorem aBn{t n b:Int}{w:WK1}{s:MS}(hb:Bnd t n s)(h:aAi t n b w)(hbb:b<=900000):(wsT w s).run (aHA t n b s w):=by
 obtain⟨rfl,rfl,hst,hd,e0,e1,htl,hsl,htk,hsb⟩:=h;have hD:=aCz hb hd hst hbb;have hDo:=aCy hb hd hst hbb;have hA:=hD.a;have hW:W (w.en+1)=w.en+1:=cH ⟨by omega,by omega⟩
 unfold wsT w2d w2c
 (repeat' (with_reducible first | exact trivial | rfl | assumption | refine aJ7 ?_ ?_ | refine Tr.run_ite (fun _=>?_) (fun _=>?_) | refine aKd ?_ | refine And.intro ?_ ?_))
 all_goals first
  | exact b8
  | (simp only [List.length_append,List.length_singleton,List.length_set];done)
  | (refine⟨hA,⟨rfl,rfl,hD.st,?_,?_,?_,?_,?_,htk,?_⟩,?_⟩
     ·first
       | (intro e;exact Bool.noConfusion e)
       | (intro e;exact⟨hD.w (by assumption),e1⟩)
     ·first | exact e0 | (dsimp only;rw [hW];omega)
     ·first | (dsimp only;omega) | (dsimp only;rw [hW];omega)
     ·dsimp only;rw [List.length_set]
      first | (rw [hW];show _=w.en+1+0;omega) | (show _=w.en+1;omega)
     ·dsimp only
      first | (rw [hW];simp only [List.length_append,List.length_singleton];omega) | (rw [hW];omega) | omega
     ·first
       | exact hsb
       | (dsimp only;rw [hW];intro v hv;have:=hsb v hv;omega)
       | (dsimp only;rw [hW];intro v hv;rcases List.mem_append.1 hv with h | h
          ·have:=hsb v h;omega
          ·have:=List.mem_singleton.1 h;subst this;omega)
     ·refine wsk hD rfl rfl ?_;unfold tkc;dsimp only
      first
       | rfl
       | (rw [<-hD.e (by assumption),show(DqO.x (tE _ _ _ _ _)).slow =_ by assumption];simp))
theorem aFb{t n b:Int}{w:WK1}{s:MS}(hb:Bnd t n s)(h:aAi t n b w)(hbb:b<=900000):aAm w s:=aKj (aBn hb h hbb)
theorem aFc{t n b:Int}{w:WK1}{s:MS}(hb:Bnd t n s)(h:aAi t n b w)(hbb:b<=900000):aHA t n b s w (wsF w s):=aKc (aBn hb h hbb)
structure egW (t n:Int) (x:EGS):Prop where
 ht:1<=t/\t<=8
 hn:1<=n/\n<=1000
 st:x.s.t=t
 sn:x.s.n=n
 xt:x.th=t
 xn:x.nd=n
 k:0<=x.k/\x.k<=60000
 c:x.s.c=x.k
 w:ZC x.s.xs
 l:(x.ws.length:Int)=t
 ws: ∀i,i<x.ws.length->wkW t n x.k (bB x.ws i)
 h:hstW (2*x.k) x.k x.h
 mi:MI t n x.s.xs
 ln:(x.s.xs.length:Int)=2*n+5+2*t+3*t+1
theorem TN{ws:List WKS}{i j:Nat}{w:WKS}(hi:i<ws.length):bB (dD ws i w) j=if i=j then w else bB ws j:=by
 unfold bB dD;rw [gD',List.getElem?_set,gD']
 by_cases e:i=j
 ·subst e;rw [if_pos rfl,if_pos rfl,if_pos hi];rfl
 ·rw [if_neg e,if_neg e]
theorem x8(ws:List WKS)(i:Nat)(w:WKS):(dD ws i w).length =ws.length:=by unfold dD;exact List.length_set
theorem HL{ws:List WKS}{i:Nat}(hi:i<ws.length):dD ws i (bB ws i)=ws:=by
 unfold dD bB;apply List.ext_getElem
 ·simp
 ·intro j h1 h2;rw [List.getElem_set];split
  ·rename_i e;subst e;rw [gD',gE' hi];rfl
  ·rfl
structure ZG (t n:Int) (x:EGS) (r:Bool×EGS):Prop where
 no:r.1=false->r.2=x
 yes:r.1=true->egW t n r.2/\r.2.k=x.k+1/\r.2.sh=x.sh/\r.2.tr=x.tr
 w:egW t n r.2
 z:r.1=true->(∀b,b≠r.2.s.a->aE r.2.s.xs b=aE x.s.xs b)/\0<=r.2.s.a/\r.2.s.a<=2*n+5+2*t+3*t
theorem tX{t n:Int}{x:EGS}(h:egW t n x):ZG t n x (false,x):=⟨fun _=>rfl,fun e=>Bool.noConfusion e,h,fun e=>Bool.noConfusion e⟩
theorem qR{t n:Int}{x:EGS}{s:MS}{h:HST}{i:Nat}{w:WKS}(hx:egW t n x)(hk:x.k<60000)(hi:i<x.ws.length)(ha:D3 t n x.s s)(hw:wkW t n (x.k+1) w)(hh:hstW (2*(x.k+1)) (x.k+1) h):
 ZG t n x (true,{sh:=x.sh,th:=x.th,nd:=x.nd,tr:=x.tr,s:=s,h:=h,ws:=dD x.ws i w,k:=W (x.k+1) }):=by
 obtain⟨ht,hn,st,sn,xt,xn,k,c,wd,l,ws,hst,mi,ln⟩:=hx;have hW:W (x.k+1)=x.k+1:=cH ⟨by omega,by omega⟩
 rw [hW]
 have hr:egW t n {sh:=x.sh,th:=x.th,nd:=x.nd,tr:=x.tr,s:=s,h:=h,ws:=dD x.ws i w,k:=x.k+1} :=by
  refine⟨ht,hn,ha.th.trans st,ha.nh.trans sn,xt,xn,?_,?_,ha.w wd,?_,?_,hh,ha.m mi,by dsimp only;rw [ha.len];exact ln⟩
  ·dsimp only;omega
  ·dsimp only;rw [ha.c,c]
  ·dsimp only;rw [x8];exact l
  ·intro j hj;dsimp only at hj⊢;rw [x8]at hj;rw [TN hi];split
   ·exact hw
   ·exact TO (ws j hj) (by omega)
 exact⟨fun e=>Bool.noConfusion e,fun _=>⟨hr,rfl,rfl,rfl⟩,hr,fun _=>⟨ha.z,ha.ra⟩⟩
theorem aA7{t n:Int}{x:EGS}(th:Int)(hx:egW t n x):(pkT th x).run (ZG t n x):=by
 have hx':=hx;obtain⟨ht,hn,st,sn,xt,xn,hk,hc,wd,hl,hws,hst,mi,ln⟩:=hx;have hB:Bnd t n x.s:=⟨⟨ht.1,by omega⟩,hn,by omega,wd,mi,ln⟩
 unfold pkT w2g w2h;refine Tr.run_ite (fun e1=>?_) (fun e1=>Tr.run_ite (fun e2=>?_) (fun e2=>?_))
 · (repeat' (with_reducible first | exact trivial | rfl | assumption | refine aJ7 ?_ ?_ | refine Tr.run_ite (fun _=>?_) (fun _=>?_) | refine aKd ?_ | refine And.intro ?_ ?_));exact tX hx'
 · (repeat' (with_reducible first | exact trivial | rfl | assumption | refine aJ7 ?_ ?_ | refine Tr.run_ite (fun _=>?_) (fun _=>?_) | refine aKd ?_ | refine And.intro ?_ ?_));exact tX hx'
 rw [bI,dF']at e1;rw [bZ,dF']at e2;have hi:0+Int.toNat th*1<x.ws.length:=by omega
 have hw:=hws _ hi;have hself:=HL hi;generalize hig:0+Int.toNat th*1=i at*;refine aJ7 ⟨by omega,by omega⟩ (aJ7 hi (aJ7 trivial (Tr.run_ite (fun e3=>?_) (fun e3=>Tr.run_ite (fun e4=>?_) (fun e4=>?_)))))
 · (repeat' (with_reducible first | exact trivial | rfl | assumption | refine aJ7 ?_ ?_ | refine Tr.run_ite (fun _=>?_) (fun _=>?_) | refine aKd ?_ | refine And.intro ?_ ?_))
   all_goals first | assumption | (rw [hself];exact tX hx')
 · (repeat' (with_reducible first | exact trivial | rfl | assumption | refine aJ7 ?_ ?_ | refine Tr.run_ite (fun _=>?_) (fun _=>?_) | refine aKd ?_ | refine And.intro ?_ ?_))
   all_goals first | assumption | (rw [hself];exact tX hx')
 rw [bZ,dF']at e4
 have hen:(bB x.ws i).en <((bB x.ws i).tk.length :Int):=by
  have h0:=hw.e0;have h1:=hw.e1;have h2:=hw.tk;have h3:=dT e3;have hW:=cH (x:=((bB x.ws i).tk.length :Int) - (bB x.ws i).en) ⟨by omega,by omega⟩
  have h4:W (((bB x.ws i).tk.length :Int) - (bB x.ws i).en)≠0:=h3;have hW:W (((bB x.ws i).tk.length :Int) - (bB x.ws i).en)=((bB x.ws i).tk.length :Int) - (bB x.ws i).en :=hW;rw [hW]at h4;omega
 have h1w:=(aE4 (tr:=x.tr) hw ht.1 hen).w;have h1o:=aE3 (tr:=x.tr) hw ht.1 hen;refine aJ7 h1o ?_;have hS:=aFc hB h1w (by omega)
 have hSo:=aFb hB h1w (by omega)
 generalize wbF x.tr (bB x.ws i)=w1 at*;generalize hsg:wsF w1 x.s=o at*;have hth:0<=th/\th<8:=by omega
 refine Tr.run_ite (fun e5=>?_) (fun e5=>?_)
 ·have hH:=aGL (th:=th) (kd:=(WK1.d w1).6) (ky:=(WK1.d w1).7) hst (by omega) (by omega) hth
  have hHo:hbOk th x.h (WK1.d w1).6 (WK1.d w1).7:=aKj hH;have hHv:hstW (2*x.k+1) (x.k+1) (hbF th x.h (WK1.d w1).6 (WK1.d w1).7).2:=aKc hH;generalize hbF th x.h (WK1.d w1).6 (WK1.d w1).7=y at*;have hE:=aAX (th:=th) (code:=o.1) (okk:=o.2) (val:=o.3) hHv (by omega) (by omega) hth
  have hEo:heOk th y.2 o.1 o.2 o.3:=aKj hE;have hEv:hstW (2*x.k+1+1) (x.k+1) (heF th y.2 o.1 o.2 o.3).2:=aKc hE
  (repeat' (with_reducible first | exact trivial | rfl | assumption | refine aJ7 ?_ ?_ | refine Tr.run_ite (fun _=>?_) (fun _=>?_) | refine aKd ?_ | refine And.intro ?_ ?_))
  all_goals first
   | assumption
   | exact qR hx' (by omega) hi hS.a hS.w (jM hEv (by omega) (by omega))
   | exact qR hx' (by omega) hi hS.a hS.w (jM hHv (by omega) (by omega))
 ·have hE:=aAX (th:=th) (code:=o.1) (okk:=o.2) (val:=o.3) hst (by omega) (by omega) hth
  have hEo:heOk th x.h o.1 o.2 o.3:=aKj hE;have hEv:hstW (2*x.k+1) x.k (heF th x.h o.1 o.2 o.3).2:=aKc hE
  (repeat' (with_reducible first | exact trivial | rfl | assumption | refine aJ7 ?_ ?_ | refine Tr.run_ite (fun _=>?_) (fun _=>?_) | refine aKd ?_ | refine And.intro ?_ ?_))
  all_goals first
   | assumption
   | exact qR hx' (by omega) hi hS.a hS.w (jM hEv (by omega) (by omega))
   | exact qR hx' (by omega) hi hS.a hS.w (jM hst (by omega) (by omega))
theorem aEt{t n:Int}{x:EGS}(th:Int)(hx:egW t n x):RZ th x:=aKj (aA7 th hx)
theorem mB{t n:Int}{x:EGS}(th:Int)(hx:egW t n x):ZG t n x (pkF th x):=aKc (aA7 th hx)
structure rowOk (row:Nat->List AVal):Prop where
 h: ∃th tm:Nat->Int,row=fun i=>[.int .i64 (th i),.int .i64 (tm i)]
noncomputable def EUa:=EU9
noncomputable def EUb:=EUa
theorem fB{a b:Int}(h:ilt a b=true):a<b:=by rw [bI]at h;exact of_decide_eq_true h
theorem gB{a b:Int}(h:ilt a b=false): ¬a<b:=by rw [bI]at h;exact of_decide_eq_false h
noncomputable def EUc:=EUb
abbrev C0(m:Nat)(ln:Nat->Nat)(f g:Nat->Nat->Int):AVal:=.view m 1 (fun i=>[.view (ln i) 2 (fun j=>[.I (f i j),.I (g i j)])])
structure er1 (m:Nat) (ln:Nat->Nat) (x:Nat):Prop where
 hi:x<=m
 hl: ∀j,j<x->ln j<=40
structure er2 (sh:Int) (m:Nat) (ln:Nat->Nat) (f g:Nat->Nat->Int) (x:Nat):Prop where
 hi:x<=m
 hl: ∀j,j<x->eN sh (ln j) (f j) (g j)=true
structure er3 (sh:Int) (m:Nat) (ln:Nat->Nat) (f g:Nat->Nat->Int) (i0:Int) (x:Nat×Nat):Prop where
 hi:x.1<m
 h0:(x.1:Int)=i0
 hk:x.2<=ln x.1
 hl: ∀j,j<x.1->eN sh (ln j) (f j) (g j)=true
 hr: ∀j,j<x.2->bR sh (f x.1 j) (g x.1 j)=true
def UA(sh th nd tr:Int)(m:Nat)(ln:Nat->Nat)(f g:Nat->Nat->Int):Hint Ob:= {X:=Nat,st:=fun x=>([.I sh,.I th,.I nd,.I tr,C0 m ln f g,.O,.O,.O,.O,.O,.O,.I (x:Int)]++List.replicate 71 .O,[]),ok:=er1 m ln,mu:=fun x=>m - x,keep:=[0,1,2,3,4,11] }
def UB(sh th nd tr:Int)(m:Nat)(ln:Nat->Nat)(f g:Nat->Nat->Int):Hint Ob:= {X:=Nat,st:=fun x=>([.I sh,.O,.O,.O,C0 m ln f g,.O,.O,.O,.O,.O,.O,.O,.I (x:Int)]++List.replicate 70 .O,[]),ok:=er2 sh m ln f g,mu:=fun x=>m - x,keep:=[0,4,12] }
def UC(sh th nd tr:Int)(m:Nat)(ln:Nat->Nat)(f g:Nat->Nat->Int)(i0:Int):Hint Ob:= {X:=Nat×Nat,st:=fun x=>([.I sh,.O,.O,.O,C0 m ln f g,.O,.O,.O,.O,.O,.O,.O,.I (x.1:Int),.I (x.2:Int)]++List.replicate 69 .O,[]),ok:=er3 sh m ln f g i0,mu:=fun x=>ln x.1 - x.2,keep:=[0,4,12,13] }
def LER(sh th nd tr:Int)(m:Nat)(ln:Nat->Nat)(f g:Nat->Nat->Int):FuncId->Nat->Option (mM Ob):=fun _ k=>match k with
 | 8=>some (.states (UA sh th nd tr m ln f g))
 | 13=>some (.states (UB sh th nd tr m ln f g))
 | 16=>some (.statesAt 12 (UC sh th nd tr m ln f g))
 | _=>none
def WZ(sh th nd tr:Int)(m:Nat)(ln:Nat->Nat)(f g:Nat->Nat->Int)(K:AVal->aC Ob->Prop):Prop:=bif ilt sh 1 then K (.I 1) []else bif ilt 4 sh then K (.I 1) []else bif ilt th 1 then K (.I 2) []else bif ilt 8 th then K (.I 2) []else bif ilt nd 1 then K (.I 2) []else bif ilt 200 nd then K (.I 2) []else bif ilt tr 0 then K (.I 2) []else bif ilt 50 tr then K (.I 2) []else bif ilt th (↑m:Int)then K (.I 6) []else dJ (UA sh th nd tr m ln f g) (Hint.ok (UA sh th nd tr m ln f g)) (.I sh::.I th::.I nd::.I tr::(.view m 1 fun i=>[.view (ln i) 2 fun j=>[.I (f i j),.I (g i j)]])::.O::.O::.O::.O::.O::.O::.I 0::(tO' 71 [])) []/\ ∀(x:Nat),er1 m ln x->bif ilt (↑x:Int) (↑m:Int)then((0:Int)<=(↑x:Int)/\(↑x:Int)<(↑m:Int))/\bif ilt 40 (↑(ln (Int.toNat (↑x:Int))):Int)then K (.I 6) []else dJ (UA sh th nd tr m ln f g) (fun x'=>Hint.ok (UA sh th nd tr m ln f g) x'/\Hint.mu (UA sh th nd tr m ln f g) x'<Hint.mu (UA sh th nd tr m ln f g) x) (.I sh::.I th::.I nd::.I tr::(.view m 1 fun i=>[.view (ln i) 2 fun j=>[.I (f i j),.I (g i j)]])::.O::.O::.O::.O::.O::.O::.I (W ((↑x:Int)+1))::(tO' 71 [])) []else dJ (UB sh th nd tr m ln f g) (Hint.ok (UB sh th nd tr m ln f g)) (.I sh::.O::.O::.O::(.view m 1 fun i=>[.view (ln i) 2 fun j=>[.I (f i j),.I (g i j)]])::.O::.O::.O::.O::.O::.O::.O::.I 0::(tO' 70 [])) []/\ ∀(x:Nat),er2 sh m ln f g x->bif ilt (↑x:Int) (↑m:Int)then dJ (UC sh th nd tr m ln f g (↑x:Int)) (Hint.ok (UC sh th nd tr m ln f g (↑x:Int))) (.I sh::.O::.O::.O::(.view m 1 fun i=>[.view (ln i) 2 fun j=>[.I (f i j),.I (g i j)]])::.O::.O::.O::.O::.O::.O::.O::.I (↑x:Int)::.I 0::(tO' 69 [])) []/\ ∀(x_1:(Nat×Nat)),er3 sh m ln f g (↑x:Int) x_1->((0:Int)<=(↑x_1.1:Int)/\(↑x_1.1:Int)<(↑m:Int))/\bif ilt (↑x_1.2:Int) (↑(ln (Int.toNat (↑x_1.1:Int))):Int)then((0:Int)<=(↑x_1.1:Int)/\(↑x_1.1:Int)<(↑m:Int))/\((0:Int)<=(↑x_1.2:Int)/\(↑x_1.2:Int)<(↑(ln (Int.toNat (↑x_1.1:Int))):Int))/\True/\bif !bR sh (f (Int.toNat (↑x_1.1:Int)) (Int.toNat (↑x_1.2:Int))) (g (Int.toNat (↑x_1.1:Int)) (Int.toNat (↑x_1.2:Int)))then K (.I 1) []else dJ (UC sh th nd tr m ln f g (↑x:Int)) (fun x'=>Hint.ok (UC sh th nd tr m ln f g (↑x:Int)) x'/\Hint.mu (UC sh th nd tr m ln f g (↑x:Int)) x'<Hint.mu (UC sh th nd tr m ln f g (↑x:Int)) x_1) (.I sh::.O::.O::.O::(.view m 1 fun i=>[.view (ln i) 2 fun j=>[.I (f i j),.I (g i j)]])::.O::.O::.O::.O::.O::.O::.O::.I (↑x_1.1:Int)::.I (W ((↑x_1.2:Int)+1))::(tO' 69 [])) []else dJ (UB sh th nd tr m ln f g) (fun x'=>Hint.ok (UB sh th nd tr m ln f g) x'/\Hint.mu (UB sh th nd tr m ln f g) x'<Hint.mu (UB sh th nd tr m ln f g) x) (.I sh::.O::.O::.O::(.view m 1 fun i=>[.view (ln i) 2 fun j=>[.I (f i j),.I (g i j)]])::.O::.O::.O::.O::.O::.O::.O::.I (W ((↑x_1.1:Int)+1))::(tO' 70 [])) []else K (.I 0) []
set_option maxRecDepth 100000 in
theorem PS(sh th nd tr:Int)(m:Nat)(ln:Nat->Nat)(f g:Nat->Nat->Int)(K:AVal->aC Ob->Prop)(h:WZ sh th nd tr m ln f g K):cT' 78 [.I sh,.I th,.I nd,.I tr,C0 m ln f g] [] (eD 0 K):=by
 exact aD (E:=EUc) Tryz.checked.mixed (L:=LER sh th nd tr m ln f g) (n:=10) (aK (by kernel_rfl) h)
theorem aAR{sh th nd tr:Int}{m:Nat}{ln:Nat->Nat}{f g:Nat->Nat->Int}(h:gnC sh th nd tr m ln f g=0):wrE sh th nd tr=0:=by
 unfold gnC at h;cases h1:ieq (wrE sh th nd tr) 0 with
 | true=>exact sX h1
 | false=>rw [h1]at h;exact h
theorem aDw{sh th nd tr:Int}{m:Nat}{ln:Nat->Nat}{f g:Nat->Nat->Int}(h:gnC sh th nd tr m ln f g=0):lgB th m ln=false:=by
 have h0:=aAR h;unfold gnC at h;rw [h0]at h;cases e:lgB th m ln with
 | false=>rfl
 | true=>rw [e]at h;exact absurd (show(6:Int)=0 from h) (by decide)
theorem aDx{sh th nd tr:Int}{m:Nat}{ln:Nat->Nat}{f g:Nat->Nat->Int}(h:gnC sh th nd tr m ln f g=0){i:Nat}(hi:i<m):ln i<=40:=by
 have h1:=aDw h;unfold lgB at h1;rw [Bool.or_eq_false_iff]at h1;have h2:=List.any_eq_false.1 h1.1 i (List.mem_range.2 hi)
 simpa using h2
theorem MA(k:Nat):ZC (List.replicate k 0):=by
 refine⟨fun x hx=>?_⟩;rw [List.eq_of_mem_replicate hx];exact⟨by decide,by decide⟩
theorem aAj{sh th nd tr:Int}{m:Nat}{ln:Nat->Nat}{f g:Nat->Nat->Int}(h:gnC sh th nd tr m ln f g=0){j:Nat}(hj:(j:Int)<th)(hth:th<=8)(hnd:1<=nd):wkW th nd 0 (gM sh th nd m ln f g j):=by
 have hl:((bif ilt (j:Int) (m:Int)then ofR sh (ln j) (f j) (g j)else []).length :Int)<=40:=by
  cases e:ilt (j:Int) (m:Int)with
  | false=>exact(by decide:((0:Nat):Int)<=40)
  | true=>
    rw [bI,dT']at e;have h1:=aDx h (i:=j) (by omega)
    show((ofR sh (ln j) (f j) (g j)).length :Int)<=40;unfold ofR;cases eN sh (ln j) (f j) (g j)with
    | false=>exact(by decide:((0:Nat):Int)<=40)
    | true=>show((kH sh (ln j) (f j) (g j)).length :Int)<=40;rw [pN];omega
 unfold gM;generalize (bif ilt (j:Int) (m:Int)then ofR sh (ln j) (f j) (g j)else [])=tk at hl⊢;exact⟨rfl,rfl,⟨⟨by show(0:Int)<=(j:Int);omega,hj⟩,⟨(by decide:(0:Int)<=0),by show(0:Int)<=nd;omega⟩,sC,(by decide:((0:Nat):Int)<=0)⟩,fun e=>Bool.noConfusion e,(by decide:(0:Int)<=0),by show(0:Int)<=(tk.length:Int);omega,rfl,(by decide:((0:Nat):Int)<=0),by show(tk.length:Int)<=100000;omega,fun v hv=>nomatch hv⟩
theorem GP(k:Nat)(a:Int):aE (List.replicate k 0) a=0:=by
 unfold aE;split
 ·rename_i h;rw [gD',List.getElem?_replicate];split<;>rfl
 ·rfl
theorem RD(t n:Int)(hn:1<=n)(k:Nat):MI t n (List.replicate k 0):=by
 have e:=GP k;exact⟨fun a _=>by rw [e,p7];omega,fun u _ _=>by rw [e];exact⟨by rw [p7];omega,by rw [p7];omega⟩⟩
theorem HY{sh th nd tr:Int}{m:Nat}{ln:Nat->Nat}{f g:Nat->Nat->Int}(h:gnC sh th nd tr m ln f g=0):egW th nd (mY sh th nd tr m ln f g):=by
 have h0:=aAR h;obtain⟨_,_,⟨t0,t1,n0,n1⟩,_⟩:=aBm (by rw [cI,h0];rfl)
 refine⟨⟨t0,t1⟩,⟨n0,by omega⟩,rfl,rfl,rfl,rfl,⟨(by decide:(0:Int)<=0),(by decide:(0:Int)<=60000)⟩,rfl,MA _,?_,?_,?_,RD _ _ n0 _,?_⟩
 ·show(((List.range th.toNat).map _).length :Int)=th;rw [List.length_map,List.length_range];omega
 ·intro i hi;have hi:i<((List.range th.toNat).map (gM sh th nd m ln f g)).length :=hi;rw [List.length_map,List.length_range]at hi
  have e:bB (mY sh th nd tr m ln f g).ws i=gM sh th nd m ln f g i:=by
   show bB ((List.range th.toNat).map (gM sh th nd m ln f g)) i=_;unfold bB;rw [gD',List.getElem?_map,List.getElem?_range hi];rfl
  rw [e];exact aAj h (by omega) t1 n0
 ·refine⟨(by decide:((0:Nat):Int)<=2*0),(by decide:((0:Nat):Int)<=0),?_,?_,?_,?_,?_,?_,?_,?_⟩<;>exact⟨(by decide:(0:Int)<=0),(by decide:(0:Int)<=((0:Nat):Int))⟩
 ·show((List.replicate _ (0:Int)).length :Int)=_;rw [List.length_replicate];omega
theorem kO{sh th nd tr:Int}{m:Nat}{ln:Nat->Nat}{f g:Nat->Nat->Int}{c:Int}(h:wrE sh th nd tr=c)(h0:ieq c 0=false):gnC sh th nd tr m ln f g=c:=by
 unfold gnC;rw [h,h0];rfl
theorem aAS{sh th nd tr:Int}{m:Nat}{ln:Nat->Nat}{f g:Nat->Nat->Int}(h:wrE sh th nd tr=0)(hl:lgB th m ln=true):gnC sh th nd tr m ln f g=6:=by
 unfold gnC;rw [h,hl];rfl
theorem aGw{sh th nd tr:Int}{m:Nat}{ln:Nat->Nat}{f g:Nat->Nat->Int}(h:wrE sh th nd tr=0)(hl:lgB th m ln=false)(ha: ∃i k,i<m/\k<ln i/\bR sh (f i k) (g i k)=false):gnC sh th nd tr m ln f g=1:=by
 have:((List.range m).all fun j=>eN sh (ln j) (f j) (g j))=false:=by
  obtain⟨i,k,hi,hk,hr⟩:=ha;rw [List.all_eq_false];refine⟨i,List.mem_range.2 hi,?_⟩;intro e;rw [oG.1 e k hk]at hr;cases hr
 unfold gnC;rw [h,hl,this];rfl
theorem aDy{sh th nd tr:Int}{m:Nat}{ln:Nat->Nat}{f g:Nat->Nat->Int}(h:wrE sh th nd tr=0)(hl:lgB th m ln=false)(ha: ∀i,i<m->eN sh (ln i) (f i) (g i)=true):gnC sh th nd tr m ln f g=0:=by
 have:((List.range m).all fun j=>eN sh (ln j) (f j) (g j))=true:=by
  rw [List.all_eq_true];intro i hi;exact ha i (List.mem_range.1 hi)
 unfold gnC;rw [h,hl,this];rfl
theorem qU{t n:Int}(h:t<1\/8<t\/n<1\/200<n):eC t n=false:=by
 cases e:eC t n with
 | false=>rfl
 | true=>have:=s7.1 e;omega
theorem I3{a b:Int}(h:a<b):ilt a b=true:=by rw [bI];exact decide_eq_true h
theorem sZ{a b:Int}(h: ¬a<b):ilt a b=false:=by rw [bI];exact decide_eq_false h
theorem W1{i:Nat}{m:Nat}(hi:i<m)(hm:m<=1000000):W ((i:Int)+1)=((i+1:Nat):Int):=by
 have:=cH (x:=(i:Int)+1) ⟨by omega,by omega⟩
 exact this.trans (by omega)
set_option maxRecDepth 10000 in
theorem aGl(sh th nd tr:Int)(m:Nat)(ln:Nat->Nat)(f g:Nat->Nat->Int)(K:AVal->aC Ob->Prop)(hm:m<=1000000)(hK:K (.I (gnC sh th nd tr m ln f g)) []):WZ sh th nd tr m ln f g K:=by
 have key: ∀c,gnC sh th nd tr m ln f g=c->K (.I c) []:=fun c e=>by rw [<-e];exact hK
 have w1:(sh<1\/4<sh)->wrE sh th nd tr=1:=by
  intro h;unfold wrE
  by_cases h1:sh<1
  ·rw [I3 h1];rfl
  ·rw [sZ h1,I3 (show 4<sh by omega)];rfl
 have w2: ¬(sh<1\/4<sh)->(eC th nd=false\/tr<0\/50<tr)->wrE sh th nd tr=2:=by
  intro h h2;unfold wrE;rw [sZ (show¬sh<1 by omega),sZ (show¬4<sh by omega)]
  cases e:eC th nd with
  | false=>rfl
  | true=>
    rw [e]at h2
    by_cases h3:tr<0
    ·rw [I3 h3];rfl
    ·rw [sZ h3,I3 (show 50<tr by rcases h2 with h2 | h2 | h2<;>first | (exact Bool.noConfusion h2) | omega)];rfl
 unfold WZ;refine aU (fun e1=>key 1 (kO (w1 (.inl (fB e1))) rfl)) (fun e1=>?_);refine aU (fun e2=>key 1 (kO (w1 (.inr (fB e2))) rfl)) (fun e2=>?_);have e1:=gB e1;have e2:=gB e2;have hs: ¬(sh<1\/4<sh):=by omega
 refine aU (fun e3=>key 2 (kO (w2 hs (.inl (qU (.inl (fB e3))))) rfl)) (fun e3=>?_);refine aU (fun e4=>key 2 (kO (w2 hs (.inl (qU (.inr (.inl (fB e4)))))) rfl)) (fun e4=>?_);refine aU (fun e5=>key 2 (kO (w2 hs (.inl (qU (.inr (.inr (.inl (fB e5))))))) rfl)) (fun e5=>?_);refine aU (fun e6=>key 2 (kO (w2 hs (.inl (qU (.inr (.inr (.inr (fB e6))))))) rfl)) (fun e6=>?_);refine aU (fun e7=>key 2 (kO (w2 hs (.inr (.inl (fB e7)))) rfl)) (fun e7=>?_);refine aU (fun e8=>key 2 (kO (w2 hs (.inr (.inr (fB e8)))) rfl)) (fun e8=>?_);have e3:=gB e3;have e4:=gB e4;have e5:=gB e5;have e6:=gB e6;have e7:=gB e7;have e8:=gB e8;have hr:eC th nd=true:=s7.2 ⟨by omega,by omega,by omega,by omega⟩
 have hw:wrE sh th nd tr=0:=by
  unfold wrE;rw [sZ e1,sZ e2,hr,sZ e7,sZ e8];rfl
 refine aU (fun e9=>key 6 (aAS hw (I5 (.inr (fB e9))))) (fun e9=>?_);have e9:=gB e9;refine⟨aR (H:=UA sh th nd tr m ln f g) (0:Nat) rfl ⟨Nat.zero_le _,fun j hj=>absurd hj (Nat.not_lt_zero _)⟩,?_⟩;rintro x ⟨hx,hxl⟩;refine aU (fun a1=>?_) (fun a1=>?_)
 ·have a1:=fB a1;have hxm:x<m:=by omega
  rw [Int.toNat_natCast];refine⟨⟨by omega,by omega⟩,aU (fun a2=>key 6 (aAS hw (I5 (.inl ⟨x,hxm,by have:=fB a2;omega⟩)))) (fun a2=>?_)⟩
  have a2:=gB a2;rw [W1 hxm hm];refine aR (H:=UA sh th nd tr m ln f g) (x+1:Nat) rfl ⟨⟨hxm,fun j hj=>?_⟩,by show m - (x+1)<m - x;omega⟩
  by_cases e:j=x
  ·subst e;omega
  ·exact hxl j (by omega)
 ·have a1:=gB a1;have hxm:x=m:=by omega
  subst hxm;have hlg:lgB th x ln=false:=RA.2 ⟨hxl,by omega⟩
  refine⟨aR (H:=UB sh th nd tr x ln f g) (0:Nat) rfl ⟨Nat.zero_le _,fun j hj=>absurd hj (Nat.not_lt_zero _)⟩,?_⟩;rintro i ⟨hi,hil⟩;refine aU (fun b1=>?_) (fun b1=>?_)
  ·have b1:=fB b1;have him:i<x:=by omega
   refine⟨aR (H:=UC sh th nd tr x ln f g (i:Int)) (i,(0:Nat)) rfl ⟨him,rfl,Nat.zero_le _,hil,fun j hj=>absurd hj (Nat.not_lt_zero _)⟩,?_⟩;rintro⟨i2,k⟩ ⟨ci,c0,ck,cl,cr⟩;dsimp only at ci c0 ck cl cr⊢;have c0:i2=i:=by omega
   subst c0;rw [Int.toNat_natCast,Int.toNat_natCast];have hln:=hxl i2 ci;refine⟨⟨by omega,by omega⟩,aU (fun d1=>?_) (fun d1=>?_)⟩
   ·have d1:=fB d1;refine⟨⟨by omega,by omega⟩,⟨by omega,by omega⟩,trivial,aU (fun d2=>key 1 (aGw hw hlg ⟨i2,k,ci,by omega,by simpa using d2⟩)) (fun d2=>?_)⟩
    rw [W1 (show k<ln i2 by omega) (by omega)]
    refine aR (H:=UC sh th nd tr x ln f g (i2:Int)) (i2,(k+1:Nat)) rfl ⟨⟨ci,rfl,by dsimp only;omega,cl,fun j hj=>?_⟩,by show ln i2 - (k+1)<ln i2 - k;omega⟩
    dsimp only at hj⊢
    by_cases e:j=k
    ·subst e;simpa using d2
    ·exact cr j (by omega)
   ·have d1:=gB d1;rw [W1 ci hm];refine aR (H:=UB sh th nd tr x ln f g) (i2+1:Nat) rfl ⟨⟨ci,fun j hj=>?_⟩,by show x - (i2+1)<x - i2;omega⟩
    by_cases e:j=i2
    ·subst e;exact oG.2 (fun q hq=>cr q (by omega))
    ·exact cl j (by omega)
  ·have b1:=gB b1;have him:i=x:=by omega
   subst him;exact key 0 (aDy hw hlg hil)
def erS:aH Ob:=fun args h=>match args,h with
 | [.int .i64 sh,.int .i64 th,.int .i64 nd,.int .i64 tr,.view m 1 vr],[]=>some (.pre (m<=1000000/\fF vr) (.ret (.I (gnC sh th nd tr m (vL vr) (vK vr) (vY vr))) []))
 | _,_=>none
theorem aGk:sT' 78 erS:=by
 intro args h o ho K hK;unfold erS at ho;split at ho<;>cases ho
 rename_i sh th nd tr m vr;obtain⟨⟨hm,⟨hr⟩⟩,hK⟩:=hK;rw [hr];exact aJ1 (PS sh th nd tr m (vL vr) (vK vr) (vY vr) K (aGl sh th nd tr m (vL vr) (vK vr) (vY vr) K hm hK))
noncomputable def EUd:=EUc.addS 78 erS aGk
def aEG:bE Ob:=fun args h=>match args,h with
 | [.ptr 0 0,.int .i64 th],[some (.abs (.engine x) [])]=>some (True,.I (lK th x))
 | _,_=>none
theorem ZT:sT' 33 aEG.spec:=by
 intro args h o ho K hK;unfold bE.spec at ho;split at ho
 case h_2=>cases ho
 rename_i hv;unfold aEG at hv;split at hv
 case h_2=>cases hv
 simp only [sI',pI']at hv;obtain⟨rfl,rfl⟩:=hv;simp only [sI']at ho;subst ho;exact SR _ _ _ rfl K hK
def aC3:bE Ob:=fun args h=>match args,h with
 | [.ptr 0 0],[some (.abs (.engine x) [])]=>some (True,.I x.k)
 | _,_=>none
theorem W3:sT' 34 aC3.spec:=by
 intro args h o ho K hK;unfold bE.spec at ho;split at ho
 case h_2=>cases ho
 rename_i hv;unfold aC3 at hv;split at hv
 case h_2=>cases hv
 simp only [sI',pI']at hv;obtain⟨rfl,rfl⟩:=hv;simp only [sI']at ho;subst ho;exact PT _ _ _ rfl K hK
def aCO:bE Ob:=fun args h=>match args,h with
 | [.ptr 0 0],[some (.abs (.engine x) [])]=>some (True,.agg [.I x.s.t,.I x.s.n])
 | _,_=>none
theorem WS:sT' 38 aCO.spec:=by
 intro args h o ho K hK;unfold bE.spec at ho;split at ho
 case h_2=>cases ho
 rename_i hv;unfold aCO at hv;split at hv
 case h_2=>cases hv
 simp only [sI',pI']at hv;obtain⟨rfl,rfl⟩:=hv;simp only [sI']at ho;subst ho;exact PL _ _ _ rfl K hK
def aCZ:bE Ob:=fun args h=>match args,h with
 | [.ptr 0 0,.int .i64 a],[some (.abs (.engine x) [])]=>some (True,.int .u64 (aE x.s.xs a))
 | _,_=>none
theorem WY:sT' 37 aCZ.spec:=by
 intro args h o ho K hK;unfold bE.spec at ho;split at ho
 case h_2=>cases ho
 rename_i hv;unfold aCZ at hv;split at hv
 case h_2=>cases hv
 simp only [sI',pI']at hv;obtain⟨rfl,rfl⟩:=hv;simp only [sI']at ho;subst ho;exact PP _ _ _ rfl K hK
def aCN:bE Ob:=fun args h=>match args,h with
 | [.ptr 0 0],[some (.abs (.engine x) [])]=>some (True,.agg [.I x.s.k,.I x.s.a,.int .u64 x.s.o,.int .u64 x.s.w,.bool x.s.ok])
 | _,_=>none
theorem WR:sT' 45 aCN.spec:=by
 intro args h o ho K hK;unfold bE.spec at ho;split at ho
 case h_2=>cases ho
 rename_i hv;unfold aCN at hv;split at hv
 case h_2=>cases hv
 simp only [sI',pI']at hv;obtain⟨rfl,rfl⟩:=hv;simp only [sI']at ho;subst ho;exact PJ _ _ _ rfl K hK
def aEK:cV Ob:=fun args h=>match args,h with
 | [.ptr 0 0,.int .i64 th],[some (.abs (.engine x) [])]=>some (iY x,.slice 1 0 (gL th x).length 1,[.ints (some .i64) (gL th x)])
 | _,_=>none
theorem ZY:sT' 32 aEK.spec:=by
 intro args h o ho K hK;unfold cV.spec at ho;split at ho
 case h_2=>cases ho
 rename_i hv;unfold aEK at hv;split at hv
 case h_2=>cases hv
 simp only [sI',pI']at hv;obtain⟨rfl,rfl,rfl⟩:=hv;simp only [sI']at ho;subst ho;exact SV _ _ _ rfl K hK
def aEJ:cV Ob:=fun args h=>match args,h with
 | [.ptr 0 0,.int .i64 th],[some (.abs (.engine x) [])]=>some (iY x,.slice 1 0 (gI th x).length 1,[.ints (some .i64) (gI th x)])
 | _,_=>none
theorem ZX:sT' 35 aEJ.spec:=by
 intro args h o ho K hK;unfold cV.spec at ho;split at ho
 case h_2=>cases ho
 rename_i hv;unfold aEJ at hv;split at hv
 case h_2=>cases hv
 simp only [sI',pI']at hv;obtain⟨rfl,rfl,rfl⟩:=hv;simp only [sI']at ho;subst ho;exact SU _ _ _ rfl K hK
def aEF:cV Ob:=fun args h=>match args,h with
 | [.ptr 0 0,.int .i64 th],[some (.abs (.engine x) [])]=>some (iY x,.slice 1 0 (gA th x).length 1,[.ints (some .i64) (gA th x)])
 | _,_=>none
theorem ZS:sT' 69 aEF.spec:=by
 intro args h o ho K hK;unfold cV.spec at ho;split at ho
 case h_2=>cases ho
 rename_i hv;unfold aEF at hv;split at hv
 case h_2=>cases hv
 simp only [sI',pI']at hv;obtain⟨rfl,rfl,rfl⟩:=hv;simp only [sI']at ho;subst ho;exact SP _ _ _ rfl K hK
def aCL:cV Ob:=fun args h=>match args,h with
 | [.ptr 0 0],[some (.abs (.engine x) [])]=>some (x.h.ev.length<=4294967296/\x.h.cl.length<=4294967296,.ptr 1 0,[.abs (.hist x.h) []])
 | _,_=>none
theorem WP:sT' 28 aCL.spec:=by
 intro args h o ho K hK;unfold cV.spec at ho;split at ho
 case h_2=>cases ho
 rename_i hv;unfold aCL at hv;split at hv
 case h_2=>cases hv
 simp only [sI',pI']at hv;obtain⟨rfl,rfl,rfl⟩:=hv;simp only [sI']at ho;subst ho;exact PF _ _ _ rfl K hK
def aCM:cV Ob:=fun args h=>match args,h with
 | [.ptr 0 0],[some (.abs (.engine x) [])]=>some (0<=x.s.n/\x.s.n<=100000,.slice 1 0 (bD x).length 1,[.ints (some .i64) (bD x)])
 | _,_=>none
theorem WQ:sT' 55 aCM.spec:=by
 intro args h o ho K hK;unfold cV.spec at ho;split at ho
 case h_2=>cases ho
 rename_i hv;unfold aCM at hv;split at hv
 case h_2=>cases hv
 simp only [sI',pI']at hv;obtain⟨rfl,rfl,rfl⟩:=hv;simp only [sI']at ho;subst ho;exact PH _ _ _ rfl K hK
noncomputable def EUe0:=((((((((((EUd.addR 33 aEG ZT).addR 34 aC3 W3).addR 38 aCO WS).addR 37 aCZ WY).addR 45 aCN WR).addN 32 aEK ZY).addN 35 aEJ ZX).addN 69 aEF ZS).addN 28 aCL WP).addN 55 aCM WQ)
theorem GL(t:TypeId)(l off:Nat)(h:aC Ob)(v:AVal)(q:Option Prop)(hk:(vI tbl Tryz.prog t l off h).map (·,none)=some (v,q))(_:onp q)(V:Val)(hR:PHeap)(w:World)(b k:Nat)(hi:Inv (obI tbl) V (toF h) hR w)(hV:V l=some (b,k)): ∃v',(Instr.loadAt t (.pointer (some ⟨b,off,none⟩))).run Tryz.prog w=.ok v' w/\Rep V v v':=by
 cases e:vI tbl Tryz.prog t l off h with
 | none=>rw [e]at hk;cases hk
 | some x=>rw [e]at hk;cases hk;exact L6 t l off h _ e V hR w b k hi hV
noncomputable def EUe:Env Ob Tryz.prog:= {EUe0 with fld:=fun t l off h=>(vI tbl Tryz.prog t l off h).map (·,none),fldOk:=GL}
theorem PC{t n:Int}{x:EGS}(h:egW t n x):iY x:=by
 have hk:=h.k;refine⟨by have:=h.l;have:=h.ht;omega,fun i hi=>?_,fun i hi=>?_,fun i hi=>?_⟩
 ·have h1:=(h.ws i hi).tl;have:=(h.ws i hi).e1;have:=(h.ws i hi).tk;cases hb:(bB x.ws i).b with
  | true=>
    rw [hb]at h1;have h1:((bB x.ws i).tl.length :Int)=(bB x.ws i).en +1:=h1;omega
  | false=>
    rw [hb]at h1;have h1:((bB x.ws i).tl.length :Int)=(bB x.ws i).en +0:=h1;omega
 ·have:=(h.ws i hi).sl;have:=(h.ws i hi).e1;have:=(h.ws i hi).tk;omega
 ·have:=(h.ws i hi).st.ln;omega
theorem PD{t n:Int}{x:EGS}(h:egW t n x):x.h.ev.length<=4294967296/\x.h.cl.length<=4294967296:=by
 have:=h.h.he;have:=h.h.hc;have hk:=h.k;exact⟨by omega,by omega⟩
end Go.Sh
namespace Go.Sh
open Go Go.Proofs
theorem kD{b:Bool}{x y:aC Mc}(hx:cG x=true)(hy:cG y=true):cG (bif b then x else y)=true:=by cases b<;>assumption
theorem xQ{A:Type}(ws:List (Option A)): ∀k,aKv (rowC k ws)=true:=by
 induction ws with
 | nil=>intro k;rfl
 | cons w ws ih=>
   intro k;cases w with
   | none=>exact ih (k+1)
   | some t=>exact ih (k+1)
theorem CV(v:AVal)(hv:v.noV=true)(l:List AVal): ∀i,aKv l=true->aKv (l.set i v)=true:=by
 induction l with
 | nil=>intro i h;exact h
 | cons a l ih=>
   intro i h;obtain⟨h1,h2⟩:=Bool.and_eq_true_iff.1 h;cases i with
   | zero=>exact Bool.and_eq_true_iff.2 ⟨hv,h2⟩
   | succ i=>exact Bool.and_eq_true_iff.2 ⟨h1,ih i h2⟩
theorem CW{A:Type}(ws:List (Option A)):cG (ST ws)=true:=by
 induction ws with
 | nil=>rfl
 | cons w ws ih=>cases w<;>exact ih
theorem I8{A:Type}(h:aC A): ∀i,cG h=true->cG (h.set i none)=true:=by
 induction h with
 | nil=>intro i hh;exact hh
 | cons e h ih=>
   intro i hh;unfold cG at hh⊢;rw [List.all_cons,Bool.and_eq_true]at hh;cases i with
   | zero=>rw [List.set_cons_zero,List.all_cons,Bool.and_eq_true];exact⟨rfl,hh.2⟩
   | succ i=>rw [List.set_cons_succ,List.all_cons,Bool.and_eq_true];exact⟨hh.1,ih i hh.2⟩
theorem RJ{A:Type}(ws:List (Option A)):cG (rowE ws)=true:=by
 unfold rowE cG;rw [List.all_cons,Bool.and_eq_true];exact⟨xQ _ 1,CW _⟩
theorem L4{A:Type}(ws:List (Option A))(i:Nat):cG (kP ws i)=true:=by
 unfold kP cG;rw [List.all_cons,List.all_cons,Bool.and_eq_true,Bool.and_eq_true];exact⟨CV _ rfl _ i (xQ _ 2),rfl,I8 _ i (CW _)⟩
theorem vH{A:Type}{E:wT A}(h: ∀k x,(E.hd k x).noV =true)(ws:List E.X): ∀k,aKv (iZ E k ws)=true:=by
 induction ws with
 | nil=>intro k;rfl
 | cons w ws ih=>intro k;exact Bool.and_eq_true_iff.2 ⟨h _ _,ih _⟩
theorem xR{A:Type}{E:wT A}(h: ∀x,(E.en x).noV =true)(ws:List E.X):cG (DG E ws)=true:=by
 induction ws with
 | nil=>rfl
 | cons w ws ih=>exact Bool.and_eq_true_iff.2 ⟨h _,ih⟩
theorem L5{A:Type}{E:wT A}(h: ∀k x,(E.hd k x).noV =true)(h2: ∀x,(E.en x).noV =true)(ws:List E.X):cG (fD E ws)=true:=
 Bool.and_eq_true_iff.2 ⟨vH h ws 1,xR h2 ws⟩
theorem GK{A:Type}{E:wT A}(h: ∀k x,(E.hd k x).noV =true)(h2: ∀x,(E.en x).noV =true)(ws:List E.X)(i:Nat):cG (gT E ws i)=true:=by
 unfold gT cG;rw [List.all_cons,List.all_cons,Bool.and_eq_true,Bool.and_eq_true];refine⟨CV _ ?_ _ i (vH h ws 2),rfl,I8 _ i (xR h2 ws)⟩;unfold FY;split
 ·exact h _ _
 ·rfl
theorem JJ(t:Mc):cG (tbl t).2=true:=by
 cases t with
 | sweep t n y=>show cG (ND t n y)=true;unfold ND;split<;>rfl
 | ensure t n e=>show cG (DU t n e)=true;unfold DU;split<;>rfl
 | find t n x=>show cG (u2 t n x)=true;unfold u2;exact kD rfl rfl
 | fast t n x=>show cG (m8 t n x)=true;unfold m8;exact kD rfl (kD rfl (kD rfl rfl))
 | help t n x=>show cG (jZ t n x)=true;unfold jZ;exact kD rfl (kD rfl (kD rfl (kD rfl (kD rfl rfl))))
 | doer t n x=>
   show cG (eE t n x)=true;unfold eE
   repeat' (first | apply kD | rfl)
 | worker w=>show cG (wkG w)=true;unfold wkG;exact kD rfl rfl
 | wrow ws=>exact RJ _
 | whole ws i=>exact L4 _ i
 | srow ws=>exact L5 (E:=intE) (fun _ _=>rfl) (fun _=>rfl) ws
 | shole ws i=>exact GK (E:=intE) (fun _ _=>rfl) (fun _=>rfl) ws i
 | _=>rfl
variable [c:Con]
def NR(a c:Int)(i:Nat):Int:=bif Nat.beq i 0 then a else c
def newLS:aH Ob:=fun args h=>match args,h with
 | [.agg [.int .i64 sh,.int .i64 th,.int .i64 nd,.int .i64 tr],.slice 0 0 n 1],[some (.cells [.slice 1 0 n1 2,.slice 2 0 n2 2]),some (.cells [.int .i64 p,.int .i64 q]),some (.cells [.int .i64 r,.int .i64 s])]=>some (.pre ((n=2/\n1=1/\n2=1)/\gnC sh th nd tr 2 (fun _=>1) (fun i _=>NR p r i) (fun i _=>NR q s i)=0)
    (.ret (.tup [.ptr 3 0,.I 0]) [cE' [.slice 1 0 1 2,.slice 2 0 1 2],cE' [.I p,.I q],cE' [.I r,.I s],some (.abs (.engine (mY sh th nd tr 2 (fun _=>1) (fun i _=>NR p r i) (fun i _=>NR q s i))) [])]))
 | _,_=>none
def vr2(p q r s:Int)(i:Nat):List AVal:=[.view 1 2 (fun _=>[.I (NR p r i),.I (NR q s i)])]
theorem Y9:sT' 25 newLS:=by
 intro args h o ho K hK;unfold newLS at ho;split at ho<;>cases ho
 rename_i sh th nd tr n n1 n2 p q r s;obtain⟨⟨⟨rfl,rfl,rfl⟩,hg⟩,hK⟩:=hK;have hK:K (.tup [.ptr 3 0,.I 0]) [cE' [.slice 1 0 1 2,.slice 2 0 1 2],cE' [.I p,.I q],cE' [.I r,.I s],some (.abs (.engine (mY sh th nd tr 2 (fun _=>1) (fun i _=>NR p r i) (fun i _=>NR q s i))) [])]:=hK;refine aKW (args2:=[.agg [.I sh,.I th,.I nd,.I tr],.view 2 1 (vr2 p q r s)]) JJ (fun _=>false) ?_ ?_
 ·intro c' hc V l hm hr;obtain⟨v0,l0,rfl,r0,v1,l1,rfl,r1,r2⟩:=hr;refine⟨v0,_,rfl,Rep.con hc _ _ r0,v1,_,rfl,?_,r2⟩;obtain⟨p0,a1,a2⟩:=hm 0 _ rfl rfl;obtain⟨p1,b1,b2⟩:=hm 1 _ rfl rfl;obtain⟨p2,d1,d2⟩:=hm 2 _ rfl rfl;refine rB (Rep.con hc _ _ r1) a1 a2 ?_ (Nat.le_refl _);intro i hi;refine⟨rfl,fun rs h=>?_⟩
  match i,hi with
  | 0,_=>
    obtain⟨y,ys,rfl,y1,y2⟩:=h;refine⟨y,ys,rfl,?_,y2⟩
    have y3: @Rep c' V (.view 1 2 (fun _=>[.I p,.I q])) y:=rB y1 b1 b2 (fun j hj=>⟨rfl,fun rs h=>by
     match j,hj with
     | 0,_=>exact h
     | j+1,hj=>omega⟩) (Nat.le_refl _)
    exact y3
  | 1,_=>
    obtain⟨y,ys,rfl,y1,y2⟩:=h;refine⟨y,ys,rfl,?_,y2⟩
    have y3: @Rep c' V (.view 1 2 (fun _=>[.I r,.I s])) y:=rB y1 d1 d2 (fun j hj=>⟨rfl,fun rs h=>by
     match j,hj with
     | 0,_=>exact h
     | j+1,hj=>omega⟩) (Nat.le_refl _)
    exact y3
  | i+2,hi=>omega
 ·intro c'
  have h1:=@IE c' [.agg [.I sh,.I th,.I nd,.I tr],.view 2 1 (vr2 p q r s)] [] _ rfl (fun v g=>v=.tup [.ptr 0 0,.I 0]/\g=[some (.abs (.engine (mY sh th nd tr 2 (fun _=>1) (fun i _=>NR p r i) (fun i _=>NR q s i))) [])]) ⟨⟨by decide,⟨rfl⟩⟩,by
   show(qH sh th nd tr 2 (fun _=>1) (fun i _=>NR p r i) (fun i _=>NR q s i)).run _;unfold qH;rw [hg];exact⟨rfl,rfl⟩⟩
  refine aKH h1 [] rfl (by decide) (fun l hl=>by cases hl) ?_ rfl ?_
  ·intro i l hi;simp at hi
  ·rintro v g ⟨rfl,rfl⟩ _;refine⟨rfl,rfl,?_,hK⟩;intro l hl hS
   match l,hl with
   | 0,_=>rfl
   | 1,_=>rfl
   | 2,_=>rfl
   | l+3,hl=>simp at hl;omega
end Go.Sh
namespace Go.Sh
open Go Go.Proofs
variable [Con]
def IF(m n:Nat)(ln:Nat->Nat):Bool:=bif ilt 10 (m:Int)then true else bif ilt 60 (n:Int)then true else(List.range m).any (fun i=>ilt 50 (ln i:Int))
structure gr1 (m:Nat) (ln:Nat->Nat) (x:Nat):Prop where
 hi:x<=m
 hl: ∀j,j<x->ilt 50 (ln j:Int)=false
def UD(m:Nat)(ln:Nat->Nat)(f g:Nat->Nat->Int):Hint Ob:= {X:=Nat,st:=fun x=>(List.replicate 17 .O ++ [C0 m ln f g,.I (m:Int),.I (x:Int)]++List.replicate 7 .O,[]),ok:=gr1 m ln,mu:=fun x=>m - x,keep:=[17,18,19] }
def LGR(m:Nat)(ln:Nat->Nat)(f g:Nat->Nat->Int):FuncId->Nat->Option (mM Ob):=fun _ k=>match k with
 | 4=>some (.states (UD m ln f g))
 | _=>none
def XR(sh th nd tr:Int)(m:Nat)(ln:Nat->Nat)(f g:Nat->Nat->Int)(n:Nat)(row:Nat->List AVal)(K:AVal->aC Ob->Prop):Prop:=bif ilt 10 (↑m:Int)then K (.bool true) []else bif ilt 60 (↑n:Int)then K (.bool true) []else dJ (UD m ln f g) (Hint.ok (UD m ln f g)) (tO' 17 [(.view m 1 fun i=>[.view (ln i) 2 fun j=>[.I (f i j),.I (g i j)]]),.I (↑m:Int),.I 0,.O,.O,.O,.O,.O,.O,.O]) []/\ ∀(x:Nat),gr1 m ln x->bif ilt (↑x:Int) (↑m:Int)then((0:Int)<=(↑x:Int)/\(↑x:Int)<(↑m:Int))/\bif ilt 50 (↑(ln (Int.toNat (↑x:Int))):Int)then K (.bool true) []else dJ (UD m ln f g) (fun x'=>Hint.ok (UD m ln f g) x'/\Hint.mu (UD m ln f g) x'<Hint.mu (UD m ln f g) x) (tO' 17 [(.view m 1 fun i=>[.view (ln i) 2 fun j=>[.I (f i j),.I (g i j)]]),.I (↑m:Int),.I (W ((↑x:Int)+1)),.O,.O,.O,.O,.O,.O,.O]) []else K (.bool false) []
theorem P7(sh th nd tr:Int)(m:Nat)(ln:Nat->Nat)(f g:Nat->Nat->Int)(n:Nat)(row:Nat->List AVal)(K:AVal->aC Ob->Prop)(h:XR sh th nd tr m ln f g n row K):cT' 23 [.agg [.I sh,.I th,.I nd,.I tr,C0 m ln f g],.view n 2 row] [] (eD 0 K):=by
 exact aD (E:=EUe) Tryz.checked.mixed (L:=LGR m ln f g) (n:=10) (aK (by kernel_rfl) h)
abbrev aGm:List Code1:=[some .i64,none,some .i64,some .i64,some .i64,none,some .i64]
structure sm1 (ev:List (List Int)) (x:Nat):Prop where
 hi:x<=ev.length
def UH(y:HST)(ev:List (List Int)):Hint Ob:= {X:=Nat,st:=fun x=>([.ptr 0 0,.ptr 1 0,.O,.O,.O,.tslice 2 0 ev.length 7,.tslice 3 0 ev.length 7]++List.replicate 11 .O ++ [.I (ev.length:Int),.I (x:Int)]++List.replicate 12 .O,[some (.abs (.hist y) []),some (.abs (.hist y) []),some (.tab aGm ev),some (.tab aGm ev)]),ok:=sm1 ev,mu:=fun x=>ev.length - x,keep:=[0,1,5,6,18,19] }
def LSM(y:HST)(ev:List (List Int)):FuncId->Nat->Option (mM Ob):=fun _ k=>match k with
 | 5=>some (.states (UH y ev))
 | _=>none
abbrev w3l(x:HST):Option (aG Ob):=some (.abs (.hist x) [])
def Z1(x:HST)(K:AVal->aC Ob->Prop):Prop:=x.1.length<=(4294967296:Nat)/\x.1.length<=(4294967296:Nat)/\bif !ieq (↑x.1.length:Int) (↑x.1.length:Int)then K (.bool false) [w3l x,w3l x]else dJ (UH x (HST.ev x)) (Hint.ok (UH x (HST.ev x))) [.ptr 0 0,.ptr 1 0,.O,.O,.O,.tslice 2 0 x.1.length 7,.tslice 3 0 x.1.length 7,.O,.O,.O,.O,.O,.O,.O,.O,.O,.O,.O,.I (↑x.1.length:Int),.I 0,.O,.O,.O,.O,.O,.O,.O,.O,.O,.O,.O,.O] [w3l x,w3l x,some (.tab cK7 x.1),some (.tab cK7 x.1)]/\ ∀(x_1:Nat),sm1 x.1 x_1->bif ilt (↑x_1:Int) (↑x.1.length:Int)then((0:Int)<=(↑x_1:Int)/\(↑x_1:Int)<(↑x.1.length:Int))/\0+Int.toNat (↑x_1:Int)<x.1.length/\((0:Int)<=(↑x_1:Int)/\(↑x_1:Int)<(↑x.1.length:Int))/\0+Int.toNat (↑x_1:Int)<x.1.length/\bif !bif ieq (List.headD (List.getD x.1 (0+Int.toNat (↑x_1:Int)) []) 0) (List.headD (List.getD x.1 (0+Int.toNat (↑x_1:Int)) []) 0)then bif bif !ieq (List.headD (List.tail (List.getD x.1 (0+Int.toNat (↑x_1:Int)) [])) 0) 0 then !ieq (List.headD (List.tail (List.getD x.1 (0+Int.toNat (↑x_1:Int)) [])) 0) 0 else !!ieq (List.headD (List.tail (List.getD x.1 (0+Int.toNat (↑x_1:Int)) [])) 0) 0 then bif bif ieq (List.headD (List.tail (List.tail (List.getD x.1 (0+Int.toNat (↑x_1:Int)) []))) 0) (List.headD (List.tail (List.tail (List.getD x.1 (0+Int.toNat (↑x_1:Int)) []))) 0)then bif ieq (List.headD (List.tail (List.tail (List.tail (List.getD x.1 (0+Int.toNat (↑x_1:Int)) [])))) 0) (List.headD (List.tail (List.tail (List.tail (List.getD x.1 (0+Int.toNat (↑x_1:Int)) [])))) 0)then true else false else false then bif bif ieq (List.headD (List.tail (List.tail (List.tail (List.tail (List.getD x.1 (0+Int.toNat (↑x_1:Int)) []))))) 0) (List.headD (List.tail (List.tail (List.tail (List.tail (List.getD x.1 (0+Int.toNat (↑x_1:Int)) []))))) 0)then bif bif !ieq (List.headD (List.tail (List.tail (List.tail (List.tail (List.tail (List.getD x.1 (0+Int.toNat (↑x_1:Int)) [])))))) 0) 0 then !ieq (List.headD (List.tail (List.tail (List.tail (List.tail (List.tail (List.getD x.1 (0+Int.toNat (↑x_1:Int)) [])))))) 0) 0 else !!ieq (List.headD (List.tail (List.tail (List.tail (List.tail (List.tail (List.getD x.1 (0+Int.toNat (↑x_1:Int)) [])))))) 0) 0 then bif ieq (List.headD (List.tail (List.tail (List.tail (List.tail (List.tail (List.tail (List.getD x.1 (0+Int.toNat (↑x_1:Int)) []))))))) 0) (List.headD (List.tail (List.tail (List.tail (List.tail (List.tail (List.tail (List.getD x.1 (0+Int.toNat (↑x_1:Int)) []))))))) 0)then true else false else false else false then true else false else false else false else false then K (.bool false) [w3l x,w3l x]else dJ (UH x (HST.ev x)) (fun x'=>Hint.ok (UH x (HST.ev x)) x'/\Hint.mu (UH x (HST.ev x)) x'<Hint.mu (UH x (HST.ev x)) x_1) [.ptr 0 0,.ptr 1 0,.O,.O,.O,.tslice 2 0 x.1.length 7,.tslice 3 0 x.1.length 7,.O,.O,.O,.O,.O,.O,.O,.O,.O,.O,.O,.I (↑x.1.length:Int),.I (W ((↑x_1:Int)+1)),.O,.O,.O,.O,.O,.O,.O,.O,.O,.O,.O,.O] [w3l x,w3l x,some (.tab cK7 x.1),some (.tab cK7 x.1)]else K (.bool true) [w3l x,w3l x]
theorem S2(x:HST)(K:AVal->aC Ob->Prop)(h:Z1 x K):cT' 99 [.ptr 0 0,.ptr 1 0] [some (.abs (.hist x) []),some (.abs (.hist x) [])] (eD 2 K):=by
 exact aD (E:=EUe) Tryz.checked.mixed (L:=LSM x x.ev) (n:=10) (aK (by kernel_rfl) h)
theorem aDA{m n:Nat}{ln:Nat->Nat}(h:ilt 10 (m:Int)=true):IF m n ln=true:=by unfold IF;rw [h];rfl
theorem aDC{m n:Nat}{ln:Nat->Nat}(h:ilt 10 (m:Int)=false)(h2:ilt 60 (n:Int)=true):IF m n ln=true:=by unfold IF;rw [h,h2];rfl
theorem aDB{m n:Nat}{ln:Nat->Nat}(h:ilt 10 (m:Int)=false)(h2:ilt 60 (n:Int)=false){i:Nat}(hi:i<m)(h3:ilt 50 (ln i:Int)=true):IF m n ln=true:=by
 unfold IF;rw [h,h2];exact List.any_eq_true.2 ⟨i,List.mem_range.2 hi,h3⟩
theorem aDD{m n:Nat}{ln:Nat->Nat}(h:ilt 10 (m:Int)=false)(h2:ilt 60 (n:Int)=false)(h3: ∀i,i<m->ilt 50 (ln i:Int)=false):IF m n ln=false:=by
 unfold IF;rw [h,h2];show(List.range m).any _=false;rw [List.any_eq_false];intro i hi;rw [h3 i (List.mem_range.1 hi)];simp
theorem aGI{m n:Nat}{ln:Nat->Nat}(h:IF m n ln=false):m<=10/\n<=60:=by
 unfold IF at h;cases h1:ilt 10 (m:Int)with
 | true=>rw [h1]at h;cases h
 | false=>
   cases h2:ilt 60 (n:Int)with
   | true=>rw [h1,h2]at h;cases h
   | false=>have:=gB h1;have:=gB h2;omega
theorem aGJ(sh th nd tr:Int)(m:Nat)(ln:Nat->Nat)(f g:Nat->Nat->Int)(n:Nat)(row:Nat->List AVal)(K:AVal->aC Ob->Prop)(hK:K (.bool (IF m n ln)) []):XR sh th nd tr m ln f g n row K:=by
 have key: ∀c,IF m n ln=c->K (.bool c) []:=fun c e=>by rw [<-e];exact hK
 unfold XR;refine aU (fun e1=>key true (aDA e1)) (fun e1=>?_);refine aU (fun e2=>key true (aDC e1 e2)) (fun e2=>?_);have m10:=gB e1;refine⟨aR (H:=UD m ln f g) (0:Nat) rfl ⟨Nat.zero_le _,fun j hj=>absurd hj (Nat.not_lt_zero _)⟩,?_⟩;rintro x ⟨hx,hxl⟩;refine aU (fun a1=>?_) (fun a1=>?_)
 ·have a1:=fB a1;have hxm:x<m:=by omega
  rw [Int.toNat_natCast];refine⟨⟨by omega,by omega⟩,aU (fun a2=>key true (aDB e1 e2 hxm a2)) (fun a2=>?_)⟩
  rw [W1 hxm (by omega)]
  refine aR (H:=UD m ln f g) (x+1:Nat) rfl ⟨⟨hxm,fun j hj=>?_⟩,by show m - (x+1)<m - x;omega⟩
  by_cases e:j=x
  ·subst e;exact a2
  ·exact hxl j (by omega)
 ·have a1:=gB a1;exact key false (aDD e1 e2 (fun i hi=>hxl i (by omega)))
def grS:aH Ob:=fun args h=>match args,h with
 | [.agg [.int .i64 sh,.int .i64 th,.int .i64 nd,.int .i64 tr,.view m 1 vr],.view n 2 row],[]=>some (.pre (fF vr) (.ret (.bool (IF m n (vL vr))) []))
 | _,_=>none
theorem aAT:sT' 23 grS:=by
 intro args h o ho K hK;unfold grS at ho;split at ho<;>cases ho
 rename_i sh th nd tr m vr n row;obtain⟨⟨hr⟩,hK⟩:=hK;rw [hr];exact aJ1 (P7 sh th nd tr m (vL vr) (vK vr) (vY vr) n row K (aGJ sh th nd tr m (vL vr) (vK vr) (vY vr) n row K hK))
theorem QT(a:Int):ieq a a=true:=by rw [cI];exact decide_eq_true rfl
theorem W2{i:Nat}{m:Nat}(hi:i<m)(hm:m<=4294967296):W ((i:Int)+1)=((i+1:Nat):Int):=by
 have:=cH (x:=(i:Int)+1) ⟨by omega,by omega⟩
 exact this.trans (by omega)
theorem aB8(b:Bool):(bif b then b else !b)=true:=by cases b<;>rfl
theorem aHq(x:HST)(K:AVal->aC Ob->Prop)(hl:x.ev.length<=4294967296)(hK:K (.bool true) [some (.abs (.hist x) []),some (.abs (.hist x) [])]):Z1 x K:=by
 unfold Z1;refine⟨hl,hl,?_⟩;rw [QT];refine⟨aR (H:=UH x x.ev) (0:Nat) rfl ⟨Nat.zero_le _⟩,?_⟩;rintro i ⟨hi⟩;refine aU (fun a1=>?_) (fun a1=>hK);have a1:=fB a1;have hil:i<x.ev.length:=by omega
 refine⟨⟨by omega,a1⟩,by show 0+Int.toNat ((i:Nat):Int)<_;rw [Int.toNat_natCast];omega,⟨by omega,a1⟩,by show 0+Int.toNat ((i:Nat):Int)<_;rw [Int.toNat_natCast];omega,?_⟩
 simp only [QT,aB8,cond_true,Bool.not_true,cond_false];rw [W2 hil hl];exact aR (H:=UH x x.ev) (i+1:Nat) rfl ⟨⟨hil⟩,by show x.ev.length - (i+1)<x.ev.length - i;omega⟩
def smR:bE Ob:=fun args h=>match args,h with
 | [.ptr 0 0,.ptr 1 0],[some (.abs (.hist x) []),some (.abs (.hist y) [])]=>some (x=y/\x.ev.length<=4294967296,.bool true)
 | _,_=>none
theorem aEM:sT' 99 smR.spec:=by
 intro args h o ho K hK;unfold bE.spec at ho;split at ho
 case h_2=>cases ho
 rename_i p v hv;unfold smR at hv;split at hv
 case h_2=>cases hv
 rename_i x y;simp only [sI',pI']at hv;obtain⟨rfl,rfl⟩:=hv;simp only [sI']at ho;subst ho;obtain⟨⟨rfl,hl⟩,hK⟩:=hK;exact aJ1 (S2 x K (aHq x K hl hK))
noncomputable def EUf:=(EUe.addS 23 grS aAT).addR 99 smR aEM
structure on1 (x:EGS) (u:Nat):Prop where
 hi:(u:Int)<=x.s.t
structure on2 (x:EGS) (a:Nat):Prop where
 hi:(a:Int)<=2*x.s.n+5*x.s.t+6
def UF(x:EGS):Hint Ob:= {X:=Nat,st:=fun u=>([.ptr 0 0,.ptr 1 0,.O,.O,.O,.ptr 2 0,.I (u:Int)]++List.replicate 97 .O,[some (.abs (.engine x) []),some (.abs (.engine x) []),cE' [.I x.s.t,.I x.s.n]]),ok:=on1 x,mu:=fun u=>(x.s.t - (u:Int)).toNat,keep:=[0,1,5,6] }
def UG(x:EGS):Hint Ob:= {X:=Nat,st:=fun a=>([.ptr 0 0,.ptr 1 0,.O,.O,.O,.ptr 2 0,.O,.I (a:Int)]++List.replicate 96 .O,[some (.abs (.engine x) []),some (.abs (.engine x) []),cE' [.I x.s.t,.I x.s.n]]),ok:=on2 x,mu:=fun a=>(2*x.s.n+5*x.s.t+6 - (a:Int)).toNat,keep:=[0,1,5,7] }
def LON(x:EGS):FuncId->Nat->Option (mM Ob):=fun _ k=>match k with
 | 5=>some (.states (UF x))
 | 10=>some (.states (UG x))
 | _=>none
abbrev w3m(x:EGS):Option (aG Ob):=some (.abs (.engine x) [])
abbrev w3n(x:EGS):List AVal:=[.I (EGS.s x).1,.I (EGS.s x).2]
def ZE(x:EGS)(K:AVal->aC Ob->Prop):Prop:=True/\True/\bif !bif ieq (EGS.s x).1 (EGS.s x).1 then bif ieq (EGS.s x).2 (EGS.s x).2 then true else false else false then K (.bool false) [w3m x,w3m x]else bif !bif ieq x.1 x.1 then bif ieq x.2 x.2 then bif ieq x.3 x.3 then bif ieq x.4 x.4 then true else false else false else false else false then K (.bool false) [w3m x,w3m x]else True/\True/\bif !ieq x.8 x.8 then K (.bool false) [w3m x,w3m x]else(List.length (EGS.h x).1<=(4294967296:Nat)/\List.length (EGS.h x).2<=(4294967296:Nat))/\(List.length (EGS.h x).1<=(4294967296:Nat)/\List.length (EGS.h x).2<=(4294967296:Nat))/\(x.6=x.6/\List.length (EGS.h x).1<=(4294967296:Nat))/\((0:Int)<=(EGS.s x).2/\(EGS.s x).2<=(100000:Int))/\((0:Int)<=(EGS.s x).2/\(EGS.s x).2<=(100000:Int))/\((lE' (bD x)/\lE' (bD x))/\List.length (bD x)<=(4294967296:Nat))/\bif !dY (bD x) (bD x)then K (.bool false) [w3m x,w3m x]else dJ (UF x) (Hint.ok (UF x)) (.ptr 0 0::.ptr 1 0::.O::.O::.O::.ptr 2 0::.I 0::(tO' 97 [])) [w3m x,w3m x,cE' (w3n x)]/\ ∀(x_1:Nat),on1 x x_1->bif ilt (↑x_1:Int) (EGS.s x).1 then True/\True/\bif !ieq (lK (↑x_1:Int) x) (lK (↑x_1:Int) x)then K (.bool false) [w3m x,w3m x]else iY x/\iY x/\((lE' (gL (↑x_1:Int) x)/\lE' (gL (↑x_1:Int) x))/\List.length (gL (↑x_1:Int) x)<=(4294967296:Nat))/\bif !dY (gL (↑x_1:Int) x) (gL (↑x_1:Int) x)then K (.bool false) [w3m x,w3m x]else iY x/\iY x/\((lE' (gI (↑x_1:Int) x)/\lE' (gI (↑x_1:Int) x))/\List.length (gI (↑x_1:Int) x)<=(4294967296:Nat))/\bif !dY (gI (↑x_1:Int) x) (gI (↑x_1:Int) x)then K (.bool false) [w3m x,w3m x]else iY x/\iY x/\((lE' (gA (↑x_1:Int) x)/\lE' (gA (↑x_1:Int) x))/\List.length (gA (↑x_1:Int) x)<=(4294967296:Nat))/\bif !dY (gA (↑x_1:Int) x) (gA (↑x_1:Int) x)then K (.bool false) [w3m x,w3m x]else dJ (UF x) (fun x'=>Hint.ok (UF x) x'/\Hint.mu (UF x) x'<Hint.mu (UF x) x_1) (.ptr 0 0::.ptr 1 0::.O::.O::.O::.ptr 2 0::.I (W ((↑x_1:Int)+1))::(tO' 97 [])) [w3m x,w3m x,cE' (w3n x)]else dJ (UG x) (Hint.ok (UG x)) (.ptr 0 0::.ptr 1 0::.O::.O::.O::.ptr 2 0::.O::.I 0::(tO' 96 [])) [w3m x,w3m x,cE' (w3n x)]/\ ∀(x_2:Nat),on2 x x_2->(((0:Int)<=(EGS.s x).1/\(EGS.s x).1<=(100000:Int))/\(0:Int)<=(EGS.s x).2/\(EGS.s x).2<=(100000:Int))/\bif ilt (↑x_2:Int) (2*(EGS.s x).2+5*(EGS.s x).1+6)then True/\True/\bif !ieq (aE (EGS.s x).3 (↑x_2:Int)) (aE (EGS.s x).3 (↑x_2:Int))then K (.bool false) [w3m x,w3m x]else dJ (UG x) (fun x'=>Hint.ok (UG x) x'/\Hint.mu (UG x) x'<Hint.mu (UG x) x_2) (.ptr 0 0::.ptr 1 0::.O::.O::.O::.ptr 2 0::.O::.I (W ((↑x_2:Int)+1))::(tO' 96 [])) [w3m x,w3m x,cE' (w3n x)]else K (.bool true) [w3m x,w3m x]
theorem RW(x:EGS)(K:AVal->aC Ob->Prop)(h:ZE x K):cT' 42 [.ptr 0 0,.ptr 1 0] [some (.abs (.engine x) []),some (.abs (.engine x) [])] (eD 2 K):=by
 exact aD (E:=EUf) Tryz.checked.mixed (L:=LON x) (n:=10) (aK (by kernel_rfl) h)
noncomputable def EUg:=(EUf.addS 25 (aH.or newLS gnS) (aKs Y9 IE))
theorem JH(xs:List Int):dY xs xs=true:=pM.2 rfl
structure CZ (x:EGS):Prop where
 w: ∃t n:Int,egW t n x
theorem LM(sp:Int)(xs:List Int):(lJ sp xs).length <=xs.length+1:=by
 unfold lJ;cases ieq sp 0 with
 | true=>exact Nat.le_succ _
 | false=>exact Nat.le_refl _
theorem NI{x:EGS}(h:iY x)(u:Int):(gL u x).length <=4294967296:=by
 unfold gL;cases ilt u 0 with
 | true=>exact Nat.zero_le _
 | false=>
   rw [cond_false];cases e:ile (x.ws.length:Int) u with
   | true=>exact Nat.zero_le _
   | false=>
     rw [bZ]at e;have e:=of_decide_eq_false e;have h0:=h.h0
     by_cases hu:u.toNat<x.ws.length
     ·exact Nat.le_trans (h.ht _ hu) (by omega)
     ·omega
theorem NA{x:EGS}(h:iY x)(u:Int):(gI u x).length <=4294967296:=by
 unfold gI;cases ilt u 0 with
 | true=>exact Nat.zero_le _
 | false=>
   rw [cond_false];cases e:ile (x.ws.length:Int) u with
   | true=>exact Nat.zero_le _
   | false=>
     rw [bZ]at e;have e:=of_decide_eq_false e;have h0:=h.h0
     by_cases hu:u.toNat<x.ws.length
     ·exact Nat.le_trans (h.hs _ hu) (by omega)
     ·omega
theorem LK{x:EGS}(h:iY x)(u:Int):(gA u x).length <=4294967296:=by
 unfold gA;cases ilt u 0 with
 | true=>exact Nat.zero_le _
 | false=>
   rw [cond_false];cases e:ile (x.ws.length:Int) u with
   | true=>exact Nat.zero_le _
   | false=>
     rw [bZ]at e;have e:=of_decide_eq_false e;have h0:=h.h0
     by_cases hu:u.toNat<x.ws.length
     ·have:=h.hr _ hu;exact Nat.le_trans (LM _ _) (by omega)
     ·omega
theorem eV{x:EGS}(h:0<=x.s.n/\x.s.n<=100000):(bD x).length <=4294967296:=by
 have l0:=iL x.s.xs x.s.n 0;have l1:=iL x.s.xs x.s.n 1;have l2:=iL x.s.xs x.s.n 2;have l3:=iL x.s.xs x.s.n 3;have hn:x.s.n.toNat<=100000:=by omega
 unfold bD;cases ieq x.sh 3 with
 | true=>rw [cond_true];omega
 | false=>
   rw [cond_false];cases ieq x.sh 4 with
   | true=>rw [cond_true];omega
   | false=>rw [cond_false,oE,List.length_append,List.length_append,List.length_append];omega
set_option maxRecDepth 10000 in
theorem aHl(x:EGS)(K:AVal->aC Ob->Prop)(hx:CZ x)(hK:K (.bool true) [some (.abs (.engine x) []),some (.abs (.engine x) [])]):ZE x K:=by
 obtain⟨⟨t,n,hw⟩⟩:=hx;have hf:=PC hw;have hl:=PD hw;have ht:=hw.ht;have hn:=hw.hn;have st:=hw.st;have sn:=hw.sn;have hn0:0<=x.s.n/\x.s.n<=100000:=by omega
 have ht0:0<=x.s.t/\x.s.t<=100000:=by omega
 unfold ZE;simp only [QT,JH,cond_true,Bool.not_true,cond_false];refine⟨trivial,trivial,trivial,trivial,hl,hl,⟨trivial,hl.1⟩,hn0,hn0,⟨⟨trivial,trivial⟩,eV hn0⟩,aR (H:=UF x) (0:Nat) rfl ⟨by show((0:Nat):Int)<=x.s.t;omega⟩,?_⟩
 rintro u ⟨hu⟩;refine aU (fun a1=>?_) (fun a1=>?_)
 ·have a1:=fB a1;refine⟨trivial,trivial,hf,hf,⟨⟨trivial,trivial⟩,NI hf _⟩,hf,hf,⟨⟨trivial,trivial⟩,NA hf _⟩,hf,hf,⟨⟨trivial,trivial⟩,LK hf _⟩,?_⟩;have e:W ((u:Int)+1)=((u+1:Nat):Int):=(cH (x:=(u:Int)+1) ⟨by omega,by omega⟩).trans (by omega)
  rw [e];exact aR (H:=UF x) (u+1:Nat) rfl ⟨⟨by show((u+1:Nat):Int)<=x.s.t;omega⟩,by show(x.s.t - ((u+1:Nat):Int)).toNat <(x.s.t - (u:Int)).toNat;omega⟩
 ·refine⟨aR (H:=UG x) (0:Nat) rfl ⟨by show((0:Nat):Int)<=2*x.s.n+5*x.s.t+6;omega⟩,?_⟩
  rintro a ⟨ha⟩;refine⟨⟨ht0,hn0⟩,aU (fun b1=>?_) (fun b1=>hK)⟩;have b1:=fB b1;have e:W ((a:Int)+1)=((a+1:Nat):Int):=(cH (x:=(a:Int)+1) ⟨by omega,by omega⟩).trans (by omega)
  rw [e];exact⟨trivial,trivial,aR (H:=UG x) (a+1:Nat) rfl ⟨⟨by show((a+1:Nat):Int)<=2*x.s.n+5*x.s.t+6;omega⟩,by show(2*x.s.n+5*x.s.t+6 - ((a+1:Nat):Int)).toNat <(2*x.s.n+5*x.s.t+6 - (a:Int)).toNat;omega⟩⟩
def onS:aH Ob:=fun args h=>match args,h with
 | [.ptr 0 0,.ptr 1 0],[some (.abs (.engine x) []),some (.abs (.engine y) [])]=>some (.pre (x=y/\CZ x) (.ret (.bool true) [some (.abs (.engine x) []),some (.abs (.engine y) [])]))
 | _,_=>none
theorem aHk:sT' 42 onS:=by
 intro args h o ho K hK;unfold onS at ho;split at ho<;>cases ho
 rename_i x y;obtain⟨⟨rfl,hx⟩,hK⟩:=hK;exact aJ1 (RW x K (aHl x K hx hK))
end Go.Sh
