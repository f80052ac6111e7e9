import Derived.RangeFuncLeaves
import Derived.Test.YteindpciaceeeaaGreatZSh30
set_option linter.all false
set_option maxHeartbeats 8000000
namespace Go.Sh
open Go Go.Proofs
variable [Con]
abbrev w3j(x:HST):Option (aG Ob):=cE' [.tslice 1 0 x.ev.length 7,.tslice 2 0 x.cl.length 9,.I x.n0,.I x.n1,.I x.n2,.I x.n3,.I x.n4,.I x.n5,.I x.n6,.I x.n7]
abbrev w3k(x:HST):Option (aG Ob):=some (.abs (.hist x) [])
theorem aJ4(x:HST):aF (obI tbl) 1 (.tslice 3 0 x.ev.length 7) [w3j x,some (.tab cK7 x.ev),some (.tab cK9 x.cl),some (.tab cK7 x.ev)] (.tslice 1 0 x.ev.length 7) [w3k x,some (.tab cK7 x.ev)]:=by
 exact((aF.move 1 (of_decide_eq_true rfl)).trans ((aF.move 2 (of_decide_eq_true rfl)).trans ((aLE (v2:=.tslice 3 0 x.ev.length 7) (g2:=aP [w3k x,none,none,some (.tab cK7 x.ev)] 0 0 (BJ x) []) (by kernel_rfl) (by kernel_rfl)).trans ((aF.pack [w3k x,none,none,some (.tab cK7 x.ev)] (.hist x) 0 0 (BJ x) [] rfl rfl rfl (by kernel_rfl)).trans (aF.pick [0,3] rfl)))))
abbrev w3l(x:HST):Option (aG Ob):=cE' [.tslice 1 0 x.1.length 7,.tslice 2 0 x.2.length 9,.I x.3,.I x.4,.I x.5,.I x.6,.I x.7,.I x.8,.I x.9,.I x.10]
def aIt(x:HST)(K:AVal->aC Ob->Prop):Prop:= ∀(b:Bool),(b=true->x.1.length=0)->bif b then K (.raw (Value.slice none 0 0)) [w3l x,some (.tab cK7 x.1),some (.tab cK9 x.2)]else(0+x.1.length<=x.1.length/\x.1.length<=(4294967296:Nat))/\K (.tslice 3 0 x.1.length 7) [w3l x,some (.tab cK7 x.1),some (.tab cK9 x.2),some (.tab cK7 (List.take x.1.length (List.drop 0 x.1)))]
theorem TE(x:HST)(K:AVal->aC Ob->Prop)(h:aIt x K):cT' 29 [.ptr 0 0] [cE' [.tslice 1 0 x.ev.length 7,.tslice 2 0 x.cl.length 9,.I x.n0,.I x.n1,.I x.n2,.I x.n3,.I x.n4,.I x.n5,.I x.n6,.I x.n7],some (.tab cK7 x.ev),some (.tab cK9 x.cl)] (eJ 1 K):=by
 exact cM' (E:=EU6) (by kernel_rfl) h
def hvS:aI Ob:=fun args h=>match args,h with
 | [.ptr 0 0],[some (.abs (.hist x) [])]=>some (.pre (x.ev.length<=4294967296) (.ret (.tslice 1 0 x.ev.length 7) [some (.abs (.hist x) []),some (.tab cK7 x.ev)]))
 | _,_=>none
theorem aIu:sT' 29 hvS:=by
 intro args h o ho K hK;unfold hvS at ho;split at ho
 case h_2=>cases ho
 rename_i x;cases ho;obtain⟨hl,hK⟩:=hK;have hK:K (.tslice 1 0 x.ev.length 7) [some (.abs (.hist x) []),some (.tab cK7 x.ev)]:=hK;refine aLG ?_;refine aLB (h2:=[cE' [.tslice 1 0 x.ev.length 7,.tslice 2 0 x.cl.length 9,.I x.n0,.I x.n1,.I x.n2,.I x.n3,.I x.n4,.I x.n5,.I x.n6,.I x.n7],some (.tab cK7 x.ev),some (.tab cK9 x.cl)]) (aQ.unpack (.hist x) 0 0 (BJ x) [] rfl rfl rfl rfl) ?_;have ht:=aJ4 x;refine aA.keep (TE x _ ?_);intro b hb;refine aK (fun e=>?_) (fun e=>?_)
 ·have he:x.ev=[]:=List.length_eq_zero_iff.1 (hb e);rw [he]at ht hK;rw [he];exact⟨⟨_,_,(aF.cast (cs:=[(.slot 0,.tab cK7)]) rfl).trans ht,hK⟩⟩
 ·have he:List.take x.ev.length (List.drop 0 x.ev)=x.ev:=by simp
  rw [he];exact⟨⟨by omega,hl⟩,⟨⟨_,_,ht,hK⟩⟩⟩
theorem aJZ(x:HST):aF (obI tbl) 1 (.tslice 3 0 x.cl.length 9) [w3j x,some (.tab cK7 x.ev),some (.tab cK9 x.cl),some (.tab cK9 x.cl)] (.tslice 1 0 x.cl.length 9) [w3k x,some (.tab cK9 x.cl)]:=by
 exact((aF.move 1 (of_decide_eq_true rfl)).trans ((aF.move 2 (of_decide_eq_true rfl)).trans ((aLE (v2:=.tslice 3 0 x.cl.length 9) (g2:=aP [w3k x,none,none,some (.tab cK9 x.cl)] 0 0 (BJ x) []) (by kernel_rfl) (by kernel_rfl)).trans ((aF.pack [w3k x,none,none,some (.tab cK9 x.cl)] (.hist x) 0 0 (BJ x) [] rfl rfl rfl (by kernel_rfl)).trans (aF.pick [0,3] rfl)))))
def aIi(x:HST)(K:AVal->aC Ob->Prop):Prop:= ∀(b:Bool),(b=true->x.2.length=0)->bif b then K (.raw (Value.slice none 0 0)) [w3l x,some (.tab cK7 x.1),some (.tab cK9 x.2)]else(0+x.2.length<=x.2.length/\x.2.length<=(4294967296:Nat))/\K (.tslice 3 0 x.2.length 9) [w3l x,some (.tab cK7 x.1),some (.tab cK9 x.2),some (.tab cK9 (List.take x.2.length (List.drop 0 x.2)))]
theorem S3(x:HST)(K:AVal->aC Ob->Prop)(h:aIi x K):cT' 49 [.ptr 0 0] [cE' [.tslice 1 0 x.ev.length 7,.tslice 2 0 x.cl.length 9,.I x.n0,.I x.n1,.I x.n2,.I x.n3,.I x.n4,.I x.n5,.I x.n6,.I x.n7],some (.tab cK7 x.ev),some (.tab cK9 x.cl)] (eJ 1 K):=by
 exact cM' (E:=EU6) (by kernel_rfl) h
def hcS:aI Ob:=fun args h=>match args,h with
 | [.ptr 0 0],[some (.abs (.hist x) [])]=>some (.pre (x.cl.length<=4294967296) (.ret (.tslice 1 0 x.cl.length 9) [some (.abs (.hist x) []),some (.tab cK9 x.cl)]))
 | _,_=>none
theorem aIj:sT' 49 hcS:=by
 intro args h o ho K hK;unfold hcS at ho;split at ho
 case h_2=>cases ho
 rename_i x;cases ho;obtain⟨hl,hK⟩:=hK;have hK:K (.tslice 1 0 x.cl.length 9) [some (.abs (.hist x) []),some (.tab cK9 x.cl)]:=hK;refine aLG ?_;refine aLB (h2:=[cE' [.tslice 1 0 x.ev.length 7,.tslice 2 0 x.cl.length 9,.I x.n0,.I x.n1,.I x.n2,.I x.n3,.I x.n4,.I x.n5,.I x.n6,.I x.n7],some (.tab cK7 x.ev),some (.tab cK9 x.cl)]) (aQ.unpack (.hist x) 0 0 (BJ x) [] rfl rfl rfl rfl) ?_;have ht:=aJZ x;refine aA.keep (S3 x _ ?_);intro b hb;refine aK (fun e=>?_) (fun e=>?_)
 ·have he:x.cl=[]:=List.length_eq_zero_iff.1 (hb e);rw [he]at ht hK;rw [he];exact⟨⟨_,_,(aF.cast (cs:=[(.slot 0,.tab cK9)]) rfl).trans ht,hK⟩⟩
 ·have he:List.take x.cl.length (List.drop 0 x.cl)=x.cl:=by simp
  rw [he];exact⟨⟨by omega,hl⟩,⟨⟨_,_,ht,hK⟩⟩⟩
def aCz(x:HST)(K:AVal->aC Ob->Prop):Prop:= ∀(b:Bool),(b=true->x.1.length=0)->bif b then K (.raw (Value.slice none 0 0)) [w3l x,some (.tab cK7 x.1),some (.tab cK9 x.2)]else(0+x.1.length<=x.1.length/\x.1.length<=(4294967296:Nat))/\K (.tslice 3 0 x.1.length 7) [w3l x,some (.tab cK7 x.1),some (.tab cK9 x.2),some (.tab cK7 (List.take x.1.length (List.drop 0 x.1)))]
theorem NY(x:HST)(K:AVal->aC Ob->Prop)(h:aCz x K):cT' 29 [.ptr 0 0] [cE' [.tslice 1 0 x.ev.length 7,.tslice 2 0 x.cl.length 9,.I x.n0,.I x.n1,.I x.n2,.I x.n3,.I x.n4,.I x.n5,.I x.n6,.I x.n7],some (.tab cK7 x.ev),some (.tab cK9 x.cl)] (eJ 3 K):=by
 exact cM' (E:=EU6) (by kernel_rfl) h
def hvoS:aI Ob:=fun args h=>match args,h with
 | [.ptr 0 0],[some (.cells [.tslice 1 0 a 7,.tslice 2 0 b 9,.int .i64 n0,.int .i64 n1,.int .i64 n2,.int .i64 n3,.int .i64 n4,.int .i64 n5,.int .i64 n6,.int .i64 n7]),some (.tab [some .i64,none,some .i64,some .i64,some .i64,none,some .i64] ev),some (.tab [some .i64,some .i64,some .i64,some .i64,some .i64,some .i64,some .i64,none,some .i64] cl)]=>some (.pre ((a=ev.length/\b=cl.length)/\ev.length<=4294967296) (.ret (.tslice 3 0 ev.length 7) ([cE' [.tslice 1 0 a 7,.tslice 2 0 b 9,.I n0,.I n1,.I n2,.I n3,.I n4,.I n5,.I n6,.I n7],some (.tab cK7 ev),some (.tab cK9 cl)]++ [some (.tab cK7 ev)])))
 | _,_=>none
theorem aFD:sT' 29 hvoS:=by
 intro args h o ho K hK;unfold hvoS at ho;split at ho
 case h_2=>cases ho
 rename_i a b n0 n1 n2 n3 n4 n5 n6 n7 ev cl;cases ho;obtain⟨⟨⟨rfl,rfl⟩,hl⟩,hK⟩:=hK;have hK:K (.tslice 3 0 ev.length 7) ([cE' [.tslice 1 0 ev.length 7,.tslice 2 0 cl.length 9,.I n0,.I n1,.I n2,.I n3,.I n4,.I n5,.I n6,.I n7],some (.tab cK7 ev),some (.tab cK9 cl)]++ [some (.tab cK7 ev)]):=hK;refine aLG (aA.keep (NY ⟨ev,cl,n0,n1,n2,n3,n4,n5,n6,n7⟩ _ ?_));intro b hb;refine aK (fun e=>?_) (fun e=>?_)
 ·have he:ev=[]:=List.length_eq_zero_iff.1 (hb e);subst he;exact⟨⟨_,_,(aF.cast (cs:=[(.slot 0,.tab cK7)]) rfl),hK⟩⟩
 ·have he:List.take ev.length (List.drop 0 ev)=ev:=by simp
  rw [he];exact⟨⟨by omega,hl⟩,⟨⟨_,_,aF.cast (cs:=[]) rfl,hK⟩⟩⟩
def aCt(x:HST)(K:AVal->aC Ob->Prop):Prop:= ∀(b:Bool),(b=true->x.2.length=0)->bif b then K (.raw (Value.slice none 0 0)) [w3l x,some (.tab cK7 x.1),some (.tab cK9 x.2)]else(0+x.2.length<=x.2.length/\x.2.length<=(4294967296:Nat))/\K (.tslice 3 0 x.2.length 9) [w3l x,some (.tab cK7 x.1),some (.tab cK9 x.2),some (.tab cK9 (List.take x.2.length (List.drop 0 x.2)))]
theorem NH(x:HST)(K:AVal->aC Ob->Prop)(h:aCt x K):cT' 49 [.ptr 0 0] [cE' [.tslice 1 0 x.ev.length 7,.tslice 2 0 x.cl.length 9,.I x.n0,.I x.n1,.I x.n2,.I x.n3,.I x.n4,.I x.n5,.I x.n6,.I x.n7],some (.tab cK7 x.ev),some (.tab cK9 x.cl)] (eJ 3 K):=by
 exact cM' (E:=EU6) (by kernel_rfl) h
def hcoS:aI Ob:=fun args h=>match args,h with
 | [.ptr 0 0],[some (.cells [.tslice 1 0 a 7,.tslice 2 0 b 9,.int .i64 n0,.int .i64 n1,.int .i64 n2,.int .i64 n3,.int .i64 n4,.int .i64 n5,.int .i64 n6,.int .i64 n7]),some (.tab [some .i64,none,some .i64,some .i64,some .i64,none,some .i64] ev),some (.tab [some .i64,some .i64,some .i64,some .i64,some .i64,some .i64,some .i64,none,some .i64] cl)]=>some (.pre ((a=ev.length/\b=cl.length)/\cl.length<=4294967296) (.ret (.tslice 3 0 cl.length 9) ([cE' [.tslice 1 0 a 7,.tslice 2 0 b 9,.I n0,.I n1,.I n2,.I n3,.I n4,.I n5,.I n6,.I n7],some (.tab cK7 ev),some (.tab cK9 cl)]++ [some (.tab cK9 cl)])))
 | _,_=>none
theorem aFe:sT' 49 hcoS:=by
 intro args h o ho K hK;unfold hcoS at ho;split at ho
 case h_2=>cases ho
 rename_i a b n0 n1 n2 n3 n4 n5 n6 n7 ev cl;cases ho;obtain⟨⟨⟨rfl,rfl⟩,hl⟩,hK⟩:=hK;have hK:K (.tslice 3 0 cl.length 9) ([cE' [.tslice 1 0 ev.length 7,.tslice 2 0 cl.length 9,.I n0,.I n1,.I n2,.I n3,.I n4,.I n5,.I n6,.I n7],some (.tab cK7 ev),some (.tab cK9 cl)]++ [some (.tab cK9 cl)]):=hK;refine aLG (aA.keep (NH ⟨ev,cl,n0,n1,n2,n3,n4,n5,n6,n7⟩ _ ?_));intro b hb;refine aK (fun e=>?_) (fun e=>?_)
 ·have he:cl=[]:=List.length_eq_zero_iff.1 (hb e);subst he;exact⟨⟨_,_,(aF.cast (cs:=[(.slot 0,.tab cK9)]) rfl),hK⟩⟩
 ·have he:List.take cl.length (List.drop 0 cl)=cl:=by simp
  rw [he];exact⟨⟨by omega,hl⟩,⟨⟨_,_,aF.cast (cs:=[]) rfl,hK⟩⟩⟩
def hvN:dA Ob:=fun args h=>match args,h with
 | [.ptr 0 0],[some (.abs (.hist x) [])]=>some (x.ev.length<=4294967296,.tslice 1 0 x.ev.length 7,[.tab cK7 x.ev])
 | _,_=>none
theorem aFB:sT' 29 hvN.spec:=by
 intro args h o ho K hK;refine aIu args h o ?_ K hK;rw [<-ho];unfold hvS dA.spec hvN;split<;>rfl
def aFC:dA Ob:=fun args h=>match args,h with
 | [.ptr 0 0],[some (.cells [.tslice 1 0 a 7,.tslice 2 0 b 9,.int .i64 n0,.int .i64 n1,.int .i64 n2,.int .i64 n3,.int .i64 n4,.int .i64 n5,.int .i64 n6,.int .i64 n7]),some (.tab [some .i64,none,some .i64,some .i64,some .i64,none,some .i64] ev),some (.tab [some .i64,some .i64,some .i64,some .i64,some .i64,some .i64,some .i64,none,some .i64] cl)]=>some ((a=ev.length/\b=cl.length)/\ev.length<=4294967296,.tslice 3 0 ev.length 7,[.tab cK7 ev])
 | _,_=>none
theorem aAS:sT' 29 aFC.spec:=by
 intro args h o ho K hK;refine aFD args h o ?_ K hK;rw [<-ho];unfold hvoS dA.spec aFC;split<;>rfl
def hcN:dA Ob:=fun args h=>match args,h with
 | [.ptr 0 0],[some (.abs (.hist x) [])]=>some (x.cl.length<=4294967296,.tslice 1 0 x.cl.length 9,[.tab cK9 x.cl])
 | _,_=>none
theorem aFc:sT' 49 hcN.spec:=by
 intro args h o ho K hK;refine aIj args h o ?_ K hK;rw [<-ho];unfold hcS dA.spec hcN;split<;>rfl
def aFd:dA Ob:=fun args h=>match args,h with
 | [.ptr 0 0],[some (.cells [.tslice 1 0 a 7,.tslice 2 0 b 9,.int .i64 n0,.int .i64 n1,.int .i64 n2,.int .i64 n3,.int .i64 n4,.int .i64 n5,.int .i64 n6,.int .i64 n7]),some (.tab [some .i64,none,some .i64,some .i64,some .i64,none,some .i64] ev),some (.tab [some .i64,some .i64,some .i64,some .i64,some .i64,some .i64,some .i64,none,some .i64] cl)]=>some ((a=ev.length/\b=cl.length)/\cl.length<=4294967296,.tslice 3 0 cl.length 9,[.tab cK9 cl])
 | _,_=>none
theorem aAn:sT' 49 aFd.spec:=by
 intro args h o ho K hK;refine aFe args h o ?_ K hK;rw [<-ho];unfold hcoS dA.spec aFd;split<;>rfl
noncomputable def EU7:=(EU6.addN 29 (dA.or hvN aFC) (aMC aFB aAS)).addN 49 (dA.or hcN aFd) (aMC aFc aAn)
abbrev w3m(x:HST):Option (aG Ob):=cE' [.tslice 4 0 x.ev.length 7,.tslice 5 0 x.cl.length 9,.I x.n0,.I x.n1,.I x.n2,.I x.n3,.I x.n4,.I x.n5,.I x.n6,.I x.n7]
abbrev w3n(x:HST):Option (aG Ob):=some (.abs (.hist x) [])
theorem aIk(x:HST):aF (obI tbl) 1 (.ptr 3 0) [cE' [.tslice 1 0 x.ev.length 7,.tslice 2 0 x.cl.length 9,.I x.n0,.I x.n1,.I x.n2,.I x.n3,.I x.n4,.I x.n5,.I x.n6,.I x.n7],some (.tab cK7 x.ev),some (.tab cK9 x.cl),w3m x,some (.tab cK7 x.ev),some (.tab cK9 x.cl)] (.ptr 1 0) [w3n x,w3n x]:=by
 exact((aF.move 1 (of_decide_eq_true rfl)).trans ((aF.move 2 (of_decide_eq_true rfl)).trans ((aLE (v2:=.ptr 3 0) (g2:=aP [w3n x,none,none,w3m x,some (.tab cK7 x.ev),some (.tab cK9 x.cl)] 0 0 (BJ x) []) (by kernel_rfl) (by kernel_rfl)).trans ((aF.pack [w3n x,none,none,w3m x,some (.tab cK7 x.ev),some (.tab cK9 x.cl)] (.hist x) 0 0 (BJ x) [] rfl rfl rfl (by kernel_rfl)).trans ((aF.move 4 (of_decide_eq_true rfl)).trans ((aF.move 5 (of_decide_eq_true rfl)).trans ((aLE (v2:=.ptr 3 0) (g2:=aP [w3n x,none,none,w3n x,none,none] 3 0 (BJ x) []) (by kernel_rfl) (by kernel_rfl)).trans ((aF.pack [w3n x,none,none,w3n x,none,none] (.hist x) 3 0 (BJ x) [] rfl rfl rfl (by kernel_rfl)).trans (aF.pick [0,3] rfl)))))))))
def aCu(x:HST)(K:AVal->aC Ob->Prop):Prop:=((lE' x.1/\lE' x.2)/\x.1.length<=(4294967296:Nat))/\((lE' x.1/\lE' x.2)/\x.2.length<=(4294967296:Nat))/\K (.ptr 3 0) [cE' [.tslice 1 0 x.1.length 7,.tslice 2 0 x.2.length 9,.I x.3,.I x.4,.I x.5,.I x.6,.I x.7,.I x.8,.I x.9,.I x.10],some (.tab cK7 x.1),some (.tab cK9 x.2),cE' [.tslice 4 0 x.1.length 7,.tslice 5 0 x.2.length 9,.I x.3,.I x.4,.I x.5,.I x.6,.I x.7,.I x.8,.I x.9,.I x.10],some (.tab cK7 x.1),some (.tab cK9 x.2)]
theorem NI(x:HST)(K:AVal->aC Ob->Prop)(h:aCu x K):cT' 86 [.ptr 0 0] [cE' [.tslice 1 0 x.ev.length 7,.tslice 2 0 x.cl.length 9,.I x.n0,.I x.n1,.I x.n2,.I x.n3,.I x.n4,.I x.n5,.I x.n6,.I x.n7],some (.tab cK7 x.ev),some (.tab cK9 x.cl)] (eJ 1 K):=by
 exact cM' (E:=EU7) (by kernel_rfl) h
def hcpS:aI Ob:=fun args h=>match args,h with
 | [.ptr 0 0],[some (.abs (.hist x) [])]=>some (.pre (x.ev.length<=4294967296/\x.cl.length<=4294967296) (.ret (.ptr 1 0) [some (.abs (.hist x) []),some (.abs (.hist x) [])]))
 | _,_=>none
theorem aFf:sT' 86 hcpS:=by
 intro args h o ho K hK;unfold hcpS at ho;split at ho
 case h_2=>cases ho
 rename_i x;cases ho;obtain⟨⟨h1,h2⟩,hK⟩:=hK;have hK:K (.ptr 1 0) [some (.abs (.hist x) []),some (.abs (.hist x) [])]:=hK;refine aLG ?_;refine aLB (h2:=[cE' [.tslice 1 0 x.ev.length 7,.tslice 2 0 x.cl.length 9,.I x.n0,.I x.n1,.I x.n2,.I x.n3,.I x.n4,.I x.n5,.I x.n6,.I x.n7],some (.tab cK7 x.ev),some (.tab cK9 x.cl)]) (aQ.unpack (.hist x) 0 0 (BJ x) [] rfl rfl rfl rfl) ?_;refine(aA.keep (NI x _ ?_));exact⟨⟨⟨rfl,rfl⟩,h1⟩,⟨⟨rfl,rfl⟩,h2⟩,⟨⟨_,_,aIk x,hK⟩⟩⟩
noncomputable def EU8:=EU7.addS 86 hcpS aFf
abbrev w3o(x:EGS):Option (aG Ob):=some (.abs (.hist x.h) [])
theorem aHS(x:EGS):aF (obI tbl) 1 (.ptr 5 0) [cE' [.I x.sh,.I x.th,.I x.nd,.I x.tr,.ptr 1 0,.ptr 3 0,.slice 4 0 x.ws.length 1,.I x.k],bI 2 x.s,bJ x.s,w3o x,some (.abs (.wrow x.ws) []),w3o x] (.ptr 1 0) [some (.abs (.engine x) []),w3o x]:=by
 exact((aF.move 1 (of_decide_eq_true rfl)).trans ((aF.move 2 (of_decide_eq_true rfl)).trans ((aF.move 3 (of_decide_eq_true rfl)).trans ((aF.move 4 (of_decide_eq_true rfl)).trans ((aLE (v2:=.ptr 5 0) (g2:=aP [some (.abs (.engine x) []),none,none,none,none,w3o x] 0 0 (egG x) []) (by kernel_rfl) (by kernel_rfl)).trans ((aF.pack [some (.abs (.engine x) []),none,none,none,none,w3o x] (.engine x) 0 0 (egG x) [] rfl rfl rfl (by kernel_rfl)).trans (aF.pick [0,5] rfl)))))))
abbrev w3p(x:EGS):Option (aG Ob):=cE' [.I (EGS.s x).1,.I (EGS.s x).2,.slice 2 0 (List.length (EGS.s x).3) 1,.I (EGS.s x).4,.I (EGS.s x).5,.I (EGS.s x).6,.int .u64 (EGS.s x).7,.int .u64 (EGS.s x).8,.bool (EGS.s x).9]
abbrev w3q(x:EGS):Option (aG Ob):=cE' [.I x.1,.I x.2,.I x.3,.I x.4,.ptr 1 0,.ptr 3 0,.slice 4 0 x.7.length 1,.I x.8]
def aCm(x:EGS)(K:AVal->aC Ob->Prop):Prop:=(List.length (EGS.h x).1<=(4294967296:Nat)/\List.length (EGS.h x).2<=(4294967296:Nat))/\K (.ptr 5 0) [w3q x,w3p x,some (.ints (some .u64) (EGS.s x).3),some (.abs (.hist x.6) []),some (.abs (.wrow x.7) []),some (.abs (.hist x.6) [])]
theorem MA(x:EGS)(K:AVal->aC Ob->Prop)(h:aCm x K):cT' 28 [.ptr 0 0] (egG x) (eJ 1 K):=by
 exact cM' (E:=EU8) (by kernel_rfl) h
noncomputable def EI:=(EU2.addS 110 kyS aCB).addS 111 srS aCU
theorem R6(x:EGS)(ys:List Int):aF (obI tbl) 1 (.slice 5 0 ys.length 1) [cE' [.I x.sh,.I x.th,.I x.nd,.I x.tr,.ptr 1 0,.ptr 3 0,.slice 4 0 x.ws.length 1,.I x.k],bI 2 x.s,bJ x.s,some (.abs (.hist x.h) []),some (.abs (.wrow x.ws) []),iI' ys] (.slice 1 0 ys.length 1) [some (.abs (.engine x) []),iI' ys]:=by
 exact((aF.move 1 (of_decide_eq_true rfl)).trans ((aF.move 2 (of_decide_eq_true rfl)).trans ((aF.move 3 (of_decide_eq_true rfl)).trans ((aF.move 4 (of_decide_eq_true rfl)).trans ((aLE (v2:=.slice 5 0 ys.length 1) (g2:=aP [some (.abs (.engine x) []),none,none,none,none,iI' ys] 0 0 (egG x) []) (by kernel_rfl) (by kernel_rfl)).trans ((aF.pack [some (.abs (.engine x) []),none,none,none,none,iI' ys] (.engine x) 0 0 (egG x) [] rfl rfl rfl (by kernel_rfl)).trans (aF.pick [0,5] rfl)))))))
def RZ(x:EGS)(K:AVal->aC Ob->Prop):Prop:=bif ieq x.1 3 then((lE' (EGS.s x).3/\((0:Int)<=(EGS.s x).2/\(EGS.s x).2<=(100000:Int))/\(-1000000:Int)<=(0:Int)/\(0:Int)<=(1000000:Int))/\True)/\K (.slice 5 0 (List.length (keyF (EGS.s x).3 (EGS.s x).2 0)) 1) [w3q x,w3p x,some (.ints (some .u64) (EGS.s x).3),some (.abs (.hist x.6) []),some (.abs (.wrow x.7) []),iI' (keyF (EGS.s x).3 (EGS.s x).2 0)]else bif ieq x.1 4 then((lE' (EGS.s x).3/\((0:Int)<=(EGS.s x).2/\(EGS.s x).2<=(100000:Int))/\(-1000000:Int)<=(0:Int)/\(0:Int)<=(1000000:Int))/\True)/\K (.slice 5 0 (List.length (keyF (EGS.s x).3 (EGS.s x).2 0)) 1) [w3q x,w3p x,some (.ints (some .u64) (EGS.s x).3),some (.abs (.hist x.6) []),some (.abs (.wrow x.7) []),iI' (keyF (EGS.s x).3 (EGS.s x).2 0)]else((lE' (EGS.s x).3/\((0:Int)<=(EGS.s x).2/\(EGS.s x).2<=(100000:Int))/\(-1000000:Int)<=(0:Int)/\(0:Int)<=(1000000:Int))/\True)/\(0+List.length (keyF (EGS.s x).3 (EGS.s x).2 0)<=List.length (keyF (EGS.s x).3 (EGS.s x).2 0)/\List.length (keyF (EGS.s x).3 (EGS.s x).2 0)<=(4294967296:Nat))/\((lE' (EGS.s x).3/\((0:Int)<=(EGS.s x).2/\(EGS.s x).2<=(100000:Int))/\(-1000000:Int)<=W (0+1)/\W (0+1)<=(1000000:Int))/\True)/\(0+List.length (keyF (EGS.s x).3 (EGS.s x).2 (W (0+1)))<=List.length (keyF (EGS.s x).3 (EGS.s x).2 (W (0+1)))/\0=0/\List.length (keyF (EGS.s x).3 (EGS.s x).2 0)=List.length (List.take (List.length (keyF (EGS.s x).3 (EGS.s x).2 0)) (List.drop 0 (keyF (EGS.s x).3 (EGS.s x).2 0)))/\1=1/\List.length (keyF (EGS.s x).3 (EGS.s x).2 0)+List.length (keyF (EGS.s x).3 (EGS.s x).2 (W (0+1)))<=(4294967296:Nat))/\((lE' (EGS.s x).3/\((0:Int)<=(EGS.s x).2/\(EGS.s x).2<=(100000:Int))/\(-1000000:Int)<=W (W (0+1)+1)/\W (W (0+1)+1)<=(1000000:Int))/\True)/\(0+List.length (keyF (EGS.s x).3 (EGS.s x).2 (W (W (0+1)+1)))<=List.length (keyF (EGS.s x).3 (EGS.s x).2 (W (W (0+1)+1)))/\0=0/\List.length (keyF (EGS.s x).3 (EGS.s x).2 0)+List.length (keyF (EGS.s x).3 (EGS.s x).2 (W (0+1)))=List.length (List.take (List.length (keyF (EGS.s x).3 (EGS.s x).2 0)) (List.drop 0 (keyF (EGS.s x).3 (EGS.s x).2 0))++List.take (List.length (keyF (EGS.s x).3 (EGS.s x).2 (W (0+1)))) (List.drop 0 (keyF (EGS.s x).3 (EGS.s x).2 (W (0+1)))))/\1=1/\List.length (keyF (EGS.s x).3 (EGS.s x).2 0)+List.length (keyF (EGS.s x).3 (EGS.s x).2 (W (0+1)))+List.length (keyF (EGS.s x).3 (EGS.s x).2 (W (W (0+1)+1)))<=(4294967296:Nat))/\((lE' (EGS.s x).3/\((0:Int)<=(EGS.s x).2/\(EGS.s x).2<=(100000:Int))/\(-1000000:Int)<=W (W (W (0+1)+1)+1)/\W (W (W (0+1)+1)+1)<=(1000000:Int))/\True)/\(0+List.length (keyF (EGS.s x).3 (EGS.s x).2 (W (W (W (0+1)+1)+1)))<=List.length (keyF (EGS.s x).3 (EGS.s x).2 (W (W (W (0+1)+1)+1)))/\0=0/\List.length (keyF (EGS.s x).3 (EGS.s x).2 0)+List.length (keyF (EGS.s x).3 (EGS.s x).2 (W (0+1)))+List.length (keyF (EGS.s x).3 (EGS.s x).2 (W (W (0+1)+1)))=List.length (List.take (List.length (keyF (EGS.s x).3 (EGS.s x).2 0)) (List.drop 0 (keyF (EGS.s x).3 (EGS.s x).2 0))++List.take (List.length (keyF (EGS.s x).3 (EGS.s x).2 (W (0+1)))) (List.drop 0 (keyF (EGS.s x).3 (EGS.s x).2 (W (0+1))))++List.take (List.length (keyF (EGS.s x).3 (EGS.s x).2 (W (W (0+1)+1)))) (List.drop 0 (keyF (EGS.s x).3 (EGS.s x).2 (W (W (0+1)+1)))))/\1=1/\List.length (keyF (EGS.s x).3 (EGS.s x).2 0)+List.length (keyF (EGS.s x).3 (EGS.s x).2 (W (0+1)))+List.length (keyF (EGS.s x).3 (EGS.s x).2 (W (W (0+1)+1)))+List.length (keyF (EGS.s x).3 (EGS.s x).2 (W (W (W (0+1)+1)+1)))<=(4294967296:Nat))/\(List.length (keyF (EGS.s x).3 (EGS.s x).2 0)+List.length (keyF (EGS.s x).3 (EGS.s x).2 (W (0+1)))+List.length (keyF (EGS.s x).3 (EGS.s x).2 (W (W (0+1)+1)))+List.length (keyF (EGS.s x).3 (EGS.s x).2 (W (W (W (0+1)+1)+1)))=List.length (List.take (List.length (keyF (EGS.s x).3 (EGS.s x).2 0)) (List.drop 0 (keyF (EGS.s x).3 (EGS.s x).2 0))++List.take (List.length (keyF (EGS.s x).3 (EGS.s x).2 (W (0+1)))) (List.drop 0 (keyF (EGS.s x).3 (EGS.s x).2 (W (0+1))))++List.take (List.length (keyF (EGS.s x).3 (EGS.s x).2 (W (W (0+1)+1)))) (List.drop 0 (keyF (EGS.s x).3 (EGS.s x).2 (W (W (0+1)+1))))++List.take (List.length (keyF (EGS.s x).3 (EGS.s x).2 (W (W (W (0+1)+1)+1)))) (List.drop 0 (keyF (EGS.s x).3 (EGS.s x).2 (W (W (W (0+1)+1)+1)))))/\List.length (keyF (EGS.s x).3 (EGS.s x).2 0)+List.length (keyF (EGS.s x).3 (EGS.s x).2 (W (0+1)))+List.length (keyF (EGS.s x).3 (EGS.s x).2 (W (W (0+1)+1)))+List.length (keyF (EGS.s x).3 (EGS.s x).2 (W (W (W (0+1)+1)+1)))<=(1000000:Nat))/\K (.slice 5 0 (List.length (keyF (EGS.s x).3 (EGS.s x).2 0)+List.length (keyF (EGS.s x).3 (EGS.s x).2 (W (0+1)))+List.length (keyF (EGS.s x).3 (EGS.s x).2 (W (W (0+1)+1)))+List.length (keyF (EGS.s x).3 (EGS.s x).2 (W (W (W (0+1)+1)+1)))) 1) [w3q x,w3p x,some (.ints (some .u64) (EGS.s x).3),some (.abs (.hist x.6) []),some (.abs (.wrow x.7) []),iI' (nN (List.take (List.length (keyF (EGS.s x).3 (EGS.s x).2 0)) (List.drop 0 (keyF (EGS.s x).3 (EGS.s x).2 0))++List.take (List.length (keyF (EGS.s x).3 (EGS.s x).2 (W (0+1)))) (List.drop 0 (keyF (EGS.s x).3 (EGS.s x).2 (W (0+1))))++List.take (List.length (keyF (EGS.s x).3 (EGS.s x).2 (W (W (0+1)+1)))) (List.drop 0 (keyF (EGS.s x).3 (EGS.s x).2 (W (W (0+1)+1))))++List.take (List.length (keyF (EGS.s x).3 (EGS.s x).2 (W (W (W (0+1)+1)+1)))) (List.drop 0 (keyF (EGS.s x).3 (EGS.s x).2 (W (W (W (0+1)+1)+1))))))]
theorem MB(x:EGS)(K:AVal->aC Ob->Prop)(h:RZ x K):cT' 55 [.ptr 0 0] (egG x) (eJ 1 K):=by
 exact aD (E:=EI) Tryz.checked.mixed (L:=fun _ _=>some (.rounds 5)) (n:=10) (aJ (by kernel_rfl) h)
def bF(x:EGS):List Int:=bif ieq x.sh 3 then keyF x.s.xs x.s.n 0 else bif ieq x.sh 4 then keyF x.s.xs x.s.n 0 else nN (keyF x.s.xs x.s.n 0++keyF x.s.xs x.s.n 1++keyF x.s.xs x.s.n 2++keyF x.s.xs x.s.n 3)
def ehiS:aI Ob:=fun args h=>match args,h with
 | [.ptr 0 0],[some (.abs (.engine x) [])]=>some (.pre (x.h.ev.length<=4294967296/\x.h.cl.length<=4294967296) (.ret (.ptr 1 0) [some (.abs (.engine x) []),some (.abs (.hist x.h) [])]))
 | _,_=>none
theorem RY:sT' 28 ehiS:=by
 intro args h o ho K hK;unfold ehiS at ho;split at ho
 case h_2=>cases ho
 rename_i x;cases ho;obtain⟨hp,hK⟩:=hK;have hK:K (.ptr 1 0) [some (.abs (.engine x) []),some (.abs (.hist x.h) [])]:=hK;refine aLG ?_;refine aLB (h2:=egG x) (aQ.unpack (.engine x) 0 0 (egG x) [] rfl rfl rfl rfl) ?_;refine aA.keep (MA x _ ?_);exact⟨hp,⟨⟨_,_,aHS x,hK⟩⟩⟩
def eitS:aI Ob:=fun args h=>match args,h with
 | [.ptr 0 0],[some (.abs (.engine x) [])]=>some (.pre (0<=x.s.n/\x.s.n<=100000) (.ret (.slice 1 0 (bF x).length 1) [some (.abs (.engine x) []),iI' (bF x)]))
 | _,_=>none
theorem R0:sT' 55 eitS:=by
 intro args h o ho K hK;unfold eitS at ho;split at ho
 case h_2=>cases ho
 rename_i x;cases ho;obtain⟨hp,hK⟩:=hK;have hK:K (.slice 1 0 (bF x).length 1) [some (.abs (.engine x) []),iI' (bF x)]:=hK;refine aLG ?_;refine aLB (h2:=egG x) (aQ.unpack (.engine x) 0 0 (egG x) [] rfl rfl rfl rfl) ?_;refine aA.keep (MB x _ ?_);have e1:W (0+1)=1:=by decide
 have e2:W (1+1)=2:=by decide
 have e3:W (2+1)=3:=by decide
 have l0:=jK x.s.xs x.s.n 0;have l1:=jK x.s.xs x.s.n 1;have l2:=jK x.s.xs x.s.n 2;have l3:=jK x.s.xs x.s.n 3;have hn:x.s.n.toNat<=100000:=by omega
 unfold RZ;refine aK (fun c1=>?_) (fun c1=>aK (fun c2=>?_) (fun c2=>?_))
 ·have hv:bF x=keyF x.s.xs x.s.n 0:=by unfold bF;rw [c1];rfl
  rw [hv]at hK;exact⟨⟨⟨rfl,hp,by decide,by decide⟩,trivial⟩,⟨⟨_,_,R6 x _,hK⟩⟩⟩
 ·have hv:bF x=keyF x.s.xs x.s.n 0:=by unfold bF;rw [c1,c2];rfl
  rw [hv]at hK;exact⟨⟨⟨rfl,hp,by decide,by decide⟩,trivial⟩,⟨⟨_,_,R6 x _,hK⟩⟩⟩
 ·have hv:bF x=nN (keyF x.s.xs x.s.n 0++keyF x.s.xs x.s.n 1++keyF x.s.xs x.s.n 2++keyF x.s.xs x.s.n 3):=by unfold bF;rw [c1,c2];rfl
  rw [hv]at hK;rw [pI,List.length_append,List.length_append,List.length_append]at hK;have ht:=R6 x (nN (keyF x.s.xs x.s.n 0++keyF x.s.xs x.s.n 1++keyF x.s.xs x.s.n 2++keyF x.s.xs x.s.n 3));rw [pI,List.length_append,List.length_append,List.length_append]at ht;rw [e1,e2,e3];change _<=_ at l0;change _<=_ at l1;generalize keyF x.s.xs x.s.n 0=k0 at*;generalize keyF x.s.xs x.s.n 1=k1 at*;generalize keyF x.s.xs x.s.n 2=k2 at*;generalize keyF x.s.xs x.s.n 3=k3 at*;have t0: ∀l:List Int,List.take l.length (List.drop 0 l)=l:=fun l=>by simp
  rw [t0 k0,t0 k1,t0 k2,t0 k3];have la:(k0++k1).length =k0.length+k1.length:=List.length_append;have lb:(k0++k1++k2).length =k0.length+k1.length+k2.length:=by rw [List.length_append,la]
  have lc:(k0++k1++k2++k3).length =k0.length+k1.length+k2.length+k3.length:=by rw [List.length_append,lb]
  refine⟨⟨⟨rfl,hp,by decide,by decide⟩,trivial⟩,⟨by omega,by omega⟩,⟨⟨rfl,hp,by decide,by decide⟩,trivial⟩,⟨by omega,by omega,by omega,by omega,by omega⟩,⟨⟨rfl,hp,by decide,by decide⟩,trivial⟩,⟨by omega,by omega,by omega,by omega,by omega⟩,⟨⟨rfl,hp,by decide,by decide⟩,trivial⟩,⟨by omega,by omega,by omega,by omega,by omega⟩,⟨by omega,by omega⟩,⟨⟨_,_,ht,hK⟩⟩⟩
noncomputable def EU9:=(EU8.addS 28 ehiS RY).addS 55 eitS R0
def allF(th tm:Nat->Int):Nat->Nat->Int->List Int
 | 0,_,_=>[]
 | c+1,i,left=>List.replicate (min (tm i) left).toNat (th i)++allF th tm c (i+1) (left - ((min (tm i) left).toNat :Int))
abbrev pkV(n:Nat)(th tm:Nat->Int):AVal:=.view n 2 (fun i=>[.int .i64 (th i),.int .i64 (tm i)])
structure alO (n:Nat) (th tm:Nat->Int) (xs:List Int) (x:Nat×Int×Nat):Prop where
 hi:x.1<=n
 hl:0<=x.2.1/\x.2.1<=60000
 hj:x.2.2<=xs.length
 hx:xs.drop x.2.2=allF th tm (n - x.1) x.1 x.2.1
structure alI (n:Nat) (th tm:Nat->Int) (xs:List Int) (i0:Int) (x:Nat×Int×Nat×Int):Prop where
 hi:x.1<n
 h0:(x.1:Int)=i0
 hl:0<=x.2.1/\x.2.1<=60000
 hm:x.2.2.2<=x.2.1
 hj:x.2.2.1<=xs.length
 hx:xs.drop x.2.2.1=List.replicate x.2.2.2.toNat (th x.1)++allF th tm (n - (x.1+1)) (x.1+1) (x.2.1 - (x.2.2.2.toNat:Int))
def WS(l n:Nat)(th tm:Nat->Int)(xs:List Int):Hint Nat:= {X:=Nat×Int×Nat,st:=fun x=>([.func (.yield l) [] [],.ptr 1 0,.O,.int .i64 x.2.1,.O,.O,.O,pkV n th tm,.int .i64 (n:Int),.int .i64 (x.1:Int)]++List.replicate 19 .O,[some (.abs x.2.2 []),some (.cells [pkV n th tm])]),ok:=alO n th tm xs,mu:=fun x=>n - x.1,keep:=[0,1,3,7,8,9] }
def WQ(l n:Nat)(th tm:Nat->Int)(xs:List Int)(i0:Int):Hint Nat:= {X:=Nat×Int×Nat×Int,st:=fun x=>([.func (.yield l) [] [],.ptr 1 0,.O,.int .i64 x.2.1,.O,.ptr 2 0,.int .i64 x.2.2.2,pkV n th tm,.int .i64 (n:Int),.int .i64 (x.1:Int)]++List.replicate 19 .O,[some (.abs x.2.2.1 []),some (.cells [pkV n th tm]),some (.cells [.int .i64 (th x.1),.int .i64 (tm x.1)])]),ok:=alI n th tm xs i0,mu:=fun x=>x.2.2.2.toNat,keep:=[0,1,3,5,6,7,8,9] }
def aJw(l n:Nat)(th tm:Nat->Int)(xs:List Int):FuncId->Nat->Option (mS Nat):=fun _ k=>match k with
 | 2=>some (.states (WS l n th tm xs))
 | 5=>some (.statesAt 9 (WQ l n th tm xs))
 | _=>none
def aDe(l n:Nat)(th tm:Nat->Int)(xs:List Int){Fr:Nat->PHeap->Prop}(hY:kR Tryz.prog l xs Fr)(K:AVal->aC Nat->Prop):Prop:=dE (WS l n th tm xs) (Hint.ok (WS l n th tm xs)) (.func (Fn.yield l) [] []::.ptr 1 0::.O::.int .i64 60000::.O::.O::.O::(.view n 2 fun i=>[.int .i64 (th i),.int .i64 (tm i)])::.int .i64 (↑n:Int)::.int .i64 0::(tO' 19 [])) [some (.abs 0 []),some (.cells [.view n 2 fun i=>[.int .i64 (th i),.int .i64 (tm i)]])]/\ ∀(x:(Nat×Int×Nat)),alO n th tm xs x->bif ilt (↑x.1:Int) (↑n:Int)then((0:Int)<=(↑x.1:Int)/\(↑x.1:Int)<(↑n:Int))/\dE (WQ l n th tm xs (↑(Prod.fst x):Int)) (Hint.ok (WQ l n th tm xs (↑(Prod.fst x):Int))) (.func (Fn.yield l) [] []::.ptr 1 0::.O::.int .i64 (Prod.snd x).1::.O::.ptr 2 0::.int .i64 (bif ilt (Prod.snd x).1 (tm (Int.toNat (↑x.1:Int)))then(Prod.snd x).1 else tm (Int.toNat (↑x.1:Int)))::(.view n 2 fun i=>[.int .i64 (th i),.int .i64 (tm i)])::.int .i64 (↑n:Int)::.int .i64 (↑x.1:Int)::(tO' 19 [])) [some (.abs (Prod.snd x).2 []),some (.cells [.view n 2 fun i=>[.int .i64 (th i),.int .i64 (tm i)]]),some (.cells [.int .i64 (th (Int.toNat (↑x.1:Int))),.int .i64 (tm (Int.toNat (↑x.1:Int)))])]/\ ∀(x_1:(Nat×Int×Nat×Int)),alI n th tm xs (↑x.1:Int) x_1->bif ilt 0 (Prod.snd x_1.2).2 then(l=l/\aB2 xs (Prod.fst (Prod.snd (Prod.snd x_1))) (th x_1.1))/\dE (WQ l n th tm xs (↑(Prod.fst x):Int)) (fun x'=>Hint.ok (WQ l n th tm xs (↑(Prod.fst x):Int)) x'/\Hint.mu (WQ l n th tm xs (↑(Prod.fst x):Int)) x'<Hint.mu (WQ l n th tm xs (↑(Prod.fst x):Int)) x_1) (.func (Fn.yield l) [] []::.ptr 1 0::.O::.int .i64 (W ((Prod.snd x_1).1 - 1))::.O::.ptr 2 0::.int .i64 (W ((Prod.snd x_1.2).2 - 1))::(.view n 2 fun i=>[.int .i64 (th i),.int .i64 (tm i)])::.int .i64 (↑n:Int)::.int .i64 (↑x_1.1:Int)::(tO' 19 [])) [some (.abs ((Prod.snd x_1.2).1+1) []),some (.cells [.view n 2 fun i=>[.int .i64 (th i),.int .i64 (tm i)]]),some (.cells [.int .i64 (th x_1.1),.int .i64 (tm x_1.1)])]else dE (WS l n th tm xs) (fun x'=>Hint.ok (WS l n th tm xs) x'/\Hint.mu (WS l n th tm xs) x'<Hint.mu (WS l n th tm xs) x) (.func (Fn.yield l) [] []::.ptr 1 0::.O::.int .i64 (Prod.snd x_1).1::.O::.O::.O::(.view n 2 fun i=>[.int .i64 (th i),.int .i64 (tm i)])::.int .i64 (↑n:Int)::.int .i64 (W ((↑x_1.1:Int)+1))::(tO' 19 [])) [some (.abs (Prod.snd x_1.2).1 []),some (.cells [.view n 2 fun i=>[.int .i64 (th i),.int .i64 (tm i)]])]else K (.tup []) [some (.abs (Prod.snd x).2 []),some (.cells [.view n 2 fun i=>[.int .i64 (th i),.int .i64 (tm i)]])]
theorem P5(l n:Nat)(th tm:Nat->Int)(xs:List Int){Fr:Nat->PHeap->Prop}(hY:kR Tryz.prog l xs Fr)(K:AVal->aC Nat->Prop)(h:aDe l n th tm xs hY K):aA (frI Fr) Tryz.prog 114 [.func (.yield l) [] [],.ptr 1 0] [some (.abs 0 []),some (.cells [pkV n th tm])] K:=by
 exact aD (E:=itE Tryz.prog hY) Tryz.checked.mixed (L:=aJw l n th tm xs) (n:=4) (aJ (by kernel_rfl) h)
theorem aHf(l n:Nat)(th tm:Nat->Int)(xs:List Int){Fr:Nat->PHeap->Prop}(hY:kR Tryz.prog l xs Fr)(K:AVal->aC Nat->Prop)(hn:n<=4294967296)(hxs:xs=allF th tm n 0 60000)(hK:K (.tup []) [some (.abs xs.length []),some (.cells [pkV n th tm])]):aDe l n th tm xs hY K:=by
 refine⟨aR (H:=WS l n th tm xs) (0,60000,0) rfl ⟨Nat.zero_le _,⟨by decide,by decide⟩,Nat.zero_le _,by rw [hxs];rfl⟩,?_⟩
 rintro⟨i,leftO,jO⟩ ⟨ao,⟨af,ae⟩,ak,ac⟩;dsimp only at ao af ae ak ac⊢;refine aT (fun e=>?_) (fun e=>?_)
 ·rw [bC,dT']at e;have ag:i<n:=by omega
  have ah:(bif ilt leftO (tm (Int.toNat (i:Int)))then leftO else tm (Int.toNat (i:Int)))=min (tm i) leftO:=by
   rw [Int.toNat_natCast,bC]
   by_cases h:leftO<tm i
   ·rw [decide_eq_true h];show leftO=_;omega
   ·rw [decide_eq_false h];show tm i=_;omega
  refine⟨⟨by omega,by omega⟩,?_,?_⟩
  ·rw [ah,Int.toNat_natCast];refine aR (H:=WQ l n th tm xs (i:Int)) (i,leftO,jO,min (tm i) leftO) rfl ⟨ag,rfl,⟨af,ae⟩,by dsimp only;omega,ak,?_⟩
   dsimp only;rw [ac,show n - i=(n - (i+1))+1 by omega]
   rfl
  ·rintro⟨i2,left,j,m⟩ ⟨hi,h0,⟨aj,ai⟩,hm,hj,hx⟩;dsimp only at hi h0 aj ai hm hj hx⊢;have h0:i2=i:=by omega
   subst h0;refine aT (fun e=>?_) (fun e=>?_)
   ·rw [bC,dT']at e;have e1:W (left - 1)=left - 1:=cG ⟨by omega,by omega⟩
    have e2:W (m - 1)=m - 1:=cG ⟨by omega,by omega⟩
    have al:m.toNat=(m - 1).toNat +1:=by omega
    rw [al,List.replicate_succ,List.cons_append]at hx;have aa:=congrArg List.length hx;rw [List.length_drop,List.length_cons]at aa;refine⟨⟨rfl,⟨?_⟩⟩,?_⟩
    ·have:=congrArg (fun l=>l[0]?) hx
     simpa using this
    ·rw [e1,e2];refine aR (H:=WQ l n th tm xs (i2:Int)) (i2,left - 1,j+1,m - 1) rfl ⟨⟨hi,rfl,⟨by dsimp only;omega,by dsimp only;omega⟩,by dsimp only;omega,by dsimp only;omega,?_⟩,?_⟩
     ·dsimp only;have:=congrArg List.tail hx;rw [List.tail_drop,List.tail_cons]at this;rw [this];congr 2;omega
     ·show(m - 1).toNat <m.toNat;omega
   ·rw [bC,dF']at e
    have e1:W ((i2:Int)+1)=((i2+1:Nat):Int):=by
     have:=cG (x:=(i2:Int)+1) ⟨by omega,by omega⟩
     exact this.trans omz
    rw [e1];refine aR (H:=WS l n th tm xs) (i2+1,left,j) rfl ⟨⟨hi,⟨aj,ai⟩,hj,?_⟩,?_⟩
    ·dsimp only;have hz:m.toNat=0:=by omega
     rw [hx,hz];show []++_=_;rw [List.nil_append];congr 1;omega
    ·show n - (i2+1)<n - i2;omega
 ·rw [bC,dF']at e;have ag:i=n:=by omega
  subst ag;rw [Nat.sub_self]at ac;have aa:=congrArg List.length ac;rw [List.length_drop]at aa;have aa:xs.length - jO=0:=aa;have am:jO=xs.length:=by omega
  subst am;exact hK
theorem QG{n:Nat}(th tm:Nat->Int)(hn:n<=4294967296):FZ Tryz.prog 114 (pkV n th tm) (allF th tm n 0 60000):=by
 intro l Fr hY;exact P5 l n th tm _ hY _ (aHf l n th tm _ hY _ hn rfl rfl)
def kU:Code->Code
 | .seq x _=>x
 | .block _ c=>c
 | c=>c
def kV:Code->Code
 | .seq _ y=>y
 | c=>c
def qG:Code->Code
 | .rangeFunc _ _ a _=>a
 | c=>c
def sY:Code->Code
 | .rangeFunc _ _ _ b=>b
 | c=>c
noncomputable def n9:Code:=(Tryz.f85.body).getD .skip
noncomputable def JF:Code:=.seq (kU n9) (.seq (kU (kV n9)) (kU (kU (kV (kV n9)))))
noncomputable def iM:Code:=kU (kV (kU (kV (kV n9))))
noncomputable def JG:Code:=kU (kV (kV (kV n9)))
theorem nE'{P Q:Prop}(h:¬P:=by dsimp only;decide):P->Q:=fun e=>absurd e h
theorem aLN{X:Type}{K:X->Prop} : ∀ {t:Tr X},t.run K->t.ok
 | .ret x,k=>trivial
 | .ite b l r,k=>by cases b with
   | true=>exact aLN (t:=l) k
   | false=>exact aLN (t:=r) k
 | .pre p t,k=>⟨k.1,aLN (t:=t) k.2⟩
theorem aLH{X:Type}{K:X->Prop} : ∀ {t:Tr X},t.run K->K t.val
 | .ret x,k=>k
 | .ite b l r,k=>by cases b with
   | true=>exact aLH (t:=l) k
   | false=>exact aLH (t:=r) k
 | .pre p t,k=>aLH (t:=t) k.2
theorem rZ{a b:Int}(h:ieq a b=true):a=b:=by simpa [cI]using h
theorem eB{a b:Int}(h:ieq a b=false):a≠b:=by simpa [cI]using h
theorem aIv{a b:Int}(h:ile a b=true):a<=b:=by simpa [cD]using h
theorem KG{a b:Int}(h:ile a b=false):b<a:=by simpa [cD]using h
theorem Tr.run_ite{X:Type}{K:X->Prop}{b:Bool}{l r:Tr X}(h1:b=true->l.run K)(h2:b=false->r.run K):(Tr.ite b l r).run K:=aK h1 h2
theorem aMB{X:Type}{K:X->Prop}{a b:Int}{l r:Tr X}(h1:a<b->l.run K)(h2:b<=a->r.run K):(Tr.ite (ilt a b) l r).run K:=aK (fun h=>h1 (by simpa [bC]using h)) (fun h=>h2 (by simpa [bC]using h))
theorem Tr.run_le{X:Type}{K:X->Prop}{a b:Int}{l r:Tr X}(h1:a<=b->l.run K)(h2:b<a->r.run K):(Tr.ite (ile a b) l r).run K:=aK (fun h=>h1 (aIv h)) (fun h=>h2 (KG h))
theorem Tr.run_eq{X:Type}{K:X->Prop}{a b:Int}{l r:Tr X}(h1:a=b->l.run K)(h2:a≠b->r.run K):(Tr.ite (ieq a b) l r).run K:=aK (fun h=>h1 (rZ h)) (fun h=>h2 (eB h))
theorem aMF{X:Type}{K:X->Prop}{b:Bool}{l r:Tr X}(h1:b=false->l.run K)(h2:b=true->r.run K):(Tr.ite (!b) l r).run K:=by
 cases b with
 | true=>exact h2 rfl
 | false=>exact h1 rfl
theorem aLT{X:Type}{K:X->Prop}{b:Bool}{l r:Tr X}(h1:b=true->l.run K)(h2:b=false->r.run K):(bif b then l else r).run K:=by
 cases b with
 | true=>exact h1 rfl
 | false=>exact h2 rfl
theorem aLz{X:Type}{K:X->Prop}{a b:Int}{l r:Tr X}(h1:a=b->l.run K)(h2:a≠b->r.run K):(bif ieq a b then l else r).run K:=aLT (fun h=>h1 (rZ h)) (fun h=>h2 (eB h))
theorem aLC{X:Type}{K:X->Prop}{p:Prop}{t:Tr X}(h1:p)(h2:t.run K):(Tr.pre p t).run K:=⟨h1,h2⟩
theorem aLJ{X:Type}{K:X->Prop}{x:X}(h:K x):(Tr.ret x).run K:=h
structure mL (x:Int):Prop where
 h0:0<=x
 h1:x<=18446744073709551615
theorem FA:mL 0:=⟨by decide,by decide⟩
theorem A3(x:Int):mL (WU x):=⟨(PV x).1,(PV x).2⟩
theorem U3{xs:List Int}(h:okW xs)(a:Int):mL (aE xs a):=⟨(w7 h a).1,(w7 h a).2⟩
theorem aBv{b:Bool}{x y:Int}(h1:b=true->mL x)(h2:mL y):mL (bif b then x else y):=by
 cases b with
 | true=>exact h1 rfl
 | false=>exact h2
theorem l6{n w:Int}(h:aN n w=true):0<=n/\n<2^w.toNat:=by
 unfold aN at h;simp only [Bool.and_eq_true,cD,bC,dT']at h;exact h
theorem QX(b:Bool):0<=bitI b/\bitI b<=1:=by cases b<;>decide
theorem rH(a w:Int):aB 0 a w=0:=by unfold aB;rw [Int.zero_ediv,Int.zero_emod]
structure dsc (n x:Int):Prop where
 a:aB x 12 9<=n+4
 b:aB x 39 9<=n
theorem CT{a b c d e f n:Int}{m:Bool}(hn:0<=n)(hb:b<=n+4)(hd:d<=n):mL (bif dOk a b c d e f then cP a b c d m e f else 0)/\dsc n (bif dOk a b c d e f then cP a b c d m e f else 0):=by
 cases h:dOk a b c d e f with
 | false=>exact⟨FA,⟨by show aB 0 12 9<=_;rw [rH];omega,by show aB 0 39 9<=_;rw [rH];omega⟩⟩
 | true=>
   unfold dOk at h;simp only [Bool.and_eq_true]at h;obtain⟨h1,h2,h3,h4,h5,h6⟩:=h;have h1:=l6 h1;have h2:=l6 h2;have h3:=l6 h3;have h4:=l6 h4;have h5:=l6 h5;have h6:=l6 h6;have hm:=QX m;simp only [Int.reduceToNat,Int.reducePow]at h1 h2 h3 h4 h5 h6;simp only [cond_true];refine⟨⟨?_,?_⟩,⟨?_,?_⟩⟩<;>unfold cP
   ·omega
   ·omega
   ·unfold aB;simp only [Int.reduceToNat,Int.reducePow];omega
   ·unfold aB;simp only [Int.reduceToNat,Int.reducePow];omega
theorem aI4{a b c v:Int}{m:Bool} :mL (bif bif aN a 10 then bif aN b 9 then bif aN c 5 then aN v 18 else false else false else false then cV a b m c v else 0)/\ ∀n:Int,0<=n->b<=n->aB (bif bif aN a 10 then bif aN b 9 then bif aN c 5 then aN v 18 else false else false else false then cV a b m c v else 0) 10 9<=n:=by
 cases h:bif aN a 10 then bif aN b 9 then bif aN c 5 then aN v 18 else false else false else false with
 | false=>exact⟨FA,fun n hn _=>by show aB 0 10 9<=n;rw [rH];exact hn⟩
 | true=>
   cases h1:aN a 10 with
   | false=>rw [h1]at h;cases h
   | true=>
   cases h2:aN b 9 with
   | false=>rw [h1,h2]at h;cases h
   | true=>
   cases h3:aN c 5 with
   | false=>rw [h1,h2,h3]at h;cases h
   | true=>
   rw [h1,h2,h3]at h;have h:=l6 (show aN v 18=true from h)
   have h1:=l6 h1;have h2:=l6 h2;have h3:=l6 h3;have hb:=QX m;simp only [Int.reduceToNat,Int.reducePow]at h h1 h2 h3;simp only [cond_true];refine⟨⟨?_,?_⟩,fun n hn aa=>?_⟩<;>unfold cV
   ·omega
   ·omega
   ·unfold aB;simp only [Int.reduceToNat,Int.reducePow];omega
theorem aBw{a b c v:Int}{m:Bool} :mL (bif bif aN a 10 then bif aN b 9 then bif aN c 5 then aN v 18 else false else false else false then cV a b m c v else 0):=aI4.1
theorem aFU{a b c v n:Int}{m:Bool}(hn:0<=n)(h:b<=n):aB (bif bif aN a 10 then bif aN b 9 then bif aN c 5 then aN v 18 else false else false else false then cV a b m c v else 0) 10 9<=n:=aI4.2 n hn h
theorem U2{a b c d e f:Int}{m:Bool} :mL (bif dOk a b c d e f then cP a b c d m e f else 0):=by
 rcases Int.le_total b d with h | h
 ·by_cases h0:0<=d
  ·exact(CT (n:=d) h0 omz omz).1
  ·exact(CT (b:=b) (n:=0) omz omz omz).1
 ·by_cases h0:0<=b
  ·exact(CT (n:=b) h0 omz omz).1
  ·exact(CT (b:=b) (n:=0) omz omz omz).1
structure MI (t n:Int) (xs:List Int):Prop where
 nx: ∀a,a<=n+4->aB (aE xs a) 10 9<=n
 ds: ∀u,0<=u->u<t->dsc n (aE xs (2*n+5+2*t+3*u+2))
structure BR (t n a v:Int):Prop where
 r:0<=a/\a<=2*n+5+2*t+3*t
 nx:a<=n+4->aB v 10 9<=n
 ds: ∀u,0<=u->u<t->a=2*n+5+2*t+3*u+2->dsc n v
theorem XC{t n a v:Int}(ht:1<=t)(hn:1<=n)(h0:0<=a)(ha:a<=n+4)(h:aB v 10 9<=n):BR t n a v/\a≠2*n+5+2*t+3*t:=⟨⟨by omega,fun _=>h,fun u h0 h1 e=>by omega⟩,by omega⟩
theorem F5{t n a v:Int}(ht:1<=t)(h0:n+5<=a)(h1:a<2*n+5+2*t)(hn:1<=n:=by omega):BR t n a v/\a≠2*n+5+2*t+3*t:=⟨⟨by omega,fun h=>by omega,fun u h0 h1 e=>by omega⟩,by omega⟩
theorem P3{t n a v u:Int}(hn:1<=n)(hu:0<=u/\u<t)(h:a=2*n+5+2*t+3*u\/a=2*n+5+2*t+3*u+1):BR t n a v/\a≠2*n+5+2*t+3*t:=⟨⟨by omega,fun h=>by omega,fun u h0 h1 e=>by omega⟩,by omega⟩
theorem XB{t n v u:Int}(hn:1<=n)(hu:0<=u/\u<t)(h:dsc n v):BR t n (2*n+5+2*t+3*u+2) v/\2*n+5+2*t+3*u+2≠2*n+5+2*t+3*t:=⟨⟨by omega,fun h=>by omega,fun u h0 h1 e=>h⟩,by omega⟩
theorem tG(xs:List Int)(a v b:Int):(aE (aX xs a v) b=v/\b=a)\/aE (aX xs a v) b=aE xs b:=by
 by_cases h:0<=a/\a<xs.length
 ·by_cases e:b=a
  ·subst e;left;rw [pH h,pF (by rw [List.length_set];exact h),gD',List.getElem?_set_self omz]
   exact⟨rfl,rfl⟩
  ·right
   by_cases hb:0<=b/\b<xs.length
   ·rw [pH h,pF (by rw [List.length_set];exact hb),pF hb,gD',gD',List.getElem?_set_ne omz]
   ·rw [gB hb,gB (by rw [jM];exact hb)]
 ·right;rw [oO h]
theorem KQ{xs:List Int}{a v b:Int}(h:b≠a):aE (aX xs a v) b=aE xs b:=by
 rcases tG xs a v b with⟨_,e⟩ | e
 ·exact absurd e h
 ·exact e
theorem aFX{xs:List Int}{a v:Int}(h:0<=a/\a<xs.length):aE (aX xs a v) a=v:=by
 rw [pH h,pF (by rw [List.length_set];exact h),gD',List.getElem?_set_self omz];rfl
theorem aFK{t n:Int}{xs:List Int}{a v:Int}(h:MI t n xs)(ha:BR t n a v):MI t n (aX xs a v):=by
 refine⟨fun b hb=>?_,fun u h0 h1=>?_⟩
 ·rcases tG xs a v b with⟨e,rfl⟩ | e
  ·rw [e];exact ha.nx hb
  ·rw [e];exact h.nx b hb
 ·rcases tG xs a v (2*n+5+2*t+3*u+2)with⟨e,e2⟩ | e
  ·rw [e];exact ha.ds u h0 h1 e2.symm
  ·rw [e];exact h.ds u h0 h1
structure FX (t n:Int) (s s':MS):Prop where
 c:s'.c=s.c+1
 len:s'.xs.length=s.xs.length
 w:okW s.xs->okW s'.xs
 th:s'.t=s.t
 nh:s'.n=s.n
 m:MI t n s.xs->MI t n s'.xs
 z: ∀b,b≠s'.a->aE s'.xs b=aE s.xs b
 ra:0<=s'.a/\s'.a<=2*n+5+2*t+3*t
structure lX (t n:Int) (s s':MS):Prop where
 a:FX t n s s'
 k:aE s'.xs (2*n+5+2*t+3*t)=aE s.xs (2*n+5+2*t+3*t)
theorem vM(t n:Int)(s:MS)(k a o w:Int)(ok:Bool)(hr:0<=a/\a<=2*n+5+2*t+3*t):lX t n s ⟨s.t,s.n,s.xs,s.c+1,k,a,o,w,ok⟩:=⟨⟨rfl,rfl,id,rfl,rfl,id,fun _ _=>rfl,hr⟩,rfl⟩
theorem BQ(t n:Int)(s:MS)(b v k o w:Int)(ok:Bool)(h:mL v)(ha:BR t n b v):FX t n s ⟨s.t,s.n,aX s.xs b v,s.c+1,k,b,o,w,ok⟩:=⟨rfl,jM _ _ _,fun hw=>aBb hw ⟨h.h0,h.h1⟩,rfl,rfl,fun hm=>aFK hm ha,fun _ hb=>KQ hb,ha.r⟩
theorem rC(t n:Int)(s:MS)(b v k o w:Int)(ok:Bool)(h:mL v)(ha:BR t n b v/\b≠2*n+5+2*t+3*t):lX t n s ⟨s.t,s.n,aX s.xs b v,s.c+1,k,b,o,w,ok⟩:=⟨BQ t n s b v k o w ok h ha.1,KQ (fun e=>ha.2 e.symm)⟩
theorem I7(t n:Int)(s:MS)(q:Bool)(b v k o w:Int)(ok:Bool)(h:mL v)(ha:BR t n b v/\b≠2*n+5+2*t+3*t):lX t n s ⟨s.t,s.n,bif q then aX s.xs b v else s.xs,s.c+1,k,b,o,w,ok⟩:=by
 cases q with
 | true=>exact rC t n s b v k o w ok h ha
 | false=>exact vM t n s k b o w ok ha.1.r
theorem YK(x a:Int)(w:Int):0<=aB x a w/\aB x a w<2^w.toNat:=YI
structure Bnd (t n:Int) (s:MS):Prop where
 ht:1<=t/\t<=1000
 hn:1<=n/\n<=1000
 hc:0<=s.c/\s.c<=900000
 hw:okW s.xs
 mi:MI t n s.xs
 ln:(s.xs.length:Int)=2*n+5+2*t+3*t+1
theorem lF{P:Prop}(h:P:=by(with_reducible first | exact FA | exact A3 _ | exact U2 | exact aBw | assumption)):P:=h
theorem wA{P:Prop}(h:P:=by(simp only [aB,Int.reduceToNat,Int.reducePow];omega)):P:=h
theorem gF{P:Prop}(h:P:=by(first
 | (with_reducible assumption)
 | omega
 | (with_reducible exact MI.nx (by assumption) _ omz)
 | ((with_reducible refine aFU ?_ ?_)<;>omega)
 | (rw [rH];omega))):P:=h
theorem rO{P:Prop}(h:P:=by(first
 | (with_reducible assumption)
 | (with_reducible exact MI.ds (by assumption) _ omz omz)
 | (with_reducible exact(CT omz omz omz).2))):P:=h
theorem I8{P:Prop}(h:P:=by(first
 | ((with_reducible refine XB ?_ ⟨?_,?_⟩ ?_)<;>first | omega | exact rO)
 | (exact F5 omz omz omz)
 | (exact XC omz omz omz omz gF))):P:=h
theorem bZ{P:Prop}(h:P:=by(first
 | with_reducible exact trivial
 | with_reducible rfl
 | with_reducible assumption
 | ((with_reducible refine vM _ _ _ _ _ _ _ _ ?_);omega)
 | ((with_reducible refine rC _ _ _ _ _ _ _ _ _ ?_ ?_);exact lF;exact I8)
 | ((with_reducible refine I7 _ _ _ _ _ _ _ _ _ _ ?_ ?_);exact lF;exact I8)
 | omega
 | exact wA
 | decide)):P:=h
theorem VX{P:Prop}(h:P:=by first | exact lF | (exact U3 (by assumption) _)):P:=h
theorem K2{P:Prop}(h:P:=by(dsimp only;first | omega | (constructor<;>omega) | exact wA)):P:=h
theorem gE{P:Prop}(h:P:=by(dsimp only;first
 | (with_reducible assumption)
 | decide
 | omega
 | (constructor<;>omega)
 | exact gF
 | exact rO
 | (intro e;exact absurd e dS)
 | (intro _;exact rO)
 | exact wA)):P:=h
structure clW (t n:Int) (x:CLS):Prop where
 h:x.at'=0\/x.at'=1\/x.at'=2\/x.at'=3
 ad:0<=x.addr/\x.addr<=n+4
 nx:x.at'≠0->aB x.word 10 9<=n/\0<=aB x.word 20 5 - 1/\aB x.word 20 5 - 1<t
 fo:x.at'=2->dsc n x.found
structure aHq (t n:Int) (s:MS) (o:ClO):Prop where
 a:lX t n s o.s
 w:o.d=false->clW t n o.x
theorem aCf{t n:Int}{x:CLS}{s:MS}(hb:Bnd t n s)(hx:clW t n x):(clT t n x s).run (aHq t n s):=by
 obtain⟨⟨t0,t1⟩,⟨n0,n1⟩,⟨c0,c1⟩,hw,af,ag⟩:=hb;obtain⟨h,⟨ae,ah⟩,aa,ac⟩:=hx;unfold clT;refine aLz (fun h0=>?c0) (fun h0=>aLz (fun h1=>?c1) (fun h1=>aLz (fun h2=>?c2) (fun h2=>aLz (fun h3=>?c3) (fun h3=>?c4))))
 case' c0=>unfold B9
 case' c1=>obtain⟨w1,w2,w3⟩:=aa omz;unfold CA w0d w0f w0e
 case' c2=>obtain⟨w1,w2,w3⟩:=aa omz;have ac:=ac h2;obtain⟨f1,f2⟩:=ac;unfold CB w0f w0e
 case' c3=>obtain⟨w1,w2,w3⟩:=aa omz;unfold CC
 case c4=>omega
 all_goals (repeat' (with_reducible first | exact trivial | rfl | assumption | refine aLC ?_ ?_ | refine aMB (fun _=>?_) (fun _=>?_) | refine Tr.run_ite (fun _=>?_) (fun _=>?_) | refine aLJ ?_ | refine And.intro ?_ ?_))
 all_goals first | exact bZ | (refine⟨by exact bZ,fun hd=>?_⟩;first | (exact Bool.noConfusion hd) | ((try replace hd:=KG hd);exact⟨gE,gE,fun _=>⟨gE,gE,gE⟩,gE⟩))
theorem GY{t n:Int}{x:CLS}{s:MS}(hb:Bnd t n s)(hx:clW t n x):RA t n x s:=aLN (aCf hb hx)
theorem AA{t n:Int}{x:CLS}{s:MS}(hb:Bnd t n s)(hx:clW t n x):aHq t n s (pR t n x s):=aLH (aCf hb hx)
structure hdW (t:Int) (x:HDS):Prop where
 h:0<=x.at'/\x.at'<t
 u: -1<=x.u/\x.u<t
structure aIm (t n:Int) (s:MS) (o:HdO):Prop where
 a:lX t n s o.s
 w:o.d=false->hdW t o.x
 p: -1<=o.x.u/\o.x.u<t
theorem aCv{t n:Int}{x:HDS}{s:MS}(hb:Bnd t n s)(hx:hdW t x):(hdT t n x s).run (aIm t n s):=by
 obtain⟨⟨t0,t1⟩,⟨n0,n1⟩,⟨c0,c1⟩,hw,aa,ac⟩:=hb;obtain⟨⟨h0,h1⟩,⟨u0,u1⟩⟩:=hx;have hW:W (x.at'+1)=x.at'+1:=cG ⟨by omega,by omega⟩
 unfold hdT;unfold aAs w0h w0g;rw [hW]
 (repeat' (with_reducible first | exact trivial | rfl | assumption | refine aLC ?_ ?_ | refine Tr.run_ite (fun _=>?_) (fun _=>?_) | refine aLJ ?_ | refine And.intro ?_ ?_))
 all_goals first | exact bZ | (refine⟨by exact bZ,fun hd=>by first | (exact Bool.noConfusion hd) | ((try replace hd:=KG hd);exact⟨gE,gE⟩),?_⟩;exact K2)
theorem aFo{t n:Int}{x:HDS}{s:MS}(hb:Bnd t n s)(hx:hdW t x):aFl t n x s:=aLN (aCv hb hx)
theorem aFp{t n:Int}{x:HDS}{s:MS}(hb:Bnd t n s)(hx:hdW t x):aIm t n s (qY t n x s):=aLH (aCv hb hx)
structure drW (t:Int) (x:DRS):Prop where
 h:0<=x.th/\x.th<t
 u:0<=x.at'/\x.at'<=1
structure aHv (t n:Int) (s:MS) (o:DrO):Prop where
 a:lX t n s o.s
 w:o.d=false->drW t o.x
theorem aCj{t n:Int}{x:DRS}{s:MS}(hb:Bnd t n s)(hx:drW t x):(drT t n x s).run (aHv t n s):=by
 obtain⟨⟨t0,t1⟩,⟨n0,n1⟩,⟨c0,c1⟩,hw,aa,ac⟩:=hb;obtain⟨⟨h0,h1⟩,⟨u0,u1⟩⟩:=hx;have hW:W (x.at'+1)=x.at'+1:=cG ⟨by omega,by omega⟩
 unfold drT;unfold Y7;rw [hW]
 (repeat' (with_reducible first | exact trivial | rfl | assumption | refine aLC ?_ ?_ | refine Tr.run_ite (fun _=>?_) (fun _=>?_) | refine aLJ ?_ | refine And.intro ?_ ?_))
 all_goals first | exact bZ | (refine⟨by exact bZ,fun hd=>?_⟩;first | (exact Bool.noConfusion hd) | ((try replace hd:=KG hd);exact⟨gE,gE⟩))
theorem aEd{t n:Int}{x:DRS}{s:MS}(hb:Bnd t n s)(hx:drW t x):aEa t n x s:=aLN (aCj hb hx)
theorem aEe{t n:Int}{x:DRS}{s:MS}(hb:Bnd t n s)(hx:drW t x):aHv t n s (WJ t n x s):=aLH (aCj hb hx)
structure anW (t:Int) (x:ANS):Prop where
 h:x.at'=0\/x.at'=1\/x.at'=2\/x.at'=3\/x.at'=4
 m:0<=x.me/\x.me<t
 b:mL x.bits
 q:mL x.no
 g:x.wrong=false
def drew(t n:Int)(b:Prop)(s s':MS):Prop:=(b/\aE s'.xs (2*n+5+2*t+3*t)=WU (aE s.xs (2*n+5+2*t+3*t)+1))\/(¬b/\aE s'.xs (2*n+5+2*t+3*t)=aE s.xs (2*n+5+2*t+3*t))
structure XL (t n:Int) (s:MS) (x:ANS) (o:AnO):Prop where
 a:FX t n s o.s
 w:o.d=false->anW t o.x
 k:drew t n (x.at'=1) s o.s
 e:o.x.at'=x.at'+1
 f:o.d=true->x.at'=4
theorem aEf{t n:Int}{b:Prop}{s s':MS}(h:lX t n s s')(hb: ¬b):drew t n b s s':=.inr ⟨hb,h.k⟩
theorem aDm{t n:Int}{s s':MS}{x:ANS}{o:AnO}(h:lX t n s o.s)(hb: ¬x.at'=1)(hw:o.d=false->anW t o.x)(he:o.x.at'=x.at'+1)(hf:o.d=true->x.at'=4):XL t n s x o:=⟨h.a,hw,aEf h hb,he,hf⟩
theorem aB7{t n:Int}{x:ANS}{s:MS}(hb:Bnd t n s)(hx:anW t x):(anT t n x s).run (XL t n s x):=by
 obtain⟨⟨t0,t1⟩,⟨n0,n1⟩,⟨c0,c1⟩,hw,ae,af⟩:=hb;obtain⟨h,⟨m0,m1⟩,b,q,g⟩:=hx;have ac:=fun v=>P3 (n:=n) (v:=v) n0 ⟨m0,m1⟩ (.inl rfl);have aa:=fun v=>P3 (n:=n) (v:=v) n0 ⟨m0,m1⟩ (.inr rfl);unfold anT;refine aLz (fun h0=>?c0) (fun h0=>aLz (fun h1=>?c1) (fun h1=>aLz (fun h2=>?c2) (fun h2=>aLz (fun h3=>?c3) (fun h3=>aLz (fun h4=>?c4) (fun h4=>?c5)))))
 case' c0=>unfold BU w0i
 case' c1=>unfold BV
 case' c2=>unfold BW w0i
 case' c3=>unfold BX w0i
 case' c4=>unfold BY w0i
 case c5=>omega
 all_goals rw [g];refine Tr.run_ite (fun e=>Bool.noConfusion e) (fun _=>?_)
 all_goals (repeat' (with_reducible first | exact trivial | rfl | assumption | refine aLC ?_ ?_ | refine Tr.run_ite (fun _=>?_) (fun _=>?_) | refine aLJ ?_ | refine And.intro ?_ ?_))
 all_goals first | exact bZ | (refine⟨BQ _ _ _ _ _ _ _ _ _ (A3 _) ⟨by omega,fun h=>by omega,fun u h0 h1 e=>by omega⟩,fun _=>⟨gE,⟨m0,m1⟩,by assumption,by exact VX,rfl⟩,.inl ⟨by assumption,aFX ⟨by omega,by omega⟩⟩,by rw [show x.at'=1 by assumption];rfl,fun e=>Bool.noConfusion e⟩) | (refine aDm (s':=s) (by first | exact bZ | exact rC _ _ _ _ _ _ _ _ _ lF (ac _) | exact rC _ _ _ _ _ _ _ _ _ lF (aa _)) omz (fun hd=>?_) (by(have e:x.at'=_:=(by assumption));rw [e];rfl) (by first | (intro e;exact Bool.noConfusion e) | (intro _;assumption));first | (exact Bool.noConfusion hd) | exact⟨gE,⟨m0,m1⟩,by assumption,by exact VX,rfl⟩)
theorem aDn{t n:Int}{x:ANS}{s:MS}(hb:Bnd t n s)(hx:anW t x):aDk t n x s:=aLN (aB7 hb hx)
theorem aDo{t n:Int}{x:ANS}{s:MS}(hb:Bnd t n s)(hx:anW t x):XL t n s x (GC t n x s):=aLH (aB7 hb hx)
def eF(n:Int)(l:List Int):Prop:= ∀r∈l,1<=r/\r<=n
theorem tM{n:Int} :eF n []:=fun r h=>nomatch h
theorem xL{n:Int}{l:List Int}{a:Int}(h:eF n l)(ha:1<=a/\a<=n):eF n (l++ [a]):=by
 intro r hr;rcases List.mem_append.1 hr with h1 | h1
 ·exact h r h1
 ·rw [List.mem_singleton.1 h1];exact ha
theorem O5{n:Int}{l m:List Int}(h:eF n l)(hm:eF n m):eF n (l++m):=by
 intro r hr;rcases List.mem_append.1 hr with h1 | h1
 ·exact h r h1
 ·exact hm r h1
theorem z7(t n a:Int):rG t n a:=⟨⟨rfl,rfl⟩,trivial⟩
theorem GW{t n a:Int}(h:0<=a/\a<=n+4):clW t n (zZ t n a):=⟨.inl rfl,h,fun e=>absurd rfl e,fun e=>absurd e (by show¬(0:Int)=2;decide)⟩
theorem YH(x a:Int):0<=aB x a 9:=by
 have:=YK x a 9;omega
theorem JD{x a:Int}(h:aB x a 9≠0):1<=aB x a 9:=by
 have:=YH x a;omega
structure JR (t n b:Int) (x:FNS):Prop where
 m:0<=x.me/\x.me<t
 pr:0<=x.pred/\x.pred<=n+4
 pw:aB x.pw 10 9<=n
 cu:0<=x.curr/\x.curr<=n
 cw:aB x.cw 10 9<=n
 fr:0<=x.frm/\x.frm<=n+4
 ul:eF n x.ul
 ln:(x.ul.length:Int)<=b
structure ZW (t n:Int) (x:FNS):Prop where
 h:x.at'=0\/x.at'=1\/x.at'=2\/x.at'=3\/x.at'=4\/x.at'=5\/x.at'=6
 cl:x.at'=4->clW t n x.cl
 c1:x.at'≠0->1<=x.curr
structure aH3 (t n b:Int) (s:MS) (o:FnO):Prop where
 a:lX t n s o.s
 q:JR t n (b+1) o.x
 w:o.d=false->ZW t n o.x
theorem aEO{P:Prop}(h:P:=by(refine⟨?_,⟨?_,?_,?_,?_,?_,?_,?_,?_⟩,fun hd=>?_⟩<;>first
 | exact bZ
 | (exact(AA (by assumption) (by assumption)).a)
 | (dsimp only;with_reducible assumption)
 | (constructor<;>assumption)
 | (dsimp only;omega)
 | (exact⟨YH _ _,gF⟩)
 | (dsimp only;exact gF)
 | (exact xL (by assumption) ⟨by assumption,by assumption⟩)
 | exact tM
 | (dsimp only;simp only [List.length_append,List.length_singleton,List.length_nil];omega)
 | exact Bool.noConfusion hd
 | exact⟨by dsimp only;decide,fun e=>absurd e (by dsimp only;decide),fun e=>absurd rfl e⟩
 | exact⟨by dsimp only;decide,fun e=>absurd e (by dsimp only;decide),fun _=>by dsimp only;first | omega | exact JD (eB hd) | exact JD (by assumption)⟩
 | exact⟨by dsimp only;decide,fun e=>(AA (by assumption) (by assumption)).w (by assumption),fun _=>by dsimp only;omega⟩
 | exact⟨by dsimp only;decide,fun e=>by dsimp only;with_reducible exact GW omz,fun _=>by dsimp only;omega⟩)):P:=h
theorem aCo{t n b:Int}{x:FNS}{s:MS}(hb:Bnd t n s)(hx:ZW t n x)(hq:JR t n b x)(hbb:b<=900000):(fnT t n x s).run (aH3 t n b s):=by
 have hb':=hb;obtain⟨⟨t0,t1⟩,⟨n0,n1⟩,⟨c0,c1⟩,hw,ao,ap⟩:=hb;obtain⟨h,af,aa⟩:=hx;obtain⟨⟨m0,m1⟩,⟨ah,am⟩,al,⟨q0,q1⟩,ar,⟨ai,aq⟩,ak,ag⟩:=hq;have b0:0<=b:=by omega
 unfold fnT;refine aLz (fun h0=>?c0) (fun h0=>aLz (fun h1=>?c1) (fun h1=>aLz (fun h2=>?c2) (fun h2=>aLz (fun h3=>?c3) (fun h3=>aLz (fun h4=>?c4) (fun h4=>aLz (fun h5=>?c5) (fun h5=>aLz (fun h6=>?c6) (fun h6=>?c7)))))))
 case' c0=>unfold DC w17 w1d w16 w13 w1a w14 w1c
 case' c1=>have ac:=aa omz;unfold DD
 case' c2=>have ac:=aa omz;unfold DE w17 w1d w16 w13 w1a w1c w14
 case' c3=>have ac:=aa omz;unfold DF
 case' c4=>have ac:=aa omz;have ae:=af h4;have aj:=GY hb' ae;unfold DG w19 w14
 case' c5=>have ac:=aa omz;unfold DH w10 w15 w11 w19 w14
 case' c6=>have ac:=aa omz;unfold DI w14 w1f w1e
 case c7=>omega
 all_goals (repeat' (with_reducible first | exact trivial | rfl | assumption | refine aLC ?_ ?_ | refine Tr.run_eq (fun _=>?_) (fun _=>?_) | refine aMB (fun _=>?_) (fun _=>?_) | refine Tr.run_le (fun _=>?_) (fun _=>?_) | refine Tr.run_ite (fun _=>?_) (fun _=>?_) | refine aLJ ?_ | refine And.intro ?_ ?_))
 all_goals first | exact bZ | exact z7 _ _ _ | (simp only [List.length_append,List.length_singleton];done) | exact aEO
theorem HL{t n b:Int}{x:FNS}{s:MS}(hb:Bnd t n s)(hx:ZW t n x)(hq:JR t n b x)(hbb:b<=900000):MV t n x s:=aLN (aCo hb hx hq hbb)
theorem HM{t n b:Int}{x:FNS}{s:MS}(hb:Bnd t n s)(hx:ZW t n x)(hq:JR t n b x)(hbb:b<=900000):aH3 t n b s (aM t n x s):=aLH (aCo hb hx hq hbb)
theorem eU(sh ky:Int):0<=fU sh ky/\fU sh ky<=3:=by
 unfold fU;cases ieq sh 2 with
 | true=>exact⟨Int.emod_nonneg _ dS,by have:=Int.emod_lt_of_pos ky (b:=4) dS;show ky%4<=3;omega⟩
 | false=>exact⟨Int.le_refl 0,(by decide:(0:Int)<=3)⟩
theorem HJ{t n me hd key lim:Int}(hn:1<=n/\n<=1000)(hm:0<=me/\me<t)(hh:0<=hd/\hd<=3):(SS t n me hd key lim).run (fun x=>ZW t n x/\JR t n 0 x):=by
 obtain⟨n0,n1⟩:=hn;obtain⟨m0,m1⟩:=hm;obtain⟨e0,e1⟩:=hh;unfold SS w1g
 (repeat' (with_reducible first | exact trivial | rfl | assumption | refine aLC ?_ ?_ | refine Tr.run_ite (fun _=>?_) (fun _=>?_) | refine aLJ ?_ | refine And.intro ?_ ?_))
 all_goals first | exact bZ | exact⟨by dsimp only;decide,fun e=>absurd e (by dsimp only;decide),fun e=>absurd rfl e⟩ | exact⟨⟨m0,m1⟩,by dsimp only;omega,gF,⟨(by decide:(0:Int)<=0),by dsimp only;omega⟩,gF,by dsimp only;omega,tM,(by decide:((0:Nat):Int)<=0)⟩
structure plnW (n:Int) (p:PLN):Prop where
 ad:0<=p.addr/\p.addr<=n+4
 ol:aB p.old 10 9<=n
 nx:p.nxt<=n
 ps:0<=p.pops/\p.pops<=n
theorem KT(sh kd ky:Int){n pred pw cw sp curr:Int}(hn:1<=n)(hp:0<=pred/\pred<=n+4)(hpw:aB pw 10 9<=n)(hc:0<=curr/\curr<=n)(hcw:aB cw 10 9<=n)(hs:sp<=n):(EN sh kd ky pred pw curr cw sp).run (plnW n):=by
 obtain⟨c0,c1⟩:=hc;obtain⟨p0,p1⟩:=hp;unfold EN w09 w0b w0a w0c
 (repeat' (with_reducible first | exact trivial | rfl | assumption | refine aLC ?_ ?_ | refine Tr.run_ite (fun _=>?_) (fun _=>?_) | refine aLJ ?_ | refine And.intro ?_ ?_))
 all_goals first | exact bZ | (refine⟨⟨?_,?_⟩,?_,?_,⟨?_,?_⟩⟩<;>dsimp only<;>exact gF)
theorem ES(sh kd ky:Int){t n b:Int}{x:FNS}{sp:Int}(hn:1<=n)(q:JR t n b x)(hs:sp<=n):xG sh kd ky x.1 x.2 x.3 x.4 sp:=aLN (KT sh kd ky hn q.pr q.pw q.cu q.cw hs)
theorem AZ(sh kd ky:Int){t n b:Int}{x:FNS}{sp:Int}(hn:1<=n)(q:JR t n b x)(hs:sp<=n):plnW n (bM sh kd ky x.1 x.2 x.3 x.4 sp):=aLH (KT sh kd ky hn q.pr q.pw q.cu q.cw hs)
theorem EP{n:Int}(hn:1<=n)(a b c d e f:_){g:Int}(h i:_)(hg:g<=n):(xH a b c d e f g h i).run (fun v=>mL v/\aB v 10 9<=n):=by
 unfold xH
 (repeat' (with_reducible first | exact trivial | rfl | assumption | refine aLC ?_ ?_ | refine Tr.run_ite (fun _=>?_) (fun _=>?_) | refine aLJ ?_ | refine And.intro ?_ ?_))
 all_goals first | exact bZ | exact lF | exact gF
theorem OQ{n:Int}(hn:1<=n){p:PLN}(h:plnW n p):AY p.1 p.2 p.3 p.4 p.5 p.6 p.7 p.8 p.9:=aLN (EP hn _ _ _ _ _ _ _ _ h.nx)
theorem OP{n:Int}(hn:1<=n){p:PLN}(h:plnW n p):mL (eA p.1 p.2 p.3 p.4 p.5 p.6 p.7 p.8 p.9)/\aB (eA p.1 p.2 p.3 p.4 p.5 p.6 p.7 p.8 p.9) 10 9<=n:=aLH (EP hn _ _ _ _ _ _ _ _ h.nx)
theorem EM{n:Int}(hn:1<=n)(a b c d:_){e:Int}(f:_){g:Int}(h i j:_)(he:0<=e/\e<=n+4)(hg:g<=n):(xF a b c d e f g h i j).run (fun r=>mL r.1/\dsc n r.1):=by
 obtain⟨aa,he⟩:=he;unfold xF
 (repeat' (with_reducible first | exact trivial | rfl | assumption | refine aLC ?_ ?_ | refine Tr.run_ite (fun _=>?_) (fun _=>?_) | refine aLJ ?_ | refine And.intro ?_ ?_))
 all_goals first | exact bZ | (dsimp only;first | exact lF | exact rO | exact⟨gF,gF⟩ | exact⟨by rw [rH];omega,by rw [rH];omega⟩)
theorem ON{n:Int}(hn:1<=n){p:PLN}(h:plnW n p)(j:Int):AX p.1 p.2 p.3 p.4 p.5 p.6 p.7 p.8 p.9 j:=aLN (EM hn _ _ _ _ _ _ _ _ h.ad h.nx)
theorem OM{n:Int}(hn:1<=n){p:PLN}(h:plnW n p)(j:Int):mL (jV p.1 p.2 p.3 p.4 p.5 p.6 p.7 p.8 p.9 j).1/\dsc n (jV p.1 p.2 p.3 p.4 p.5 p.6 p.7 p.8 p.9 j).1:=aLH (EM hn _ _ _ _ _ _ _ _ h.ad h.nx)
theorem EL(a b c d e f g h i):(xD a b c d e f g h i).run (fun _=>True):=by
 unfold xD
 (repeat' (with_reducible first | exact trivial | rfl | assumption | refine aLC ?_ ?_ | refine Tr.run_ite (fun _=>?_) (fun _=>?_) | refine aLJ ?_ | refine And.intro ?_ ?_))
 all_goals exact bZ
theorem zF(p:PLN):pG p.1 p.2 p.3 p.4 p.5 p.6 p.7 p.8 p.9:=aLN (EL _ _ _ _ _ _ _ _ _)
theorem xE(a b c d e f g h i):pG a b c d e f g h i:=aLN (EL _ _ _ _ _ _ _ _ _)
theorem fZ{t n b c:Int}{x:FNS}(h:JR t n b x)(hbc:b<=c):JR t n c x:=⟨h.m,h.pr,h.pw,h.cu,h.cw,h.fr,h.ul,Int.le_trans h.ln hbc⟩
theorem u9{t n me hd key lim:Int}(hn:1<=n/\n<=1000)(hm:0<=me/\me<t)(hh:0<=hd/\hd<=3):pS t n me hd key lim:=aLN (HJ hn hm hh)
theorem JQ{t n me hd key lim:Int}(hn:1<=n/\n<=1000)(hm:0<=me/\me<t)(hh:0<=hd/\hd<=3):ZW t n (wL t n me hd key lim):=by
 have h:=aLH (HJ (key:=key) (lim:=lim) hn hm hh);exact h.1
theorem JP{t n me hd key lim:Int}(hn:1<=n/\n<=1000)(hm:0<=me/\me<t)(hh:0<=hd/\hd<=3):JR t n 0 (wL t n me hd key lim):=by
 have h:=aLH (HJ (key:=key) (lim:=lim) hn hm hh);exact h.2
structure prW (n:Int) (x:PRS):Prop where
 h:x.nxt<=n
theorem aF3(t:Int){n:Int}(key:Int){nx:Int}(st:STS)(h:nx<=n):(OS t n key nx st).run (fun r=>prW n r.1/\r.2=st):=⟨⟨rfl,rfl,rfl⟩,⟨h⟩,rfl⟩
theorem KU(t n key nx:Int)(st:STS):EU t n key nx st:=aLN (t:=OS t n key nx st) (K:=fun _=>True) ⟨⟨rfl,rfl,rfl⟩,trivial⟩
theorem aCI(t:Int){n:Int}(key:Int){nx:Int}(st:STS)(h:nx<=n):prW n (qR t n key nx st).1:=(aLH (aF3 t key st h)).1
theorem UQ(t n key nx:Int)(st:STS):(qR t n key nx st).2=st:=aLH (t:=OS t n key nx st) (K:=fun r=>r.2=st) (aLC ⟨rfl,rfl,rfl⟩ (aLJ rfl))
structure stW (t n b:Int) (st:STS):Prop where
 m:0<=st.me/\st.me<t
 sp:0<=st.sp/\st.sp<=n
 r:eF n st.R
 ln:(st.R.length:Int)<=b
theorem jQ{t n b c:Int}{st:STS}(h:stW t n b st)(hbc:b<=c):stW t n c st:=⟨h.m,h.sp,h.r,Int.le_trans h.ln hbc⟩
theorem A6{t n b:Int}{st:STS}{x:FNS}(h:stW t n b st)(hq:JR t n (b - st.R.length+1) x):stW t n (b+1) {me:=st.me,sp:=st.sp,R:=st.R++x.ul} :=
 ⟨h.m,h.sp,O5 h.r hq.ul,by have:=hq.ln;simp only [List.length_append];omega⟩
theorem FG{t n b:Int}{st:STS}{k a:Int}(h:stW t n b st)(hk:0<=k/\k<=n)(ha:1<=a/\a<=n):stW t n (b+1) {me:=st.me,sp:=k,R:=st.R++ [a] } :=
 ⟨h.m,hk,xL h.r ha,by have:=h.ln;simp only [List.length_append,List.length_singleton];omega⟩
theorem VD{t n b:Int}{st:STS}(h:stW t n b st){k:Int}(hk:0<=k/\k<=n):stW t n (b+1) {me:=st.me,sp:=k,R:=st.R} :=⟨h.m,hk,h.r,by have:=h.ln;show(st.R.length:Int)<=_;omega⟩
structure aIX (t n:Int) (s:MS) (st:STS) (o:PrO):Prop where
 a:lX t n s o.s
 w:o.d=false->prW n o.x
 st:o.st=st
theorem aCK{t n b:Int}{x:PRS}{st:STS}{s:MS}(hb:Bnd t n s)(hx:prW n x)(hst:stW t n b st):(prT t n x st s).run (aIX t n s st):=by
 obtain⟨⟨t0,t1⟩,⟨n0,n1⟩,⟨c0,c1⟩,hw,aa,ac⟩:=hb;obtain⟨h⟩:=hx;obtain⟨s0,s1⟩:=hst.sp;unfold prT;unfold aBl
 (repeat' (with_reducible first | exact trivial | rfl | assumption | refine aLC ?_ ?_ | refine Tr.run_ite (fun _=>?_) (fun _=>?_) | refine aLJ ?_ | refine And.intro ?_ ?_))
 all_goals first | exact bZ | (refine⟨by exact bZ,fun hd=>?_,rfl⟩;first | (exact Bool.noConfusion hd) | exact⟨by assumption⟩)
theorem US{t n b:Int}{x:PRS}{st:STS}{s:MS}(hb:Bnd t n s)(hx:prW n x)(hst:stW t n b st):aBj t n x st s:=aLN (aCK hb hx hst)
theorem UT{t n b:Int}{x:PRS}{st:STS}{s:MS}(hb:Bnd t n s)(hx:prW n x)(hst:stW t n b st):aIX t n s st (prF t n x st s):=aLH (aCK hb hx hst)
structure Z6 (t n b:Int) (st:STS) (x:FTS):Prop where
 h:x.at'=0\/x.at'=1\/x.at'=2\/x.at'=3
 fn:x.at'=0->ZW t n x.fn/\JR t n (b - st.R.length) x.fn
 cl:x.at'=1->clW t n x.cl
 pr:x.at'=2->prW n x.pr
 ps:plnW n x.p
structure aH7 (t n b:Int) (s:MS) (o:FtO):Prop where
 a:lX t n s o.s
 st:stW t n (b+1) o.st
 w:o.d=false->Z6 t n (b+1) o.st o.x
theorem UP{n:Int}(hn:1<=n)(a:Bool)(b:Int)(c:Bool)(d:Int)(e:Bool):plnW n ⟨a,b,c,d,0,0,0,e,0⟩:=⟨⟨Int.le_refl 0,by dsimp only;omega⟩,gF,by dsimp only;omega,⟨Int.le_refl 0,by dsimp only;omega⟩⟩
theorem aCp{t n b:Int}{x:FTS}{st:STS}{s:MS}(hb:Bnd t n s)(hx:Z6 t n b st x)(hst:stW t n b st)(hbb:b<=900000):(ftT t n x st s).run (aH7 t n b s):=by
 have hb':=hb;obtain⟨⟨t0,t1⟩,⟨n0,n1⟩,⟨c0,c1⟩,hw,al,am⟩:=hb;obtain⟨h,aj,ak,ai,aa⟩:=hx;have ar:=hst.ln;have af:stW t n (b+1) st:=jQ hst omz;have ac:1<=n/\n<=1000:=⟨n0,n1⟩;have ae:=hst.m;obtain⟨s0,s1⟩:=hst.sp;have b0:0<=b:=by omega
 unfold ftT;refine aLz (fun h0=>?c0) (fun h0=>aLz (fun h1=>?c1) (fun h1=>aLz (fun h2=>?c2) (fun h2=>aLz (fun h3=>?c3) (fun h3=>?c4))))
 case' c0=>obtain⟨ag,ah⟩:=aj h0;have hF:=HM hb' ag ah omz;have ay:=HL hb' ag ah omz;have hA:=hF.a;have hQ:=hF.q;have au:=hQ.ln;have hS:stW t n (b+1) {me:=st.me,sp:=st.sp,R:=st.R++(aM t n x.fn s).x.ul } :=A6 hst hQ;obtain⟨u0,u1⟩:=hQ.cu;unfold DK w1h w1o w1j
 case' c1=>have hc:=ak h1;have hC:=AA hb' hc;have az:=GY hb' hc;have hA:=hC.a;unfold DL
 case' c2=>have hp:=ai h2;have hP:=UT hb' hp hst;have ax:=US hb' hp hst;have hA:=hP.a;have av:stW t n (b+1) (prF t n x.pr st s).st :=(by rw [hP.st];exact af);unfold DM
 case' c3=>obtain⟨hW,ap⟩:=OP n0 aa;have ao:=OQ n0 aa;obtain⟨⟨q0,q1⟩,q2,q3,⟨q4,q5⟩⟩:=aa;have aa:plnW n x.p:=⟨⟨q0,q1⟩,q2,q3,⟨q4,q5⟩⟩;have aq:stW t n (b+1) {me:=st.me,sp:=0,R:=st.R} :=VD hst ⟨by omega,by omega⟩;unfold DN w1i
 case c4=>omega
 all_goals (repeat' (with_reducible first | exact trivial | rfl | assumption | refine aLC ?_ ?_ | refine Tr.run_ite (fun _=>?_) (fun _=>?_) | refine aLJ ?_ | refine And.intro ?_ ?_))
 all_goals first
  | exact bZ
  | exact ES _ _ _ n0 hQ s1
  | exact zF _
  | exact xE _ _ _ _ _ _ _ _ _
  | exact z7 _ _ _
  | exact KU _ _ _ _ _
  | exact u9 ac ae (eU _ _)
  | (simp only [List.length_append,List.length_singleton];done)
  | (refine⟨by first | assumption | exact bZ,?_,fun hd=>?_⟩
     ·first
       | assumption
       | (dsimp only;rw [UQ];assumption)
       | exact FG hst ⟨by omega,by omega⟩ ⟨by rename_i e;have e:=eB (by simpa using e);omega,q5⟩
     ·first
       | exact Bool.noConfusion hd
       | (refine⟨by dsimp only;decide,?_,?_,?_,?_⟩
          ·first | (exact nE') | (intro _;exact⟨hF.w (by assumption),fZ hQ (by dsimp only;omega)⟩) | (intro _;exact⟨JQ ac ae (eU _ _),fZ (JP ac ae (eU _ _)) (by dsimp only;omega)⟩)
          ·first | (exact nE') | (intro _;dsimp only;exact GW (AZ _ _ _ n0 hQ s1).ad) | (intro _;exact hC.w (by assumption))
          ·first | (exact nE') | (intro _;dsimp only;exact aCI _ _ _ u1) | (intro _;exact hP.w (by assumption))
          ·first | exact aa | exact AZ _ _ _ n0 hQ s1))
theorem aEZ{t n b:Int}{x:FTS}{st:STS}{s:MS}(hb:Bnd t n s)(hx:Z6 t n b st x)(hst:stW t n b st)(hbb:b<=900000):aES t n x st s:=aLN (aCp hb hx hst hbb)
theorem aE0{t n b:Int}{x:FTS}{st:STS}{s:MS}(hb:Bnd t n s)(hx:Z6 t n b st x)(hst:stW t n b st)(hbb:b<=900000):aH7 t n b s (jI t n x st s):=aLH (aCp hb hx hst hbb)
theorem HN{t n b sh kd ky most:Int}{st:STS}(hn:1<=n/\n<=1000)(hst:stW t n b st):(ST t n sh kd ky most st).run (fun r=>Z6 t n b st r.1/\r.2=st):=by
 have aa:=hst.ln;unfold ST
 (repeat' (with_reducible first | exact trivial | rfl | assumption | refine aLC ?_ ?_ | refine Tr.run_ite (fun _=>?_) (fun _=>?_) | refine aLJ ?_ | refine And.intro ?_ ?_))
 all_goals first
  | exact bZ
  | exact u9 hn hst.m (eU _ _)
  | exact⟨by dsimp only;decide,fun _=>⟨JQ hn hst.m (eU _ _),fZ (JP hn hst.m (eU _ _)) omz⟩,fun e=>absurd e (by dsimp only;decide),fun e=>absurd e (by dsimp only;decide),UP hn.1 _ _ _ _ _⟩
theorem fH(t n:Int)(s:MS)(a:Int)(hr:0<=a/\a<=2*n+5+2*t+3*t):lX t n s (s.loadd a):=⟨⟨rfl,rfl,id,rfl,rfl,id,fun _ _=>rfl,hr⟩,rfl⟩
theorem yD{t n:Int}(s:MS)(a o x:Int)(ht:1<=t)(ha:1<=a/\a<=n):lX t n s (s.cased (n+4+a) o (WU x)):=I7 t n s _ _ _ _ _ _ _ (A3 x) (F5 ht omz omz omz)
theorem oY{t n:Int}(s:MS){gs:List Int}{j:Nat}(x:Int)(ht:1<=t)(h:eF n gs)(hj:j<gs.length):lX t n s (s.added (bS n gs j) x):=by
 have ha:1<=List.getD gs (j+Int.toNat 0*1) 0/\List.getD gs (j+Int.toNat 0*1) 0<=n:=by
  have e:j+Int.toNat 0*1=j:=by simp
  rw [e,gD',gE' hj];exact h _ (List.getElem_mem hj)
 exact rC t n s _ _ _ _ _ _ (A3 _) (F5 ht (by unfold bS;omega) (by unfold bS;omega) omz)
theorem nH{m:List (Int×Int)}{n:Int}{l:List Int}(h:eF n l):eF n (cF m l):=fun r hr=>h r (List.mem_filter.1 hr).1
theorem uJ{m:List (Int×Int)}{n:Int}{l:List Int}(h:eF n l):eF n (aS m l):=fun r hr=>h r (List.mem_filter.1 hr).1
theorem D6(m:List (Int×Int))(l:List Int):(cF m l).length <=l.length:=List.length_filter_le _ _
theorem FF{n:Int}{l:List Int}(hn:n<=1000)(h:eF n l){j:Nat}(hj:j<l.length): -1000000<=List.getD l (j+Int.toNat 0*1) 0/\List.getD l (j+Int.toNat 0*1) 0<=1000000:=by
 have e:j+Int.toNat 0*1=j:=by simp
 rw [e,gD',gE' hj];have:=h _ (List.getElem_mem hj);show _<=l[j]/\l[j]<=_;omega
theorem EB{n a:Int}(hn:1<=n)(ha:1<=a):1<=cU n a/\cU n a<=n:=by
 unfold cU;rw [Int.tmod_eq_emod_of_nonneg omz];have:=Int.emod_nonneg a (show n≠0 by omega)
 have:=Int.emod_lt_of_pos a (show 0<n by omega)
 omega
theorem XP{t n me:Int}(hn:1<=n):1<=at0 t n me/\at0 t n me<=n:=by
 unfold at0;cases h:bG n (aO t n me)with
 | true=>exact eO.1 h
 | false=>exact⟨(by decide:(1:Int)<=1),hn⟩
def enI(t n b:Int)(e:ENS):Prop:=match e.ph with
 | 0=>True
 | 1=>okAl n e.x
 | 2=>True
 | 3=>(eF n e.y.N/\(e.y.N.length:Int)<=b)/\0<=e.y.i/\e.y.i<2*t
 | 4=>2*t<=e.y.i/\1<=e.y.l/\e.y.gs.length=e.y.j+e.y.l/\eF n e.y.gs/\eF n e.y.ks/\(e.y.ks.length:Int)<=b
 | _=>False
structure aEs (t n b:Int) (s:MS) (o:EO):Prop where
 a:lX t n s o.s
 st:stW t n (b+1) o.st
 w:o.d=false->enI t n (b+1) o.e
theorem SA{t n b:Int}{e:ENS}{st:STS}{s:MS}(hb:Bnd t n s)(hx:enI t n b e)(hst:stW t n b st)(hbb:b<=900000):PO t n e st s:=by
 obtain⟨ht,hn,hc,hw,aa,ac⟩:=hb;have hl:=hst.ln;refine⟨ht,hn,⟨hc.1,by omega⟩,⟨hst.m.1,by have:=hst.m.2;omega⟩,by omega,?_⟩
 match e,hx with
 | ⟨0,sh,dn,x,y⟩,hx=>trivial
 | ⟨1,sh,dn,x,y⟩,hx=>exact hx
 | ⟨2,sh,dn,x,y⟩,hx=>trivial
 | ⟨3,sh,dn,x,y⟩,hx=>
   obtain⟨⟨h1,h2⟩,h3⟩:=hx;exact⟨by dsimp only at h2⊢;omega,h3⟩
 | ⟨4,sh,dn,x,y⟩,hx=>
   obtain⟨a1,a2,a3,a4,a5⟩:=hx;exact⟨a1,a2,a3,FF hn.2 a4 omz⟩
theorem JI{t n b:Int}{e:ENS}{st:STS}{x:AL}{s s0:MS}(ha:lX t n s0 s)(hst:stW t n b st)(hg:x.got=0)(hx:1<=x.at'/\x.at'<=n)(hl0:0<=x.left+1)(hl:x.left<=1000):aEs t n b s0 (MC e st x s):=by
 have ac:=hst.ln;have aa:=hst.sp;unfold MC;split
 ·exact⟨ha,⟨hst.m,⟨by show(0:Int)<=0;omega,by show(0:Int)<=n;omega⟩,hst.r,by dsimp only;omega⟩,fun _=>trivial⟩
 ·rename_i h;rw [cD,dF']at h;exact⟨ha,jQ hst omz,fun _=>⟨hg,hx,by show(0:Int)<=x.left;omega,hl⟩⟩
theorem yR{t n b:Int}{e:ENS}{st:STS}{x:AL}{s:MS}(ht:1<=t)(hn:1<=n)(hst:stW t n b st)(hx:okAl n x):aEs t n b s (tA n e st x s):=by
 obtain⟨hg,ha,hl⟩:=hx;have aa:=hst.ln;unfold tA;split
 ·split
  ·exact⟨yD _ _ _ _ ht ha,⟨hst.m,⟨by dsimp only;omega,ha.2⟩,hst.r,by dsimp only;omega⟩,fun h=>Bool.noConfusion h⟩
  ·exact JI (yD _ _ _ _ ht ha) hst rfl (EB hn ha.1) (by dsimp only;omega) (by dsimp only;omega)
 ·split
  ·exact JI (fH _ _ _ _ (by first | omega | (unfold bD;omega) | (dsimp only;unfold bD;omega))) hst rfl (EB hn ha.1) (by dsimp only;omega) (by dsimp only;omega)
  ·exact⟨fH _ _ _ _ (by first | omega | (unfold bD;omega) | (dsimp only;unfold bD;omega)),jQ hst omz,fun _=>⟨rfl,ha,hl⟩⟩
theorem SB{t n b:Int}{e:ENS}{st:STS}{s:MS}(hb:Bnd t n s)(hx:enI t n b e)(hst:stW t n b st):aEs t n b s (enF t n e st s):=by
 obtain⟨ht,hn,hc,hw,ag,ah⟩:=hb;have ai:=hst.ln;have aa:stW t n (b+1) st:=jQ hst omz
 match e,hx with
 | ⟨0,sh,dn,x,y⟩,hx=>
   unfold enF;dsimp only;cases hc:ieq st.sp 0 with
   | true=>exact yR ht.1 hn.1 hst ⟨rfl,XP hn.1,by dsimp only;omega⟩
   | false=>exact⟨fH _ _ _ _ (by first | omega | (unfold bD;omega) | (dsimp only;unfold bD;omega)),aa,fun h=>Bool.noConfusion h⟩
 | ⟨1,sh,dn,x,y⟩,hx=>exact yR ht.1 hn.1 hst hx
 | ⟨2,sh,dn,x,y⟩,hx=>
   exact⟨fH _ _ _ _ (by first | omega | (unfold bD;omega) | (dsimp only;unfold bD;omega)),aa,fun _=>⟨⟨hst.r,by show(st.R.length:Int)<=_;omega⟩,(by decide:(0:Int)<=1),by show(1:Int)<_;omega⟩⟩
 | ⟨3,sh,dn,x,y⟩,hx=>
   obtain⟨⟨hN,af⟩,ae,ac⟩:=hx;dsimp only at hN af ae ac;have hk:=D6 (aU y.m n y.i s) y.N;unfold enF;dsimp only;generalize hsm:aU y.m n y.i s=sm at hk⊢;cases h1:ieq (y.i+1) (2*t)with
   | false=>
     have h1:=eB h1;exact⟨fH _ _ _ _ (by first | omega | (unfold bD;omega) | (dsimp only;unfold bD;omega)),aa,fun _=>⟨⟨hN,by show((y.N).length :Int)<=_;omega⟩,by show 0<=y.i+1;omega,by show y.i+1<2*t;omega⟩⟩
   | true=>
     have h1:=rZ h1;cases h2:ieq ((aS sm y.N).length :Int) 0 with
     | true=>exact⟨fH _ _ _ _ (by first | omega | (unfold bD;omega) | (dsimp only;unfold bD;omega)),⟨hst.m,hst.sp,nH hN,by show((cF sm y.N).length :Int)<=_;omega⟩,fun h=>Bool.noConfusion h⟩
     | false=>
       have h2:=eB h2;exact⟨fH _ _ _ _ (by first | omega | (unfold bD;omega) | (dsimp only;unfold bD;omega)),aa,fun _=>⟨by show 2*t<=y.i+1;omega,by show 1<=(aS sm y.N).length;omega,by show(aS sm y.N).length =0+(aS sm y.N).length;omega,uJ hN,nH hN,by show((cF sm y.N).length :Int)<=_;omega⟩⟩
 | ⟨4,sh,dn,x,y⟩,hx=>
   obtain⟨a1,a2,a3,a4,a5,a6⟩:=hx;dsimp only at a1 a2 a3 a4 a5 a6;unfold enF;dsimp only;cases h1:ieq ((y.l - 1:Nat):Int) 0 with
   | true=>exact⟨oY _ _ ht.1 a4 omz,⟨hst.m,hst.sp,a5,by show((y.ks).length :Int)<=_;omega⟩,fun _=>trivial⟩
   | false=>
     have h1:=eB h1;exact⟨oY _ _ ht.1 a4 omz,aa,fun _=>⟨a1,by show 1<=y.l - 1;omega,by show(y.gs).length =y.j+1+(y.l - 1);omega,a4,a5,by show((y.ks).length :Int)<=_;omega⟩⟩
def O8(t n b:Int)(y:SWS):Prop:=match y.ph with
 | 0=>True
 | 1=>(eF n y.N/\(y.N.length:Int)<=b)/\0<=y.i/\y.i<2*t
 | 2=>2*t<=y.i/\1<=y.l/\y.gs.length=y.j+y.l/\eF n y.gs/\eF n y.ks/\(y.ks.length:Int)<=b
 | _=>False
structure aKl (t n b:Int) (s:MS) (o:SO):Prop where
 a:lX t n s o.s
 st:stW t n (b+1) o.st
 w:o.d=false->O8 t n (b+1) o.e
theorem aGv{t n b:Int}{e:SWS}{st:STS}{s:MS}(hb:Bnd t n s)(hx:O8 t n b e)(hst:stW t n b st)(hbb:b<=900000):uG t n e st s:=by
 obtain⟨ht,hn,hc,hw,aa,ac⟩:=hb;have hl:=hst.ln;refine⟨ht,hn,⟨hc.1,by omega⟩,by omega,?_⟩
 match e,hx with
 | ⟨0,N,m,i,ks,fs,gs,j,l⟩,hx=>trivial
 | ⟨1,N,m,i,ks,fs,gs,j,l⟩,hx=>
   obtain⟨⟨h1,h2⟩,h3⟩:=hx;exact⟨by dsimp only at h2⊢;omega,h3⟩
 | ⟨2,N,m,i,ks,fs,gs,j,l⟩,hx=>
   obtain⟨a1,a2,a3,a4,a5⟩:=hx;exact⟨a1,a2,a3,FF hn.2 a4 omz⟩
theorem aGw{t n b:Int}{e:SWS}{st:STS}{s:MS}(hb:Bnd t n s)(hx:O8 t n b e)(hst:stW t n b st):aKl t n b s (swF t n e st s):=by
 obtain⟨ht,hn,hc,hw,ag,ah⟩:=hb;have ai:=hst.ln;have aa:stW t n (b+1) st:=jQ hst omz
 match e,hx with
 | ⟨0,N,m,i,ks,fs,gs,j,l⟩,hx=>
   exact⟨fH _ _ _ _ (by first | omega | (unfold bD;omega) | (dsimp only;unfold bD;omega)),aa,fun _=>⟨⟨hst.r,by show(st.R.length:Int)<=_;omega⟩,(by decide:(0:Int)<=1),by show(1:Int)<_;omega⟩⟩
 | ⟨1,N,m,i,ks,fs,gs,j,l⟩,hx=>
   obtain⟨⟨hN,af⟩,ae,ac⟩:=hx;dsimp only at hN af ae ac;have hk:=D6 (aU m n i s) N;unfold swF;dsimp only;generalize hsm:aU m n i s=sm at hk⊢;cases h1:ieq (i+1) (2*t)with
   | false=>
     have h1:=eB h1;exact⟨fH _ _ _ _ (by first | omega | (unfold bD;omega) | (dsimp only;unfold bD;omega)),aa,fun _=>⟨⟨hN,by show((N).length :Int)<=_;omega⟩,by show 0<=i+1;omega,by show i+1<2*t;omega⟩⟩
   | true=>
     have h1:=rZ h1;cases h2:ieq ((aS sm N).length :Int) 0 with
     | true=>exact⟨fH _ _ _ _ (by first | omega | (unfold bD;omega) | (dsimp only;unfold bD;omega)),⟨hst.m,hst.sp,nH hN,by show((cF sm N).length :Int)<=_;omega⟩,fun h=>Bool.noConfusion h⟩
     | false=>
       have h2:=eB h2;exact⟨fH _ _ _ _ (by first | omega | (unfold bD;omega) | (dsimp only;unfold bD;omega)),aa,fun _=>⟨by show 2*t<=i+1;omega,by show 1<=(aS sm N).length;omega,by show(aS sm N).length =0+(aS sm N).length;omega,uJ hN,nH hN,by show((cF sm N).length :Int)<=_;omega⟩⟩
 | ⟨2,N,m,i,ks,fs,gs,j,l⟩,hx=>
   obtain⟨a1,a2,a3,a4,a5,a6⟩:=hx;dsimp only at a1 a2 a3 a4 a5 a6;unfold swF;dsimp only;cases h1:ieq ((l - 1:Nat):Int) 0 with
   | true=>exact⟨oY _ _ ht.1 a4 omz,⟨hst.m,hst.sp,a5,by show((ks).length :Int)<=_;omega⟩,fun h=>Bool.noConfusion h⟩
   | false=>
     have h1:=eB h1;exact⟨oY _ _ ht.1 a4 omz,aa,fun _=>⟨a1,by show 1<=l - 1;omega,by show(gs).length =j+1+(l - 1);omega,a4,a5,by show((ks).length :Int)<=_;omega⟩⟩
structure exW (t n:Int) (x:EXS):Prop where
 h:x.at'=0\/x.at'=1\/x.at'=2\/x.at'=3\/x.at'=4\/x.at'=5\/x.at'=6\/x.at'=7\/x.at'=8\/x.at'=9
 m:0<=x.u/\x.u<t
 po:0<=x.popped/\x.popped<=n
 fo:x.at'≠0->dsc n x.found
 wd:x.at'=2\/x.at'=6->aB x.word 10 9<=n
 gv:x.at'=9->1<=aB x.found 39 9
structure aHZ (t n:Int) (s:MS) (o:ExO):Prop where
 a:lX t n s o.s
 w:o.d=false->exW t n o.x
 p:0<=o.x.popped/\o.x.popped<=n
theorem aCn{t n:Int}{x:EXS}{s:MS}(hb:Bnd t n s)(hx:exW t n x):(exT t n x s).run (aHZ t n s):=by
 obtain⟨⟨t0,t1⟩,⟨n0,n1⟩,⟨c0,c1⟩,hw,af,ag⟩:=hb;obtain⟨h,⟨m0,m1⟩,⟨p0,p1⟩,aa,ac,ae⟩:=hx;have ai:=YH x.word 10;have ah:=YH x.found 12;unfold exT;refine aLz (fun h0=>?c0) (fun h0=>aLz (fun h1=>?c1) (fun h1=>aLz (fun h2=>?c2) (fun h2=>aLz (fun h3=>?c3) (fun h3=>aLz (fun h4=>?c4) (fun h4=>aLz (fun h5=>?c5) (fun h5=>aLz (fun h6=>?c6) (fun h6=>aLz (fun h7=>?c7) (fun h7=>aLz (fun h8=>?c8) (fun h8=>aLz (fun h9=>?c9) (fun h9=>?c10))))))))))
 case' c0=>unfold C0 w0z w0y w0x w0t w0q w0l
 case' c1=>have hF:=aa h0;obtain⟨f1,f2⟩:=id hF;unfold C1 w0n w0v w0r w0o
 case' c2=>have hF:=aa h0;obtain⟨f1,f2⟩:=id hF;have ac:=ac (.inl h2);unfold C2 w0k w0s
 case' c3=>have hF:=aa h0;obtain⟨f1,f2⟩:=id hF;unfold C3 w0s w0l
 case' c4=>have hF:=aa h0;obtain⟨f1,f2⟩:=id hF;unfold C4 w0s w0l
 case' c5=>have hF:=aa h0;obtain⟨f1,f2⟩:=id hF;unfold C5 w0w w0r w0m w0o
 case' c6=>have hF:=aa h0;obtain⟨f1,f2⟩:=id hF;have ac:=ac (.inr h6);unfold C6
 case' c7=>have hF:=aa h0;obtain⟨f1,f2⟩:=id hF;unfold C7 w0l
 case' c8=>have hF:=aa h0;obtain⟨f1,f2⟩:=id hF;unfold C8 w0p w0u w0l
 case' c9=>have hF:=aa h0;obtain⟨f1,f2⟩:=id hF;have ae:=ae h9;unfold C9
 case c10=>omega
 all_goals (repeat' (with_reducible first | exact trivial | rfl | assumption | refine aLC ?_ ?_ | refine Tr.run_ite (fun _=>?_) (fun _=>?_) | refine aLJ ?_ | refine And.intro ?_ ?_))
 all_goals first
  | exact bZ
  | (refine⟨by exact bZ,fun hd=>?_,?_⟩
     ·first
       | (exact Bool.noConfusion hd)
       | (refine⟨?_,⟨m0,m1⟩,⟨p0,p1⟩,?_,?_,?_⟩
          ·dsimp only;decide
          ·first | (intro _;exact hF) | (intro _;exact rO) | (intro e;exact absurd rfl e)
          ·first | (exact nE') | (intro _;dsimp only;exact gF)
          ·first | (exact nE') | (intro _;exact(eO.1 (by simpa using hd)).1))
     ·exact K2)
theorem aEG{t n:Int}{x:EXS}{s:MS}(hb:Bnd t n s)(hx:exW t n x):aEE t n x s:=aLN (aCn hb hx)
theorem aEH{t n:Int}{x:EXS}{s:MS}(hb:Bnd t n s)(hx:exW t n x):aHZ t n s (FR t n x s):=aLH (aCn hb hx)
theorem ZO(t n u sh kd ky att:Int):SN t n u sh kd ky att:=⟨⟨rfl,rfl⟩,trivial⟩
theorem aHY(t n:Int){u:Int}(sh kd ky att:Int)(hn:1<=n)(hu:0<=u/\u<t):exW t n (aEA t n u sh kd ky att):=⟨.inl rfl,hu,⟨(by decide:(0:Int)<=0),by show(0:Int)<=n;omega⟩,fun e=>absurd rfl e,fun e=>absurd e (by show¬((0:Int)=2\/(0:Int)=6);decide),fun e=>absurd e (by show¬((0:Int)=9);decide)⟩
structure hpW (t n b:Int) (st:STS) (x:HPS):Prop where
 h:x.at'=0\/x.at'=1\/x.at'=2\/x.at'=3\/x.at'=4\/x.at'=5\/x.at'=6\/x.at'=7\/x.at'=8\/x.at'=9
 u:0<=x.u/\x.u<t
 ex:x.at'=3->exW t n x.ex
 en:x.at'=4->enI t n b x.en
 fn:x.at'=5->ZW t n x.fn/\JR t n (b - st.R.length) x.fn
 cl:x.at'=7->clW t n x.cl
 pr:x.at'=8->prW n x.pr
 ps:plnW n x.p
structure aIr (t n b:Int) (s:MS) (o:HpO):Prop where
 a:lX t n s o.s
 st:stW t n (b+1) o.st
 w:o.d=false->hpW t n (b+1) o.st o.x
theorem aCy{t n b:Int}{x:HPS}{st:STS}{s:MS}(hb:Bnd t n s)(hx:hpW t n b st x)(hst:stW t n b st)(hbb:b<=900000):(hpT t n x st s).run (aIr t n b s):=by
 have hb':=hb;obtain⟨⟨t0,t1⟩,⟨n0,n1⟩,⟨c0,c1⟩,hw,ao,ap⟩:=hb;obtain⟨h,hu,hex,ak,aj,al,ai,ac⟩:=hx;have av:=hst.ln;have af:stW t n (b+1) st:=jQ hst omz;have ae:1<=n/\n<=1000:=⟨n0,n1⟩;have aa:=hst.m;obtain⟨s0,s1⟩:=hst.sp;obtain⟨u0,u1⟩:=hu;have b0:0<=b:=by omega
 obtain⟨k0,k1⟩:=w7 hw (2*n+5+2*t+3*x.1+1);unfold hpT;refine aLz (fun h0=>?c0) (fun h0=>aLz (fun h1=>?c1) (fun h1=>aLz (fun h2=>?c2) (fun h2=>aLz (fun h3=>?c3) (fun h3=>aLz (fun h4=>?c4) (fun h4=>aLz (fun h5=>?c5) (fun h5=>aLz (fun h6=>?c6) (fun h6=>aLz (fun h7=>?c7) (fun h7=>aLz (fun h8=>?c8) (fun h8=>aLz (fun h9=>?c9) (fun h9=>?c10))))))))))
 case' c0=>unfold DR w1w
 case' c1=>unfold DS w1w
 case' c2=>unfold DT w1s w1w
 case' c3=>have he:=hex h3;have hE:=aEH hb' he;have am:=aEG hb' he;have hA:=hE.a;obtain⟨p0,p1⟩:=hE.p;unfold DU
 case' c4=>have he:=ak h4;have hE:=SB hb' he hst;have am:=SA hb' he hst hbb;have hA:=hE.a;have hS:=hE.st;have aa:=hS.m;have ar:=hS.ln;unfold DV
 case' c5=>obtain⟨ag,ah⟩:=aj h5;have hF:=HM hb' ag ah omz;have a6:=HL hb' ag ah omz;have hA:=hF.a;have hQ:=hF.q;have ax:=hQ.ln;have hS:stW t n (b+1) {me:=st.me,sp:=st.sp,R:=st.R++(aM t n x.fn s).x.ul } :=A6 hst hQ;obtain⟨q0,q1⟩:=hQ.cu;unfold DW w1r w1v
 case' c6=>have aq:(bif ieq x.p.code 4 then(1:Int)else 0)<=n:=(by cases ieq x.p.code 4<;>simp<;>omega);unfold DX w1w
 case' c7=>have hc:=al h7;have hC:=AA hb' hc;have ba:=GY hb' hc;have hA:=hC.a;unfold DY
 case' c8=>have hp:=ai h8;have hP:=UT hb' hp hst;have az:=US hb' hp hst;have hA:=hP.a;have ay:stW t n (b+1) (prF t n x.pr st s).st :=(by rw [hP.st];exact af);unfold DZ
 case' c9=>obtain⟨hD,a8⟩:=OM n0 ac (aB x.6 0 12);have a7:=ON n0 ac (aB x.6 0 12);have au:stW t n (b+1) {me:=st.me,sp:=0,R:=st.R} :=VD hst ⟨by omega,by omega⟩;unfold D0 w1u w1w
 case c10=>omega
 all_goals (repeat' (with_reducible first | exact trivial | rfl | assumption | refine aLC ?_ ?_ | refine Tr.run_ite (fun _=>?_) (fun _=>?_) | refine aLJ ?_ | refine And.intro ?_ ?_))
 all_goals first
  | exact bZ
  | (simp only [List.length_append,List.length_singleton];done)
  | exact ZO _ _ _ _ _ _ _
  | exact u9 ae aa (eU _ _)
  | exact ES _ _ _ n0 hQ s1
  | exact zF _
  | exact xE _ _ _ _ _ _ _ _ _
  | exact z7 _ _ _
  | exact KU _ _ _ _ _
  | (refine⟨by first | assumption | exact bZ,?_,fun hd=>?_⟩
     ·first
       | assumption
       | (dsimp only;rw [UQ];assumption)
       | exact FG hst ⟨by omega,by omega⟩ ⟨by rename_i e;have e:=eB (by simpa using e);omega,p1⟩
     ·first
       | exact Bool.noConfusion hd
       | (refine⟨by dsimp only;decide,⟨u0,u1⟩,?_,?_,?_,?_,?_,?_⟩<;>first | (exact nE') | exact ac | exact UP n0 _ _ _ _ _ | exact AZ _ _ _ n0 hQ s1 | (intro _;dsimp only;with_reducible exact aHY _ _ _ _ _ _ n0 ⟨u0,u1⟩) | (intro _;exact trivial) | (intro _;exact⟨JQ ae aa (eU _ _),fZ (JP ae aa (eU _ _)) (by dsimp only;omega)⟩) | (intro _;exact hE.w (by assumption)) | (intro _;exact⟨hF.w (by assumption),fZ hQ (by dsimp only;omega)⟩) | (intro _;dsimp only;exact GW (AZ _ _ _ n0 hQ s1).ad) | (intro _;exact hC.w (by assumption)) | (intro _;dsimp only;exact aCI _ _ _ q1) | (intro _;exact hP.w (by assumption))))
theorem TC{t n b:Int}{x:HPS}{st:STS}{s:MS}(hb:Bnd t n s)(hx:hpW t n b st x)(hst:stW t n b st)(hbb:b<=900000):aAJ t n x st s:=aLN (aCy hb hx hst hbb)
theorem TD{t n b:Int}{x:HPS}{st:STS}{s:MS}(hb:Bnd t n s)(hx:hpW t n b st x)(hst:stW t n b st)(hbb:b<=900000):aIr t n b s (iI t n x st s):=aLH (aCy hb hx hst hbb)
theorem aFt{t n b u no lim:Int}{st:STS}(hn:1<=n)(hu:0<=u/\u<t):(NL t n u no lim st).run (fun r=>hpW t n b st r.1/\r.2=st):=by
 unfold NL
 (repeat' (with_reducible first | exact trivial | rfl | assumption | refine aLC ?_ ?_ | refine Tr.run_ite (fun _=>?_) (fun _=>?_) | refine aLJ ?_ | refine And.intro ?_ ?_))
 all_goals first
  | exact bZ
  | exact⟨by dsimp only;decide,hu,fun e=>absurd e (by dsimp only;decide),fun e=>absurd e (by dsimp only;decide),fun e=>absurd e (by dsimp only;decide),fun e=>absurd e (by dsimp only;decide),fun e=>absurd e (by dsimp only;decide),UP hn _ _ _ _ _⟩
theorem aBx{s k y:Int}(h:bT s k y=true):mL (tskV s k y):=by
 have h:=nE.1 h;unfold tskV;refine⟨?_,?_⟩<;>omega
theorem aAq(t n:Int):S4 t n:=⟨⟨rfl,rfl⟩,trivial⟩
theorem aIl{t:Int}(n:Int)(ht:1<=t):hdW t (aFh t n):=⟨⟨(by decide:(0:Int)<=0),by show(0:Int)<t;omega⟩,⟨(by decide:(-1:Int)<= -1),by show(-1:Int)<t;omega⟩⟩
theorem Y5(t n u:Int):tU t n u:=⟨⟨rfl,rfl⟩,trivial⟩
theorem aHu(t n:Int){u:Int}(hu:0<=u/\u<t):drW t (CS t n u):=⟨hu,⟨(by decide:(0:Int)<=0),(by decide:(0:Int)<=1)⟩⟩
theorem X1(t n u:Int):QT t n u:=⟨⟨rfl,rfl⟩,trivial⟩
structure awW (t:Int) (x:AWS):Prop where
 m:0<=x.me/\x.me<t
structure aHm (t n:Int) (s:MS) (o:AwO):Prop where
 a:lX t n s o.s
 w:o.d=false->awW t o.x
theorem aCc{t n:Int}{x:AWS}{s:MS}(hb:Bnd t n s)(hx:awW t x):(awT t n x s).run (aHm t n s):=by
 obtain⟨⟨t0,t1⟩,⟨n0,n1⟩,⟨c0,c1⟩,hw,aa,ac⟩:=hb;obtain⟨⟨m0,m1⟩⟩:=hx;unfold awT;unfold X3 w0j
 (repeat' (with_reducible first | exact trivial | rfl | assumption | refine aLC ?_ ?_ | refine Tr.run_ite (fun _=>?_) (fun _=>?_) | refine aLJ ?_ | refine And.intro ?_ ?_))
 all_goals first | exact bZ | (refine⟨by exact bZ,fun hd=>?_⟩;first | (exact Bool.noConfusion hd) | exact⟨⟨m0,m1⟩⟩)
theorem aDB{t n:Int}{x:AWS}{s:MS}(hb:Bnd t n s)(hx:awW t x):aDy t n x s:=aLN (aCc hb hx)
theorem aDC{t n:Int}{x:AWS}{s:MS}(hb:Bnd t n s)(hx:awW t x):aHm t n s (tS t n x s):=aLH (aCc hb hx)
theorem aHl(t n:Int){u:Int}(hu:0<=u/\u<t):awW t (aDu t n u):=⟨hu⟩
theorem XJ(t n u sh kd ky:Int):QK t n u sh kd ky:=⟨trivial,⟨rfl,rfl⟩,trivial⟩
theorem aHg(t n:Int){u:Int}{sh kd ky:Int}(hr:bT sh kd ky=true)(hu:0<=u/\u<t):anW t (aDg t n u sh kd ky):=⟨.inl rfl,hu,aBv aBx FA,FA,by show(!ieq (bif bT sh kd ky then 0 else 1) 0)=false;rw [hr];rfl⟩
theorem aAI(t n u no lim:Int)(st:STS):DQ t n u no lim st:=by
 unfold DQ NL;exact⟨⟨⟨rfl,rfl,rfl⟩,by decide⟩,trivial⟩
theorem aCx{t n b u no lim:Int}{st:STS}(hn:1<=n)(hu:0<=u/\u<t):hpW t n b st (x6 t n u no lim st).1:=(aLH (aFt (b:=b) hn hu)).1
theorem Z0{t n b:Int}(sh kd ky most:Int){st:STS}(hn:1<=n/\n<=1000)(hst:stW t n b st):wM t n sh kd ky most st:=aLN (HN hn hst)
theorem aH6{t n b:Int}(sh kd ky most:Int){st:STS}(hn:1<=n/\n<=1000)(hst:stW t n b st):Z6 t n b st (kY t n sh kd ky most st).1:=(aLH (HN hn hst)).1
theorem SU{t n b:Int}(sh kd ky most:Int){st:STS}(hn:1<=n/\n<=1000)(hst:stW t n b st):(kY t n sh kd ky most st).2=st:=(aLH (HN (b:=b) hn hst)).2
structure RP (t n b:Int) (st:STS) (x:DOS):Prop where
 h:x.at'=0\/x.at'=1\/x.at'=2\/x.at'=3\/x.at'=4\/x.at'=5\/x.at'=6\/x.at'=7\/x.at'=8\/x.at'=9
 hd:x.at'=0->hdW t x.hd
 hp:x.at'=1\/x.at'=5->hpW t n b st x.hp
 en:x.at'=2->enI t n b x.en
 ft:x.at'=3->Z6 t n b st x.ft
 an:x.at'=4->anW t x.an
 aw:x.at'=6->awW t x.aw
 fn:x.at'=7->ZW t n x.fn/\JR t n (b - st.R.length) x.fn
 dr:x.at'=8->drW t x.dr
 sw:x.at'=9->O8 t n b x.sw
 lo:x.at'<=3->x.slow=false
 hi:x.at'=4\/x.at'=5\/x.at'=6->x.slow=true
 ri:x.at'≠0->bT x.sh x.kd x.ky=true
def drw(x:DOS):Bool:=x.slow&& !(ieq x.at' 4&&ile x.an.at' 1)
theorem s9{x:DOS}(h:x.slow=false):drw x=false:=by unfold drw;rw [h];rfl
theorem n8{x:DOS}(h:x.at'≠4):drw x=x.slow:=by
 unfold drw;have:ieq x.at' 4=false:=by simpa [cI]using h
 rw [this];cases x.slow<;>rfl
structure RO (t n b:Int) (s:MS) (x:DOS) (o:DqO):Prop where
 a:FX t n s o.s
 st:stW t n (b+1) o.st
 w:o.d=false->RP t n (b+1) o.st o.x
 k:(drw x=false/\drw o.x=true/\aE o.s.xs (2*n+5+2*t+3*t)=WU (aE s.xs (2*n+5+2*t+3*t)+1))\/(drw o.x=drw x/\aE o.s.xs (2*n+5+2*t+3*t)=aE s.xs (2*n+5+2*t+3*t))
 e:o.d=true->o.x.slow=drw o.x
theorem aCh{t n b:Int}{s:MS}{x:DOS}{o:DqO}(h:lX t n s o.s)(hs:stW t n (b+1) o.st)(hk:drw o.x=drw x)(he:o.d=true->o.x.slow=drw o.x)(hw:o.d=false->RP t n (b+1) o.st o.x):RO t n b s x o:=⟨h.a,hs,hw,.inr ⟨hk,h.k⟩,he⟩
theorem aD2{t n b:Int}{s:MS}{x:DOS}{o:DqO}(h:FX t n s o.s)(hs:stW t n (b+1) o.st)(hk:(drw x=false/\drw o.x=true/\aE o.s.xs (2*n+5+2*t+3*t)=WU (aE s.xs (2*n+5+2*t+3*t)+1))\/(drw o.x=drw x/\aE o.s.xs (2*n+5+2*t+3*t)=aE s.xs (2*n+5+2*t+3*t)))(he:o.d=true->o.x.slow=drw o.x)(hw:o.d=false->RP t n (b+1) o.st o.x):RO t n b s x o:=⟨h,hs,hw,hk,he⟩
theorem aCg{t n:Int}{s:MS}{x y:DOS}{o:AnO}(hx:x.at'=4)(hs:x.slow=true)(hw:anW t x.an)(h:XL t n s x.an o)(hy:(o.d=false/\y.at'=4/\y.an=o.x\/o.d=true/\y.at'=5)/\y.slow=true):(drw x=false/\drw y=true/\aE o.s.xs (2*n+5+2*t+3*t)=WU (aE s.xs (2*n+5+2*t+3*t)+1))\/(drw y=drw x/\aE o.s.xs (2*n+5+2*t+3*t)=aE s.xs (2*n+5+2*t+3*t)):=by
 obtain⟨hy,aa⟩:=hy;have h5:=hw.h;have ex:drw x= !ile x.an.at' 1:=by unfold drw;rw [hx,hs];rfl
 rcases h.k with⟨k1,k2⟩ | ⟨k1,k2⟩
 ·left;refine⟨by rw [ex,k1];rfl,?_,k2⟩
  rcases hy with⟨_,y1,y2⟩ | ⟨y0,y1⟩
  ·unfold drw;rw [aa,y1,y2,h.e,k1];rfl
  ·have:=h.f y0;omega
 ·right;refine⟨?_,k2⟩;rcases hy with⟨_,y1,y2⟩ | ⟨y0,y1⟩
  ·have ey:drw y= !ile (x.an.at'+1) 1:=by unfold drw;rw [aa,y1,y2,h.e];rfl
   rw [ex,ey];rcases h5 with e | e | e | e | e<;>first | (exact absurd e k1) | (rw [e];rfl)
  ·rw [n8 omz,aa,ex,h.f y0];rfl
theorem aCi{t n b:Int}{x:DOS}{st:STS}{s:MS}(hb:Bnd t n s)(hx:RP t n b st x)(hst:stW t n b st)(hbb:b<=900000):(dqT t n x st s).run (RO t n b s x):=by
 have hb':=hb;obtain⟨⟨t0,t1⟩,⟨n0,n1⟩,⟨c0,c1⟩,hw,a8,ba⟩:=hb;obtain⟨h,au,ao,ay,av,a7,a6,ax,az,ar,al,am,af⟩:=hx;have bb:=hst.ln;have aj:stW t n (b+1) st:=jQ hst omz;have ai:1<=n/\n<=1000:=⟨n0,n1⟩;have ae:=hst.m;have b0:0<=b:=by omega
 unfold dqT;refine aLz (fun h0=>?c0) (fun h0=>aLz (fun h1=>?c1) (fun h1=>aLz (fun h2=>?c2) (fun h2=>aLz (fun h3=>?c3) (fun h3=>aLz (fun h4=>?c4) (fun h4=>aLz (fun h5=>?c5) (fun h5=>aLz (fun h6=>?c6) (fun h6=>aLz (fun h7=>?c7) (fun h7=>aLz (fun h8=>?c8) (fun h8=>aLz (fun h9=>?c9) (fun h9=>?c10))))))))))
 case' c0=>have hc:=au h0;have hC:=aFp hb' hc;have ah:=aFo hb' hc;have hA:=hC.a;have hS:=aj;have ak:=hS.ln;obtain⟨v0,v1⟩:=hC.p;have aa:=al omz;have ag:=s9 aa;unfold CI w2c w26 w27
 case' c1=>have hc:=ao (.inl h1);have hC:=TD hb' hc hst hbb;have ah:=TC hb' hc hst hbb;have hA:=hC.a;have hS:=hC.st;have ae:=hS.m;have ak:=hS.ln;have ac:=af h0;have aa:=al omz;have ag:=s9 aa;unfold CJ w24 w29 w27
 case' c2=>have hc:=ay h2;have hC:=SB hb' hc hst;have ah:=SA hb' hc hst hbb;have hA:=hC.a;have hS:=hC.st;have ae:=hS.m;have ak:=hS.ln;have ac:=af h0;have aa:=al omz;have ag:=s9 aa;unfold CK w27
 case' c3=>have hc:=av h3;have hC:=aE0 hb' hc hst hbb;have ah:=aEZ hb' hc hst hbb;have hA:=hC.a;have hS:=hC.st;have ae:=hS.m;have ak:=hS.ln;have ac:=af h0;have aa:=al omz;have ag:=s9 aa;unfold CL w20 w28 w27
 case' c4=>have hc:=a7 h4;have hC:=aDo hb' hc;have ah:=aDn hb' hc;have hA:=hC.a;have hS:=aj;have ak:=hS.ln;have ac:=af h0;have aa:=am (.inl h4);unfold CM w27
 case' c5=>have hc:=ao (.inr h5);have hC:=TD hb' hc hst hbb;have ah:=TC hb' hc hst hbb;have hA:=hC.a;have hS:=hC.st;have ae:=hS.m;have ak:=hS.ln;have ac:=af h0;have aa:=am (.inr (.inl h5));have ag:=n8 h4;unfold CN w29 w27
 case' c6=>have hc:=a6 h6;have hC:=aDC hb' hc;have ah:=aDB hb' hc;have hA:=hC.a;have hS:=aj;have ak:=hS.ln;have ac:=af h0;have aa:=am (.inr (.inr h6));have ag:=n8 h4;unfold CO w23 w27
 case' c7=>obtain⟨ap,aq⟩:=ax h7;have hF:=HM hb' ap aq omz;have bd:=HL hb' ap aq omz;have hA:=hF.a;have hQ:=hF.q;have bc:=hQ.ln;have hS:stW t n (b+1) {me:=st.me,sp:=st.sp,R:=st.R++(aM t n x.fn s).x.ul } :=A6 hst hQ;have ac:=af h0;have ag:=n8 h4;unfold CP w27
 case' c8=>have hc:=az h8;have hC:=aEe hb' hc;have ah:=aEd hb' hc;have hA:=hC.a;have hS:=aj;have ac:=af h0;have ag:=n8 h4;unfold CQ w27
 case' c9=>have hc:=ar h9;have hC:=aGw hb' hc hst;have ah:=aGv hb' hc hst hbb;have hA:=hC.a;have hS:=hC.st;have ac:=af h0;have ag:=n8 h4;unfold CR w27
 case c10=>omega
 case' c0=>refine aLC trivial (aMF (fun ac=>?c0a) (fun ac=>?_))
 case' c0a=>skip
 all_goals (try refine aLC trivial (aMF (fun e=>absurd (ac.symm.trans e) dS) (fun _=>?_)))
 all_goals (repeat' (with_reducible first | exact trivial | rfl | assumption | refine aLC ?_ ?_ | refine aMB (fun _=>?_) (fun _=>?_) | refine Tr.run_ite (fun _=>?_) (fun _=>?_) | refine aLJ ?_ | refine And.intro ?_ ?_))
 all_goals first
  | exact bZ
  | (intro _;decide)
  | assumption
  | exact Y5 _ _ _
  | exact X1 _ _ _
  | exact XJ _ _ _ _ _ _
  | exact aAI _ _ _ _ _ _
  | exact u9 ai ae (eU _ _)
  | exact Z0 _ _ _ _ ai hS
  | (simp only [List.length_append,List.length_singleton];done)
  | ((first | refine aCh hA ?_ ?_ ?_ ?_ | refine aD2 hA ?_ ?_ ?_ ?_ | refine aCh (vM _ _ _ _ _ _ _ _ omz) ?_ ?_ ?_ ?_)
     ·first | assumption | (dsimp only;rw [SU _ _ _ _ ai hS];assumption)
     ·first
       | (rw [ag];first | exact s9 aa | exact n8 (by dsimp only;decide) | rfl)
       | exact aCg h4 aa hc hC ⟨.inl ⟨by assumption,rfl,rfl⟩,aa⟩
       | exact aCg h4 aa hc hC ⟨.inr ⟨by assumption,rfl⟩,aa⟩
     ·first
       | (intro e;exact Bool.noConfusion e)
       | (intro _;exact(n8 (by dsimp only;decide)).symm)
     ·intro hd
      first
      | exact Bool.noConfusion hd
      | (refine⟨by dsimp only;decide,?_,?_,?_,?_,?_,?_,?_,?_,?_,?_,?_,?_⟩<;>first | (exact nE') | (intro _;exact aa) | (intro _;exact ac) | (intro _;rfl) | (intro _;exact hC.w (by assumption)) | (intro _;exact aCx n0 ⟨by omega,v1⟩) | (intro _;exact trivial) | (intro _;dsimp only;rw [SU _ _ _ _ ai hS];exact aH6 _ _ _ _ ai hS) | (intro _;dsimp only;with_reducible exact aHl _ _ ae) | (intro _;dsimp only;with_reducible exact aHu _ _ ae) | (intro _;dsimp only;with_reducible exact aHg _ _ ac ae) | (intro _;exact⟨JQ ai ae (eU _ _),fZ (JP ai ae (eU _ _)) (by dsimp only;omega)⟩) | (intro _;exact aCx n0 ae) | (intro _;exact⟨hF.w (by assumption),fZ hQ (by dsimp only;omega)⟩)))
theorem aD5{t n b:Int}{x:DOS}{st:STS}{s:MS}(hb:Bnd t n s)(hx:RP t n b st x)(hst:stW t n b st)(hbb:b<=900000):YS t n x st s:=aLN (aCi hb hx hst hbb)
theorem aD6{t n b:Int}{x:DOS}{st:STS}{s:MS}(hb:Bnd t n s)(hx:RP t n b st x)(hst:stW t n b st)(hbb:b<=900000):RO t n b s x (uN t n x st s):=aLH (aCi hb hx hst hbb)
theorem aDR{t n b:Int}(sh kd ky lim:Int)(st:STS)(ht:1<=t):(RN t n sh kd ky lim st).run (fun r=>RP t n b st r.1/\r.2=st/\drw r.1=false):=by
 unfold RN
 (repeat' (with_reducible first | exact trivial | rfl | assumption | refine aLC ?_ ?_ | refine Tr.run_ite (fun _=>?_) (fun _=>?_) | refine aLJ ?_ | refine And.intro ?_ ?_))
 all_goals first
  | exact bZ
  | exact aAq _ _
  | (intro _;decide)
  | exact s9 rfl
  | (refine⟨by dsimp only;decide,fun _=>aIl n ht,?_,?_,?_,?_,?_,?_,?_,?_,fun _=>rfl,?_,?_⟩<;>(exact nE'))
structure hstW (e c:Int) (x:HST):Prop where
 he:(x.ev.length:Int)<=e
 hc:(x.cl.length:Int)<=c
 n0:0<=x.n0/\x.n0<=(x.cl.length:Int)
 n1:0<=x.n1/\x.n1<=(x.cl.length:Int)
 n2:0<=x.n2/\x.n2<=(x.cl.length:Int)
 n3:0<=x.n3/\x.n3<=(x.cl.length:Int)
 n4:0<=x.n4/\x.n4<=(x.cl.length:Int)
 n5:0<=x.n5/\x.n5<=(x.cl.length:Int)
 n6:0<=x.n6/\x.n6<=(x.cl.length:Int)
 n7:0<=x.n7/\x.n7<=(x.cl.length:Int)
theorem kL{e c e' c':Int}{x:HST}(h:hstW e c x)(h1:e<=e')(h2:c<=c'):hstW e' c' x:=⟨Int.le_trans h.he h1,Int.le_trans h.hc h2,h.n0,h.n1,h.n2,h.n3,h.n4,h.n5,h.n6,h.n7⟩
theorem oH{P:Prop}(h:P:=by first | omega | (dsimp only;omega) | (simp only [List.length_append,List.length_singleton,List.length_set,List.length_cons,List.length_nil];done) | (simp only [List.length_append,List.length_singleton,List.length_set,List.length_cons,List.length_nil];omega) | (dsimp only;simp only [List.length_append,List.length_singleton,List.length_set];omega)):P:=h
theorem aIh{e c th:Int}{x:HST}(kd ky:Int)(h:hstW e c x)(he:e<=1000000)(hc:c<=1000000)(h0:0<=th/\th<8):(hbT th x kd ky).run (fun r=>hstW (e+1) (c+1) r.2):=by
 have hh:=h;obtain⟨a,b,m0,m1,m2,m3,m4,m5,m6,m7⟩:=h;unfold hbT;refine aLT (fun q0=>?c0) (fun q0=>aLT (fun q1=>?c1) (fun q1=>aLT (fun q2=>?c2) (fun q2=>aLT (fun q3=>?c3) (fun q3=>aLT (fun q4=>?c4) (fun q4=>aLT (fun q5=>?c5) (fun q5=>aLT (fun q6=>?c6) (fun q6=>aLT (fun q7=>?c7) (fun q7=>?c8))))))))
 case' c0=>unfold JV FS FT
 case' c1=>unfold JW FS FT
 case' c2=>unfold JX FS FT
 case' c3=>unfold JY FS FT
 case' c4=>unfold JZ FS FT
 case' c5=>unfold J0 FS FT
 case' c6=>unfold J1 FS FT
 case' c7=>unfold J2 FS FT
 case c8=>
  have q0:=eB q0;have q1:=eB q1;have q2:=eB q2;have q3:=eB q3;have q4:=eB q4;have q5:=eB q5;have q6:=eB q6;have q7:=eB q7;omega
 all_goals (repeat' (with_reducible first | exact trivial | rfl | assumption | refine aLC ?_ ?_ | refine Tr.run_ite (fun _=>?_) (fun _=>?_) | refine aLJ ?_ | refine And.intro ?_ ?_))
 all_goals first
  | exact bZ
  | exact kL hh omz omz
  | exact oH
  | (refine⟨?_,?_,?_,?_,?_,?_,?_,?_,?_,?_⟩<;>exact oH)
theorem aCw{e c th:Int}{x:HST}(code:Int)(okk:Bool)(val:Int)(h:hstW e c x)(he:e<=1000000)(hc:c<=1000000)(h0:0<=th/\th<8):(heT th x code okk val).run (fun r=>hstW (e+1) (c) r.2):=by
 have hh:=h;obtain⟨a,b,m0,m1,m2,m3,m4,m5,m6,m7⟩:=h;unfold heT;refine aLT (fun q0=>?c0) (fun q0=>aLT (fun q1=>?c1) (fun q1=>aLT (fun q2=>?c2) (fun q2=>aLT (fun q3=>?c3) (fun q3=>aLT (fun q4=>?c4) (fun q4=>aLT (fun q5=>?c5) (fun q5=>aLT (fun q6=>?c6) (fun q6=>aLT (fun q7=>?c7) (fun q7=>?c8))))))))
 case' c0=>unfold J3 FU FV WN S8;have hW:=cG (x:=x.n0 - 1) ⟨by omega,by omega⟩;change W (x.n0 - 1)=x.n0 - 1 at hW
 case' c1=>unfold J4 FU FV WN S8;have hW:=cG (x:=x.n1 - 1) ⟨by omega,by omega⟩;change W (x.n1 - 1)=x.n1 - 1 at hW
 case' c2=>unfold J5 FU FV WN S8;have hW:=cG (x:=x.n2 - 1) ⟨by omega,by omega⟩;change W (x.n2 - 1)=x.n2 - 1 at hW
 case' c3=>unfold J6 FU FV WN S8;have hW:=cG (x:=x.n3 - 1) ⟨by omega,by omega⟩;change W (x.n3 - 1)=x.n3 - 1 at hW
 case' c4=>unfold J7 FU FV WN S8;have hW:=cG (x:=x.n4 - 1) ⟨by omega,by omega⟩;change W (x.n4 - 1)=x.n4 - 1 at hW
 case' c5=>unfold J8 FU FV WN S8;have hW:=cG (x:=x.n5 - 1) ⟨by omega,by omega⟩;change W (x.n5 - 1)=x.n5 - 1 at hW
 case' c6=>unfold J9 FU FV WN S8;have hW:=cG (x:=x.n6 - 1) ⟨by omega,by omega⟩;change W (x.n6 - 1)=x.n6 - 1 at hW
 case' c7=>unfold KA FU FV WN S8;have hW:=cG (x:=x.n7 - 1) ⟨by omega,by omega⟩;change W (x.n7 - 1)=x.n7 - 1 at hW
 case c8=>
  have q0:=eB q0;have q1:=eB q1;have q2:=eB q2;have q3:=eB q3;have q4:=eB q4;have q5:=eB q5;have q6:=eB q6;have q7:=eB q7;omega
 all_goals (repeat' (with_reducible first | exact trivial | rfl | assumption | refine aLC ?_ ?_ | refine Tr.run_ite (fun _=>?_) (fun _=>?_) | refine aLJ ?_ | refine And.intro ?_ ?_))
 all_goals first
  | exact bZ
  | exact kL hh omz omz
  | exact oH
  | (rw [hW];simp only [bC,Bool.not_eq_false',dT',Bool.not_eq_true',dF']at*;first | omega | exact oH)
  | (refine⟨?_,?_,?_,?_,?_,?_,?_,?_,?_,?_⟩<;>exact oH)
theorem SV{t n b c:Int}{st:STS}{x:FTS}(h:Z6 t n b st x)(hbc:b<=c):Z6 t n c st x:=⟨h.h,fun e=>⟨(h.fn e).1,fZ (h.fn e).2 omz⟩,h.cl,h.pr,h.ps⟩
theorem CX{t n b c:Int}{e:ENS}(hx:enI t n b e)(hbc:b<=c):enI t n c e:=by
 match e,hx with
 | ⟨0,sh,dn,x,y⟩,hx=>trivial
 | ⟨1,sh,dn,x,y⟩,hx=>exact hx
 | ⟨2,sh,dn,x,y⟩,hx=>trivial
 | ⟨3,sh,dn,x,y⟩,hx=>exact⟨⟨hx.1.1,Int.le_trans hx.1.2 hbc⟩,hx.2⟩
 | ⟨4,sh,dn,x,y⟩,hx=>exact⟨hx.1,hx.2.1,hx.2.2.1,hx.2.2.2.1,hx.2.2.2.2.1,Int.le_trans hx.2.2.2.2.2 hbc⟩
theorem O9{t n b c:Int}{e:SWS}(hx:O8 t n b e)(hbc:b<=c):O8 t n c e:=by
 match e,hx with
 | ⟨0,N,m,i,ks,fs,gs,j,l⟩,hx=>trivial
 | ⟨1,N,m,i,ks,fs,gs,j,l⟩,hx=>exact⟨⟨hx.1.1,Int.le_trans hx.1.2 hbc⟩,hx.2⟩
 | ⟨2,N,m,i,ks,fs,gs,j,l⟩,hx=>exact⟨hx.1,hx.2.1,hx.2.2.1,hx.2.2.2.1,hx.2.2.2.2.1,Int.le_trans hx.2.2.2.2.2 hbc⟩
theorem TB{t n b c:Int}{st:STS}{x:HPS}(h:hpW t n b st x)(hbc:b<=c):hpW t n c st x:=⟨h.h,h.u,h.ex,fun e=>CX (h.en e) hbc,fun e=>⟨(h.fn e).1,fZ (h.fn e).2 omz⟩,h.cl,h.pr,h.ps⟩
theorem RQ{t n b c:Int}{st:STS}{x:DOS}(h:RP t n b st x)(hbc:b<=c):RP t n c st x:=⟨h.h,h.hd,fun e=>TB (h.hp e) hbc,fun e=>CX (h.en e) hbc,fun e=>SV (h.ft e) hbc,h.an,h.aw,fun e=>⟨(h.fn e).1,fZ (h.fn e).2 omz⟩,h.dr,fun e=>O9 (h.sw e) hbc,h.lo,h.hi,h.ri⟩
structure wkW (t n b:Int) (w:WKS):Prop where
 ht:w.t=t
 hn:w.n=n
 st:stW t n b w.st
 d:w.b=true->RP t n b w.st w.d/\w.en<(w.tk.length:Int)
 e0:0<=w.en
 e1:w.en<=(w.tk.length:Int)
 tl:(w.tl.length:Int)=w.en+(bif w.b then 1 else 0)
 sl:(w.sl.length:Int)<=w.en
 tk:(w.tk.length:Int)<=100000
 sb: ∀v,v∈w.sl->0<=v/\v<w.en
structure aBS (t n b:Int) (w:WK1):Prop where
 ht:w.t=t
 hn:w.n=n
 st:stW t n b w.st
 d:RP t n b w.st w.d
 e0:0<=w.en
 e1:w.en<(w.tk.length:Int)
 tl:(w.tl.length:Int)=w.en+1
 sl:(w.sl.length:Int)<=w.en
 tk:(w.tk.length:Int)<=100000
 sb: ∀v,v∈w.sl->0<=v/\v<w.en
theorem WB{t n b c:Int}{w:WKS}(h:wkW t n b w)(hbc:b<=c):wkW t n c w:=⟨h.ht,h.hn,jQ h.st hbc,fun e=>⟨RQ (h.d e).1 hbc,(h.d e).2⟩,h.e0,h.e1,h.tl,h.sl,h.tk,h.sb⟩
def tkc(w:WKS):Int:=(w.sl.length:Int)+bif w.b&&drw w.d then 1 else 0
def FJ(w:WK1):Int:=(w.sl.length:Int)+bif drw w.d then 1 else 0
structure wbR (t n b:Int) (u:WKS) (v:WK1):Prop where
 w:aBS t n b v
 k:FJ v=tkc u
theorem VV{t n b tr:Int}{w:WKS}(h:wkW t n b w)(ht:1<=t)(hb:w.b=false)(hl:w.en<(w.tk.length:Int)):(PF tr w).run (wbR t n b w):=by
 obtain⟨rfl,rfl,ae,hd,e0,e1,aa,af,ac,ag⟩:=h;rw [hb]at aa;have aa:(w.tl.length:Int)=w.en+0:=aa;have hN:=fun sh kd ky lim=>aDR (t:=w.t) (n:=w.n) (b:=b) sh kd ky lim w.st ht;unfold PF w2h
 (repeat' (with_reducible first | exact trivial | rfl | assumption | refine aLC ?_ ?_ | refine Tr.run_ite (fun _=>?_) (fun _=>?_) | refine aLJ ?_ | refine And.intro ?_ ?_))
 all_goals first
  | exact bZ
  | exact aLN (hN _ _ _ _)
  | (simp only [List.length_append,List.length_singleton];done)
  | (refine⟨⟨rfl,rfl,?_,?_,e0,hl,?_,af,ac,ag⟩,?_⟩
     ·dsimp only;rw [show(dqNF _ _ _ _ _ _ _).2=w.st from(aLH (hN _ _ _ _)).2.1];exact ae
     ·dsimp only;rw [show(dqNF _ _ _ _ _ _ _).2=w.st from(aLH (hN _ _ _ _)).2.1];exact(aLH (hN _ _ _ _)).1
     ·dsimp only;rw [List.length_append,List.length_singleton];omega
     ·unfold tkc FJ;dsimp only;rw [show drw (dqNF _ _ _ _ _ _ _).1=false from(aLH (hN _ _ _ _)).2.2,hb];rfl)
theorem aGA{t n b tr:Int}{w:WKS}(h:wkW t n b w)(ht:1<=t)(hl:w.en<(w.tk.length:Int)):VW tr w:=by
 unfold VW;cases hb:w.b with
 | true=>trivial
 | false=>exact aLN (VV h ht hb hl)
theorem aGB{t n b tr:Int}{w:WKS}(h:wkW t n b w)(ht:1<=t)(hl:w.en<(w.tk.length:Int)):wbR t n b w (wbF tr w):=by
 unfold wbF;cases hb:w.b with
 | true=>
   obtain⟨h1,h2,h3,h4,h5,h6,h7,h8,h9,aa⟩:=h;rw [hb]at h7;refine⟨⟨h1,h2,h3,(h4 hb).1,h5,hl,h7,h8,h9,aa⟩,?_⟩;unfold tkc;rw [hb];rfl
 | false=>exact aLH (VV h ht hb hl)
structure aJb (t n b:Int) (s:MS) (u:WK1) (o:WkO):Prop where
 a:FX t n s o.s
 w:wkW t n (b+1) o.x
 k:(tkc o.x=FJ u+1/\aE o.s.xs (2*n+5+2*t+3*t)=WU (aE s.xs (2*n+5+2*t+3*t)+1))\/(tkc o.x=FJ u/\aE o.s.xs (2*n+5+2*t+3*t)=aE s.xs (2*n+5+2*t+3*t))
theorem wsk{t n b:Int}{s:MS}{x:DOS}{D:DqO}{L:List Int}{w:WK1}{v:WKS}(h:RO t n b s x D)(hx:w.d=x)(hl:w.sl=L)(hv:tkc v=(L.length:Int)+bif drw D.x then 1 else 0):(tkc v=FJ w+1/\aE D.s.xs (2*n+5+2*t+3*t)=WU (aE s.xs (2*n+5+2*t+3*t)+1))\/(tkc v=FJ w/\aE D.s.xs (2*n+5+2*t+3*t)=aE s.xs (2*n+5+2*t+3*t)):=by
 subst hx;subst hl;rcases h.k with⟨k1,k2,k3⟩ | ⟨k1,k2⟩
 ·exact .inl ⟨by unfold FJ;rw [hv,k1,k2];rfl,k3⟩
 ·exact .inr ⟨by unfold FJ;rw [hv,k1],k2⟩
theorem aCZ{t n b:Int}{w:WK1}{s:MS}(hb:Bnd t n s)(h:aBS t n b w)(hbb:b<=900000):(wsT w s).run (aJb t n b s w):=by
 obtain⟨rfl,rfl,ac,hd,e0,e1,af,ag,ae,aa⟩:=h;have hD:=aD6 hb hd ac hbb;have ah:=aD5 hb hd ac hbb;have hA:=hD.a;have hW:W (w.en+1)=w.en+1:=cG ⟨by omega,by omega⟩
 unfold wsT w2j w2i
 (repeat' (with_reducible first | exact trivial | rfl | assumption | refine aLC ?_ ?_ | refine Tr.run_ite (fun _=>?_) (fun _=>?_) | refine aLJ ?_ | refine And.intro ?_ ?_))
 all_goals first
  | exact bZ
  | (simp only [List.length_append,List.length_singleton,List.length_set];done)
  | (refine⟨hA,⟨rfl,rfl,hD.st,?_,?_,?_,?_,?_,ae,?_⟩,?_⟩
     ·first
       | (intro e;exact Bool.noConfusion e)
       | (intro e;exact⟨hD.w (by assumption),e1⟩)
     ·first | exact e0 | (dsimp only;rw [hW];omega)
     ·first | (dsimp only;omega) | (dsimp only;rw [hW];omega)
     ·dsimp only;rw [List.length_set]
      first | (rw [hW];show _=w.en+1+0;omega) | (show _=w.en+1;omega)
     ·dsimp only
      first | (rw [hW];simp only [List.length_append,List.length_singleton];omega) | (rw [hW];omega) | omega
     ·first
       | exact aa
       | (dsimp only;rw [hW];intro v hv;have:=aa v hv;omega)
       | (dsimp only;rw [hW];intro v hv;rcases List.mem_append.1 hv with h | h
          ·have:=aa v h;omega
          ·have:=List.mem_singleton.1 h;subst this;omega)
     ·refine wsk hD rfl rfl ?_;unfold tkc;dsimp only
      first
       | rfl
       | (rw [<-hD.e (by assumption),show(DqO.x (uN _ _ _ _ _)).slow =_ by assumption];simp))
theorem aGI{t n b:Int}{w:WK1}{s:MS}(hb:Bnd t n s)(h:aBS t n b w)(hbb:b<=900000):aBW w s:=aLN (aCZ hb h hbb)
theorem aGJ{t n b:Int}{w:WK1}{s:MS}(hb:Bnd t n s)(h:aBS t n b w)(hbb:b<=900000):aJb t n b s w (wsF w s):=aLH (aCZ hb h hbb)
structure egW (t n:Int) (x:EGS):Prop where
 ht:1<=t/\t<=8
 hn:1<=n/\n<=1000
 st:x.s.t=t
 sn:x.s.n=n
 xt:x.th=t
 xn:x.nd=n
 k:0<=x.k/\x.k<=60000
 c:x.s.c=x.k
 w:okW x.s.xs
 l:(x.ws.length:Int)=t
 ws: ∀i,i<x.ws.length->wkW t n x.k (aY x.ws i)
 h:hstW (2*x.k) x.k x.h
 mi:MI t n x.s.xs
 ln:(x.s.xs.length:Int)=2*n+5+2*t+3*t+1
theorem V9{ws:List WKS}{i j:Nat}{w:WKS}(hi:i<ws.length):aY (dQ ws i w) j=if i=j then w else aY ws j:=by
 unfold aY dQ;rw [gD',List.getElem?_set,gD']
 by_cases e:i=j
 ·subst e;rw [if_pos rfl,if_pos rfl,if_pos hi];rfl
 ·rw [if_neg e,if_neg e]
theorem zP(ws:List WKS)(i:Nat)(w:WKS):(dQ ws i w).length =ws.length:=by unfold dQ;exact List.length_set
theorem I0{ws:List WKS}{i:Nat}(hi:i<ws.length):dQ ws i (aY ws i)=ws:=by
 unfold dQ aY;apply List.ext_getElem
 ·simp
 ·intro j h1 h2;rw [List.getElem_set];split
  ·rename_i e;subst e;rw [gD',gE' hi];rfl
  ·rfl
structure aBf (t n:Int) (x:EGS) (r:Bool×EGS):Prop where
 no:r.1=false->r.2=x
 yes:r.1=true->egW t n r.2/\r.2.k=x.k+1/\r.2.sh=x.sh/\r.2.tr=x.tr
 w:egW t n r.2
 z:r.1=true->(∀b,b≠r.2.s.a->aE r.2.s.xs b=aE x.s.xs b)/\0<=r.2.s.a/\r.2.s.a<=2*n+5+2*t+3*t
theorem vC{t n:Int}{x:EGS}(h:egW t n x):aBf t n x (false,x):=⟨fun _=>rfl,fun e=>Bool.noConfusion e,h,fun e=>Bool.noConfusion e⟩
theorem sD{t n:Int}{x:EGS}{s:MS}{h:HST}{i:Nat}{w:WKS}(hx:egW t n x)(hk:x.k<60000)(hi:i<x.ws.length)(ha:FX t n x.s s)(hw:wkW t n (x.k+1) w)(hh:hstW (2*(x.k+1)) (x.k+1) h):
 aBf t n x (true,{sh:=x.sh,th:=x.th,nd:=x.nd,tr:=x.tr,s:=s,h:=h,ws:=dQ x.ws i w,k:=W (x.k+1) }):=by
 obtain⟨ht,hn,st,sn,xt,xn,k,c,wd,l,ws,aa,mi,ln⟩:=hx;have hW:W (x.k+1)=x.k+1:=cG ⟨by omega,by omega⟩
 rw [hW]
 have hr:egW t n {sh:=x.sh,th:=x.th,nd:=x.nd,tr:=x.tr,s:=s,h:=h,ws:=dQ x.ws i w,k:=x.k+1} :=by
  refine⟨ht,hn,ha.th.trans st,ha.nh.trans sn,xt,xn,?_,?_,ha.w wd,?_,?_,hh,ha.m mi,by dsimp only;rw [ha.len];exact ln⟩
  ·dsimp only;omega
  ·dsimp only;rw [ha.c,c]
  ·dsimp only;rw [zP];exact l
  ·intro j hj;dsimp only at hj⊢;rw [zP]at hj;rw [V9 hi];split
   ·exact hw
   ·exact WB (ws j hj) omz
 exact⟨fun e=>Bool.noConfusion e,fun _=>⟨hr,rfl,rfl,rfl⟩,hr,fun _=>⟨ha.z,ha.ra⟩⟩
theorem aCG{t n:Int}{x:EGS}(th:Int)(hx:egW t n x):(pkT th x).run (aBf t n x):=by
 have hx':=hx;obtain⟨ht,hn,st,sn,xt,xn,hk,hc,wd,hl,aj,ae,mi,ln⟩:=hx;have hB:Bnd t n x.s:=⟨⟨ht.1,by omega⟩,hn,by omega,wd,mi,ln⟩
 unfold pkT w2m w2n;refine Tr.run_ite (fun e1=>?_) (fun e1=>Tr.run_ite (fun e2=>?_) (fun e2=>?_))
 · (repeat' (with_reducible first | exact trivial | rfl | assumption | refine aLC ?_ ?_ | refine Tr.run_ite (fun _=>?_) (fun _=>?_) | refine aLJ ?_ | refine And.intro ?_ ?_));exact vC hx'
 · (repeat' (with_reducible first | exact trivial | rfl | assumption | refine aLC ?_ ?_ | refine Tr.run_ite (fun _=>?_) (fun _=>?_) | refine aLJ ?_ | refine And.intro ?_ ?_));exact vC hx'
 rw [bC,dF']at e1;rw [cD,dF']at e2;have hi:0+Int.toNat th*1<x.ws.length:=by omega
 have hw:=aj _ hi;have aa:=I0 hi;generalize hig:0+Int.toNat th*1=i at*;refine aLC ⟨by omega,by omega⟩ (aLC hi (aLC trivial (Tr.run_ite (fun e3=>?_) (fun e3=>Tr.run_ite (fun e4=>?_) (fun e4=>?_)))))
 · (repeat' (with_reducible first | exact trivial | rfl | assumption | refine aLC ?_ ?_ | refine Tr.run_ite (fun _=>?_) (fun _=>?_) | refine aLJ ?_ | refine And.intro ?_ ?_))
   all_goals first | assumption | (rw [aa];exact vC hx')
 · (repeat' (with_reducible first | exact trivial | rfl | assumption | refine aLC ?_ ?_ | refine Tr.run_ite (fun _=>?_) (fun _=>?_) | refine aLJ ?_ | refine And.intro ?_ ?_))
   all_goals first | assumption | (rw [aa];exact vC hx')
 rw [cD,dF']at e4
 have ag:(aY x.ws i).en <((aY x.ws i).tk.length :Int):=by
  have h0:=hw.e0;have h1:=hw.e1;have h2:=hw.tk;have h3:=eB e3;have hW:=cG (x:=((aY x.ws i).tk.length :Int) - (aY x.ws i).en) ⟨by omega,by omega⟩
  have h4:W (((aY x.ws i).tk.length :Int) - (aY x.ws i).en)≠0:=h3;have hW:W (((aY x.ws i).tk.length :Int) - (aY x.ws i).en)=((aY x.ws i).tk.length :Int) - (aY x.ws i).en :=hW;rw [hW]at h4;omega
 have ai:=(aGB (tr:=x.tr) hw ht.1 ag).w;have al:=aGA (tr:=x.tr) hw ht.1 ag;refine aLC al ?_;have hS:=aGJ hB ai omz;have am:=aGI hB ai omz;generalize wbF x.tr (aY x.ws i)=w1 at*;generalize hsg:wsF w1 x.s=o at*;have ac:0<=th/\th<8:=by omega
 refine Tr.run_ite (fun e5=>?_) (fun e5=>?_)
 ·have hH:=aIh (th:=th) (kd:=(WK1.d w1).6) (ky:=(WK1.d w1).7) ae omz omz ac;have ao:hbOk th x.h (WK1.d w1).6 (WK1.d w1).7:=aLN hH;have ah:hstW (2*x.k+1) (x.k+1) (hbF th x.h (WK1.d w1).6 (WK1.d w1).7).2:=aLH hH;generalize hbF th x.h (WK1.d w1).6 (WK1.d w1).7=y at*;have hE:=aCw (th:=th) (code:=o.1) (okk:=o.2) (val:=o.3) ah omz omz ac;have ak:heOk th y.2 o.1 o.2 o.3:=aLN hE;have af:hstW (2*x.k+1+1) (x.k+1) (heF th y.2 o.1 o.2 o.3).2:=aLH hE
  (repeat' (with_reducible first | exact trivial | rfl | assumption | refine aLC ?_ ?_ | refine Tr.run_ite (fun _=>?_) (fun _=>?_) | refine aLJ ?_ | refine And.intro ?_ ?_))
  all_goals first
   | assumption
   | exact sD hx' omz hi hS.a hS.w (kL af omz omz)
   | exact sD hx' omz hi hS.a hS.w (kL ah omz omz)
 ·have hE:=aCw (th:=th) (code:=o.1) (okk:=o.2) (val:=o.3) ae omz omz ac;have ak:heOk th x.h o.1 o.2 o.3:=aLN hE;have af:hstW (2*x.k+1) x.k (heF th x.h o.1 o.2 o.3).2:=aLH hE
  (repeat' (with_reducible first | exact trivial | rfl | assumption | refine aLC ?_ ?_ | refine Tr.run_ite (fun _=>?_) (fun _=>?_) | refine aLJ ?_ | refine And.intro ?_ ?_))
  all_goals first
   | assumption
   | exact sD hx' omz hi hS.a hS.w (kL af omz omz)
   | exact sD hx' omz hi hS.a hS.w (kL ae omz omz)
theorem aF0{t n:Int}{x:EGS}(th:Int)(hx:egW t n x):aBe th x:=aLN (aCG th hx)
theorem xC{t n:Int}{x:EGS}(th:Int)(hx:egW t n x):aBf t n x (pkF th x):=aLH (aCG th hx)
def thR(row:Nat->List AVal)(i:Nat):Int:=match row i with
 | .int _ a::_=>a
 | _=>0
def tmR(row:Nat->List AVal)(i:Nat):Int:=match row i with
 | _:: .int _ a::_=>a
 | _=>0
def dY(n:Nat)(row:Nat->List AVal):List Int:=allF (thR row) (tmR row) n 0 60000
structure rowOk (row:Nat->List AVal):Prop where
 h: ∃th tm:Nat->Int,row=fun i=>[.int .i64 (th i),.int .i64 (tm i)]
theorem bP.putD{w:World}{l:Nat}{d d':Option (List Deferred)}(h:w.heap[l]? =some (.deferred d)):bP w (w.putObj l (.deferred d')):=by
 have aa:l<w.heap.size:=(Array.getElem?_eq_some_iff.1 h).1;refine⟨rfl,rfl,?_,?_⟩
 ·show w.heap.size<=(w.heap.setIfInBounds l _).size
  simp
 ·intro a _;unfold World.frozen?
  by_cases e:a.block=l
  ·rw [e,h,World.putObj_heap_same aa]
  ·rw [World.putObj_heap_other e]
theorem U8{α:Type}{l:List α}{i:Nat}{z:α}(h:l[i]? =some z):l.set i z=l:=by
 apply List.ext_getElem?;intro j
 by_cases e:i=j
 ·subst e;have aa:=(List.getElem?_eq_some_iff.1 h).1;rw [List.getElem?_set_self aa,h]
 ·rw [List.getElem?_set_ne e]
theorem OY{V V':Val}{m:Nat}{us:List AVal}{vs:List Value}(h:aH V us vs)(hw:aLA (upto 0 m) us=true)(hv: ∀l y,l<m->V l=some y->V' l=some y):aH V' us vs:=by
 have h1:aH (fun i=>if i<m then V i else none) us vs:=aLV (pl:=upto 0 m) (fun i hi=>by
  have:=(iG m 0 i).1 hi;show V i=if i<m then V i else none
  rw [if_pos omz]) _ _ hw h
 refine aH.mono ?_ _ _ h1;intro i y e;have e:(if i<m then V i else none)=some y:=e
 by_cases hi:i<m
 ·rw [if_pos hi]at e;exact hv i y hi e
 ·rw [if_neg hi]at e;cases e
theorem RT:JF=.seq (kU n9) (.seq (kU (kV n9)) (kU (kU (kV (kV n9))))):=rfl
theorem L5:Tryz.f85.body=some (.seq (kU n9) (.seq (kU (kV n9)) (.seq (.seq (kU (kU (kV (kV n9)))) (.block 0 (.rangeFunc (.tmp 8) #[9] (qG iM) (sY iM)))) (.seq JG .ret)))):=rfl
abbrev eT(pv:AVal)(n:Nat)(th tm:Nat->Int)(a b:Nat)(x:AVal):List AVal:=[pv,pkV n th tm,.ptr a 0,.raw undef,.int .i64 0,.ptr b 0,.raw undef,pkV n th tm,x]++List.replicate 7 (.raw undef)
theorem CU{E:Env Ob Tryz.prog}(hinl:lK E (fT E LL 9)){pv:AVal}{a b n N m m0:Nat}{th tm:Nat->Int}{xs:List Int}{h g:aC Ob}{S:Nat->aC Ob}{c:Int}{K:AVal->aC Ob->Prop}(hn:n<=4294967296)(hxs:xs=allF th tm n 0 60000)(hNm:N<=m0)(hmm:m0<=m)(hNh:N<=h.length)(hS: ∀j,(S j).length =m)(hSw:cT m (S 0)=true)(hwt:aLA (upto 0 m0) (eT pv n th tm a b .O)=true)
 (hA:Ev (bX E (fT E LL 9) 16 JF ([pv,pkV n th tm]++List.replicate 14 (.raw undef)) h (fun t q=>m0<=q.length/\aF E.I m0 (.tup t) q (.tup (eT pv n th tm a b (.func (.func 114) [] [.ptr m 0]))) (S 0++ [some (.cells [pkV n th tm])]))))
 (hb: ∀j u,xs[j]? =some u->Ev (bX E (fT E LL 9) 16 (qG iM) (List.set (eT pv n th tm a b .O) 9 (.int .i64 u)) (S j) (fun tm1 h1=>bX E (fT E LL 9) 16 (sY iM) tm1 h1 (fun _ h2=>aF E.I m0 (.bool true) h2 (.bool true) (S (j+1))))))
 (hZ:Ev (bX E (fT E LL 9) 16 JG (eT pv n th tm a b .O) (S xs.length) (fun t q=>t.getD 4 .O =.int .i64 c/\t.length=16/\q=S xs.length)))
 (hF:aF E.I N (.bool true) (S xs.length) (.bool true) g) (hK:K (.int .i64 c) g) {V:Val} {hR:PHeap} {w:World} {args':Array Value} (hi:Inv E.I V (toF h) hR w) (hf:bO V N) (hr:aH V [pv,pkV n th tm] args'.toList):Calls Tryz.prog 85 args' w (zR E.I V N hR K w):=by
 have au:bO V h.length:=fun l hl=>hf l omz;obtain⟨a0,l0,e0,r0,a1,l1,e1,r1,e2⟩:=hr;have e2:l1=[]:=e2;subst e2;have aa:args'= #[a0,a1]:=by apply Array.ext';rw [e0,e1]
 subst aa;refine callsIn_wide.1 (callsIn_of_wp_marks (F:=Fence.wide) (n:=0) Tryz.func85 L5 trivial ?_)
 have ao:aH V ([pv,pkV n th tm]++List.replicate 14 (.raw undef)) (#[a0,a1]++Array.replicate (Tryz.f85.ntmps - (#[a0,a1]:Array Value).size) undef).toList :=
  ⟨_,_,rfl,r0,_,_,rfl,r1,_,_,rfl,rfl,_,_,rfl,rfl,_,_,rfl,rfl,_,_,rfl,rfl,_,_,rfl,rfl,_,_,rfl,rfl,_,_,rfl,rfl,_,_,rfl,rfl,_,_,rfl,rfl,_,_,rfl,rfl,_,_,rfl,rfl,_,_,rfl,rfl,_,_,rfl,rfl,_,_,rfl,rfl,rfl⟩
 refine PI hinl (ro:=none) (ds:=[]) RT hA hi au ao rfl ?_;rintro q3 w3 ⟨az,V2,g3,⟨e3,e4⟩,y2,y3,y4,y5,y6,y7,y8⟩;refine wpIn_block ?_;obtain⟨V3,z1,z2,z3,⟨ay,z4,z5⟩,z6⟩:=e4 V2 _ w3 (.tuple q3.tmps) y6 y4 e3 ⟨q3.tmps,rfl,y2⟩;cases z4;have av:=gM z5 (.tmp 8);obtain⟨fs,cs,c1,c2,c3⟩: ∃fs cs,q3.eval (.tmp 8)=.func (.func 114) fs cs/\aH V3 [] fs.toList/\aH V3 [.ptr m 0] cs.toList:=av;obtain⟨v0,vs,c4,⟨blk,k,c5,rfl⟩,c6⟩:=c3;have c6:vs=[]:=c6;subst c6;have c2:fs= #[]:=by apply Array.ext';exact c2
 have c4:cs= #[.pointer (some ⟨blk,0,none⟩)]:=by apply Array.ext';rw [c4]
 subst c2;subst c4
 have ai:aH V3 (eT pv n th tm a b .O) q3.tmps.toList:=by
  obtain⟨z,hz,_⟩:=aH.get z5 8 _ rfl;have:=aH.set z5 8 .O z trivial;rw [U8 hz]at this;exact this
 have ap:(S 0++ [some (aG.cells [pkV n th tm])]).length =m+1:=by rw [List.length_append,hS];rfl
 rw [ap]at z2;refine IF (E:=E) hinl (fA:=114) (view:=pkV n th tm) (xs:=xs) (by rw [hxs];exact QG th tm hn) (nt:=16) hmm (tm:=eT pv n th tm a b .O) hS rfl hSw hb z6 z2 c5 ai hwt y8 c1 (by kernel_rfl) ?_
 intro w4 D V4 ag ar ac a6 ax aq;have ah:aH V4 (eT pv n th tm a b .O) q3.tmps.toList:=OY ai hwt ag;refine PH hinl (ro:=none) (ds:=[{target:=.collected D,args:= #[] }]) hZ ax (by rw [hS];exact ar) ah rfl ?_
 rintro q5 w5 ⟨ae,V5,g5,⟨p1,p2,p3⟩,p4,p5,p6,p7,p8,p9,am⟩;subst p3;refine wpIn_ret ?_;show LeavesInM Fence.wide 0 Tryz.prog Tryz.f85 q5.tmps _ q5.defers .returning w5;rw [am]
 have ak:w5.heap[D]? =some (.deferred (some [])):=by
  obtain⟨_,_,_,_,_,_,s6,_⟩:=p8;exact s6 D _ (if_pos rfl)
 refine⟨by simp,.inl ⟨D,_,rfl,run_takeDeferred ak,?_⟩⟩
 refine⟨_,results_tmp rfl _ _ _,?_⟩
 have al:Con.con D=none:=by
  cases e:Con.con D with
  | none=>rfl
  | some o=>
    obtain⟨_,_,_,_,_,_,_,s7⟩:=hi;rw [s7 D o e]at ac;cases ac
 obtain⟨V6,t1,t2,t3,t4,t5⟩:=hF V5 _ w5 (.bool true) p8 p6 (by rw [hS];omega) rfl
 have af:V.le V6:=by
  intro i z e
  by_cases h0:i<N
  ·exact t1 i z h0 (p5 _ _ (ag i z omz (z1 i z omz (y3 _ _ e))))
  ·rw [hf i omz]at e;cases e
 have hres:q5.tmps.getD 4 undef=.int .i64 c:=by
  have aj:4<ae.length:=by rw [p2];decide
  have h4:ae[4]? =some (.int .i64 c):=by
   rw [gE' aj];rw [gD',gE' aj]at p1;exact congrArg some p1
  obtain⟨z,z1,z2⟩:=aH.get p4 4 _ h4;have z2:z=.int .i64 c:=z2;subst z2;rw [Array.getElem?_toList]at z1;rw [Array.getD_eq_getD_getElem?,z1];rfl
 refine⟨.int .i64 c,_,V6,_,hK,rfl,hres,af,t2,t3,?_,(y7.trans aq).trans (p9.trans (bP.putD ak))⟩;refine Inv.shrink (hX:=fun b=>if b=D then some (.deferred none)else hR b) (Inv.put (o:=.deferred (some [])) t5 (if_pos rfl) (if_pos rfl) ?_ al) ?_ ?_
 ·intro b hb;show(if b=D then _ else _)=(if b=D then _ else _)
  rw [if_neg hb,if_neg hb]
 ·intro b o e;show(if b=D then _ else _)=_
  rw [if_neg (fun e2=>by subst e2;rw [ac]at e;cases e)]
  exact e
 ·obtain⟨_,_,_,_,_,_,_,s7⟩:=hi;exact s7
noncomputable def EUa:=EU9
noncomputable def EUb:=EUa
theorem f9{a b:Int}(h:ilt a b=true):a<b:=by rw [bC]at h;exact of_decide_eq_true h
theorem f8{a b:Int}(h:ilt a b=false): ¬a<b:=by rw [bC]at h;exact of_decide_eq_false h
noncomputable def EUc:=EUb
abbrev EG(m:Nat)(ln:Nat->Nat)(f g:Nat->Nat->Int):AVal:=.view m 1 (fun i=>[.view (ln i) 2 (fun j=>[.I (f i j),.I (g i j)])])
structure er1 (m:Nat) (ln:Nat->Nat) (x:Nat):Prop where
 hi:x<=m
 hl: ∀j,j<x->ln j<=40
structure er2 (sh:Int) (m:Nat) (ln:Nat->Nat) (f g:Nat->Nat->Int) (x:Nat):Prop where
 hi:x<=m
 hl: ∀j,j<x->fE sh (ln j) (f j) (g j)=true
structure er3 (sh:Int) (m:Nat) (ln:Nat->Nat) (f g:Nat->Nat->Int) (i0:Int) (x:Nat×Nat):Prop where
 hi:x.1<m
 h0:(x.1:Int)=i0
 hk:x.2<=ln x.1
 hl: ∀j,j<x.1->fE sh (ln j) (f j) (g j)=true
 hr: ∀j,j<x.2->bT sh (f x.1 j) (g x.1 j)=true
def WT(sh th nd tr:Int)(m:Nat)(ln:Nat->Nat)(f g:Nat->Nat->Int):Hint Ob:= {X:=Nat,st:=fun x=>([.I sh,.I th,.I nd,.I tr,EG m ln f g,.O,.O,.O,.O,.O,.O,.I (x:Int)]++List.replicate 71 .O,[]),ok:=er1 m ln,mu:=fun x=>m - x,keep:=[0,1,2,3,4,11] }
def WV(sh th nd tr:Int)(m:Nat)(ln:Nat->Nat)(f g:Nat->Nat->Int):Hint Ob:= {X:=Nat,st:=fun x=>([.I sh,.O,.O,.O,EG m ln f g,.O,.O,.O,.O,.O,.O,.O,.I (x:Int)]++List.replicate 70 .O,[]),ok:=er2 sh m ln f g,mu:=fun x=>m - x,keep:=[0,4,12] }
def WW(sh th nd tr:Int)(m:Nat)(ln:Nat->Nat)(f g:Nat->Nat->Int)(i0:Int):Hint Ob:= {X:=Nat×Nat,st:=fun x=>([.I sh,.O,.O,.O,EG m ln f g,.O,.O,.O,.O,.O,.O,.O,.I (x.1:Int),.I (x.2:Int)]++List.replicate 69 .O,[]),ok:=er3 sh m ln f g i0,mu:=fun x=>ln x.1 - x.2,keep:=[0,4,12,13] }
def LER(sh th nd tr:Int)(m:Nat)(ln:Nat->Nat)(f g:Nat->Nat->Int):FuncId->Nat->Option (mS Ob):=fun _ k=>match k with
 | 8=>some (.states (WT sh th nd tr m ln f g))
 | 13=>some (.states (WV sh th nd tr m ln f g))
 | 16=>some (.statesAt 12 (WW sh th nd tr m ln f g))
 | _=>none
def ZJ(sh th nd tr:Int)(m:Nat)(ln:Nat->Nat)(f g:Nat->Nat->Int)(K:AVal->aC Ob->Prop):Prop:=bif ilt sh 1 then K (.I 1) []else bif ilt 4 sh then K (.I 1) []else bif ilt th 1 then K (.I 2) []else bif ilt 8 th then K (.I 2) []else bif ilt nd 1 then K (.I 2) []else bif ilt 200 nd then K (.I 2) []else bif ilt tr 0 then K (.I 2) []else bif ilt 50 tr then K (.I 2) []else bif ilt th (↑m:Int)then K (.I 6) []else dE (WT sh th nd tr m ln f g) (Hint.ok (WT sh th nd tr m ln f g)) (.I sh::.I th::.I nd::.I tr::(.view m 1 fun i=>[.view (ln i) 2 fun j=>[.I (f i j),.I (g i j)]])::.O::.O::.O::.O::.O::.O::.I 0::(tO' 71 [])) []/\ ∀(x:Nat),er1 m ln x->bif ilt (↑x:Int) (↑m:Int)then((0:Int)<=(↑x:Int)/\(↑x:Int)<(↑m:Int))/\bif ilt 40 (↑(ln (Int.toNat (↑x:Int))):Int)then K (.I 6) []else dE (WT sh th nd tr m ln f g) (fun x'=>Hint.ok (WT sh th nd tr m ln f g) x'/\Hint.mu (WT sh th nd tr m ln f g) x'<Hint.mu (WT sh th nd tr m ln f g) x) (.I sh::.I th::.I nd::.I tr::(.view m 1 fun i=>[.view (ln i) 2 fun j=>[.I (f i j),.I (g i j)]])::.O::.O::.O::.O::.O::.O::.I (W ((↑x:Int)+1))::(tO' 71 [])) []else dE (WV sh th nd tr m ln f g) (Hint.ok (WV sh th nd tr m ln f g)) (.I sh::.O::.O::.O::(.view m 1 fun i=>[.view (ln i) 2 fun j=>[.I (f i j),.I (g i j)]])::.O::.O::.O::.O::.O::.O::.O::.I 0::(tO' 70 [])) []/\ ∀(x:Nat),er2 sh m ln f g x->bif ilt (↑x:Int) (↑m:Int)then dE (WW sh th nd tr m ln f g (↑x:Int)) (Hint.ok (WW sh th nd tr m ln f g (↑x:Int))) (.I sh::.O::.O::.O::(.view m 1 fun i=>[.view (ln i) 2 fun j=>[.I (f i j),.I (g i j)]])::.O::.O::.O::.O::.O::.O::.O::.I (↑x:Int)::.I 0::(tO' 69 [])) []/\ ∀(x_1:(Nat×Nat)),er3 sh m ln f g (↑x:Int) x_1->((0:Int)<=(↑x_1.1:Int)/\(↑x_1.1:Int)<(↑m:Int))/\bif ilt (↑x_1.2:Int) (↑(ln (Int.toNat (↑x_1.1:Int))):Int)then((0:Int)<=(↑x_1.1:Int)/\(↑x_1.1:Int)<(↑m:Int))/\((0:Int)<=(↑x_1.2:Int)/\(↑x_1.2:Int)<(↑(ln (Int.toNat (↑x_1.1:Int))):Int))/\True/\bif !bT sh (f (Int.toNat (↑x_1.1:Int)) (Int.toNat (↑x_1.2:Int))) (g (Int.toNat (↑x_1.1:Int)) (Int.toNat (↑x_1.2:Int)))then K (.I 1) []else dE (WW sh th nd tr m ln f g (↑x:Int)) (fun x'=>Hint.ok (WW sh th nd tr m ln f g (↑x:Int)) x'/\Hint.mu (WW sh th nd tr m ln f g (↑x:Int)) x'<Hint.mu (WW sh th nd tr m ln f g (↑x:Int)) x_1) (.I sh::.O::.O::.O::(.view m 1 fun i=>[.view (ln i) 2 fun j=>[.I (f i j),.I (g i j)]])::.O::.O::.O::.O::.O::.O::.O::.I (↑x_1.1:Int)::.I (W ((↑x_1.2:Int)+1))::(tO' 69 [])) []else dE (WV sh th nd tr m ln f g) (fun x'=>Hint.ok (WV sh th nd tr m ln f g) x'/\Hint.mu (WV sh th nd tr m ln f g) x'<Hint.mu (WV sh th nd tr m ln f g) x) (.I sh::.O::.O::.O::(.view m 1 fun i=>[.view (ln i) 2 fun j=>[.I (f i j),.I (g i j)]])::.O::.O::.O::.O::.O::.O::.O::.I (W ((↑x_1.1:Int)+1))::(tO' 70 [])) []else K (.I 0) []
set_option maxRecDepth 100000 in
theorem SG(sh th nd tr:Int)(m:Nat)(ln:Nat->Nat)(f g:Nat->Nat->Int)(K:AVal->aC Ob->Prop)(h:ZJ sh th nd tr m ln f g K):cT' 78 [.I sh,.I th,.I nd,.I tr,EG m ln f g] [] (eJ 0 K):=by
 exact aD (E:=EUc) Tryz.checked.mixed (L:=LER sh th nd tr m ln f g) (n:=10) (aJ (by kernel_rfl) h)
theorem aCq{sh th nd tr:Int}{m:Nat}{ln:Nat->Nat}{f g:Nat->Nat->Int}(h:gnC sh th nd tr m ln f g=0):wrE sh th nd tr=0:=by
 unfold gnC at h;cases h1:ieq (wrE sh th nd tr) 0 with
 | true=>exact rZ h1
 | false=>rw [h1]at h;exact h
theorem aE3{sh th nd tr:Int}{m:Nat}{ln:Nat->Nat}{f g:Nat->Nat->Int}(h:gnC sh th nd tr m ln f g=0):lgB th m ln=false:=by
 have h0:=aCq h;unfold gnC at h;rw [h0]at h;cases e:lgB th m ln with
 | false=>rfl
 | true=>rw [e]at h;exact absurd (show(6:Int)=0 from h) dS
theorem aE4{sh th nd tr:Int}{m:Nat}{ln:Nat->Nat}{f g:Nat->Nat->Int}(h:gnC sh th nd tr m ln f g=0){i:Nat}(hi:i<m):ln i<=40:=by
 have h1:=aE3 h;unfold lgB at h1;rw [Bool.or_eq_false_iff]at h1;have h2:=List.any_eq_false.1 h1.1 i (List.mem_range.2 hi)
 simpa using h2
theorem OF(k:Nat):okW (List.replicate k 0):=by
 refine⟨fun x hx=>?_⟩;rw [List.eq_of_mem_replicate hx];exact⟨by decide,by decide⟩
theorem aBT{sh th nd tr:Int}{m:Nat}{ln:Nat->Nat}{f g:Nat->Nat->Int}(h:gnC sh th nd tr m ln f g=0){j:Nat}(hj:(j:Int)<th)(hth:th<=8)(hnd:1<=nd):wkW th nd 0 (iH sh th nd m ln f g j):=by
 have hl:((bif ilt (j:Int) (m:Int)then ofR sh (ln j) (f j) (g j)else []).length :Int)<=40:=by
  cases e:ilt (j:Int) (m:Int)with
  | false=>exact(by decide:((0:Nat):Int)<=40)
  | true=>
    rw [bC,dT']at e;have h1:=aE4 h (i:=j) omz;show((ofR sh (ln j) (f j) (g j)).length :Int)<=40;unfold ofR;cases fE sh (ln j) (f j) (g j)with
    | false=>exact(by decide:((0:Nat):Int)<=40)
    | true=>show((lH sh (ln j) (f j) (g j)).length :Int)<=40;rw [qU];omega
 unfold iH;generalize (bif ilt (j:Int) (m:Int)then ofR sh (ln j) (f j) (g j)else [])=tk at hl⊢;exact⟨rfl,rfl,⟨⟨by show(0:Int)<=(j:Int);omega,hj⟩,⟨(by decide:(0:Int)<=0),by show(0:Int)<=nd;omega⟩,tM,(by decide:((0:Nat):Int)<=0)⟩,fun e=>Bool.noConfusion e,(by decide:(0:Int)<=0),by show(0:Int)<=(tk.length:Int);omega,rfl,(by decide:((0:Nat):Int)<=0),by show(tk.length:Int)<=100000;omega,fun v hv=>nomatch hv⟩
theorem H9(k:Nat)(a:Int):aE (List.replicate k 0) a=0:=by
 unfold aE;split
 ·rename_i h;rw [gD',List.getElem?_replicate];split<;>rfl
 ·rfl
theorem TQ(t n:Int)(hn:1<=n)(k:Nat):MI t n (List.replicate k 0):=by
 have e:=H9 k;exact⟨fun a _=>by rw [e,rH];omega,fun u _ _=>by rw [e];exact⟨by rw [rH];omega,by rw [rH];omega⟩⟩
theorem JH{sh th nd tr:Int}{m:Nat}{ln:Nat->Nat}{f g:Nat->Nat->Int}(h:gnC sh th nd tr m ln f g=0):egW th nd (oA sh th nd tr m ln f g):=by
 have h0:=aCq h;obtain⟨_,_,⟨t0,t1,n0,n1⟩,_⟩:=aCY (by rw [cI,h0];rfl)
 refine⟨⟨t0,t1⟩,⟨n0,by omega⟩,rfl,rfl,rfl,rfl,⟨(by decide:(0:Int)<=0),(by decide:(0:Int)<=60000)⟩,rfl,OF _,?_,?_,?_,TQ _ _ n0 _,?_⟩
 ·show(((List.range th.toNat).map _).length :Int)=th;rw [List.length_map,List.length_range];omega
 ·intro i hi;have hi:i<((List.range th.toNat).map (iH sh th nd m ln f g)).length :=hi;rw [List.length_map,List.length_range]at hi
  have e:aY (oA sh th nd tr m ln f g).ws i=iH sh th nd m ln f g i:=by
   show aY ((List.range th.toNat).map (iH sh th nd m ln f g)) i=_;unfold aY;rw [gD',List.getElem?_map,List.getElem?_range hi];rfl
  rw [e];exact aBT h omz t1 n0
 ·refine⟨(by decide:((0:Nat):Int)<=2*0),(by decide:((0:Nat):Int)<=0),?_,?_,?_,?_,?_,?_,?_,?_⟩<;>exact⟨(by decide:(0:Int)<=0),(by decide:(0:Int)<=((0:Nat):Int))⟩
 ·show((List.replicate _ (0:Int)).length :Int)=_;rw [List.length_replicate];omega
theorem lQ{sh th nd tr:Int}{m:Nat}{ln:Nat->Nat}{f g:Nat->Nat->Int}{c:Int}(h:wrE sh th nd tr=c)(h0:ieq c 0=false):gnC sh th nd tr m ln f g=c:=by
 unfold gnC;rw [h,h0];rfl
theorem aCr{sh th nd tr:Int}{m:Nat}{ln:Nat->Nat}{f g:Nat->Nat->Int}(h:wrE sh th nd tr=0)(hl:lgB th m ln=true):gnC sh th nd tr m ln f g=6:=by
 unfold gnC;rw [h,hl];rfl
theorem aH9{sh th nd tr:Int}{m:Nat}{ln:Nat->Nat}{f g:Nat->Nat->Int}(h:wrE sh th nd tr=0)(hl:lgB th m ln=false)(ha: ∃i k,i<m/\k<ln i/\bT sh (f i k) (g i k)=false):gnC sh th nd tr m ln f g=1:=by
 have:((List.range m).all fun j=>fE sh (ln j) (f j) (g j))=false:=by
  obtain⟨i,k,hi,hk,hr⟩:=ha;rw [List.all_eq_false];refine⟨i,List.mem_range.2 hi,?_⟩;intro e;rw [pL.1 e k hk]at hr;cases hr
 unfold gnC;rw [h,hl,this];rfl
theorem aE5{sh th nd tr:Int}{m:Nat}{ln:Nat->Nat}{f g:Nat->Nat->Int}(h:wrE sh th nd tr=0)(hl:lgB th m ln=false)(ha: ∀i,i<m->fE sh (ln i) (f i) (g i)=true):gnC sh th nd tr m ln f g=0:=by
 have:((List.range m).all fun j=>fE sh (ln j) (f j) (g j))=true:=by
  rw [List.all_eq_true];intro i hi;exact ha i (List.mem_range.1 hi)
 unfold gnC;rw [h,hl,this];rfl
theorem sF{t n:Int}(h:t<1\/8<t\/n<1\/200<n):eQ t n=false:=by
 cases e:eQ t n with
 | false=>rfl
 | true=>have:=uI.1 e;omega
theorem KH{a b:Int}(h:a<b):ilt a b=true:=by rw [bC];exact decide_eq_true h
theorem uF{a b:Int}(h: ¬a<b):ilt a b=false:=by rw [bC];exact decide_eq_false h
theorem W1{i:Nat}{m:Nat}(hi:i<m)(hm:m<=1000000):W ((i:Int)+1)=((i+1:Nat):Int):=by
 have:=cG (x:=(i:Int)+1) ⟨by omega,by omega⟩
 exact this.trans omz
set_option maxRecDepth 10000 in
theorem aHW(sh th nd tr:Int)(m:Nat)(ln:Nat->Nat)(f g:Nat->Nat->Int)(K:AVal->aC Ob->Prop)(hm:m<=1000000)(hK:K (.I (gnC sh th nd tr m ln f g)) []):ZJ sh th nd tr m ln f g K:=by
 have key: ∀c,gnC sh th nd tr m ln f g=c->K (.I c) []:=fun c e=>by rw [<-e];exact hK
 have w1:(sh<1\/4<sh)->wrE sh th nd tr=1:=by
  intro h;unfold wrE
  by_cases h1:sh<1
  ·rw [KH h1];rfl
  ·rw [uF h1,KH (show 4<sh by omega)];rfl
 have w2: ¬(sh<1\/4<sh)->(eQ th nd=false\/tr<0\/50<tr)->wrE sh th nd tr=2:=by
  intro h h2;unfold wrE;rw [uF (show¬sh<1 by omega),uF (show¬4<sh by omega)]
  cases e:eQ th nd with
  | false=>rfl
  | true=>
    rw [e]at h2
    by_cases h3:tr<0
    ·rw [KH h3];rfl
    ·rw [uF h3,KH (show 50<tr by rcases h2 with h2 | h2 | h2<;>first | (exact Bool.noConfusion h2) | omega)];rfl
 unfold ZJ;refine aT (fun e1=>key 1 (lQ (w1 (.inl (f9 e1))) rfl)) (fun e1=>?_);refine aT (fun e2=>key 1 (lQ (w1 (.inr (f9 e2))) rfl)) (fun e2=>?_);have e1:=f8 e1;have e2:=f8 e2;have hs: ¬(sh<1\/4<sh):=by omega
 refine aT (fun e3=>key 2 (lQ (w2 hs (.inl (sF (.inl (f9 e3))))) rfl)) (fun e3=>?_);refine aT (fun e4=>key 2 (lQ (w2 hs (.inl (sF (.inr (.inl (f9 e4)))))) rfl)) (fun e4=>?_);refine aT (fun e5=>key 2 (lQ (w2 hs (.inl (sF (.inr (.inr (.inl (f9 e5))))))) rfl)) (fun e5=>?_);refine aT (fun e6=>key 2 (lQ (w2 hs (.inl (sF (.inr (.inr (.inr (f9 e6))))))) rfl)) (fun e6=>?_);refine aT (fun e7=>key 2 (lQ (w2 hs (.inr (.inl (f9 e7)))) rfl)) (fun e7=>?_);refine aT (fun e8=>key 2 (lQ (w2 hs (.inr (.inr (f9 e8)))) rfl)) (fun e8=>?_);have e3:=f8 e3;have e4:=f8 e4;have e5:=f8 e5;have e6:=f8 e6;have e7:=f8 e7;have e8:=f8 e8;have hr:eQ th nd=true:=uI.2 ⟨by omega,by omega,by omega,by omega⟩
 have hw:wrE sh th nd tr=0:=by
  unfold wrE;rw [uF e1,uF e2,hr,uF e7,uF e8];rfl
 refine aT (fun e9=>key 6 (aCr hw (KJ (.inr (f9 e9))))) (fun e9=>?_);have e9:=f8 e9;refine⟨aR (H:=WT sh th nd tr m ln f g) (0:Nat) rfl ⟨Nat.zero_le _,fun j hj=>absurd hj (Nat.not_lt_zero _)⟩,?_⟩;rintro x ⟨hx,ac⟩;refine aT (fun a1=>?_) (fun a1=>?_)
 ·have a1:=f9 a1;have aa:x<m:=by omega
  rw [Int.toNat_natCast];refine⟨⟨by omega,by omega⟩,aT (fun a2=>key 6 (aCr hw (KJ (.inl ⟨x,aa,by have:=f9 a2;omega⟩)))) (fun a2=>?_)⟩
  have a2:=f8 a2;rw [W1 aa hm];refine aR (H:=WT sh th nd tr m ln f g) (x+1:Nat) rfl ⟨⟨aa,fun j hj=>?_⟩,by show m - (x+1)<m - x;omega⟩
  by_cases e:j=x
  ·subst e;omega
  ·exact ac j omz
 ·have a1:=f8 a1;have aa:x=m:=by omega
  subst aa;have af:lgB th x ln=false:=TN.2 ⟨ac,by omega⟩
  refine⟨aR (H:=WV sh th nd tr x ln f g) (0:Nat) rfl ⟨Nat.zero_le _,fun j hj=>absurd hj (Nat.not_lt_zero _)⟩,?_⟩;rintro i ⟨hi,ag⟩;refine aT (fun b1=>?_) (fun b1=>?_)
  ·have b1:=f9 b1;have ae:i<x:=by omega
   refine⟨aR (H:=WW sh th nd tr x ln f g (i:Int)) (i,(0:Nat)) rfl ⟨ae,rfl,Nat.zero_le _,ag,fun j hj=>absurd hj (Nat.not_lt_zero _)⟩,?_⟩;rintro⟨i2,k⟩ ⟨ci,c0,ck,cl,cr⟩;dsimp only at ci c0 ck cl cr⊢;have c0:i2=i:=by omega
   subst c0;rw [Int.toNat_natCast,Int.toNat_natCast];have ah:=ac i2 ci;refine⟨⟨by omega,by omega⟩,aT (fun d1=>?_) (fun d1=>?_)⟩
   ·have d1:=f9 d1;refine⟨⟨by omega,by omega⟩,⟨by omega,by omega⟩,trivial,aT (fun d2=>key 1 (aH9 hw af ⟨i2,k,ci,by omega,by simpa using d2⟩)) (fun d2=>?_)⟩
    rw [W1 (show k<ln i2 by omega) omz]
    refine aR (H:=WW sh th nd tr x ln f g (i2:Int)) (i2,(k+1:Nat)) rfl ⟨⟨ci,rfl,by dsimp only;omega,cl,fun j hj=>?_⟩,by show ln i2 - (k+1)<ln i2 - k;omega⟩
    dsimp only at hj⊢
    by_cases e:j=k
    ·subst e;simpa using d2
    ·exact cr j omz
   ·have d1:=f8 d1;rw [W1 ci hm];refine aR (H:=WV sh th nd tr x ln f g) (i2+1:Nat) rfl ⟨⟨ci,fun j hj=>?_⟩,by show x - (i2+1)<x - i2;omega⟩
    by_cases e:j=i2
    ·subst e;exact pL.2 (fun q hq=>cr q omz)
    ·exact cl j omz
  ·have b1:=f8 b1;have ae:i=x:=by omega
   subst ae;exact key 0 (aE5 hw af ag)
def erS:aI Ob:=fun args h=>match args,h with
 | [.int .i64 sh,.int .i64 th,.int .i64 nd,.int .i64 tr,.view m 1 vr],[]=>some (.pre (m<=1000000/\fX vr) (.ret (.I (gnC sh th nd tr m (vL vr) (vK vr) (vY vr))) []))
 | _,_=>none
theorem aHV:sT' 78 erS:=by
 intro args h o ho K hK;unfold erS at ho;split at ho
 case h_2=>cases ho
 rename_i sh th nd tr m vr;cases ho;obtain⟨⟨hm,⟨hr⟩⟩,hK⟩:=hK;rw [hr];exact aLw (SG sh th nd tr m (vL vr) (vK vr) (vY vr) K (aHW sh th nd tr m (vL vr) (vK vr) (vY vr) K hm hK))
noncomputable def EUd:=EUc.addS 78 erS aHV
def aGd:aZ Ob:=fun args h=>match args,h with
 | [.ptr 0 0,.int .i64 th],[some (.abs (.engine x) [])]=>some (True,.I (mH th x))
 | _,_=>none
theorem aBu:sT' 33 aGd.spec:=by
 intro args h o ho K hK;unfold aZ.spec at ho;split at ho
 case h_2=>cases ho
 rename_i hv;unfold aGd at hv;split at hv
 case h_2=>cases hv
 cases hv;cases ho;exact U1 _ _ _ rfl K hK
def aEz:aZ Ob:=fun args h=>match args,h with
 | [.ptr 0 0],[some (.abs (.engine x) [])]=>some (True,.I x.k)
 | _,_=>none
theorem ZK:sT' 34 aEz.spec:=by
 intro args h o ho K hK;unfold aZ.spec at ho;split at ho
 case h_2=>cases ho
 rename_i hv;unfold aEz at hv;split at hv
 case h_2=>cases hv
 cases hv;cases ho;exact SH _ _ _ rfl K hK
def aEl:aZ Ob:=fun args h=>match args,h with
 | [.ptr 0 0],[some (.abs (.engine x) [])]=>some (True,.agg [.I x.s.t,.I x.s.n])
 | _,_=>none
theorem ZD:sT' 38 aEl.spec:=by
 intro args h o ho K hK;unfold aZ.spec at ho;split at ho
 case h_2=>cases ho
 rename_i hv;unfold aEl at hv;split at hv
 case h_2=>cases hv
 cases hv;cases ho;exact R8 _ _ _ rfl K hK
def aEv:aZ Ob:=fun args h=>match args,h with
 | [.ptr 0 0,.int .i64 a],[some (.abs (.engine x) [])]=>some (True,.int .u64 (aE x.s.xs a))
 | _,_=>none
theorem ZI:sT' 37 aEv.spec:=by
 intro args h o ho K hK;unfold aZ.spec at ho;split at ho
 case h_2=>cases ho
 rename_i hv;unfold aEv at hv;split at hv
 case h_2=>cases hv
 cases hv;cases ho;exact SD _ _ _ rfl K hK
def aEk:aZ Ob:=fun args h=>match args,h with
 | [.ptr 0 0],[some (.abs (.engine x) [])]=>some (True,.agg [.I x.s.k,.I x.s.a,.int .u64 x.s.o,.int .u64 x.s.w,.bool x.s.ok])
 | _,_=>none
theorem ZB:sT' 45 aEk.spec:=by
 intro args h o ho K hK;unfold aZ.spec at ho;split at ho
 case h_2=>cases ho
 rename_i hv;unfold aEk at hv;split at hv
 case h_2=>cases hv
 cases hv;cases ho;exact R7 _ _ _ rfl K hK
def aGg:dA Ob:=fun args h=>match args,h with
 | [.ptr 0 0,.int .i64 th],[some (.abs (.engine x) [])]=>some (jX x,.slice 1 0 (iF th x).length 1,[.ints (some .i64) (iF th x)])
 | _,_=>none
theorem aBz:sT' 32 aGg.spec:=by
 intro args h o ho K hK;unfold dA.spec at ho;split at ho
 case h_2=>cases ho
 rename_i hv;unfold aGg at hv;split at hv
 case h_2=>cases hv
 cases hv;cases ho;exact U5 _ _ _ rfl K hK
def aGf:dA Ob:=fun args h=>match args,h with
 | [.ptr 0 0,.int .i64 th],[some (.abs (.engine x) [])]=>some (jX x,.slice 1 0 (iC th x).length 1,[.ints (some .i64) (iC th x)])
 | _,_=>none
theorem aBy:sT' 35 aGf.spec:=by
 intro args h o ho K hK;unfold dA.spec at ho;split at ho
 case h_2=>cases ho
 rename_i hv;unfold aGf at hv;split at hv
 case h_2=>cases hv
 cases hv;cases ho;exact U4 _ _ _ rfl K hK
def aGc:dA Ob:=fun args h=>match args,h with
 | [.ptr 0 0,.int .i64 th],[some (.abs (.engine x) [])]=>some (jX x,.slice 1 0 (gZ th x).length 1,[.ints (some .i64) (gZ th x)])
 | _,_=>none
theorem aBt:sT' 69 aGc.spec:=by
 intro args h o ho K hK;unfold dA.spec at ho;split at ho
 case h_2=>cases ho
 rename_i hv;unfold aGc at hv;split at hv
 case h_2=>cases hv
 cases hv;cases ho;exact UZ _ _ _ rfl K hK
def aEi:dA Ob:=fun args h=>match args,h with
 | [.ptr 0 0],[some (.abs (.engine x) [])]=>some (x.h.ev.length<=4294967296/\x.h.cl.length<=4294967296,.ptr 1 0,[.abs (.hist x.h) []])
 | _,_=>none
theorem Y9:sT' 28 aEi.spec:=by
 intro args h o ho K hK;unfold dA.spec at ho;split at ho
 case h_2=>cases ho
 rename_i hv;unfold aEi at hv;split at hv
 case h_2=>cases hv
 cases hv;cases ho;exact RY _ _ _ rfl K hK
def aEj:dA Ob:=fun args h=>match args,h with
 | [.ptr 0 0],[some (.abs (.engine x) [])]=>some (0<=x.s.n/\x.s.n<=100000,.slice 1 0 (bF x).length 1,[.ints (some .i64) (bF x)])
 | _,_=>none
theorem ZA:sT' 55 aEj.spec:=by
 intro args h o ho K hK;unfold dA.spec at ho;split at ho
 case h_2=>cases ho
 rename_i hv;unfold aEj at hv;split at hv
 case h_2=>cases hv
 cases hv;cases ho;exact R0 _ _ _ rfl K hK
noncomputable def EUe0:=((((((((((EUd.addR 33 aGd aBu).addR 34 aEz ZK).addR 38 aEl ZD).addR 37 aEv ZI).addR 45 aEk ZB).addN 32 aGg aBz).addN 35 aGf aBy).addN 69 aGc aBt).addN 28 aEi Y9).addN 55 aEj ZA)
theorem H6(t:TypeId)(l off:Nat)(h:aC Ob)(v:AVal)(q:Option Prop)(hk:(w6 tbl Tryz.prog t l off h).map (·,none)=some (v,q))(_:onp q)(V:Val)(hR:PHeap)(w:World)(b k:Nat)(hi:Inv (obI tbl) V (toF h) hR w)(hV:V l=some (b,k)): ∃v',(Instr.loadAt t (.pointer (some ⟨b,off,none⟩))).run Tryz.prog w=.ok v' w/\Rep V v v':=by
 cases e:w6 tbl Tryz.prog t l off h with
 | none=>rw [e]at hk;cases hk
 | some x=>rw [e]at hk;cases hk;exact OC t l off h _ e V hR w b k hi hV
noncomputable def EUe:Env Ob Tryz.prog:= {EUe0 with fld:=fun t l off h=>(w6 tbl Tryz.prog t l off h).map (·,none),fldOk:=H6}
theorem RV{t n:Int}{x:EGS}(h:egW t n x):jX x:=by
 have hk:=h.k;refine⟨by have:=h.l;have:=h.ht;omega,fun i hi=>?_,fun i hi=>?_,fun i hi=>?_⟩
 ·have h1:=(h.ws i hi).tl;have:=(h.ws i hi).e1;have:=(h.ws i hi).tk;cases hb:(aY x.ws i).b with
  | true=>
    rw [hb]at h1;have h1:((aY x.ws i).tl.length :Int)=(aY x.ws i).en +1:=h1;omega
  | false=>
    rw [hb]at h1;have h1:((aY x.ws i).tl.length :Int)=(aY x.ws i).en +0:=h1;omega
 ·have:=(h.ws i hi).sl;have:=(h.ws i hi).e1;have:=(h.ws i hi).tk;omega
 ·have:=(h.ws i hi).st.ln;omega
theorem RW{t n:Int}{x:EGS}(h:egW t n x):x.h.ev.length<=4294967296/\x.h.cl.length<=4294967296:=by
 have:=h.h.he;have:=h.h.hc;have hk:=h.k;exact⟨by omega,by omega⟩
end Go.Sh
namespace Go.Sh
open Go Go.Proofs
theorem lD{b:Bool}{x y:aC Mc}(hx:cO x=true)(hy:cO y=true):cO (bif b then x else y)=true:=by cases b<;>assumption
theorem TX(v:AVal)(hv:v.noV=true)(l:List AVal): ∀i,aL0 l=true->aL0 (l.set i v)=true:=by
 induction l with
 | nil=>intro i h;exact h
 | cons a l ih=>
   intro i h;obtain⟨h1,h2⟩:=Bool.and_eq_true_iff.1 h;cases i with
   | zero=>exact Bool.and_eq_true_iff.2 ⟨hv,h2⟩
   | succ i=>exact Bool.and_eq_true_iff.2 ⟨h1,ih i h2⟩
theorem aA8{A:Type}(h:aC A): ∀i,cO h=true->cO (h.set i none)=true:=by
 induction h with
 | nil=>intro i hh;exact hh
 | cons e h ih=>
   intro i hh;unfold cO at hh⊢;rw [List.all_cons,Bool.and_eq_true]at hh;cases i with
   | zero=>rw [List.set_cons_zero,List.all_cons,Bool.and_eq_true];exact⟨rfl,hh.2⟩
   | succ i=>rw [List.set_cons_succ,List.all_cons,Bool.and_eq_true];exact⟨hh.1,ih i hh.2⟩
theorem wY{A:Type}{E:uQ A}(h: ∀k x,(E.hd k x).noV =true)(ws:List E.X): ∀k,aL0 (fN E k ws)=true:=by
 induction ws with
 | nil=>intro k;rfl
 | cons w ws ih=>intro k;exact Bool.and_eq_true_iff.2 ⟨h _ _,ih _⟩
theorem zA{A:Type}{E:uQ A}(h: ∀x,(E.en x).noV =true)(ws:List E.X):cO (FC E ws)=true:=by
 induction ws with
 | nil=>rfl
 | cons w ws ih=>exact Bool.and_eq_true_iff.2 ⟨h _,ih⟩
theorem y9{A:Type}{E:uQ A}(h: ∀k x,(E.hd k x).noV =true)(h2: ∀x,(E.en x).noV =true)(ws:List E.X):cO (eI E ws)=true:=
 Bool.and_eq_true_iff.2 ⟨wY h ws 1,zA h2 ws⟩
theorem wZ{A:Type}{E:uQ A}(h: ∀k x,(E.hd k x).noV =true)(h2: ∀x,(E.en x).noV =true)(ws:List E.X)(i:Nat):cO (gI E ws i)=true:=by
 unfold gI cO;rw [List.all_cons,List.all_cons,Bool.and_eq_true,Bool.and_eq_true];refine⟨TX _ ?_ _ i (wY h ws 2),rfl,aA8 _ i (zA h2 ws)⟩;unfold hd1S;split
 ·exact h _ _
 ·rfl
theorem KY(t:Mc):cO (tbl t).2=true:=by
 cases t with
 | sweep t n y=>show cO (O7 t n y)=true;unfold O7;split<;>rfl
 | ensure t n e=>show cO (FQ t n e)=true;unfold FQ;split<;>rfl
 | find t n x=>show cO (wK t n x)=true;unfold wK;exact lD rfl rfl
 | fast t n x=>show cO (oC t n x)=true;unfold oC;exact lD rfl (lD rfl (lD rfl rfl))
 | help t n x=>show cO (kZ t n x)=true;unfold kZ;exact lD rfl (lD rfl (lD rfl (lD rfl (lD rfl rfl))))
 | doer t n x=>
   show cO (eS t n x)=true;unfold eS
   repeat' (first | apply lD | rfl)
 | worker w=>show cO (wkG w)=true;unfold wkG;exact lD rfl rfl
 | wrow ws=>exact y9 (E:=wkE) (fun _ _=>rfl) (fun _=>rfl) ws
 | whole ws i=>exact wZ (E:=wkE) (fun _ _=>rfl) (fun _=>rfl) ws i
 | srow ws=>exact y9 (E:=HR) (fun _ _=>rfl) (fun _=>rfl) ws
 | shole ws i=>exact wZ (E:=HR) (fun _ _=>rfl) (fun _=>rfl) ws i
 | _=>rfl
variable [c:Con]
def PN(a c:Int)(i:Nat):Int:=bif Nat.beq i 0 then a else c
def newLS:aI Ob:=fun args h=>match args,h with
 | [.agg [.int .i64 sh,.int .i64 th,.int .i64 nd,.int .i64 tr],.slice 0 0 n 1],[some (.cells [.slice 1 0 n1 2,.slice 2 0 n2 2]),some (.cells [.int .i64 p,.int .i64 q]),some (.cells [.int .i64 r,.int .i64 s])]=>some (.pre ((n=2/\n1=1/\n2=1)/\gnC sh th nd tr 2 (fun _=>1) (fun i _=>PN p r i) (fun i _=>PN q s i)=0)
    (.ret (.tup [.ptr 3 0,.I 0]) [cE' [.slice 1 0 1 2,.slice 2 0 1 2],cE' [.I p,.I q],cE' [.I r,.I s],some (.abs (.engine (oA sh th nd tr 2 (fun _=>1) (fun i _=>PN p r i) (fun i _=>PN q s i))) [])]))
 | _,_=>none
def vr2(p q r s:Int)(i:Nat):List AVal:=[.view 1 2 (fun _=>[.I (PN p r i),.I (PN q s i)])]
theorem aA6:sT' 25 newLS:=by
 intro args h o ho K hK;unfold newLS at ho;split at ho
 case h_2=>cases ho
 rename_i sh th nd tr n n1 n2 p q r s;cases ho;obtain⟨⟨⟨rfl,rfl,rfl⟩,hg⟩,hK⟩:=hK;have hK:K (.tup [.ptr 3 0,.I 0]) [cE' [.slice 1 0 1 2,.slice 2 0 1 2],cE' [.I p,.I q],cE' [.I r,.I s],some (.abs (.engine (oA sh th nd tr 2 (fun _=>1) (fun i _=>PN p r i) (fun i _=>PN q s i))) [])]:=hK;refine aMu (args2:=[.agg [.I sh,.I th,.I nd,.I tr],.view 2 1 (vr2 p q r s)]) KY (fun _=>false) ?_ ?_
 ·intro c' hc V l hm hr;obtain⟨v0,l0,rfl,r0,v1,l1,rfl,r1,r2⟩:=hr;refine⟨v0,_,rfl,Rep.con hc _ _ r0,v1,_,rfl,?_,r2⟩;obtain⟨p0,a1,a2⟩:=hm 0 _ rfl rfl;obtain⟨p1,b1,b2⟩:=hm 1 _ rfl rfl;obtain⟨p2,d1,d2⟩:=hm 2 _ rfl rfl;refine sM (Rep.con hc _ _ r1) a1 a2 ?_ (Nat.le_refl _);intro i hi;refine⟨rfl,fun rs h=>?_⟩
  match i,hi with
  | 0,_=>
    obtain⟨y,ys,rfl,y1,y2⟩:=h;refine⟨y,ys,rfl,?_,y2⟩
    have y3: @Rep c' V (.view 1 2 (fun _=>[.I p,.I q])) y:=sM y1 b1 b2 (fun j hj=>⟨rfl,fun rs h=>by
     match j,hj with
     | 0,_=>exact h
     | j+1,hj=>omega⟩) (Nat.le_refl _)
    exact y3
  | 1,_=>
    obtain⟨y,ys,rfl,y1,y2⟩:=h;refine⟨y,ys,rfl,?_,y2⟩
    have y3: @Rep c' V (.view 1 2 (fun _=>[.I r,.I s])) y:=sM y1 d1 d2 (fun j hj=>⟨rfl,fun rs h=>by
     match j,hj with
     | 0,_=>exact h
     | j+1,hj=>omega⟩) (Nat.le_refl _)
    exact y3
  | i+2,hi=>omega
 ·intro c'
  have h1:=@JT c' [.agg [.I sh,.I th,.I nd,.I tr],.view 2 1 (vr2 p q r s)] [] _ rfl (fun v g=>v=.tup [.ptr 0 0,.I 0]/\g=[some (.abs (.engine (oA sh th nd tr 2 (fun _=>1) (fun i _=>PN p r i) (fun i _=>PN q s i))) [])]) ⟨⟨by decide,⟨rfl⟩⟩,by
   show(rU sh th nd tr 2 (fun _=>1) (fun i _=>PN p r i) (fun i _=>PN q s i)).run _;unfold rU;rw [hg];exact⟨rfl,rfl⟩⟩
  refine aMc h1 [] rfl dS (fun l hl=>by cases hl) ?_ rfl ?_
  ·intro i l hi;simp at hi
  ·rintro v g ⟨rfl,rfl⟩ _;refine⟨rfl,rfl,?_,hK⟩;intro l hl hS
   match l,hl with
   | 0,_=>rfl
   | 1,_=>rfl
   | 2,_=>rfl
   | l+3,hl=>simp at hl;omega
end Go.Sh
namespace Go.Sh
open Go Go.Proofs
variable [Con]
def JU(m n:Nat)(ln:Nat->Nat):Bool:=bif ilt 10 (m:Int)then true else bif ilt 60 (n:Int)then true else(List.range m).any (fun i=>ilt 50 (ln i:Int))
structure gr1 (m:Nat) (ln:Nat->Nat) (x:Nat):Prop where
 hi:x<=m
 hl: ∀j,j<x->ilt 50 (ln j:Int)=false
def WX(m:Nat)(ln:Nat->Nat)(f g:Nat->Nat->Int):Hint Ob:= {X:=Nat,st:=fun x=>(List.replicate 17 .O ++ [EG m ln f g,.I (m:Int),.I (x:Int)]++List.replicate 7 .O,[]),ok:=gr1 m ln,mu:=fun x=>m - x,keep:=[17,18,19] }
def LGR(m:Nat)(ln:Nat->Nat)(f g:Nat->Nat->Int):FuncId->Nat->Option (mS Ob):=fun _ k=>match k with
 | 4=>some (.states (WX m ln f g))
 | _=>none
def Z9(sh th nd tr:Int)(m:Nat)(ln:Nat->Nat)(f g:Nat->Nat->Int)(n:Nat)(row:Nat->List AVal)(K:AVal->aC Ob->Prop):Prop:=bif ilt 10 (↑m:Int)then K (.bool true) []else bif ilt 60 (↑n:Int)then K (.bool true) []else dE (WX m ln f g) (Hint.ok (WX m ln f g)) (tO' 17 [(.view m 1 fun i=>[.view (ln i) 2 fun j=>[.I (f i j),.I (g i j)]]),.I (↑m:Int),.I 0,.O,.O,.O,.O,.O,.O,.O]) []/\ ∀(x:Nat),gr1 m ln x->bif ilt (↑x:Int) (↑m:Int)then((0:Int)<=(↑x:Int)/\(↑x:Int)<(↑m:Int))/\bif ilt 50 (↑(ln (Int.toNat (↑x:Int))):Int)then K (.bool true) []else dE (WX m ln f g) (fun x'=>Hint.ok (WX m ln f g) x'/\Hint.mu (WX m ln f g) x'<Hint.mu (WX m ln f g) x) (tO' 17 [(.view m 1 fun i=>[.view (ln i) 2 fun j=>[.I (f i j),.I (g i j)]]),.I (↑m:Int),.I (W ((↑x:Int)+1)),.O,.O,.O,.O,.O,.O,.O]) []else K (.bool false) []
theorem S0(sh th nd tr:Int)(m:Nat)(ln:Nat->Nat)(f g:Nat->Nat->Int)(n:Nat)(row:Nat->List AVal)(K:AVal->aC Ob->Prop)(h:Z9 sh th nd tr m ln f g n row K):cT' 23 [.agg [.I sh,.I th,.I nd,.I tr,EG m ln f g],.view n 2 row] [] (eJ 0 K):=by
 exact aD (E:=EUe) Tryz.checked.mixed (L:=LGR m ln f g) (n:=10) (aJ (by kernel_rfl) h)
abbrev aHX:List Code1:=[some .i64,none,some .i64,some .i64,some .i64,none,some .i64]
structure sm1 (ev:List (List Int)) (x:Nat):Prop where
 hi:x<=ev.length
def W5(y:HST)(ev:List (List Int)):Hint Ob:= {X:=Nat,st:=fun x=>([.ptr 0 0,.ptr 1 0,.O,.O,.O,.tslice 2 0 ev.length 7,.tslice 3 0 ev.length 7]++List.replicate 11 .O ++ [.I (ev.length:Int),.I (x:Int)]++List.replicate 12 .O,[some (.abs (.hist y) []),some (.abs (.hist y) []),some (.tab aHX ev),some (.tab aHX ev)]),ok:=sm1 ev,mu:=fun x=>ev.length - x,keep:=[0,1,5,6,18,19] }
def LSM(y:HST)(ev:List (List Int)):FuncId->Nat->Option (mS Ob):=fun _ k=>match k with
 | 5=>some (.states (W5 y ev))
 | _=>none
abbrev w3r(x:HST):Option (aG Ob):=some (.abs (.hist x) [])
def aBB(x:HST)(K:AVal->aC Ob->Prop):Prop:=x.1.length<=(4294967296:Nat)/\x.1.length<=(4294967296:Nat)/\bif !ieq (↑x.1.length:Int) (↑x.1.length:Int)then K (.bool false) [w3r x,w3r x]else dE (W5 x (HST.ev x)) (Hint.ok (W5 x (HST.ev x))) [.ptr 0 0,.ptr 1 0,.O,.O,.O,.tslice 2 0 x.1.length 7,.tslice 3 0 x.1.length 7,.O,.O,.O,.O,.O,.O,.O,.O,.O,.O,.O,.I (↑x.1.length:Int),.I 0,.O,.O,.O,.O,.O,.O,.O,.O,.O,.O,.O,.O] [w3r x,w3r x,some (.tab cK7 x.1),some (.tab cK7 x.1)]/\ ∀(x_1:Nat),sm1 x.1 x_1->bif ilt (↑x_1:Int) (↑x.1.length:Int)then((0:Int)<=(↑x_1:Int)/\(↑x_1:Int)<(↑x.1.length:Int))/\0+Int.toNat (↑x_1:Int)<x.1.length/\((0:Int)<=(↑x_1:Int)/\(↑x_1:Int)<(↑x.1.length:Int))/\0+Int.toNat (↑x_1:Int)<x.1.length/\bif !bif ieq (List.headD (List.getD x.1 (0+Int.toNat (↑x_1:Int)) []) 0) (List.headD (List.getD x.1 (0+Int.toNat (↑x_1:Int)) []) 0)then bif bif !ieq (List.headD (List.tail (List.getD x.1 (0+Int.toNat (↑x_1:Int)) [])) 0) 0 then !ieq (List.headD (List.tail (List.getD x.1 (0+Int.toNat (↑x_1:Int)) [])) 0) 0 else !!ieq (List.headD (List.tail (List.getD x.1 (0+Int.toNat (↑x_1:Int)) [])) 0) 0 then bif bif ieq (List.headD (List.tail (List.tail (List.getD x.1 (0+Int.toNat (↑x_1:Int)) []))) 0) (List.headD (List.tail (List.tail (List.getD x.1 (0+Int.toNat (↑x_1:Int)) []))) 0)then bif ieq (List.headD (List.tail (List.tail (List.tail (List.getD x.1 (0+Int.toNat (↑x_1:Int)) [])))) 0) (List.headD (List.tail (List.tail (List.tail (List.getD x.1 (0+Int.toNat (↑x_1:Int)) [])))) 0)then true else false else false then bif bif ieq (List.headD (List.tail (List.tail (List.tail (List.tail (List.getD x.1 (0+Int.toNat (↑x_1:Int)) []))))) 0) (List.headD (List.tail (List.tail (List.tail (List.tail (List.getD x.1 (0+Int.toNat (↑x_1:Int)) []))))) 0)then bif bif !ieq (List.headD (List.tail (List.tail (List.tail (List.tail (List.tail (List.getD x.1 (0+Int.toNat (↑x_1:Int)) [])))))) 0) 0 then !ieq (List.headD (List.tail (List.tail (List.tail (List.tail (List.tail (List.getD x.1 (0+Int.toNat (↑x_1:Int)) [])))))) 0) 0 else !!ieq (List.headD (List.tail (List.tail (List.tail (List.tail (List.tail (List.getD x.1 (0+Int.toNat (↑x_1:Int)) [])))))) 0) 0 then bif ieq (List.headD (List.tail (List.tail (List.tail (List.tail (List.tail (List.tail (List.getD x.1 (0+Int.toNat (↑x_1:Int)) []))))))) 0) (List.headD (List.tail (List.tail (List.tail (List.tail (List.tail (List.tail (List.getD x.1 (0+Int.toNat (↑x_1:Int)) []))))))) 0)then true else false else false else false then true else false else false else false else false then K (.bool false) [w3r x,w3r x]else dE (W5 x (HST.ev x)) (fun x'=>Hint.ok (W5 x (HST.ev x)) x'/\Hint.mu (W5 x (HST.ev x)) x'<Hint.mu (W5 x (HST.ev x)) x_1) [.ptr 0 0,.ptr 1 0,.O,.O,.O,.tslice 2 0 x.1.length 7,.tslice 3 0 x.1.length 7,.O,.O,.O,.O,.O,.O,.O,.O,.O,.O,.O,.I (↑x.1.length:Int),.I (W ((↑x_1:Int)+1)),.O,.O,.O,.O,.O,.O,.O,.O,.O,.O,.O,.O] [w3r x,w3r x,some (.tab cK7 x.1),some (.tab cK7 x.1)]else K (.bool true) [w3r x,w3r x]
theorem VC(x:HST)(K:AVal->aC Ob->Prop)(h:aBB x K):cT' 99 [.ptr 0 0,.ptr 1 0] [some (.abs (.hist x) []),some (.abs (.hist x) [])] (eJ 2 K):=by
 exact aD (E:=EUe) Tryz.checked.mixed (L:=LSM x x.ev) (n:=10) (aJ (by kernel_rfl) h)
theorem aE8{m n:Nat}{ln:Nat->Nat}(h:ilt 10 (m:Int)=true):JU m n ln=true:=by unfold JU;rw [h];rfl
theorem aFa{m n:Nat}{ln:Nat->Nat}(h:ilt 10 (m:Int)=false)(h2:ilt 60 (n:Int)=true):JU m n ln=true:=by unfold JU;rw [h,h2];rfl
theorem aE9{m n:Nat}{ln:Nat->Nat}(h:ilt 10 (m:Int)=false)(h2:ilt 60 (n:Int)=false){i:Nat}(hi:i<m)(h3:ilt 50 (ln i:Int)=true):JU m n ln=true:=by
 unfold JU;rw [h,h2];exact List.any_eq_true.2 ⟨i,List.mem_range.2 hi,h3⟩
theorem aFb{m n:Nat}{ln:Nat->Nat}(h:ilt 10 (m:Int)=false)(h2:ilt 60 (n:Int)=false)(h3: ∀i,i<m->ilt 50 (ln i:Int)=false):JU m n ln=false:=by
 unfold JU;rw [h,h2];show(List.range m).any _=false;rw [List.any_eq_false];intro i hi;rw [h3 i (List.mem_range.1 hi)];simp
theorem aIe{m n:Nat}{ln:Nat->Nat}(h:JU m n ln=false):m<=10/\n<=60:=by
 unfold JU at h;cases h1:ilt 10 (m:Int)with
 | true=>rw [h1]at h;cases h
 | false=>
   cases h2:ilt 60 (n:Int)with
   | true=>rw [h1,h2]at h;cases h
   | false=>have:=f8 h1;have:=f8 h2;omega
theorem aIf(sh th nd tr:Int)(m:Nat)(ln:Nat->Nat)(f g:Nat->Nat->Int)(n:Nat)(row:Nat->List AVal)(K:AVal->aC Ob->Prop)(hK:K (.bool (JU m n ln)) []):Z9 sh th nd tr m ln f g n row K:=by
 have key: ∀c,JU m n ln=c->K (.bool c) []:=fun c e=>by rw [<-e];exact hK
 unfold Z9;refine aT (fun e1=>key true (aE8 e1)) (fun e1=>?_);refine aT (fun e2=>key true (aFa e1 e2)) (fun e2=>?_);have m10:=f8 e1;refine⟨aR (H:=WX m ln f g) (0:Nat) rfl ⟨Nat.zero_le _,fun j hj=>absurd hj (Nat.not_lt_zero _)⟩,?_⟩;rintro x ⟨hx,ac⟩;refine aT (fun a1=>?_) (fun a1=>?_)
 ·have a1:=f9 a1;have aa:x<m:=by omega
  rw [Int.toNat_natCast];refine⟨⟨by omega,by omega⟩,aT (fun a2=>key true (aE9 e1 e2 aa a2)) (fun a2=>?_)⟩
  rw [W1 aa omz];refine aR (H:=WX m ln f g) (x+1:Nat) rfl ⟨⟨aa,fun j hj=>?_⟩,by show m - (x+1)<m - x;omega⟩
  by_cases e:j=x
  ·subst e;exact a2
  ·exact ac j omz
 ·have a1:=f8 a1;exact key false (aFb e1 e2 (fun i hi=>ac i omz))
def grS:aI Ob:=fun args h=>match args,h with
 | [.agg [.int .i64 sh,.int .i64 th,.int .i64 nd,.int .i64 tr,.view m 1 vr],.view n 2 row],[]=>some (.pre (fX vr) (.ret (.bool (JU m n (vL vr))) []))
 | _,_=>none
theorem aCs:sT' 23 grS:=by
 intro args h o ho K hK;unfold grS at ho;split at ho
 case h_2=>cases ho
 rename_i sh th nd tr m vr n row;cases ho;obtain⟨⟨hr⟩,hK⟩:=hK;rw [hr];exact aLw (S0 sh th nd tr m (vL vr) (vK vr) (vY vr) n row K (aIf sh th nd tr m (vL vr) (vK vr) (vY vr) n row K hK))
theorem TF(a:Int):ieq a a=true:=by rw [cI];exact decide_eq_true rfl
theorem W2{i:Nat}{m:Nat}(hi:i<m)(hm:m<=4294967296):W ((i:Int)+1)=((i+1:Nat):Int):=by
 have:=cG (x:=(i:Int)+1) ⟨by omega,by omega⟩
 exact this.trans omz
theorem aDD(b:Bool):(bif b then b else !b)=true:=by cases b<;>rfl
theorem aI0(x:HST)(K:AVal->aC Ob->Prop)(hl:x.ev.length<=4294967296)(hK:K (.bool true) [some (.abs (.hist x) []),some (.abs (.hist x) [])]):aBB x K:=by
 unfold aBB;refine⟨hl,hl,?_⟩;rw [TF];refine⟨aR (H:=W5 x x.ev) (0:Nat) rfl ⟨Nat.zero_le _⟩,?_⟩;rintro i ⟨hi⟩;refine aT (fun a1=>?_) (fun a1=>hK);have a1:=f9 a1;have aa:i<x.ev.length:=by omega
 refine⟨⟨by omega,a1⟩,by show 0+Int.toNat ((i:Nat):Int)<_;rw [Int.toNat_natCast];omega,⟨by omega,a1⟩,by show 0+Int.toNat ((i:Nat):Int)<_;rw [Int.toNat_natCast];omega,?_⟩
 simp only [TF,aDD,cond_true,Bool.not_true,cond_false];rw [W2 aa hl];exact aR (H:=W5 x x.ev) (i+1:Nat) rfl ⟨⟨aa⟩,by show x.ev.length - (i+1)<x.ev.length - i;omega⟩
end Go.Sh
