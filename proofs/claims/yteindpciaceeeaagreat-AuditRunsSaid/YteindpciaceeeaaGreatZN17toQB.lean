import Derived.RangeFuncLeaves
import Derived.Test.YteindpciaceeeaaGreatZSh30
set_option linter.all false
set_option maxHeartbeats 8000000
namespace Go.Sh
open Go Go.Proofs
variable [Con]
abbrev w3j(x:HST):Option (aG Ob):=cE' [.tslice 1 0 x.ev.length 7,.tslice 2 0 x.cl.length 9,.I x.n0,.I x.n1,.I x.n2,.I x.n3,.I x.n4,.I x.n5,.I x.n6,.I x.n7]
abbrev w3k(x:HST):Option (aG Ob):=some (.abs (.hist x) [])
theorem aJG(x:HST):aE (obI tbl) 1 (.tslice 3 0 x.ev.length 7) [w3j x,some (.tab cK7 x.ev),some (.tab cK9 x.cl),some (.tab cK7 x.ev)] (.tslice 1 0 x.ev.length 7) [w3k x,some (.tab cK7 x.ev)]:=by
 exact((aE.move 1 (of_decide_eq_true rfl)).trans ((aE.move 2 (of_decide_eq_true rfl)).trans ((aLh (v2:=.tslice 3 0 x.ev.length 7) (g2:=aP [w3k x,none,none,some (.tab cK7 x.ev)] 0 0 (BC x) []) (by kernel_rfl) (by kernel_rfl)).trans ((aE.pack [w3k x,none,none,some (.tab cK7 x.ev)] (.hist x) 0 0 (BC x) [] rfl rfl rfl (by kernel_rfl)).trans (aE.pick [0,3] rfl)))))
abbrev w3l(x:HST):Option (aG Ob):=cE' [.tslice 1 0 x.1.length 7,.tslice 2 0 x.2.length 9,.I x.3,.I x.4,.I x.5,.I x.6,.I x.7,.I x.8,.I x.9,.I x.10]
def aH8(x:HST)(K:AVal->aB Ob->Prop):Prop:= ∀(b:Bool),(b=true->x.1.length=0)->bif b then K (.raw (Value.slice none 0 0)) [w3l x,some (.tab cK7 x.1),some (.tab cK9 x.2)]else(0+x.1.length<=x.1.length/\x.1.length<=(4294967296:Nat))/\K (.tslice 3 0 x.1.length 7) [w3l x,some (.tab cK7 x.1),some (.tab cK9 x.2),some (.tab cK7 (List.take x.1.length (List.drop 0 x.1)))]
theorem SW(x:HST)(K:AVal->aB Ob->Prop)(h:aH8 x K):cT' 29 [.ptr 0 0] [cE' [.tslice 1 0 x.ev.length 7,.tslice 2 0 x.cl.length 9,.I x.n0,.I x.n1,.I x.n2,.I x.n3,.I x.n4,.I x.n5,.I x.n6,.I x.n7],some (.tab cK7 x.ev),some (.tab cK9 x.cl)] (d9 1 K):=by
 exact cM' (E:=EU6) (by kernel_rfl) h
def hvS:aI Ob:=fun args h=>match args,h with
 | [.ptr 0 0],[some (.abs (.hist x) [])]=>some (.pre (x.ev.length<=4294967296) (.ret (.tslice 1 0 x.ev.length 7) [some (.abs (.hist x) []),some (.tab cK7 x.ev)]))
 | _,_=>none
theorem aH9:sT' 29 hvS:=by
 intro args h o ho K g;unfold hvS at ho;split at ho<;>cases ho
 rename_i x;obtain⟨hl,g⟩:=g;have g:K (.tslice 1 0 x.ev.length 7) [some (.abs (.hist x) []),some (.tab cK7 x.ev)]:=g;refine aLi ?_;refine aLc (h2:=[cE' [.tslice 1 0 x.ev.length 7,.tslice 2 0 x.cl.length 9,.I x.n0,.I x.n1,.I x.n2,.I x.n3,.I x.n4,.I x.n5,.I x.n6,.I x.n7],some (.tab cK7 x.ev),some (.tab cK9 x.cl)]) (aR.unpack (.hist x) 0 0 (BC x) [] rfl rfl rfl rfl) ?_;have ht:=aJG x;refine aA.keep (SW x _ ?_);intro b hb;refine aL (fun e=>?_) (fun e=>?_)
 ·have he:x.ev=[]:=List.length_eq_zero_iff.1 (hb e);rw [he]at ht g;rw [he];exact⟨⟨_,_,(aE.cast (cs:=[(.slot 0,.tab cK7)]) rfl).trans ht,g⟩⟩
 ·have he:List.take x.ev.length (List.drop 0 x.ev)=x.ev:=by simp
  rw [he];exact⟨⟨by omega,hl⟩,⟨⟨_,_,ht,g⟩⟩⟩
theorem aJB(x:HST):aE (obI tbl) 1 (.tslice 3 0 x.cl.length 9) [w3j x,some (.tab cK7 x.ev),some (.tab cK9 x.cl),some (.tab cK9 x.cl)] (.tslice 1 0 x.cl.length 9) [w3k x,some (.tab cK9 x.cl)]:=by
 exact((aE.move 1 (of_decide_eq_true rfl)).trans ((aE.move 2 (of_decide_eq_true rfl)).trans ((aLh (v2:=.tslice 3 0 x.cl.length 9) (g2:=aP [w3k x,none,none,some (.tab cK9 x.cl)] 0 0 (BC x) []) (by kernel_rfl) (by kernel_rfl)).trans ((aE.pack [w3k x,none,none,some (.tab cK9 x.cl)] (.hist x) 0 0 (BC x) [] rfl rfl rfl (by kernel_rfl)).trans (aE.pick [0,3] rfl)))))
def aHX(x:HST)(K:AVal->aB Ob->Prop):Prop:= ∀(b:Bool),(b=true->x.2.length=0)->bif b then K (.raw (Value.slice none 0 0)) [w3l x,some (.tab cK7 x.1),some (.tab cK9 x.2)]else(0+x.2.length<=x.2.length/\x.2.length<=(4294967296:Nat))/\K (.tslice 3 0 x.2.length 9) [w3l x,some (.tab cK7 x.1),some (.tab cK9 x.2),some (.tab cK9 (List.take x.2.length (List.drop 0 x.2)))]
theorem SK(x:HST)(K:AVal->aB Ob->Prop)(h:aHX x K):cT' 49 [.ptr 0 0] [cE' [.tslice 1 0 x.ev.length 7,.tslice 2 0 x.cl.length 9,.I x.n0,.I x.n1,.I x.n2,.I x.n3,.I x.n4,.I x.n5,.I x.n6,.I x.n7],some (.tab cK7 x.ev),some (.tab cK9 x.cl)] (d9 1 K):=by
 exact cM' (E:=EU6) (by kernel_rfl) h
def hcS:aI Ob:=fun args h=>match args,h with
 | [.ptr 0 0],[some (.abs (.hist x) [])]=>some (.pre (x.cl.length<=4294967296) (.ret (.tslice 1 0 x.cl.length 9) [some (.abs (.hist x) []),some (.tab cK9 x.cl)]))
 | _,_=>none
theorem aHY:sT' 49 hcS:=by
 intro args h o ho K g;unfold hcS at ho;split at ho<;>cases ho
 rename_i x;obtain⟨hl,g⟩:=g;have g:K (.tslice 1 0 x.cl.length 9) [some (.abs (.hist x) []),some (.tab cK9 x.cl)]:=g;refine aLi ?_;refine aLc (h2:=[cE' [.tslice 1 0 x.ev.length 7,.tslice 2 0 x.cl.length 9,.I x.n0,.I x.n1,.I x.n2,.I x.n3,.I x.n4,.I x.n5,.I x.n6,.I x.n7],some (.tab cK7 x.ev),some (.tab cK9 x.cl)]) (aR.unpack (.hist x) 0 0 (BC x) [] rfl rfl rfl rfl) ?_;have ht:=aJB x;refine aA.keep (SK x _ ?_);intro b hb;refine aL (fun e=>?_) (fun e=>?_)
 ·have he:x.cl=[]:=List.length_eq_zero_iff.1 (hb e);rw [he]at ht g;rw [he];exact⟨⟨_,_,(aE.cast (cs:=[(.slot 0,.tab cK9)]) rfl).trans ht,g⟩⟩
 ·have he:List.take x.cl.length (List.drop 0 x.cl)=x.cl:=by simp
  rw [he];exact⟨⟨by omega,hl⟩,⟨⟨_,_,ht,g⟩⟩⟩
def aB7(x:HST)(K:AVal->aB Ob->Prop):Prop:= ∀(b:Bool),(b=true->x.1.length=0)->bif b then K (.raw (Value.slice none 0 0)) [w3l x,some (.tab cK7 x.1),some (.tab cK9 x.2)]else(0+x.1.length<=x.1.length/\x.1.length<=(4294967296:Nat))/\K (.tslice 3 0 x.1.length 7) [w3l x,some (.tab cK7 x.1),some (.tab cK9 x.2),some (.tab cK7 (List.take x.1.length (List.drop 0 x.1)))]
theorem NR(x:HST)(K:AVal->aB Ob->Prop)(h:aB7 x K):cT' 29 [.ptr 0 0] [cE' [.tslice 1 0 x.ev.length 7,.tslice 2 0 x.cl.length 9,.I x.n0,.I x.n1,.I x.n2,.I x.n3,.I x.n4,.I x.n5,.I x.n6,.I x.n7],some (.tab cK7 x.ev),some (.tab cK9 x.cl)] (d9 3 K):=by
 exact cM' (E:=EU6) (by kernel_rfl) h
def hvoS:aI Ob:=fun args h=>match args,h with
 | [.ptr 0 0],[some (.cells [.tslice 1 0 a 7,.tslice 2 0 b 9,.int .i64 n0,.int .i64 n1,.int .i64 n2,.int .i64 n3,.int .i64 n4,.int .i64 n5,.int .i64 n6,.int .i64 n7]),some (.tab [some .i64,none,some .i64,some .i64,some .i64,none,some .i64] ev),some (.tab [some .i64,some .i64,some .i64,some .i64,some .i64,some .i64,some .i64,none,some .i64] cl)]=>some (.pre ((a=ev.length/\b=cl.length)/\ev.length<=4294967296) (.ret (.tslice 3 0 ev.length 7) ([cE' [.tslice 1 0 a 7,.tslice 2 0 b 9,.I n0,.I n1,.I n2,.I n3,.I n4,.I n5,.I n6,.I n7],some (.tab cK7 ev),some (.tab cK9 cl)]++ [some (.tab cK7 ev)])))
 | _,_=>none
theorem aFd:sT' 29 hvoS:=by
 intro args h o ho K g;unfold hvoS at ho;split at ho<;>cases ho
 rename_i a b n0 n1 n2 n3 n4 n5 n6 n7 ev cl;obtain⟨⟨⟨rfl,rfl⟩,hl⟩,g⟩:=g;have g:K (.tslice 3 0 ev.length 7) ([cE' [.tslice 1 0 ev.length 7,.tslice 2 0 cl.length 9,.I n0,.I n1,.I n2,.I n3,.I n4,.I n5,.I n6,.I n7],some (.tab cK7 ev),some (.tab cK9 cl)]++ [some (.tab cK7 ev)]):=g;refine aLi (aA.keep (NR ⟨ev,cl,n0,n1,n2,n3,n4,n5,n6,n7⟩ _ ?_));intro b hb;refine aL (fun e=>?_) (fun e=>?_)
 ·have he:ev=[]:=List.length_eq_zero_iff.1 (hb e);subst he;exact⟨⟨_,_,(aE.cast (cs:=[(.slot 0,.tab cK7)]) rfl),g⟩⟩
 ·have he:List.take ev.length (List.drop 0 ev)=ev:=by simp
  rw [he];exact⟨⟨by omega,hl⟩,⟨⟨_,_,aE.cast (cs:=[]) rfl,g⟩⟩⟩
def aB1(x:HST)(K:AVal->aB Ob->Prop):Prop:= ∀(b:Bool),(b=true->x.2.length=0)->bif b then K (.raw (Value.slice none 0 0)) [w3l x,some (.tab cK7 x.1),some (.tab cK9 x.2)]else(0+x.2.length<=x.2.length/\x.2.length<=(4294967296:Nat))/\K (.tslice 3 0 x.2.length 9) [w3l x,some (.tab cK7 x.1),some (.tab cK9 x.2),some (.tab cK9 (List.take x.2.length (List.drop 0 x.2)))]
theorem NB(x:HST)(K:AVal->aB Ob->Prop)(h:aB1 x K):cT' 49 [.ptr 0 0] [cE' [.tslice 1 0 x.ev.length 7,.tslice 2 0 x.cl.length 9,.I x.n0,.I x.n1,.I x.n2,.I x.n3,.I x.n4,.I x.n5,.I x.n6,.I x.n7],some (.tab cK7 x.ev),some (.tab cK9 x.cl)] (d9 3 K):=by
 exact cM' (E:=EU6) (by kernel_rfl) h
def hcoS:aI Ob:=fun args h=>match args,h with
 | [.ptr 0 0],[some (.cells [.tslice 1 0 a 7,.tslice 2 0 b 9,.int .i64 n0,.int .i64 n1,.int .i64 n2,.int .i64 n3,.int .i64 n4,.int .i64 n5,.int .i64 n6,.int .i64 n7]),some (.tab [some .i64,none,some .i64,some .i64,some .i64,none,some .i64] ev),some (.tab [some .i64,some .i64,some .i64,some .i64,some .i64,some .i64,some .i64,none,some .i64] cl)]=>some (.pre ((a=ev.length/\b=cl.length)/\cl.length<=4294967296) (.ret (.tslice 3 0 cl.length 9) ([cE' [.tslice 1 0 a 7,.tslice 2 0 b 9,.I n0,.I n1,.I n2,.I n3,.I n4,.I n5,.I n6,.I n7],some (.tab cK7 ev),some (.tab cK9 cl)]++ [some (.tab cK9 cl)])))
 | _,_=>none
theorem aEM:sT' 49 hcoS:=by
 intro args h o ho K g;unfold hcoS at ho;split at ho<;>cases ho
 rename_i a b n0 n1 n2 n3 n4 n5 n6 n7 ev cl;obtain⟨⟨⟨rfl,rfl⟩,hl⟩,g⟩:=g;have g:K (.tslice 3 0 cl.length 9) ([cE' [.tslice 1 0 ev.length 7,.tslice 2 0 cl.length 9,.I n0,.I n1,.I n2,.I n3,.I n4,.I n5,.I n6,.I n7],some (.tab cK7 ev),some (.tab cK9 cl)]++ [some (.tab cK9 cl)]):=g;refine aLi (aA.keep (NB ⟨ev,cl,n0,n1,n2,n3,n4,n5,n6,n7⟩ _ ?_));intro b hb;refine aL (fun e=>?_) (fun e=>?_)
 ·have he:cl=[]:=List.length_eq_zero_iff.1 (hb e);subst he;exact⟨⟨_,_,(aE.cast (cs:=[(.slot 0,.tab cK9)]) rfl),g⟩⟩
 ·have he:List.take cl.length (List.drop 0 cl)=cl:=by simp
  rw [he];exact⟨⟨by omega,hl⟩,⟨⟨_,_,aE.cast (cs:=[]) rfl,g⟩⟩⟩
def hvN:cV Ob:=fun args h=>match args,h with
 | [.ptr 0 0],[some (.abs (.hist x) [])]=>some (x.ev.length<=4294967296,.tslice 1 0 x.ev.length 7,[.tab cK7 x.ev])
 | _,_=>none
theorem aFb:sT' 29 hvN.spec:=by
 intro args h o ho K g;refine aH9 args h o ?_ K g;rw [<-ho];unfold hvS cV.spec hvN;split<;>rfl
def aFc:cV Ob:=fun args h=>match args,h with
 | [.ptr 0 0],[some (.cells [.tslice 1 0 a 7,.tslice 2 0 b 9,.int .i64 n0,.int .i64 n1,.int .i64 n2,.int .i64 n3,.int .i64 n4,.int .i64 n5,.int .i64 n6,.int .i64 n7]),some (.tab [some .i64,none,some .i64,some .i64,some .i64,none,some .i64] ev),some (.tab [some .i64,some .i64,some .i64,some .i64,some .i64,some .i64,some .i64,none,some .i64] cl)]=>some ((a=ev.length/\b=cl.length)/\ev.length<=4294967296,.tslice 3 0 ev.length 7,[.tab cK7 ev])
 | _,_=>none
theorem aAz:sT' 29 aFc.spec:=by
 intro args h o ho K g;refine aFd args h o ?_ K g;rw [<-ho];unfold hvoS cV.spec aFc;split<;>rfl
def hcN:cV Ob:=fun args h=>match args,h with
 | [.ptr 0 0],[some (.abs (.hist x) [])]=>some (x.cl.length<=4294967296,.tslice 1 0 x.cl.length 9,[.tab cK9 x.cl])
 | _,_=>none
theorem aEK:sT' 49 hcN.spec:=by
 intro args h o ho K g;refine aHY args h o ?_ K g;rw [<-ho];unfold hcS cV.spec hcN;split<;>rfl
def aEL:cV Ob:=fun args h=>match args,h with
 | [.ptr 0 0],[some (.cells [.tslice 1 0 a 7,.tslice 2 0 b 9,.int .i64 n0,.int .i64 n1,.int .i64 n2,.int .i64 n3,.int .i64 n4,.int .i64 n5,.int .i64 n6,.int .i64 n7]),some (.tab [some .i64,none,some .i64,some .i64,some .i64,none,some .i64] ev),some (.tab [some .i64,some .i64,some .i64,some .i64,some .i64,some .i64,some .i64,none,some .i64] cl)]=>some ((a=ev.length/\b=cl.length)/\cl.length<=4294967296,.tslice 3 0 cl.length 9,[.tab cK9 cl])
 | _,_=>none
theorem Z4:sT' 49 aEL.spec:=by
 intro args h o ho K g;refine aEM args h o ?_ K g;rw [<-ho];unfold hcoS cV.spec aEL;split<;>rfl
noncomputable def EU7:=(EU6.addN 29 (cV.or hvN aFc) (aMb aFb aAz)).addN 49 (cV.or hcN aEL) (aMb aEK Z4)
abbrev w3m(x:HST):Option (aG Ob):=cE' [.tslice 4 0 x.ev.length 7,.tslice 5 0 x.cl.length 9,.I x.n0,.I x.n1,.I x.n2,.I x.n3,.I x.n4,.I x.n5,.I x.n6,.I x.n7]
abbrev w3n(x:HST):Option (aG Ob):=some (.abs (.hist x) [])
theorem aHZ(x:HST):aE (obI tbl) 1 (.ptr 3 0) [cE' [.tslice 1 0 x.ev.length 7,.tslice 2 0 x.cl.length 9,.I x.n0,.I x.n1,.I x.n2,.I x.n3,.I x.n4,.I x.n5,.I x.n6,.I x.n7],some (.tab cK7 x.ev),some (.tab cK9 x.cl),w3m x,some (.tab cK7 x.ev),some (.tab cK9 x.cl)] (.ptr 1 0) [w3n x,w3n x]:=by
 exact((aE.move 1 (of_decide_eq_true rfl)).trans ((aE.move 2 (of_decide_eq_true rfl)).trans ((aLh (v2:=.ptr 3 0) (g2:=aP [w3n x,none,none,w3m x,some (.tab cK7 x.ev),some (.tab cK9 x.cl)] 0 0 (BC x) []) (by kernel_rfl) (by kernel_rfl)).trans ((aE.pack [w3n x,none,none,w3m x,some (.tab cK7 x.ev),some (.tab cK9 x.cl)] (.hist x) 0 0 (BC x) [] rfl rfl rfl (by kernel_rfl)).trans ((aE.move 4 (of_decide_eq_true rfl)).trans ((aE.move 5 (of_decide_eq_true rfl)).trans ((aLh (v2:=.ptr 3 0) (g2:=aP [w3n x,none,none,w3n x,none,none] 3 0 (BC x) []) (by kernel_rfl) (by kernel_rfl)).trans ((aE.pack [w3n x,none,none,w3n x,none,none] (.hist x) 3 0 (BC x) [] rfl rfl rfl (by kernel_rfl)).trans (aE.pick [0,3] rfl)))))))))
def aB2(x:HST)(K:AVal->aB Ob->Prop):Prop:=((lE' x.1/\lE' x.2)/\x.1.length<=(4294967296:Nat))/\((lE' x.1/\lE' x.2)/\x.2.length<=(4294967296:Nat))/\K (.ptr 3 0) [cE' [.tslice 1 0 x.1.length 7,.tslice 2 0 x.2.length 9,.I x.3,.I x.4,.I x.5,.I x.6,.I x.7,.I x.8,.I x.9,.I x.10],some (.tab cK7 x.1),some (.tab cK9 x.2),cE' [.tslice 4 0 x.1.length 7,.tslice 5 0 x.2.length 9,.I x.3,.I x.4,.I x.5,.I x.6,.I x.7,.I x.8,.I x.9,.I x.10],some (.tab cK7 x.1),some (.tab cK9 x.2)]
theorem NC(x:HST)(K:AVal->aB Ob->Prop)(h:aB2 x K):cT' 86 [.ptr 0 0] [cE' [.tslice 1 0 x.ev.length 7,.tslice 2 0 x.cl.length 9,.I x.n0,.I x.n1,.I x.n2,.I x.n3,.I x.n4,.I x.n5,.I x.n6,.I x.n7],some (.tab cK7 x.ev),some (.tab cK9 x.cl)] (d9 1 K):=by
 exact cM' (E:=EU7) (by kernel_rfl) h
def hcpS:aI Ob:=fun args h=>match args,h with
 | [.ptr 0 0],[some (.abs (.hist x) [])]=>some (.pre (x.ev.length<=4294967296/\x.cl.length<=4294967296) (.ret (.ptr 1 0) [some (.abs (.hist x) []),some (.abs (.hist x) [])]))
 | _,_=>none
theorem aEN:sT' 86 hcpS:=by
 intro args h o ho K g;unfold hcpS at ho;split at ho<;>cases ho
 rename_i x;obtain⟨⟨h1,h2⟩,g⟩:=g;have g:K (.ptr 1 0) [some (.abs (.hist x) []),some (.abs (.hist x) [])]:=g;refine aLi ?_;refine aLc (h2:=[cE' [.tslice 1 0 x.ev.length 7,.tslice 2 0 x.cl.length 9,.I x.n0,.I x.n1,.I x.n2,.I x.n3,.I x.n4,.I x.n5,.I x.n6,.I x.n7],some (.tab cK7 x.ev),some (.tab cK9 x.cl)]) (aR.unpack (.hist x) 0 0 (BC x) [] rfl rfl rfl rfl) ?_;refine(aA.keep (NC x _ ?_));exact⟨⟨⟨rfl,rfl⟩,h1⟩,⟨⟨rfl,rfl⟩,h2⟩,⟨⟨_,_,aHZ x,g⟩⟩⟩
noncomputable def EU8:=EU7.addS 86 hcpS aEN
abbrev w3o(x:EGS):Option (aG Ob):=some (.abs (.hist x.h) [])
theorem aHr(x:EGS):aE (obI tbl) 1 (.ptr 5 0) [cE' [.I x.sh,.I x.th,.I x.nd,.I x.tr,.ptr 1 0,.ptr 3 0,.slice 4 0 x.ws.length 1,.I x.k],bF 2 x.s,bG x.s,w3o x,some (.abs (.wrow x.ws) []),w3o x] (.ptr 1 0) [some (.abs (.engine x) []),w3o x]:=by
 exact((aE.move 1 (of_decide_eq_true rfl)).trans ((aE.move 2 (of_decide_eq_true rfl)).trans ((aE.move 3 (of_decide_eq_true rfl)).trans ((aE.move 4 (of_decide_eq_true rfl)).trans ((aLh (v2:=.ptr 5 0) (g2:=aP [some (.abs (.engine x) []),none,none,none,none,w3o x] 0 0 (egG x) []) (by kernel_rfl) (by kernel_rfl)).trans ((aE.pack [some (.abs (.engine x) []),none,none,none,none,w3o x] (.engine x) 0 0 (egG x) [] rfl rfl rfl (by kernel_rfl)).trans (aE.pick [0,5] rfl)))))))
abbrev w3p(x:EGS):Option (aG Ob):=cE' [.I (EGS.s x).1,.I (EGS.s x).2,.slice 2 0 (List.length (EGS.s x).3) 1,.I (EGS.s x).4,.I (EGS.s x).5,.I (EGS.s x).6,.int .u64 (EGS.s x).7,.int .u64 (EGS.s x).8,.bool (EGS.s x).9]
abbrev w3q(x:EGS):Option (aG Ob):=cE' [.I x.1,.I x.2,.I x.3,.I x.4,.ptr 1 0,.ptr 3 0,.slice 4 0 x.7.length 1,.I x.8]
def aBU(x:EGS)(K:AVal->aB Ob->Prop):Prop:=(List.length (EGS.h x).1<=(4294967296:Nat)/\List.length (EGS.h x).2<=(4294967296:Nat))/\K (.ptr 5 0) [w3q x,w3p x,some (.ints (some .u64) (EGS.s x).3),some (.abs (.hist x.6) []),some (.abs (.wrow x.7) []),some (.abs (.hist x.6) [])]
theorem L5(x:EGS)(K:AVal->aB Ob->Prop)(h:aBU x K):cT' 28 [.ptr 0 0] (egG x) (d9 1 K):=by
 exact cM' (E:=EU8) (by kernel_rfl) h
noncomputable def EI:=(EU2.addS 110 kyS aCa).addS 111 srS aCs
theorem RK(x:EGS)(ys:List Int):aE (obI tbl) 1 (.slice 5 0 ys.length 1) [cE' [.I x.sh,.I x.th,.I x.nd,.I x.tr,.ptr 1 0,.ptr 3 0,.slice 4 0 x.ws.length 1,.I x.k],bF 2 x.s,bG x.s,some (.abs (.hist x.h) []),some (.abs (.wrow x.ws) []),iI' ys] (.slice 1 0 ys.length 1) [some (.abs (.engine x) []),iI' ys]:=by
 exact((aE.move 1 (of_decide_eq_true rfl)).trans ((aE.move 2 (of_decide_eq_true rfl)).trans ((aE.move 3 (of_decide_eq_true rfl)).trans ((aE.move 4 (of_decide_eq_true rfl)).trans ((aLh (v2:=.slice 5 0 ys.length 1) (g2:=aP [some (.abs (.engine x) []),none,none,none,none,iI' ys] 0 0 (egG x) []) (by kernel_rfl) (by kernel_rfl)).trans ((aE.pack [some (.abs (.engine x) []),none,none,none,none,iI' ys] (.engine x) 0 0 (egG x) [] rfl rfl rfl (by kernel_rfl)).trans (aE.pick [0,5] rfl)))))))
def RI(x:EGS)(K:AVal->aB Ob->Prop):Prop:=bif ieq x.1 3 then((lE' (EGS.s x).3/\((0:Int)<=(EGS.s x).2/\(EGS.s x).2<=(100000:Int))/\(-1000000:Int)<=(0:Int)/\(0:Int)<=(1000000:Int))/\True)/\K (.slice 5 0 (List.length (keyF (EGS.s x).3 (EGS.s x).2 0)) 1) [w3q x,w3p x,some (.ints (some .u64) (EGS.s x).3),some (.abs (.hist x.6) []),some (.abs (.wrow x.7) []),iI' (keyF (EGS.s x).3 (EGS.s x).2 0)]else bif ieq x.1 4 then((lE' (EGS.s x).3/\((0:Int)<=(EGS.s x).2/\(EGS.s x).2<=(100000:Int))/\(-1000000:Int)<=(0:Int)/\(0:Int)<=(1000000:Int))/\True)/\K (.slice 5 0 (List.length (keyF (EGS.s x).3 (EGS.s x).2 0)) 1) [w3q x,w3p x,some (.ints (some .u64) (EGS.s x).3),some (.abs (.hist x.6) []),some (.abs (.wrow x.7) []),iI' (keyF (EGS.s x).3 (EGS.s x).2 0)]else((lE' (EGS.s x).3/\((0:Int)<=(EGS.s x).2/\(EGS.s x).2<=(100000:Int))/\(-1000000:Int)<=(0:Int)/\(0:Int)<=(1000000:Int))/\True)/\(0+List.length (keyF (EGS.s x).3 (EGS.s x).2 0)<=List.length (keyF (EGS.s x).3 (EGS.s x).2 0)/\List.length (keyF (EGS.s x).3 (EGS.s x).2 0)<=(4294967296:Nat))/\((lE' (EGS.s x).3/\((0:Int)<=(EGS.s x).2/\(EGS.s x).2<=(100000:Int))/\(-1000000:Int)<=W (0+1)/\W (0+1)<=(1000000:Int))/\True)/\(0+List.length (keyF (EGS.s x).3 (EGS.s x).2 (W (0+1)))<=List.length (keyF (EGS.s x).3 (EGS.s x).2 (W (0+1)))/\0=0/\List.length (keyF (EGS.s x).3 (EGS.s x).2 0)=List.length (List.take (List.length (keyF (EGS.s x).3 (EGS.s x).2 0)) (List.drop 0 (keyF (EGS.s x).3 (EGS.s x).2 0)))/\1=1/\List.length (keyF (EGS.s x).3 (EGS.s x).2 0)+List.length (keyF (EGS.s x).3 (EGS.s x).2 (W (0+1)))<=(4294967296:Nat))/\((lE' (EGS.s x).3/\((0:Int)<=(EGS.s x).2/\(EGS.s x).2<=(100000:Int))/\(-1000000:Int)<=W (W (0+1)+1)/\W (W (0+1)+1)<=(1000000:Int))/\True)/\(0+List.length (keyF (EGS.s x).3 (EGS.s x).2 (W (W (0+1)+1)))<=List.length (keyF (EGS.s x).3 (EGS.s x).2 (W (W (0+1)+1)))/\0=0/\List.length (keyF (EGS.s x).3 (EGS.s x).2 0)+List.length (keyF (EGS.s x).3 (EGS.s x).2 (W (0+1)))=List.length (List.take (List.length (keyF (EGS.s x).3 (EGS.s x).2 0)) (List.drop 0 (keyF (EGS.s x).3 (EGS.s x).2 0))++List.take (List.length (keyF (EGS.s x).3 (EGS.s x).2 (W (0+1)))) (List.drop 0 (keyF (EGS.s x).3 (EGS.s x).2 (W (0+1)))))/\1=1/\List.length (keyF (EGS.s x).3 (EGS.s x).2 0)+List.length (keyF (EGS.s x).3 (EGS.s x).2 (W (0+1)))+List.length (keyF (EGS.s x).3 (EGS.s x).2 (W (W (0+1)+1)))<=(4294967296:Nat))/\((lE' (EGS.s x).3/\((0:Int)<=(EGS.s x).2/\(EGS.s x).2<=(100000:Int))/\(-1000000:Int)<=W (W (W (0+1)+1)+1)/\W (W (W (0+1)+1)+1)<=(1000000:Int))/\True)/\(0+List.length (keyF (EGS.s x).3 (EGS.s x).2 (W (W (W (0+1)+1)+1)))<=List.length (keyF (EGS.s x).3 (EGS.s x).2 (W (W (W (0+1)+1)+1)))/\0=0/\List.length (keyF (EGS.s x).3 (EGS.s x).2 0)+List.length (keyF (EGS.s x).3 (EGS.s x).2 (W (0+1)))+List.length (keyF (EGS.s x).3 (EGS.s x).2 (W (W (0+1)+1)))=List.length (List.take (List.length (keyF (EGS.s x).3 (EGS.s x).2 0)) (List.drop 0 (keyF (EGS.s x).3 (EGS.s x).2 0))++List.take (List.length (keyF (EGS.s x).3 (EGS.s x).2 (W (0+1)))) (List.drop 0 (keyF (EGS.s x).3 (EGS.s x).2 (W (0+1))))++List.take (List.length (keyF (EGS.s x).3 (EGS.s x).2 (W (W (0+1)+1)))) (List.drop 0 (keyF (EGS.s x).3 (EGS.s x).2 (W (W (0+1)+1)))))/\1=1/\List.length (keyF (EGS.s x).3 (EGS.s x).2 0)+List.length (keyF (EGS.s x).3 (EGS.s x).2 (W (0+1)))+List.length (keyF (EGS.s x).3 (EGS.s x).2 (W (W (0+1)+1)))+List.length (keyF (EGS.s x).3 (EGS.s x).2 (W (W (W (0+1)+1)+1)))<=(4294967296:Nat))/\(List.length (keyF (EGS.s x).3 (EGS.s x).2 0)+List.length (keyF (EGS.s x).3 (EGS.s x).2 (W (0+1)))+List.length (keyF (EGS.s x).3 (EGS.s x).2 (W (W (0+1)+1)))+List.length (keyF (EGS.s x).3 (EGS.s x).2 (W (W (W (0+1)+1)+1)))=List.length (List.take (List.length (keyF (EGS.s x).3 (EGS.s x).2 0)) (List.drop 0 (keyF (EGS.s x).3 (EGS.s x).2 0))++List.take (List.length (keyF (EGS.s x).3 (EGS.s x).2 (W (0+1)))) (List.drop 0 (keyF (EGS.s x).3 (EGS.s x).2 (W (0+1))))++List.take (List.length (keyF (EGS.s x).3 (EGS.s x).2 (W (W (0+1)+1)))) (List.drop 0 (keyF (EGS.s x).3 (EGS.s x).2 (W (W (0+1)+1))))++List.take (List.length (keyF (EGS.s x).3 (EGS.s x).2 (W (W (W (0+1)+1)+1)))) (List.drop 0 (keyF (EGS.s x).3 (EGS.s x).2 (W (W (W (0+1)+1)+1)))))/\List.length (keyF (EGS.s x).3 (EGS.s x).2 0)+List.length (keyF (EGS.s x).3 (EGS.s x).2 (W (0+1)))+List.length (keyF (EGS.s x).3 (EGS.s x).2 (W (W (0+1)+1)))+List.length (keyF (EGS.s x).3 (EGS.s x).2 (W (W (W (0+1)+1)+1)))<=(1000000:Nat))/\K (.slice 5 0 (List.length (keyF (EGS.s x).3 (EGS.s x).2 0)+List.length (keyF (EGS.s x).3 (EGS.s x).2 (W (0+1)))+List.length (keyF (EGS.s x).3 (EGS.s x).2 (W (W (0+1)+1)))+List.length (keyF (EGS.s x).3 (EGS.s x).2 (W (W (W (0+1)+1)+1)))) 1) [w3q x,w3p x,some (.ints (some .u64) (EGS.s x).3),some (.abs (.hist x.6) []),some (.abs (.wrow x.7) []),iI' (nE (List.take (List.length (keyF (EGS.s x).3 (EGS.s x).2 0)) (List.drop 0 (keyF (EGS.s x).3 (EGS.s x).2 0))++List.take (List.length (keyF (EGS.s x).3 (EGS.s x).2 (W (0+1)))) (List.drop 0 (keyF (EGS.s x).3 (EGS.s x).2 (W (0+1))))++List.take (List.length (keyF (EGS.s x).3 (EGS.s x).2 (W (W (0+1)+1)))) (List.drop 0 (keyF (EGS.s x).3 (EGS.s x).2 (W (W (0+1)+1))))++List.take (List.length (keyF (EGS.s x).3 (EGS.s x).2 (W (W (W (0+1)+1)+1)))) (List.drop 0 (keyF (EGS.s x).3 (EGS.s x).2 (W (W (W (0+1)+1)+1))))))]
theorem L6(x:EGS)(K:AVal->aB Ob->Prop)(h:RI x K):cT' 55 [.ptr 0 0] (egG x) (d9 1 K):=by
 exact aD (E:=EI) Tryz.checked.mixed (L:=fun _ _=>some (.rounds 5)) (n:=10) (aJ (by kernel_rfl) h)
def bM(x:EGS):List Int:=bif ieq x.sh 3 then keyF x.s.xs x.s.n 0 else bif ieq x.sh 4 then keyF x.s.xs x.s.n 0 else nE (keyF x.s.xs x.s.n 0++keyF x.s.xs x.s.n 1++keyF x.s.xs x.s.n 2++keyF x.s.xs x.s.n 3)
def ehiS:aI Ob:=fun args h=>match args,h with
 | [.ptr 0 0],[some (.abs (.engine x) [])]=>some (.pre (x.h.ev.length<=4294967296/\x.h.cl.length<=4294967296) (.ret (.ptr 1 0) [some (.abs (.engine x) []),some (.abs (.hist x.h) [])]))
 | _,_=>none
theorem RH:sT' 28 ehiS:=by
 intro args h o ho K g;unfold ehiS at ho;split at ho<;>cases ho
 rename_i x;obtain⟨hp,g⟩:=g;have g:K (.ptr 1 0) [some (.abs (.engine x) []),some (.abs (.hist x.h) [])]:=g;refine aLi ?_;refine aLc (h2:=egG x) (aR.unpack (.engine x) 0 0 (egG x) [] rfl rfl rfl rfl) ?_;refine aA.keep (L5 x _ ?_);exact⟨hp,⟨⟨_,_,aHr x,g⟩⟩⟩
def eitS:aI Ob:=fun args h=>match args,h with
 | [.ptr 0 0],[some (.abs (.engine x) [])]=>some (.pre (0<=x.s.n/\x.s.n<=100000) (.ret (.slice 1 0 (bM x).length 1) [some (.abs (.engine x) []),iI' (bM x)]))
 | _,_=>none
theorem RJ:sT' 55 eitS:=by
 intro args h o ho K g;unfold eitS at ho;split at ho<;>cases ho
 rename_i x;obtain⟨hp,g⟩:=g;have g:K (.slice 1 0 (bM x).length 1) [some (.abs (.engine x) []),iI' (bM x)]:=g;refine aLi ?_;refine aLc (h2:=egG x) (aR.unpack (.engine x) 0 0 (egG x) [] rfl rfl rfl rfl) ?_;refine aA.keep (L6 x _ ?_);have e1:W (0+1)=1:=by decide
 have e2:W (1+1)=2:=by decide
 have e3:W (2+1)=3:=by decide
 have l0:=jA x.s.xs x.s.n 0;have l1:=jA x.s.xs x.s.n 1;have l2:=jA x.s.xs x.s.n 2;have l3:=jA x.s.xs x.s.n 3;have hn:x.s.n.toNat<=100000:=by omega
 unfold RI;refine aL (fun c1=>?_) (fun c1=>aL (fun c2=>?_) (fun c2=>?_))
 ·have hv:bM x=keyF x.s.xs x.s.n 0:=by unfold bM;rw [c1];rfl
  rw [hv]at g;exact⟨⟨⟨rfl,hp,by decide,by decide⟩,trivial⟩,⟨⟨_,_,RK x _,g⟩⟩⟩
 ·have hv:bM x=keyF x.s.xs x.s.n 0:=by unfold bM;rw [c1,c2];rfl
  rw [hv]at g;exact⟨⟨⟨rfl,hp,by decide,by decide⟩,trivial⟩,⟨⟨_,_,RK x _,g⟩⟩⟩
 ·have hv:bM x=nE (keyF x.s.xs x.s.n 0++keyF x.s.xs x.s.n 1++keyF x.s.xs x.s.n 2++keyF x.s.xs x.s.n 3):=by unfold bM;rw [c1,c2];rfl
  rw [hv]at g;rw [oU,List.length_append,List.length_append,List.length_append]at g;have ht:=RK x (nE (keyF x.s.xs x.s.n 0++keyF x.s.xs x.s.n 1++keyF x.s.xs x.s.n 2++keyF x.s.xs x.s.n 3));rw [oU,List.length_append,List.length_append,List.length_append]at ht;rw [e1,e2,e3];change _<=_ at l0;change _<=_ at l1;generalize keyF x.s.xs x.s.n 0=k0 at*;generalize keyF x.s.xs x.s.n 1=k1 at*;generalize keyF x.s.xs x.s.n 2=k2 at*;generalize keyF x.s.xs x.s.n 3=k3 at*;have t0: ∀l:List Int,List.take l.length (List.drop 0 l)=l:=fun l=>by simp
  rw [t0 k0,t0 k1,t0 k2,t0 k3];have la:(k0++k1).length =k0.length+k1.length:=List.length_append;have lb:(k0++k1++k2).length =k0.length+k1.length+k2.length:=by rw [List.length_append,la]
  have lc:(k0++k1++k2++k3).length =k0.length+k1.length+k2.length+k3.length:=by rw [List.length_append,lb]
  refine⟨⟨⟨rfl,hp,by decide,by decide⟩,trivial⟩,⟨by omega,by omega⟩,⟨⟨rfl,hp,by decide,by decide⟩,trivial⟩,⟨by omega,by omega,by omega,by omega,by omega⟩,⟨⟨rfl,hp,by decide,by decide⟩,trivial⟩,⟨by omega,by omega,by omega,by omega,by omega⟩,⟨⟨rfl,hp,by decide,by decide⟩,trivial⟩,⟨by omega,by omega,by omega,by omega,by omega⟩,⟨by omega,by omega⟩,⟨⟨_,_,ht,g⟩⟩⟩
noncomputable def EU9:=(EU8.addS 28 ehiS RH).addS 55 eitS RJ
def BK(th tm:Nat->Int):Nat->Nat->Int->List Int
 | 0,_,_=>[]
 | c+1,i,left=>List.replicate (min (tm i) left).toNat (th i)++BK th tm c (i+1) (left - ((min (tm i) left).toNat :Int))
abbrev PJ(n:Nat)(th tm:Nat->Int):AVal:=.view n 2 (fun i=>[.int .i64 (th i),.int .i64 (tm i)])
structure alO (n:Nat) (th tm:Nat->Int) (xs:List Int) (x:Nat×Int×Nat):Prop where
 hi:x.1<=n
 hl:0<=x.2.1/\x.2.1<=60000
 hj:x.2.2<=xs.length
 hx:xs.drop x.2.2=BK th tm (n - x.1) x.1 x.2.1
structure alI (n:Nat) (th tm:Nat->Int) (xs:List Int) (i0:Int) (x:Nat×Int×Nat×Int):Prop where
 hi:x.1<n
 h0:(x.1:Int)=i0
 hl:0<=x.2.1/\x.2.1<=60000
 hm:x.2.2.2<=x.2.1
 hj:x.2.2.1<=xs.length
 hx:xs.drop x.2.2.1=List.replicate x.2.2.2.toNat (th x.1)++BK th tm (n - (x.1+1)) (x.1+1) (x.2.1 - (x.2.2.2.toNat:Int))
def V9(l n:Nat)(th tm:Nat->Int)(xs:List Int):Hint Nat:= {X:=Nat×Int×Nat,st:=fun x=>([.func (.yield l) [] [],.ptr 1 0,.O,.int .i64 x.2.1,.O,.O,.O,PJ n th tm,.int .i64 (n:Int),.int .i64 (x.1:Int)]++List.replicate 19 .O,[some (.abs x.2.2 []),some (.cells [PJ n th tm])]),ok:=alO n th tm xs,mu:=fun x=>n - x.1,keep:=[0,1,3,7,8,9] }
def VY(l n:Nat)(th tm:Nat->Int)(xs:List Int)(i0:Int):Hint Nat:= {X:=Nat×Int×Nat×Int,st:=fun x=>([.func (.yield l) [] [],.ptr 1 0,.O,.int .i64 x.2.1,.O,.ptr 2 0,.int .i64 x.2.2.2,PJ n th tm,.int .i64 (n:Int),.int .i64 (x.1:Int)]++List.replicate 19 .O,[some (.abs x.2.2.1 []),some (.cells [PJ n th tm]),some (.cells [.int .i64 (th x.1),.int .i64 (tm x.1)])]),ok:=alI n th tm xs i0,mu:=fun x=>x.2.2.2.toNat,keep:=[0,1,3,5,6,7,8,9] }
def aI8(l n:Nat)(th tm:Nat->Int)(xs:List Int):FuncId->Nat->Option (kK Nat):=fun _ k=>match k with
 | 2=>some (.states (V9 l n th tm xs))
 | 5=>some (.statesAt 9 (VY l n th tm xs))
 | _=>none
def aCH(l n:Nat)(th tm:Nat->Int)(xs:List Int){Fr:Nat->PHeap->Prop}(hY:kL Tryz.prog l xs Fr)(K:AVal->aB Nat->Prop):Prop:=dF (V9 l n th tm xs) (Hint.ok (V9 l n th tm xs)) (.func (Fn.yield l) [] []::.ptr 1 0::.O::.int .i64 60000::.O::.O::.O::(.view n 2 fun i=>[.int .i64 (th i),.int .i64 (tm i)])::.int .i64 (↑n:Int)::.int .i64 0::(tO' 19 [])) [some (.abs 0 []),some (.cells [.view n 2 fun i=>[.int .i64 (th i),.int .i64 (tm i)]])]/\ ∀(x:(Nat×Int×Nat)),alO n th tm xs x->bif ilt (↑x.1:Int) (↑n:Int)then((0:Int)<=(↑x.1:Int)/\(↑x.1:Int)<(↑n:Int))/\dF (VY l n th tm xs (↑(Prod.fst x):Int)) (Hint.ok (VY l n th tm xs (↑(Prod.fst x):Int))) (.func (Fn.yield l) [] []::.ptr 1 0::.O::.int .i64 (Prod.snd x).1::.O::.ptr 2 0::.int .i64 (bif ilt (Prod.snd x).1 (tm (Int.toNat (↑x.1:Int)))then(Prod.snd x).1 else tm (Int.toNat (↑x.1:Int)))::(.view n 2 fun i=>[.int .i64 (th i),.int .i64 (tm i)])::.int .i64 (↑n:Int)::.int .i64 (↑x.1:Int)::(tO' 19 [])) [some (.abs (Prod.snd x).2 []),some (.cells [.view n 2 fun i=>[.int .i64 (th i),.int .i64 (tm i)]]),some (.cells [.int .i64 (th (Int.toNat (↑x.1:Int))),.int .i64 (tm (Int.toNat (↑x.1:Int)))])]/\ ∀(x_1:(Nat×Int×Nat×Int)),alI n th tm xs (↑x.1:Int) x_1->bif ilt 0 (Prod.snd x_1.2).2 then(l=l/\aBD xs (Prod.fst (Prod.snd (Prod.snd x_1))) (th x_1.1))/\dF (VY l n th tm xs (↑(Prod.fst x):Int)) (fun x'=>Hint.ok (VY l n th tm xs (↑(Prod.fst x):Int)) x'/\Hint.mu (VY l n th tm xs (↑(Prod.fst x):Int)) x'<Hint.mu (VY l n th tm xs (↑(Prod.fst x):Int)) x_1) (.func (Fn.yield l) [] []::.ptr 1 0::.O::.int .i64 (W ((Prod.snd x_1).1 - 1))::.O::.ptr 2 0::.int .i64 (W ((Prod.snd x_1.2).2 - 1))::(.view n 2 fun i=>[.int .i64 (th i),.int .i64 (tm i)])::.int .i64 (↑n:Int)::.int .i64 (↑x_1.1:Int)::(tO' 19 [])) [some (.abs ((Prod.snd x_1.2).1+1) []),some (.cells [.view n 2 fun i=>[.int .i64 (th i),.int .i64 (tm i)]]),some (.cells [.int .i64 (th x_1.1),.int .i64 (tm x_1.1)])]else dF (V9 l n th tm xs) (fun x'=>Hint.ok (V9 l n th tm xs) x'/\Hint.mu (V9 l n th tm xs) x'<Hint.mu (V9 l n th tm xs) x) (.func (Fn.yield l) [] []::.ptr 1 0::.O::.int .i64 (Prod.snd x_1).1::.O::.O::.O::(.view n 2 fun i=>[.int .i64 (th i),.int .i64 (tm i)])::.int .i64 (↑n:Int)::.int .i64 (W ((↑x_1.1:Int)+1))::(tO' 19 [])) [some (.abs (Prod.snd x_1.2).1 []),some (.cells [.view n 2 fun i=>[.int .i64 (th i),.int .i64 (tm i)]])]else K (.tup []) [some (.abs (Prod.snd x).2 []),some (.cells [.view n 2 fun i=>[.int .i64 (th i),.int .i64 (tm i)]])]
theorem PX(l n:Nat)(th tm:Nat->Int)(xs:List Int){Fr:Nat->PHeap->Prop}(hY:kL Tryz.prog l xs Fr)(K:AVal->aB Nat->Prop)(h:aCH l n th tm xs hY K):aA (frI Fr) Tryz.prog 114 [.func (.yield l) [] [],.ptr 1 0] [some (.abs 0 []),some (.cells [PJ n th tm])] K:=by
 exact aD (E:=itE Tryz.prog hY) Tryz.checked.mixed (L:=aI8 l n th tm xs) (n:=4) (aJ (by kernel_rfl) h)
theorem aGK(l n:Nat)(th tm:Nat->Int)(xs:List Int){Fr:Nat->PHeap->Prop}(hY:kL Tryz.prog l xs Fr)(K:AVal->aB Nat->Prop)(hn:n<=4294967296)(hxs:xs=BK th tm n 0 60000)(hK:K (.tup []) [some (.abs xs.length []),some (.cells [PJ n th tm])]):aCH l n th tm xs hY K:=by
 refine⟨aQ (H:=V9 l n th tm xs) (0,60000,0) rfl ⟨Nat.zero_le _,⟨by decide,by decide⟩,Nat.zero_le _,by rw [hxs];rfl⟩,?_⟩
 rintro⟨i,leftO,jO⟩ ⟨al,⟨ad,ac⟩,ai,aa⟩;dsimp only at al ad ac ai aa⊢;refine aT (fun e=>?_) (fun e=>?_)
 ·rw [bD,dT']at e;have ae:i<n:=by omega
  have af:(bif ilt leftO (tm (Int.toNat (i:Int)))then leftO else tm (Int.toNat (i:Int)))=min (tm i) leftO:=by
   rw [Int.toNat_natCast,bD]
   by_cases h:leftO<tm i
   ·rw [decide_eq_true h];show leftO=_;omega
   ·rw [decide_eq_false h];show tm i=_;omega
  refine⟨⟨by omega,by omega⟩,?_,?_⟩
  ·rw [af,Int.toNat_natCast];refine aQ (H:=VY l n th tm xs (i:Int)) (i,leftO,jO,min (tm i) leftO) rfl ⟨ae,rfl,⟨ad,ac⟩,by dsimp only;omega,ai,?_⟩
   dsimp only;rw [aa,show n - i=(n - (i+1))+1 by omega]
   rfl
  ·rintro⟨i2,left,j,m⟩ ⟨hi,h0,⟨ah,ag⟩,hm,hj,hx⟩;dsimp only at hi h0 ah ag hm hj hx⊢;have h0:i2=i:=by omega
   subst h0;refine aT (fun e=>?_) (fun e=>?_)
   ·rw [bD,dT']at e;have e1:W (left - 1)=left - 1:=cK ⟨by omega,by omega⟩
    have e2:W (m - 1)=m - 1:=cK ⟨by omega,by omega⟩
    have aj:m.toNat=(m - 1).toNat +1:=by omega
    rw [aj,List.replicate_succ,List.cons_append]at hx;have g:=congrArg List.length hx;rw [List.length_drop,List.length_cons]at g;refine⟨⟨rfl,⟨?_⟩⟩,?_⟩
    ·have:=congrArg (fun l=>l[0]?) hx
     simpa using this
    ·rw [e1,e2];refine aQ (H:=VY l n th tm xs (i2:Int)) (i2,left - 1,j+1,m - 1) rfl ⟨⟨hi,rfl,⟨by dsimp only;omega,by dsimp only;omega⟩,by dsimp only;omega,by dsimp only;omega,?_⟩,?_⟩
     ·dsimp only;have:=congrArg List.tail hx;rw [List.tail_drop,List.tail_cons]at this;rw [this];congr 2;omega
     ·show(m - 1).toNat <m.toNat;omega
   ·rw [bD,dF']at e
    have e1:W ((i2:Int)+1)=((i2+1:Nat):Int):=by
     have:=cK (x:=(i2:Int)+1) ⟨by omega,by omega⟩
     exact this.trans (by omega)
    rw [e1];refine aQ (H:=V9 l n th tm xs) (i2+1,left,j) rfl ⟨⟨hi,⟨ah,ag⟩,hj,?_⟩,?_⟩
    ·dsimp only;have hz:m.toNat=0:=by omega
     rw [hx,hz];show []++_=_;rw [List.nil_append];congr 1;omega
    ·show n - (i2+1)<n - i2;omega
 ·rw [bD,dF']at e;have ae:i=n:=by omega
  subst ae;rw [Nat.sub_self]at aa;have g:=congrArg List.length aa;rw [List.length_drop]at g;have g:xs.length - jO=0:=g;have ak:jO=xs.length:=by omega
  subst ak;exact hK
theorem BM{n:Nat}(th tm:Nat->Int)(hn:n<=4294967296):FS Tryz.prog 114 (PJ n th tm) (BK th tm n 0 60000):=by
 intro l Fr g;exact PX l n th tm _ g _ (aGK l n th tm _ g _ hn rfl rfl)
def dG:Code->Code
 | .seq x _=>x
 | .block _ c=>c
 | c=>c
def iP:Code->Code
 | .seq _ y=>y
 | c=>c
def sJ:Code->Code
 | .rangeFunc _ _ a _=>a
 | c=>c
def sK:Code->Code
 | .rangeFunc _ _ _ b=>b
 | c=>c
noncomputable def nQ:Code:=(Tryz.f85.body).getD .skip
noncomputable def aBT:Code:=.seq (dG nQ) (.seq (dG (iP nQ)) (dG (dG (iP (iP nQ)))))
noncomputable def sN:Code:=dG (iP (dG (iP (iP nQ))))
noncomputable def RD:Code:=dG (iP (iP (iP nQ)))
theorem aLq{X:Type}{K:X->Prop} : ∀ {t:Tr X},t.run K->t.ok
 | .ret x,k=>trivial
 | .ite b l r,k=>by cases b with
   | true=>exact aLq (t:=l) k
   | false=>exact aLq (t:=r) k
 | .pre p t,k=>⟨k.1,aLq (t:=t) k.2⟩
theorem aLl{X:Type}{K:X->Prop} : ∀ {t:Tr X},t.run K->K t.val
 | .ret x,k=>k
 | .ite b l r,k=>by cases b with
   | true=>exact aLl (t:=l) k
   | false=>exact aLl (t:=r) k
 | .pre p t,k=>aLl (t:=t) k.2
theorem Tr.run_ite{X:Type}{K:X->Prop}{b:Bool}{l r:Tr X}(h1:b=true->l.run K)(h2:b=false->r.run K):(Tr.ite b l r).run K:=aL h1 h2
theorem aLa{X:Type}{K:X->Prop}{b:Bool}{l r:Tr X}(h1:b=true->l.run K)(h2:b=false->r.run K):(bif b then l else r).run K:=by
 cases b with
 | true=>exact h1 rfl
 | false=>exact h2 rfl
theorem aLg{X:Type}{K:X->Prop}{p:Prop}{t:Tr X}(h1:p)(h2:t.run K):(Tr.pre p t).run K:=⟨h1,h2⟩
theorem aLk{X:Type}{K:X->Prop}{x:X}(h:K x):(Tr.ret x).run K:=h
theorem nE'{P Q:Prop}(h:¬P:=by dsimp only;decide):P->Q:=fun e=>absurd e h
structure rngU (x:Int):Prop where
 h0:0<=x
 h1:x<=18446744073709551615
theorem EW:rngU 0:=⟨by decide,by decide⟩
theorem II(x:Int):rngU (WU x):=⟨(PR x).1,(PR x).2⟩
theorem UM{xs:List Int}(h:okW xs)(a:Int):rngU (aF xs a):=⟨(wF h a).1,(wF h a).2⟩
theorem AX{b:Bool}{x y:Int}(h1:b=true->rngU x)(h2:rngU y):rngU (bif b then x else y):=by
 cases b with
 | true=>exact h1 rfl
 | false=>exact h2
theorem lX{n w:Int}(h:aN n w=true):0<=n/\n<2^w.toNat:=by
 unfold aN at h;simp only [Bool.and_eq_true,bY,bD,dT']at h;exact h
theorem QJ(b:Bool):0<=bitI b/\bitI b<=1:=by cases b<;>decide
theorem UL{a b c d e f:Int}{m:Bool} :rngU (bif dOk a b c d e f then cW a b c d m e f else 0):=by
 refine AX (fun h=>?_) EW;unfold dOk at h;simp only [Bool.and_eq_true]at h;obtain⟨h1,h2,h3,h4,h5,g⟩:=h;have h1:=lX h1;have h2:=lX h2;have h3:=lX h3;have h4:=lX h4;have h5:=lX h5;have g:=lX g;have hb:=QJ m;simp only [Int.reduceToNat,Int.reducePow]at h1 h2 h3 h4 h5 g;unfold cW;exact⟨by omega,by omega⟩
theorem aA7{a b c v:Int}{m:Bool} :rngU (bif bif aN a 10 then bif aN b 9 then bif aN c 5 then aN v 18 else false else false else false then cZ a b m c v else 0):=by
 refine AX (fun h=>?_) EW;cases h1:aN a 10 with
 | false=>rw [h1]at h;cases h
 | true=>
   cases h2:aN b 9 with
   | false=>rw [h1,h2]at h;cases h
   | true=>
     cases h3:aN c 5 with
     | false=>rw [h1,h2,h3]at h;cases h
     | true=>
       rw [h1,h2,h3]at h;have h:=lX (show aN v 18=true from h)
       have h1:=lX h1;have h2:=lX h2;have h3:=lX h3;have hb:=QJ m;simp only [Int.reduceToNat,Int.reducePow]at h h1 h2 h3;unfold cZ;exact⟨by omega,by omega⟩
structure Act1 (s s':MS):Prop where
 c:s'.c=s.c+1
 len:s'.xs.length=s.xs.length
 w:okW s.xs->okW s'.xs
 t:s'.t=s.t
 n:s'.n=s.n
theorem BJ(s:MS)(k a o w:Int)(ok:Bool):Act1 s ⟨s.t,s.n,s.xs,s.c+1,k,a,o,w,ok⟩:=⟨rfl,rfl,id,rfl,rfl⟩
theorem zG(s:MS)(b v k a o w:Int)(ok:Bool)(h:rngU v):Act1 s ⟨s.t,s.n,aZ s.xs b v,s.c+1,k,a,o,w,ok⟩:=⟨rfl,lQ _ _ _,fun hw=>aAM hw ⟨h.h0,h.h1⟩,rfl,rfl⟩
theorem I4(s:MS)(q:Bool)(b v k a o w:Int)(ok:Bool)(h:rngU v):Act1 s ⟨s.t,s.n,bif q then aZ s.xs b v else s.xs,s.c+1,k,a,o,w,ok⟩:=by
 cases q with
 | true=>exact zG s b v k a o w ok h
 | false=>exact BJ s k a o w ok
theorem XZ(x a:Int)(w:Int):0<=aC x a w/\aC x a w<2^w.toNat:=XX
structure Bnd (t n:Int) (s:MS):Prop where
 ht:1<=t/\t<=1000
 hn:1<=n/\n<=1000
 hc:0<=s.c/\s.c<=900000
 hw:okW s.xs
theorem rR{P:Prop}(h:P:=by(with_reducible first | exact EW | exact II _ | exact UL | exact aA7 | assumption)):P:=h
theorem B7{P:Prop}(h:P:=by(simp only [aC,Int.reduceToNat,Int.reducePow];omega)):P:=h
theorem bV{P:Prop}(h:P:=by(first
 | with_reducible exact trivial
 | with_reducible rfl
 | with_reducible assumption
 | with_reducible exact BJ _ _ _ _ _ _
 | ((with_reducible refine zG _ _ _ _ _ _ _ _ ?_);exact rR)
 | ((with_reducible refine I4 _ _ _ _ _ _ _ _ _ ?_);exact rR)
 | omega
 | exact B7
 | decide)):P:=h
theorem aF8{P:Prop}(h:P:=by first | exact rR | (exact UM (by assumption) _)):P:=h
theorem BB{P:Prop}(h:P:=by(dsimp only;first | omega | (constructor<;>omega) | exact B7)):P:=h
structure clW (t:Int) (x:CLS):Prop where
 h:x.at'=0\/x.at'=1\/x.at'=2\/x.at'=3
structure aG0 (t:Int) (s:MS) (o:ClO):Prop where
 a:Act1 s o.s
 w:o.d=false->clW t o.x
theorem aBA{P:Prop}(h:P:=by
 (repeat' (with_reducible first | exact trivial | rfl | assumption | refine aLg ?_ ?_ | refine Tr.run_ite (fun _=>?_) (fun _=>?_) | refine aLk ?_ | refine And.intro ?_ ?_))
 all_goals first | exact bV | (refine⟨by exact bV,fun hd=>?_⟩;first | (exact Bool.noConfusion hd) | exact⟨by dsimp only;decide⟩)):P:=h
theorem VK{P:Prop}(h:P:=by
 (repeat' (with_reducible first | exact trivial | rfl | assumption | refine aLg ?_ ?_ | refine Tr.run_ite (fun _=>?_) (fun _=>?_) | refine aLk ?_ | refine And.intro ?_ ?_))
 all_goals first | exact bV | (refine⟨by exact bV,fun hd=>?_⟩;first | (exact Bool.noConfusion hd) | exact⟨by dsimp only;decide,⟨m0,m1⟩,by assumption,by exact aF8⟩)):P:=h
theorem xP{P:Prop}(h:P:=by
 (repeat' (with_reducible first | exact trivial | rfl | assumption | refine aLg ?_ ?_ | refine Tr.run_ite (fun _=>?_) (fun _=>?_) | refine aLk ?_ | refine And.intro ?_ ?_))
 all_goals first | exact bV | (refine⟨by exact bV,fun hd=>by first | (exact Bool.noConfusion hd) | exact⟨by dsimp only;decide,⟨m0,m1⟩,by exact BB⟩,?_⟩;exact BB)):P:=h
theorem aBP{t n:Int}{x:CLS}{s:MS}(hb:Bnd t n s)(hx:clW t x):(clT t n x s).run (aG0 t s):=by
 obtain⟨⟨t0,g⟩,⟨n0,n1⟩,⟨c0,c1⟩,hw⟩:=hb;obtain⟨h⟩:=hx;unfold clT;refine aLa (fun h0=>?_) (fun h0=>aLa (fun h1=>?_) (fun h1=>aLa (fun h2=>?_) (fun h2=>aLa (fun h3=>?_) (fun h3=>?_))))
 ·unfold B3;exact aBA
 ·unfold B4 w0d w0f w0e;exact aBA
 ·unfold B5 w0f w0e;exact aBA
 ·unfold B6;exact aBA
 ·simp only [cA,beq_eq_false_iff_ne]at h0 h1 h2 h3;rcases h with e | e | e | e<;>contradiction
theorem GO{t n:Int}{x:CLS}{s:MS}(hb:Bnd t n s)(hx:clW t x):QM t n x s:=aLq (aBP hb hx)
theorem zS{t n:Int}{x:CLS}{s:MS}(hb:Bnd t n s)(hx:clW t x):aG0 t s (pA t n x s):=aLl (aBP hb hx)
structure hdW (t:Int) (x:HDS):Prop where
 h:0<=x.at'/\x.at'<=1000
 u: -1<=x.u/\x.u<=1000
structure aH1 (t:Int) (s:MS) (o:HdO):Prop where
 a:Act1 s o.s
 w:o.d=false->hdW t o.x
 p: -1<=o.x.u/\o.x.u<=1000
theorem aB3{t n:Int}{x:HDS}{s:MS}(hb:Bnd t n s)(hx:hdW t x):(hdT t n x s).run (aH1 t s):=by
 obtain⟨⟨t0,t1⟩,⟨n0,n1⟩,⟨c0,c1⟩,hw⟩:=hb;obtain⟨⟨h0,h1⟩,⟨u0,g⟩⟩:=hx;have hW:W (x.at'+1)=x.at'+1:=cK ⟨by omega,by omega⟩
 unfold hdT;unfold Z9 w0h w0g;rw [hW]
 (repeat' (with_reducible first | exact trivial | rfl | assumption | refine aLg ?_ ?_ | refine Tr.run_ite (fun _=>?_) (fun _=>?_) | refine aLk ?_ | refine And.intro ?_ ?_))
 all_goals first | exact bV | (refine⟨by exact bV,fun hd=>by first | (exact Bool.noConfusion hd) | (refine⟨?_,?_⟩<;>dsimp only at hd⊢ <;>first | omega | (simp only [bY,dF']at hd;omega)),?_⟩;exact BB)
theorem aEW{t n:Int}{x:HDS}{s:MS}(hb:Bnd t n s)(hx:hdW t x):aET t n x s:=aLq (aB3 hb hx)
theorem aEX{t n:Int}{x:HDS}{s:MS}(hb:Bnd t n s)(hx:hdW t x):aH1 t s (qL t n x s):=aLl (aB3 hb hx)
structure drW (t:Int) (x:DRS):Prop where
 h:0<=x.th/\x.th<=1000
 u:0<=x.at'/\x.at'<=2
structure aG6 (t:Int) (s:MS) (o:DrO):Prop where
 a:Act1 s o.s
 w:o.d=false->drW t o.x
theorem aBR{t n:Int}{x:DRS}{s:MS}(hb:Bnd t n s)(hx:drW t x):(drT t n x s).run (aG6 t s):=by
 obtain⟨⟨t0,t1⟩,⟨n0,n1⟩,⟨c0,c1⟩,hw⟩:=hb;obtain⟨⟨h0,h1⟩,⟨u0,g⟩⟩:=hx;have hW:W (x.at'+1)=x.at'+1:=cK ⟨by omega,by omega⟩
 unfold drT;unfold YN;rw [hW]
 (repeat' (with_reducible first | exact trivial | rfl | assumption | refine aLg ?_ ?_ | refine Tr.run_ite (fun _=>?_) (fun _=>?_) | refine aLk ?_ | refine And.intro ?_ ?_))
 all_goals first | exact bV | (refine⟨by exact bV,fun hd=>?_⟩;first | (exact Bool.noConfusion hd) | (refine⟨?_,?_⟩<;>dsimp only at hd⊢ <;>first | omega | (simp only [bY,dF']at hd;omega)))
theorem aDN{t n:Int}{x:DRS}{s:MS}(hb:Bnd t n s)(hx:drW t x):aDK t n x s:=aLq (aBR hb hx)
theorem aDO{t n:Int}{x:DRS}{s:MS}(hb:Bnd t n s)(hx:drW t x):aG6 t s (VT t n x s):=aLl (aBR hb hx)
structure anW (t:Int) (x:ANS):Prop where
 h:x.at'=0\/x.at'=1\/x.at'=2\/x.at'=3\/x.at'=4
 m:0<=x.me/\x.me<=1000
 b:rngU x.bits
 q:rngU x.no
structure aGM (t:Int) (s:MS) (o:AnO):Prop where
 a:Act1 s o.s
 w:o.d=false->anW t o.x
theorem aBH{t n:Int}{x:ANS}{s:MS}(hb:Bnd t n s)(hx:anW t x):(anT t n x s).run (aGM t s):=by
 obtain⟨⟨t0,t1⟩,⟨n0,n1⟩,⟨c0,c1⟩,hw⟩:=hb;obtain⟨h,⟨m0,m1⟩,b,q⟩:=hx;unfold anT;refine aLa (fun h0=>?_) (fun h0=>aLa (fun h1=>?_) (fun h1=>aLa (fun h2=>?_) (fun h2=>aLa (fun h3=>?_) (fun h3=>aLa (fun g=>?_) (fun g=>?_)))))
 ·unfold BO w0i;exact VK
 ·unfold BP;exact VK
 ·unfold BQ w0i;exact VK
 ·unfold BR w0i;exact VK
 ·unfold BS w0i;exact VK
 ·simp only [cA,beq_eq_false_iff_ne]at h0 h1 h2 h3 g;rcases h with e | e | e | e | e<;>contradiction
theorem aCP{t n:Int}{x:ANS}{s:MS}(hb:Bnd t n s)(hx:anW t x):aCN t n x s:=aLq (aBH hb hx)
theorem aCQ{t n:Int}{x:ANS}{s:MS}(hb:Bnd t n s)(hx:anW t x):aGM t s (F6 t n x s):=aLl (aBH hb hx)
structure awW (t:Int) (x:AWS):Prop where
 m:0<=x.me/\x.me<=1000
structure aGW (t:Int) (s:MS) (o:AwO):Prop where
 a:Act1 s o.s
 w:o.d=false->awW t o.x
theorem aBM{t n:Int}{x:AWS}{s:MS}(hb:Bnd t n s)(hx:awW t x):(awT t n x s).run (aGW t s):=by
 obtain⟨⟨t0,g⟩,⟨n0,n1⟩,⟨c0,c1⟩,hw⟩:=hb;obtain⟨⟨m0,m1⟩⟩:=hx;unfold awT;unfold XJ w0j
 (repeat' (with_reducible first | exact trivial | rfl | assumption | refine aLg ?_ ?_ | refine Tr.run_ite (fun _=>?_) (fun _=>?_) | refine aLk ?_ | refine And.intro ?_ ?_))
 all_goals first | exact bV | (refine⟨by exact bV,fun hd=>?_⟩;first | (exact Bool.noConfusion hd) | exact⟨⟨m0,m1⟩⟩)
theorem aDd{t n:Int}{x:AWS}{s:MS}(hb:Bnd t n s)(hx:awW t x):aDa t n x s:=aLq (aBM hb hx)
theorem aDe{t n:Int}{x:AWS}{s:MS}(hb:Bnd t n s)(hx:awW t x):aGW t s (tC t n x s):=aLl (aBM hb hx)
structure exW (t:Int) (x:EXS):Prop where
 h:x.at'=0\/x.at'=1\/x.at'=2\/x.at'=3\/x.at'=4\/x.at'=5\/x.at'=6\/x.at'=7\/x.at'=8\/x.at'=9
 m:0<=x.u/\x.u<=1000
 po:0<=x.popped/\x.popped<=1000
structure aHy (t:Int) (s:MS) (o:ExO):Prop where
 a:Act1 s o.s
 w:o.d=false->exW t o.x
 p:0<=o.x.popped/\o.x.popped<=1000
theorem aBV{t n:Int}{x:EXS}{s:MS}(hb:Bnd t n s)(hx:exW t x):(exT t n x s).run (aHy t s):=by
 obtain⟨⟨t0,t1⟩,⟨n0,n1⟩,⟨c0,c1⟩,hw⟩:=hb;obtain⟨h,⟨m0,m1⟩,⟨p0,p1⟩⟩:=hx;unfold exT;refine aLa (fun h0=>?_) (fun h0=>aLa (fun h1=>?_) (fun h1=>aLa (fun h2=>?_) (fun h2=>aLa (fun h3=>?_) (fun h3=>aLa (fun h4=>?_) (fun h4=>aLa (fun h5=>?_) (fun h5=>aLa (fun h6=>?_) (fun h6=>aLa (fun h7=>?_) (fun h7=>aLa (fun h8=>?_) (fun h8=>aLa (fun g=>?_) (fun g=>?_))))))))))
 ·unfold CR w0z w0y w0x w0t w0q w0l;exact xP
 ·unfold CS w0n w0v w0r w0o;exact xP
 ·unfold CT w0k w0s;exact xP
 ·unfold CU w0s w0l;exact xP
 ·unfold CV w0s w0l;exact xP
 ·unfold CW w0w w0r w0m w0o;exact xP
 ·unfold CX;exact xP
 ·unfold CY w0l;exact xP
 ·unfold CZ w0p w0u w0l;exact xP
 ·unfold C0;exact xP
 ·simp only [cA,beq_eq_false_iff_ne]at h0 h1 h2 h3 h4 h5 h6 h7 h8 g;rcases h with e | e | e | e | e | e | e | e | e | e<;>contradiction
theorem aEf{t n:Int}{x:EXS}{s:MS}(hb:Bnd t n s)(hx:exW t x):aEd t n x s:=aLq (aBV hb hx)
theorem aEg{t n:Int}{x:EXS}{s:MS}(hb:Bnd t n s)(hx:exW t x):aHy t s (CQ t n x s):=aLl (aBV hb hx)
structure prW (t:Int) (x:PRS):Prop where
 h:True
structure aIz (t:Int) (s:MS) (st:STS) (o:PrO):Prop where
 a:Act1 s o.s
 w:o.d=false->prW t o.x
 st:o.st=st
theorem aCi{t n:Int}{x:PRS}{st:STS}{s:MS}(hb:Bnd t n s)(hx:prW t x):(prT t n x st s).run (aIz t s st):=by
 obtain⟨⟨t0,g⟩,⟨n0,n1⟩,⟨c0,c1⟩,hw⟩:=hb;obtain⟨h⟩:=hx;unfold prT;unfold aAX
 (repeat' (with_reducible first | exact trivial | rfl | assumption | refine aLg ?_ ?_ | refine Tr.run_ite (fun _=>?_) (fun _=>?_) | refine aLk ?_ | refine And.intro ?_ ?_))
 all_goals first | exact bV | (refine⟨by exact bV,fun hd=>?_,rfl⟩;first | (exact Bool.noConfusion hd) | exact⟨trivial⟩)
theorem UB{t n:Int}{x:PRS}{st:STS}{s:MS}(hb:Bnd t n s)(hx:prW t x):aAV t n x st s:=aLq (aCi hb hx)
theorem UC{t n:Int}{x:PRS}{st:STS}{s:MS}(hb:Bnd t n s)(hx:prW t x):aIz t s st (prF t n x st s):=aLl (aCi hb hx)
theorem fJ{a b:Int}(h:ieq a b=true):a=b:=by simpa [cA]using h
theorem fC{a b:Int}(h:ieq a b=false):a≠b:=by simpa [cA]using h
def eH(l:List Int):Prop:= ∀r∈l,0<=r/\r<=1000
theorem sY:eH []:=fun r h=>nomatch h
theorem wS{l:List Int}{a:Int}(h:eH l)(ha:0<=a/\a<=1000):eH (l++ [a]):=by
 intro r hr;rcases List.mem_append.1 hr with h1 | h1
 ·exact h r h1
 ·rw [List.mem_singleton.1 h1];exact ha
theorem O0{l m:List Int}(h:eH l)(hm:eH m):eH (l++m):=by
 intro r hr;rcases List.mem_append.1 hr with h1 | h1
 ·exact h r h1
 ·exact hm r h1
theorem zQ(t n a:Int):qQ t n a:=⟨⟨rfl,rfl⟩,trivial⟩
theorem GN(t n a:Int):clW t (zP t n a):=⟨.inl rfl⟩
theorem aJj(x a:Int):0<=aC x a 9/\aC x a 9<=1000:=by
 have:=XZ x a 9;simp only [Int.reduceToNat,Int.reducePow]at this;omega
structure PG (b:Int) (x:FNS):Prop where
 m:0<=x.me/\x.me<=1000
 cu:0<=x.curr/\x.curr<=1000
 ul:eH x.ul
 ln:(x.ul.length:Int)<=b
structure ZC (t:Int) (x:FNS):Prop where
 h:x.at'=0\/x.at'=1\/x.at'=2\/x.at'=3\/x.at'=4\/x.at'=5\/x.at'=6
 cl:x.at'=4->clW t x.cl
structure aHC (t b:Int) (s:MS) (o:FnO):Prop where
 a:Act1 s o.s
 q:PG (b+1) o.x
 w:o.d=false->ZC t o.x
theorem aEo{P:Prop}(h:P:=by(refine⟨?_,⟨?_,?_,?_,?_⟩,fun hd=>?_⟩<;>first
 | exact bV
 | (exact(zS (by assumption) (by assumption)).a)
 | (constructor<;>assumption)
 | exact aJj _ _
 | (exact wS (by assumption) ⟨by assumption,by assumption⟩)
 | exact sY
 | (dsimp only;simp only [List.length_append,List.length_singleton,List.length_nil];omega)
 | exact Bool.noConfusion hd
 | exact⟨by dsimp only;decide,fun e=>absurd e (by dsimp only;decide)⟩
 | exact⟨by dsimp only;decide,fun e=>(zS (by assumption) (by assumption)).w (by assumption)⟩
 | exact⟨by dsimp only;decide,fun e=>by dsimp only;with_reducible exact GN _ _ _⟩)):P:=h
theorem I0{P:Prop}(h:P:=by
 (repeat' (with_reducible first | exact trivial | rfl | assumption | refine aLg ?_ ?_ | refine Tr.run_ite (fun _=>?_) (fun _=>?_) | refine aLk ?_ | refine And.intro ?_ ?_))
 all_goals first | exact bV | exact zQ _ _ _ | (simp only [List.length_append,List.length_singleton];done) | exact aEo):P:=h
theorem aBW{t n b:Int}{x:FNS}{s:MS}(hb:Bnd t n s)(hx:ZC t x)(hq:PG b x)(hbb:b<=900000):(fnT t n x s).run (aHC t b s):=by
 have hb':=hb;obtain⟨⟨t0,t1⟩,⟨n0,n1⟩,⟨c0,c1⟩,hw⟩:=hb;obtain⟨h,aa⟩:=hx;obtain⟨⟨m0,m1⟩,⟨q0,q1⟩,ad,ae⟩:=hq;have b0:0<=b:=by omega
 unfold fnT;refine aLa (fun h0=>?_) (fun h0=>aLa (fun h1=>?_) (fun h1=>aLa (fun h2=>?_) (fun h2=>aLa (fun h3=>?_) (fun h3=>aLa (fun h4=>?_) (fun h4=>aLa (fun h5=>?_) (fun h5=>aLa (fun h6=>?_) (fun h6=>?_)))))))
 ·unfold C5 w17 w1d w16 w13 w1a w14 w1c;exact I0
 ·unfold C6;exact I0
 ·unfold C7 w17 w1d w16 w13 w1a w1c w14;exact I0
 ·unfold C8;exact I0
 ·unfold C9 w19 w14;have g:=aa (fJ h4);have ac:=GO hb' g;exact I0
 ·unfold DA w10 w15 w11 w19 w14;exact I0
 ·unfold DB w14 w1f w1e;exact I0
 ·simp only [cA,beq_eq_false_iff_ne]at h0 h1 h2 h3 h4 h5 h6;rcases h with e | e | e | e | e | e | e<;>contradiction
theorem HB{t n b:Int}{x:FNS}{s:MS}(hb:Bnd t n s)(hx:ZC t x)(hq:PG b x)(hbb:b<=900000):MO t n x s:=aLq (aBW hb hx hq hbb)
theorem HD{t n b:Int}{x:FNS}{s:MS}(hb:Bnd t n s)(hx:ZC t x)(hq:PG b x)(hbb:b<=900000):aHC t b s (aM t n x s):=aLl (aBW hb hx hq hbb)
theorem dO(sh ky:Int):0<=fI sh ky/\fI sh ky<=3:=by
 unfold fI;cases ieq sh 2 with
 | true=>exact⟨Int.emod_nonneg _ (by decide),by have:=Int.emod_lt_of_pos ky (b:=4) (by decide);show ky%4<=3;omega⟩
 | false=>exact⟨Int.le_refl 0,(by decide:(0:Int)<=3)⟩
theorem G9{t n me hd key lim:Int}(hn:1<=n/\n<=1000)(hm:0<=me/\me<=1000)(hh:0<=hd/\hd<=3):(R9 t n me hd key lim).run (fun x=>ZC t x/\PG 0 x):=by
 obtain⟨n0,n1⟩:=hn;obtain⟨m0,m1⟩:=hm;obtain⟨e0,e1⟩:=hh;unfold R9 w1g
 (repeat' (with_reducible first | exact trivial | rfl | assumption | refine aLg ?_ ?_ | refine Tr.run_ite (fun _=>?_) (fun _=>?_) | refine aLk ?_ | refine And.intro ?_ ?_))
 all_goals first | exact bV | exact⟨by dsimp only;decide,fun e=>absurd e (by dsimp only;decide)⟩ | exact⟨⟨m0,m1⟩,⟨(by decide:(0:Int)<=0),(by decide:(0:Int)<=1000)⟩,sY,(by decide:((0:Nat):Int)<=0)⟩
theorem KK(sh kd ky pred pw cw sp:Int){curr:Int}(hc:0<=curr/\curr<=1000):(EK sh kd ky pred pw curr cw sp).run (fun p=>0<=p.pops/\p.pops<=1000):=by
 obtain⟨c0,c1⟩:=hc;unfold EK w09 w0b w0a w0c
 (repeat' (with_reducible first | exact trivial | rfl | assumption | refine aLg ?_ ?_ | refine Tr.run_ite (fun _=>?_) (fun _=>?_) | refine aLk ?_ | refine And.intro ?_ ?_))
 all_goals first | exact bV | (dsimp only;first | assumption | decide)
theorem EM(sh kd ky pred pw cw sp:Int){curr:Int}(hc:0<=curr/\curr<=1000):wN sh kd ky pred pw curr cw sp:=aLq (KK sh kd ky pred pw cw sp hc)
theorem yQ(sh kd ky pred pw cw sp:Int){curr:Int}(hc:0<=curr/\curr<=1000):0<=(bJ sh kd ky pred pw curr cw sp).pops /\(bJ sh kd ky pred pw curr cw sp).pops <=1000:=aLl (KK sh kd ky pred pw cw sp hc)
theorem aIR{P:Prop}(h:P:=by
 (repeat' (with_reducible first | exact trivial | rfl | assumption | refine aLg ?_ ?_ | refine Tr.run_ite (fun _=>?_) (fun _=>?_) | refine aLk ?_ | refine And.intro ?_ ?_))
 all_goals first | exact bV | exact rR):P:=h
theorem EL(a b c d e f g h i):(wO a b c d e f g h i).run rngU:=by
 unfold wO;exact aIR
theorem ON(a b c d e f g h i):AS a b c d e f g h i:=aLq (EL a b c d e f g h i)
theorem OM(a b c d e f g h i):rngU (d6 a b c d e f g h i):=aLl (EL a b c d e f g h i)
theorem EJ(a b c d e f g h i j):(wM a b c d e f g h i j).run (fun r=>rngU r.1):=by
 unfold wM;exact aIR
theorem OK(a b c d e f g h i j):AR a b c d e f g h i j:=aLq (EJ a b c d e f g h i j)
theorem OJ(a b c d e f g h i j):rngU (kZ a b c d e f g h i j).1:=aLl (EJ a b c d e f g h i j)
theorem EG(a b c d e f g h i):(wK a b c d e f g h i).run (fun _=>True):=by
 unfold wK
 (repeat' (with_reducible first | exact trivial | rfl | assumption | refine aLg ?_ ?_ | refine Tr.run_ite (fun _=>?_) (fun _=>?_) | refine aLk ?_ | refine And.intro ?_ ?_))
 all_goals exact bV
theorem yP(p:PLN):oT p.1 p.2 p.3 p.4 p.5 p.6 p.7 p.8 p.9:=aLq (EG _ _ _ _ _ _ _ _ _)
theorem wL(a b c d e f g h i):oT a b c d e f g h i:=aLq (EG _ _ _ _ _ _ _ _ _)
theorem eY{b c:Int}{x:FNS}(h:PG b x)(hbc:b<=c):PG c x:=⟨h.m,h.cu,h.ul,Int.le_trans h.ln hbc⟩
theorem rA{t n me hd key lim:Int}(hn:1<=n/\n<=1000)(hm:0<=me/\me<=1000)(hh:0<=hd/\hd<=3):pD t n me hd key lim:=aLq (G9 hn hm hh)
theorem C4{t n me hd key lim:Int}(hn:1<=n/\n<=1000)(hm:0<=me/\me<=1000)(hh:0<=hd/\hd<=3):ZC t (vP t n me hd key lim):=by
 have h:=aLl (G9 (t:=t) (key:=key) (lim:=lim) hn hm hh);exact h.1
theorem C3{t n me hd key lim:Int}(hn:1<=n/\n<=1000)(hm:0<=me/\me<=1000)(hh:0<=hd/\hd<=3):PG 0 (vP t n me hd key lim):=by
 have h:=aLl (G9 (t:=t) (key:=key) (lim:=lim) hn hm hh);exact h.2
theorem T9(t n key nx:Int)(st:STS):(aAU t n key nx st).run (fun r=>r.2=st):=⟨⟨rfl,rfl,rfl⟩,rfl⟩
theorem KL(t n key nx:Int)(st:STS):EN t n key nx st:=aLq (T9 t n key nx st)
theorem T8(t n key nx:Int)(st:STS):(rN t n key nx st).2=st:=aLl (T9 t n key nx st)
structure stW (b:Int) (st:STS):Prop where
 m:0<=st.me/\st.me<=1000
 r:eH st.R
 ln:(st.R.length:Int)<=b
theorem jE{b c:Int}{st:STS}(h:stW b st)(hbc:b<=c):stW c st:=⟨h.m,h.r,Int.le_trans h.ln hbc⟩
theorem AZ{b:Int}{st:STS}{k:Int}{x:FNS}(h:stW b st)(hq:PG (b - st.R.length+1) x):stW (b+1) {me:=st.me,sp:=k,R:=st.R++x.ul} :=
 ⟨h.m,O0 h.r hq.ul,by have:=hq.ln;simp only [List.length_append];omega⟩
theorem wT{b:Int}{st:STS}{k a:Int}(h:stW b st)(ha:0<=a/\a<=1000):stW (b+1) {me:=st.me,sp:=k,R:=st.R++ [a] } :=
 ⟨h.m,wS h.r ha,by have:=h.ln;simp only [List.length_append,List.length_singleton];omega⟩
theorem UW{b:Int}{st:STS}(h:stW b st)(k:Int):stW (b+1) {me:=st.me,sp:=k,R:=st.R} :=⟨h.m,h.r,by have:=h.ln;show(st.R.length:Int)<=_;omega⟩
structure ZM (t b:Int) (st:STS) (x:FTS):Prop where
 h:x.at'=0\/x.at'=1\/x.at'=2\/x.at'=3
 fn:x.at'=0->ZC t x.fn/\PG (b - st.R.length) x.fn
 cl:x.at'=1->clW t x.cl
 ps:0<=x.p.pops/\x.p.pops<=1000
structure aHF (t b:Int) (s:MS) (o:FtO):Prop where
 a:Act1 s o.s
 st:stW (b+1) o.st
 w:o.d=false->ZM t (b+1) o.st o.x
theorem aBX{t n b:Int}{x:FTS}{st:STS}{s:MS}(hb:Bnd t n s)(hx:ZM t b st x)(hst:stW b st)(hbb:b<=900000):(ftT t n x st s).run (aHF t b s):=by
 have hb':=hb;obtain⟨ht,hn,⟨c0,c1⟩,hw⟩:=hb;obtain⟨n0,n1⟩:=hn;obtain⟨t0,t1⟩:=ht;obtain⟨h,ag,ah,g⟩:=hx;have am:=hst.ln;have ac:stW (b+1) st:=jE hst (by omega)
 have aa:1<=n/\n<=1000:=⟨n0,n1⟩;have b0:0<=b:=by omega
 unfold ftT;refine aLa (fun h0=>?_) (fun h0=>aLa (fun h1=>?_) (fun h1=>aLa (fun h2=>?_) (fun h2=>aLa (fun h3=>?_) (fun h3=>?_))))
 ·obtain⟨ad,ae⟩:=ag (fJ h0);have hF:=HD hb' ad ae (by omega)
  have ar:=HB hb' ad ae (by omega)
  have hA:=hF.a;have hQ:=hF.q;have ao:=hQ.ln;have hS:stW (b+1) {me:=st.me,sp:=st.sp,R:=st.R++(aM t n x.fn s).x.ul } :=AZ hst hQ;have af:=hQ.cu;unfold DD w1h w1o w1j
  (repeat' (with_reducible first | exact trivial | rfl | assumption | refine aLg ?_ ?_ | refine Tr.run_ite (fun _=>?_) (fun _=>?_) | refine aLk ?_ | refine And.intro ?_ ?_))
  all_goals first
   | exact bV
   | exact EM _ _ _ _ _ _ _ af
   | exact yP _
   | exact wL _ _ _ _ _ _ _ _ _
   | exact zQ _ _ _
   | exact KL _ _ _ _ _
   | (simp only [List.length_append];done)
   | (refine⟨by first | assumption | exact bV,?_,fun hd=>?_⟩
      ·first
        | assumption
        | (dsimp only;rw [T8];assumption)
      ·first
        | exact Bool.noConfusion hd
        | (refine⟨by dsimp only;decide,?_,?_,?_⟩
           ·first | (exact nE') | (intro _;exact⟨hF.w (by assumption),eY hQ (by dsimp only;omega)⟩)
           ·first | (exact nE') | (intro _;dsimp only;with_reducible exact GN _ _ _)
           ·first | exact g | exact yQ _ _ _ _ _ _ _ af))
 ·have hc:=ah (fJ h1);have hC:=zS hb' hc;have au:=GO hb' hc;have hA:=hC.a;unfold DE
  (repeat' (with_reducible first | exact trivial | rfl | assumption | refine aLg ?_ ?_ | refine Tr.run_ite (fun _=>?_) (fun _=>?_) | refine aLk ?_ | refine And.intro ?_ ?_))
  all_goals first
   | exact bV
   | exact rA aa hst.m (dO _ _)
   | (refine⟨by assumption,by assumption,fun hd=>?_⟩
      first
       | exact Bool.noConfusion hd
       | (refine⟨by dsimp only;decide,?_,?_,g⟩
          ·first | (exact nE') | (intro _;exact⟨C4 (t:=t) (n:=n) aa hst.m (dO _ _),eY (C3 (t:=t) (n:=n) aa hst.m (dO _ _)) (by dsimp only;omega)⟩)
          ·first | (exact nE') | (intro _;exact hC.w (by assumption))))
 ·have hP:=UC (st:=st) hb' (show prW t x.pr from⟨trivial⟩)
  have aq:=UB (st:=st) hb' (show prW t x.pr from⟨trivial⟩)
  have hA:=hP.a;have ap:stW (b+1) (prF t n x.pr st s).st :=by rw [hP.st];exact ac
  unfold DF
  (repeat' (with_reducible first | exact trivial | rfl | assumption | refine aLg ?_ ?_ | refine Tr.run_ite (fun _=>?_) (fun _=>?_) | refine aLk ?_ | refine And.intro ?_ ?_))
  all_goals first
   | exact bV
   | (refine⟨by assumption,by assumption,fun hd=>?_⟩
      first
       | exact Bool.noConfusion hd
       | exact⟨by dsimp only;decide,fun e=>absurd e (by dsimp only;decide),fun e=>absurd e (by dsimp only;decide),g⟩)
 ·have hW:=OM (FTS.p x).1 (FTS.p x).2 (FTS.p x).3 (FTS.p x).4 (FTS.p x).5 (FTS.p x).6 (FTS.p x).7 (FTS.p x).8 (FTS.p x).9;have ai:=ON (FTS.p x).1 (FTS.p x).2 (FTS.p x).3 (FTS.p x).4 (FTS.p x).5 (FTS.p x).6 (FTS.p x).7 (FTS.p x).8 (FTS.p x).9;have al:stW (b+1) {me:=st.me,sp:=0,R:=st.R++ [(FTS.p x).9] } :=wT hst g;have ak:stW (b+1) {me:=st.me,sp:=st.sp,R:=st.R++ [(FTS.p x).9] } :=wT hst g;have aj:stW (b+1) {me:=st.me,sp:=0,R:=st.R} :=UW hst 0;unfold DG w1i
  (repeat' (with_reducible first | exact trivial | rfl | assumption | refine aLg ?_ ?_ | refine Tr.run_ite (fun _=>?_) (fun _=>?_) | refine aLk ?_ | refine And.intro ?_ ?_))
  all_goals first
   | exact bV
   | exact rA aa hst.m (dO _ _)
   | (simp only [List.length_append,List.length_singleton];done)
   | (refine⟨by exact bV,by assumption,fun hd=>?_⟩
      first
       | exact Bool.noConfusion hd
       | (refine⟨by dsimp only;decide,?_,?_,g⟩
          ·first | (exact nE') | (intro _;exact⟨C4 (t:=t) (n:=n) aa hst.m (dO _ _),eY (C3 (t:=t) (n:=n) aa hst.m (dO _ _)) (by dsimp only;omega)⟩)
          · (exact nE')))
 ·simp only [cA,beq_eq_false_iff_ne]at h0 h1 h2 h3;rcases h with e | e | e | e<;>contradiction
theorem aEy{t n b:Int}{x:FTS}{st:STS}{s:MS}(hb:Bnd t n s)(hx:ZM t b st x)(hst:stW b st)(hbb:b<=900000):aEr t n x st s:=aLq (aBX hb hx hst hbb)
theorem aEz{t n b:Int}{x:FTS}{st:STS}{s:MS}(hb:Bnd t n s)(hx:ZM t b st x)(hst:stW b st)(hbb:b<=900000):aHF t b s (i8 t n x st s):=aLl (aBX hb hx hst hbb)
theorem HE{t n b sh kd ky most:Int}{st:STS}(hn:1<=n/\n<=1000)(hst:stW b st):(SA t n sh kd ky most st).run (fun r=>ZM t b st r.1/\r.2=st):=by
 have g:=hst.ln;unfold SA
 (repeat' (with_reducible first | exact trivial | rfl | assumption | refine aLg ?_ ?_ | refine Tr.run_ite (fun _=>?_) (fun _=>?_) | refine aLk ?_ | refine And.intro ?_ ?_))
 all_goals first
  | exact bV
  | exact rA hn hst.m (dO _ _)
  | exact⟨by dsimp only;decide,fun _=>⟨C4 (t:=t) (n:=n) hn hst.m (dO _ _),eY (C3 (t:=t) (n:=n) hn hst.m (dO _ _)) (by omega)⟩,fun e=>absurd e (by dsimp only;decide),⟨(by decide:(0:Int)<=0),(by decide:(0:Int)<=1000)⟩⟩
theorem eV(s:MS)(a:Int):Act1 s (s.loadd a):=⟨rfl,rfl,id,rfl,rfl⟩
theorem xT(s:MS)(a o x:Int):Act1 s (s.cased a o (WU x)):=I4 s _ _ _ _ _ _ _ _ (II x)
theorem oM(s:MS)(a x:Int):Act1 s (s.added a x):=zG s _ _ _ _ _ _ _ (II _)
theorem m8{m:List (Int×Int)}{l:List Int}(h:eH l):eH (cH m l):=fun r hr=>h r (List.mem_filter.1 hr).1
theorem tU{m:List (Int×Int)}{l:List Int}(h:eH l):eH (aS m l):=fun r hr=>h r (List.mem_filter.1 hr).1
theorem DX(m:List (Int×Int))(l:List Int):(cH m l).length <=l.length:=List.length_filter_le _ _
theorem FC{l:List Int}(h:eH l){j:Nat}(hj:j<l.length): -1000000<=List.getD l (j+Int.toNat 0*1) 0/\List.getD l (j+Int.toNat 0*1) 0<=1000000:=by
 have e:j+Int.toNat 0*1=j:=by simp
 rw [e,gD',gE' hj];have:=h _ (List.getElem_mem hj);show _<=l[j]/\l[j]<=_;omega
theorem D4{n a:Int}(hn:1<=n)(ha:1<=a):1<=cR n a/\cR n a<=n:=by
 unfold cR;rw [Int.tmod_eq_emod_of_nonneg (by omega)]
 have:=Int.emod_nonneg a (show n≠0 by omega)
 have:=Int.emod_lt_of_pos a (show 0<n by omega)
 omega
theorem W5{t n me:Int}(hn:1<=n):1<=at0 t n me/\at0 t n me<=n:=by
 unfold at0;cases h:bH n (aO t n me)with
 | true=>exact iD.1 h
 | false=>exact⟨(by decide:(1:Int)<=1),hn⟩
def enI(t n b:Int)(e:ENS):Prop:=match e.ph with
 | 0=>True
 | 1=>okAl n e.x
 | 2=>True
 | 3=>(eH e.y.N/\(e.y.N.length:Int)<=b)/\0<=e.y.i/\e.y.i<2*t
 | 4=>2*t<=e.y.i/\1<=e.y.l/\e.y.gs.length=e.y.j+e.y.l/\eH e.y.gs/\eH e.y.ks/\(e.y.ks.length:Int)<=b
 | _=>False
structure aD1 (t n b:Int) (s:MS) (o:EO):Prop where
 a:Act1 s o.s
 st:stW (b+1) o.st
 w:o.d=false->enI t n (b+1) o.e
theorem RO{t n b:Int}{e:ENS}{st:STS}{s:MS}(hb:Bnd t n s)(hx:enI t n b e)(hst:stW b st)(hbb:b<=900000):PI t n e st s:=by
 obtain⟨ht,hn,hc,hw⟩:=hb;have hl:=hst.ln;refine⟨ht,hn,⟨hc.1,by omega⟩,hst.m,by omega,?_⟩
 match e,hx with
 | ⟨0,sh,dn,x,y⟩,hx=>trivial
 | ⟨1,sh,dn,x,y⟩,hx=>exact hx
 | ⟨2,sh,dn,x,y⟩,hx=>trivial
 | ⟨3,sh,dn,x,y⟩,hx=>
   obtain⟨⟨h1,h2⟩,h3⟩:=hx;exact⟨by dsimp only at h2⊢;omega,h3⟩
 | ⟨4,sh,dn,x,y⟩,hx=>
   obtain⟨a1,a2,a3,a4,a5⟩:=hx;exact⟨a1,a2,a3,FC a4 (by omega)⟩
theorem JE{t n b:Int}{e:ENS}{st:STS}{x:AL}{s s0:MS}(ha:Act1 s0 s)(hst:stW b st)(hg:x.got=0)(hx:1<=x.at'/\x.at'<=n)(hl0:0<=x.left+1)(hl:x.left<=1000):aD1 t n b s0 (L7 e st x s):=by
 have g:=hst.ln;unfold L7;split
 ·exact⟨ha,⟨hst.m,hst.r,by dsimp only;omega⟩,fun _=>trivial⟩
 ·rename_i h;rw [bY,dF']at h;exact⟨ha,jE hst (by omega),fun _=>⟨hg,hx,by show(0:Int)<=x.left;omega,hl⟩⟩
theorem x9{t n b:Int}{e:ENS}{st:STS}{x:AL}{s:MS}(hn:1<=n)(hst:stW b st)(hx:okAl n x):aD1 t n b s (sO n e st x s):=by
 obtain⟨hg,ha,hl⟩:=hx;have g:=hst.ln;unfold sO;split
 ·split
  ·exact⟨xT _ _ _ _,⟨hst.m,hst.r,by dsimp only;omega⟩,fun h=>Bool.noConfusion h⟩
  ·exact JE (xT _ _ _ _) hst rfl (D4 hn ha.1) (by dsimp only;omega) (by dsimp only;omega)
 ·split
  ·exact JE (eV _ _) hst rfl (D4 hn ha.1) (by dsimp only;omega) (by dsimp only;omega)
  ·exact⟨eV _ _,jE hst (by omega),fun _=>⟨rfl,ha,hl⟩⟩
theorem RP{t n b:Int}{e:ENS}{st:STS}{s:MS}(hb:Bnd t n s)(hx:enI t n b e)(hst:stW b st):aD1 t n b s (enF t n e st s):=by
 obtain⟨ht,hn,hc,hw⟩:=hb;have ae:=hst.ln;have g:stW (b+1) st:=jE hst (by omega)
 match e,hx with
 | ⟨0,sh,dn,x,y⟩,hx=>
   unfold enF;dsimp only;cases hc:ieq st.sp 0 with
   | true=>exact x9 hn.1 hst ⟨rfl,W5 hn.1,by dsimp only;omega⟩
   | false=>exact⟨eV _ _,g,fun h=>Bool.noConfusion h⟩
 | ⟨1,sh,dn,x,y⟩,hx=>exact x9 hn.1 hst hx
 | ⟨2,sh,dn,x,y⟩,hx=>
   exact⟨eV _ _,g,fun _=>⟨⟨hst.r,by show(st.R.length:Int)<=_;omega⟩,(by decide:(0:Int)<=1),by show(1:Int)<_;omega⟩⟩
 | ⟨3,sh,dn,x,y⟩,hx=>
   obtain⟨⟨hN,ad⟩,ac,aa⟩:=hx;dsimp only at hN ad ac aa;have hk:=DX (aU y.m n y.i s) y.N;unfold enF;dsimp only;generalize hsm:aU y.m n y.i s=sm at hk⊢;cases h1:ieq (y.i+1) (2*t)with
   | false=>
     have h1:=fC h1;exact⟨eV _ _,g,fun _=>⟨⟨hN,by show((y.N).length :Int)<=_;omega⟩,by show 0<=y.i+1;omega,by show y.i+1<2*t;omega⟩⟩
   | true=>
     have h1:=fJ h1;cases h2:ieq ((aS sm y.N).length :Int) 0 with
     | true=>exact⟨eV _ _,⟨hst.m,m8 hN,by show((cH sm y.N).length :Int)<=_;omega⟩,fun h=>Bool.noConfusion h⟩
     | false=>
       have h2:=fC h2;exact⟨eV _ _,g,fun _=>⟨by show 2*t<=y.i+1;omega,by show 1<=(aS sm y.N).length;omega,by show(aS sm y.N).length =0+(aS sm y.N).length;omega,tU hN,m8 hN,by show((cH sm y.N).length :Int)<=_;omega⟩⟩
 | ⟨4,sh,dn,x,y⟩,hx=>
   obtain⟨a1,a2,a3,a4,a5,a6⟩:=hx;dsimp only at a1 a2 a3 a4 a5 a6;unfold enF;dsimp only;cases h1:ieq ((y.l - 1:Nat):Int) 0 with
   | true=>exact⟨oM _ _ _,⟨hst.m,a5,by show((y.ks).length :Int)<=_;omega⟩,fun _=>trivial⟩
   | false=>
     have h1:=fC h1;exact⟨oM _ _ _,g,fun _=>⟨a1,by show 1<=y.l - 1;omega,by show(y.gs).length =y.j+1+(y.l - 1);omega,a4,a5,by show((y.ks).length :Int)<=_;omega⟩⟩
def O3(t n b:Int)(y:SWS):Prop:=match y.ph with
 | 0=>True
 | 1=>(eH y.N/\(y.N.length:Int)<=b)/\0<=y.i/\y.i<2*t
 | 2=>2*t<=y.i/\1<=y.l/\y.gs.length=y.j+y.l/\eH y.gs/\eH y.ks/\(y.ks.length:Int)<=b
 | _=>False
structure aJW (t n b:Int) (s:MS) (o:SO):Prop where
 a:Act1 s o.s
 st:stW (b+1) o.st
 w:o.d=false->O3 t n (b+1) o.e
theorem aF1{t n b:Int}{e:SWS}{st:STS}{s:MS}(hb:Bnd t n s)(hx:O3 t n b e)(hst:stW b st)(hbb:b<=900000):tR t n e st s:=by
 obtain⟨ht,hn,hc,hw⟩:=hb;have hl:=hst.ln;refine⟨ht,hn,⟨hc.1,by omega⟩,by omega,?_⟩
 match e,hx with
 | ⟨0,N,m,i,ks,fs,gs,j,l⟩,hx=>trivial
 | ⟨1,N,m,i,ks,fs,gs,j,l⟩,hx=>
   obtain⟨⟨h1,h2⟩,h3⟩:=hx;exact⟨by dsimp only at h2⊢;omega,h3⟩
 | ⟨2,N,m,i,ks,fs,gs,j,l⟩,hx=>
   obtain⟨a1,a2,a3,a4,a5⟩:=hx;exact⟨a1,a2,a3,FC a4 (by omega)⟩
theorem aF2{t n b:Int}{e:SWS}{st:STS}{s:MS}(hb:Bnd t n s)(hx:O3 t n b e)(hst:stW b st):aJW t n b s (swF t n e st s):=by
 obtain⟨ht,hn,hc,hw⟩:=hb;have ae:=hst.ln;have g:stW (b+1) st:=jE hst (by omega)
 match e,hx with
 | ⟨0,N,m,i,ks,fs,gs,j,l⟩,hx=>
   exact⟨eV _ _,g,fun _=>⟨⟨hst.r,by show(st.R.length:Int)<=_;omega⟩,(by decide:(0:Int)<=1),by show(1:Int)<_;omega⟩⟩
 | ⟨1,N,m,i,ks,fs,gs,j,l⟩,hx=>
   obtain⟨⟨hN,ad⟩,ac,aa⟩:=hx;dsimp only at hN ad ac aa;have hk:=DX (aU m n i s) N;unfold swF;dsimp only;generalize hsm:aU m n i s=sm at hk⊢;cases h1:ieq (i+1) (2*t)with
   | false=>
     have h1:=fC h1;exact⟨eV _ _,g,fun _=>⟨⟨hN,by show((N).length :Int)<=_;omega⟩,by show 0<=i+1;omega,by show i+1<2*t;omega⟩⟩
   | true=>
     have h1:=fJ h1;cases h2:ieq ((aS sm N).length :Int) 0 with
     | true=>exact⟨eV _ _,⟨hst.m,m8 hN,by show((cH sm N).length :Int)<=_;omega⟩,fun h=>Bool.noConfusion h⟩
     | false=>
       have h2:=fC h2;exact⟨eV _ _,g,fun _=>⟨by show 2*t<=i+1;omega,by show 1<=(aS sm N).length;omega,by show(aS sm N).length =0+(aS sm N).length;omega,tU hN,m8 hN,by show((cH sm N).length :Int)<=_;omega⟩⟩
 | ⟨2,N,m,i,ks,fs,gs,j,l⟩,hx=>
   obtain⟨a1,a2,a3,a4,a5,a6⟩:=hx;dsimp only at a1 a2 a3 a4 a5 a6;unfold swF;dsimp only;cases h1:ieq ((l - 1:Nat):Int) 0 with
   | true=>exact⟨oM _ _ _,⟨hst.m,a5,by show((ks).length :Int)<=_;omega⟩,fun h=>Bool.noConfusion h⟩
   | false=>
     have h1:=fC h1;exact⟨oM _ _ _,g,fun _=>⟨a1,by show 1<=l - 1;omega,by show(gs).length =j+1+(l - 1);omega,a4,a5,by show((ks).length :Int)<=_;omega⟩⟩
theorem Y3(t n u sh kd ky att:Int):RX t n u sh kd ky att:=⟨⟨rfl,rfl⟩,trivial⟩
theorem aHx(t n:Int){u:Int}(sh kd ky att:Int)(hu:0<=u/\u<=1000):exW t (aD9 t n u sh kd ky att):=⟨.inl rfl,hu,⟨(by decide:(0:Int)<=0),(by decide:(0:Int)<=1000)⟩⟩
structure hpW (t n b:Int) (st:STS) (x:HPS):Prop where
 h:x.at'=0\/x.at'=1\/x.at'=2\/x.at'=3\/x.at'=4\/x.at'=5\/x.at'=6\/x.at'=7\/x.at'=8\/x.at'=9
 u:0<=x.u/\x.u<=1000
 ex:x.at'=3->exW t x.ex
 en:x.at'=4->enI t n b x.en
 fn:x.at'=5->ZC t x.fn/\PG (b - st.R.length) x.fn
 cl:x.at'=7->clW t x.cl
 ps:0<=x.p.pops/\x.p.pops<=1000
structure aH6 (t n b:Int) (s:MS) (o:HpO):Prop where
 a:Act1 s o.s
 st:stW (b+1) o.st
 w:o.d=false->hpW t n (b+1) o.st o.x
theorem TE:(0:Int)<=0/\(0:Int)<=1000:=⟨by decide,by decide⟩
theorem aB6{t n b:Int}{x:HPS}{st:STS}{s:MS}(hb:Bnd t n s)(hx:hpW t n b st x)(hst:stW b st)(hbb:b<=900000):(hpT t n x st s).run (aH6 t n b s):=by
 have hb':=hb;obtain⟨ht,hn,⟨c0,c1⟩,hw⟩:=hb;obtain⟨n0,n1⟩:=hn;obtain⟨t0,t1⟩:=ht;obtain⟨h,hu,hex,ai,ah,aj,ag⟩:=hx;have ao:=hst.ln;have ac:stW (b+1) st:=jE hst (by omega)
 have aa:1<=n/\n<=1000:=⟨n0,n1⟩;have g:=hst.m;obtain⟨u0,u1⟩:=hu;have b0:0<=b:=by omega
 obtain⟨k0,k1⟩:=wF hw (2*n+5+2*t+3*x.1+1);unfold hpT;refine aLa (fun h0=>?c0) (fun h0=>aLa (fun h1=>?c1) (fun h1=>aLa (fun h2=>?c2) (fun h2=>aLa (fun h3=>?c3) (fun h3=>aLa (fun h4=>?c4) (fun h4=>aLa (fun h5=>?c5) (fun h5=>aLa (fun h6=>?c6) (fun h6=>aLa (fun h7=>?c7) (fun h7=>aLa (fun h8=>?c8) (fun h8=>aLa (fun h9=>?c9) (fun h9=>?c10))))))))))
 case' c0=>unfold DK w1w
 case' c1=>unfold DL w1w
 case' c2=>unfold DM w1s w1w
 case' c3=>have he:=hex (fJ h3);have hE:=aEg hb' he;have ak:=aEf hb' he;have hA:=hE.a;have hS:stW (b+1) {me:=st.me,sp:=st.sp,R:=st.R++ [(ExO.x (CQ t n x.11 s)).1] } :=wT hst hE.p;unfold DN
 case' c4=>have he:=ai (fJ h4);have hE:=RP hb' he hst;have ak:=RO hb' he hst hbb;have hA:=hE.a;have hS:=hE.st;have g:=hS.m;have al:=hS.ln;unfold DO
 case' c5=>obtain⟨ad,ae⟩:=ah (fJ h5);have hF:=HD hb' ad ae (by omega);have au:=HB hb' ad ae (by omega);have hA:=hF.a;have hQ:=hF.q;have ap:=hQ.ln;have hS:stW (b+1) {me:=st.me,sp:=st.sp,R:=st.R++(aM t n x.fn s).x.ul } :=AZ hst hQ;have af:=hQ.cu;unfold DP w1r w1v
 case' c6=>unfold DQ w1w
 case' c7=>have hc:=aj (fJ h7);have hC:=zS hb' hc;have ax:=GO hb' hc;have hA:=hC.a;unfold DR
 case' c8=>have hP:=UC (st:=st) hb' (show prW t x.pr from⟨trivial⟩);have ar:=UB (st:=st) hb' (show prW t x.pr from⟨trivial⟩);have hA:=hP.a;have aq:stW (b+1) (prF t n x.pr st s).st :=(by rw [hP.st];exact ac);unfold DS
 case' c9=>have hD:=OJ (HPS.p x).1 (HPS.p x).2 (HPS.p x).3 (HPS.p x).4 (HPS.p x).5 (HPS.p x).6 (HPS.p x).7 (HPS.p x).8 (HPS.p x).9 (aC x.6 0 12);have av:=OK (HPS.p x).1 (HPS.p x).2 (HPS.p x).3 (HPS.p x).4 (HPS.p x).5 (HPS.p x).6 (HPS.p x).7 (HPS.p x).8 (HPS.p x).9 (aC x.6 0 12);have am:stW (b+1) {me:=st.me,sp:=0,R:=st.R} :=UW hst 0;unfold DT w1u w1w
 case c10=>
  simp only [cA,beq_eq_false_iff_ne]at h0 h1 h2 h3 h4 h5 h6 h7 h8 h9;rcases h with e | e | e | e | e | e | e | e | e | e<;>contradiction
 all_goals (repeat' (with_reducible first | exact trivial | rfl | assumption | refine aLg ?_ ?_ | refine Tr.run_ite (fun _=>?_) (fun _=>?_) | refine aLk ?_ | refine And.intro ?_ ?_))
 all_goals first
  | exact bV
  | (simp only [List.length_append,List.length_singleton];done)
  | exact Y3 _ _ _ _ _ _ _
  | exact rA aa g (dO _ _)
  | exact EM _ _ _ _ _ _ _ af
  | exact yP _
  | exact wL _ _ _ _ _ _ _ _ _
  | exact zQ _ _ _
  | exact KL _ _ _ _ _
  | (simp only [List.length_append];done)
  | (refine⟨by first | assumption | exact bV,?_,fun hd=>?_⟩
     ·first
       | assumption
       | (dsimp only;rw [T8];assumption)
     ·first
       | exact Bool.noConfusion hd
       | (refine⟨by dsimp only;decide,⟨u0,u1⟩,?_,?_,?_,?_,?_⟩<;>first | (exact nE') | exact ag | exact TE | (intro _;dsimp only;with_reducible exact aHx _ _ _ _ _ _ ⟨u0,u1⟩) | (intro _;exact trivial) | (intro _;exact⟨C4 (t:=t) (n:=n) aa g (dO _ _),eY (C3 (t:=t) (n:=n) aa g (dO _ _)) (by dsimp only;omega)⟩) | (intro _;exact hE.w (by assumption)) | (intro _;exact⟨hF.w (by assumption),eY hQ (by dsimp only;omega)⟩) | (intro _;dsimp only;with_reducible exact GN _ _ _) | exact yQ _ _ _ _ _ _ _ af | (intro _;exact hC.w (by assumption))))
theorem SU{t n b:Int}{x:HPS}{st:STS}{s:MS}(hb:Bnd t n s)(hx:hpW t n b st x)(hst:stW b st)(hbb:b<=900000):aAq t n x st s:=aLq (aB6 hb hx hst hbb)
theorem SV{t n b:Int}{x:HPS}{st:STS}{s:MS}(hb:Bnd t n s)(hx:hpW t n b st x)(hst:stW b st)(hbb:b<=900000):aH6 t n b s (gY t n x st s):=aLl (aB6 hb hx hst hbb)
theorem aE2{t n b u no lim:Int}{st:STS}(hu:0<=u/\u<=1000):(NF t n u no lim st).run (fun r=>hpW t n b st r.1/\r.2=st):=by
 unfold NF
 (repeat' (with_reducible first | exact trivial | rfl | assumption | refine aLg ?_ ?_ | refine Tr.run_ite (fun _=>?_) (fun _=>?_) | refine aLk ?_ | refine And.intro ?_ ?_))
 all_goals first
  | exact bV
  | exact⟨by dsimp only;decide,hu,fun e=>absurd e (by dsimp only;decide),fun e=>absurd e (by dsimp only;decide),fun e=>absurd e (by dsimp only;decide),fun e=>absurd e (by dsimp only;decide),TE⟩
theorem aA8{s k y:Int}(h:bU s k y=true):rngU (tskV s k y):=by
 have h:=mY.1 h;unfold tskV;refine⟨?_,?_⟩<;>omega
theorem Z7(t n:Int):SL t n:=⟨⟨rfl,rfl⟩,trivial⟩
theorem aH0(t n:Int):hdW t (aEP t n):=⟨⟨(by decide:(0:Int)<=0),(by decide:(0:Int)<=1000)⟩,⟨(by decide:(-1:Int)<= -1),(by decide:(-1:Int)<=1000)⟩⟩
theorem YL(t n u:Int):tE t n u:=⟨⟨rfl,rfl⟩,trivial⟩
theorem aG5(t n:Int){u:Int}(hu:0<=u/\u<=1000):drW t (CL t n u):=⟨hu,⟨(by decide:(0:Int)<=0),(by decide:(0:Int)<=2)⟩⟩
theorem XH(t n u:Int):QC t n u:=⟨⟨rfl,rfl⟩,trivial⟩
theorem aGV(t n:Int){u:Int}(hu:0<=u/\u<=1000):awW t (aC6 t n u):=⟨hu⟩
theorem WP(t n u sh kd ky:Int):P3 t n u sh kd ky:=⟨trivial,⟨rfl,rfl⟩,trivial⟩
theorem aGL(t n:Int){u:Int}(sh kd ky:Int)(hu:0<=u/\u<=1000):anW t (aCJ t n u sh kd ky):=⟨.inl rfl,hu,AX aA8 EW,EW⟩
theorem aAp(t n u no lim:Int)(st:STS):DJ t n u no lim st:=by
 unfold DJ NF;exact⟨⟨⟨rfl,rfl,rfl⟩,by decide⟩,trivial⟩
theorem aB5{t n b u no lim:Int}{st:STS}(hu:0<=u/\u<=1000):hpW t n b st (xK t n u no lim st).1:=(aLl (aE2 (b:=b) hu)).1
theorem ZG{t n b:Int}(sh kd ky most:Int){st:STS}(hn:1<=n/\n<=1000)(hst:stW b st):vQ t n sh kd ky most st:=aLq (HE hn hst)
theorem aHE{t n b:Int}(sh kd ky most:Int){st:STS}(hn:1<=n/\n<=1000)(hst:stW b st):ZM t b st (kR t n sh kd ky most st).1:=(aLl (HE (t:=t) hn hst)).1
theorem SB{t n b:Int}(sh kd ky most:Int){st:STS}(hn:1<=n/\n<=1000)(hst:stW b st):(kR t n sh kd ky most st).2=st:=(aLl (HE (t:=t) hn hst)).2
structure YI (t n b:Int) (st:STS) (x:DOS):Prop where
 h:x.at'=0\/x.at'=1\/x.at'=2\/x.at'=3\/x.at'=4\/x.at'=5\/x.at'=6\/x.at'=7\/x.at'=8\/x.at'=9
 hd:x.at'=0->hdW t x.hd
 hp:x.at'=1\/x.at'=5->hpW t n b st x.hp
 en:x.at'=2->enI t n b x.en
 ft:x.at'=3->ZM t b st x.ft
 an:x.at'=4->anW t x.an
 aw:x.at'=6->awW t x.aw
 fn:x.at'=7->ZC t x.fn/\PG (b - st.R.length) x.fn
 dr:x.at'=8->drW t x.dr
 sw:x.at'=9->O3 t n b x.sw
structure aG3 (t n b:Int) (s:MS) (o:DqO):Prop where
 a:Act1 s o.s
 st:stW (b+1) o.st
 w:o.d=false->YI t n (b+1) o.st o.x
theorem aBQ{t n b:Int}{x:DOS}{st:STS}{s:MS}(hb:Bnd t n s)(hx:YI t n b st x)(hst:stW b st)(hbb:b<=900000):(dqT t n x st s).run (aG3 t n b s):=by
 have hb':=hb;obtain⟨ht,hn,⟨c0,c1⟩,hw⟩:=hb;obtain⟨n0,n1⟩:=hn;obtain⟨t0,t1⟩:=ht;obtain⟨h,ak,ag,ao,al,ar,aq,am,ap,aj⟩:=hx;have au:=hst.ln;have ae:stW (b+1) st:=jE hst (by omega)
 have ad:1<=n/\n<=1000:=⟨n0,n1⟩;have aa:=hst.m;have b0:0<=b:=by omega
 unfold dqT;refine aLa (fun h0=>?c0) (fun h0=>aLa (fun h1=>?c1) (fun h1=>aLa (fun h2=>?c2) (fun h2=>aLa (fun h3=>?c3) (fun h3=>aLa (fun h4=>?c4) (fun h4=>aLa (fun h5=>?c5) (fun h5=>aLa (fun h6=>?c6) (fun h6=>aLa (fun h7=>?c7) (fun h7=>aLa (fun h8=>?c8) (fun h8=>aLa (fun h9=>?c9) (fun h9=>?c10))))))))))
 case' c0=>have hc:=ak (fJ h0);have hC:=aEX hb' hc;have ac:=aEW hb' hc;have hA:=hC.a;have g:=ae;have af:=g.ln;obtain⟨v0,v1⟩:=hC.p;unfold CB w2c w26 w27
 case' c1=>have hc:=ag (.inl (fJ h1));have hC:=SV hb' hc hst hbb;have ac:=SU hb' hc hst hbb;have hA:=hC.a;have g:=hC.st;have aa:=g.m;have af:=g.ln;unfold CC w24 w29 w27
 case' c2=>have hc:=ao (fJ h2);have hC:=RP hb' hc hst;have ac:=RO hb' hc hst hbb;have hA:=hC.a;have g:=hC.st;have aa:=g.m;have af:=g.ln;unfold CD w27
 case' c3=>have hc:=al (fJ h3);have hC:=aEz hb' hc hst hbb;have ac:=aEy hb' hc hst hbb;have hA:=hC.a;have g:=hC.st;have aa:=g.m;have af:=g.ln;unfold CE w20 w28 w27
 case' c4=>have hc:=ar (fJ h4);have hC:=aCQ hb' hc;have ac:=aCP hb' hc;have hA:=hC.a;have g:=ae;have af:=g.ln;unfold CF w27
 case' c5=>have hc:=ag (.inr (fJ h5));have hC:=SV hb' hc hst hbb;have ac:=SU hb' hc hst hbb;have hA:=hC.a;have g:=hC.st;have aa:=g.m;have af:=g.ln;unfold CG w29 w27
 case' c6=>have hc:=aq (fJ h6);have hC:=aDe hb' hc;have ac:=aDd hb' hc;have hA:=hC.a;have g:=ae;have af:=g.ln;unfold CH w23 w27
 case' c7=>obtain⟨ah,ai⟩:=am (fJ h7);have hF:=HD hb' ah ai (by omega);have ax:=HB hb' ah ai (by omega);have hA:=hF.a;have hQ:=hF.q;have av:=hQ.ln;have g:stW (b+1) {me:=st.me,sp:=st.sp,R:=st.R++(aM t n x.fn s).x.ul } :=AZ hst hQ;unfold CI w27
 case' c8=>have hc:=ap (fJ h8);have hC:=aDO hb' hc;have ac:=aDN hb' hc;have hA:=hC.a;have g:=ae;unfold CJ w27
 case' c9=>have hc:=aj (fJ h9);have hC:=aF2 hb' hc hst;have ac:=aF1 hb' hc hst hbb;have hA:=hC.a;have g:=hC.st;unfold CK w27
 case c10=>
  simp only [cA,beq_eq_false_iff_ne]at h0 h1 h2 h3 h4 h5 h6 h7 h8 h9;rcases h with e | e | e | e | e | e | e | e | e | e<;>contradiction
 all_goals (repeat' (with_reducible first | exact trivial | rfl | assumption | refine aLg ?_ ?_ | refine Tr.run_ite (fun _=>?_) (fun _=>?_) | refine aLk ?_ | refine And.intro ?_ ?_))
 all_goals first
  | exact bV
  | (intro _;decide)
  | assumption
  | exact YL _ _ _
  | exact XH _ _ _
  | exact WP _ _ _ _ _ _
  | exact aAp _ _ _ _ _ _
  | exact rA ad aa (dO _ _)
  | exact ZG _ _ _ _ ad g
  | (simp only [List.length_append,List.length_singleton];done)
  | (refine⟨by first | assumption | exact bV,by first | assumption | (dsimp only;rw [SB _ _ _ _ ad g];assumption),fun hd=>?_⟩
     first
      | exact Bool.noConfusion hd
      | (refine⟨by dsimp only;decide,?_,?_,?_,?_,?_,?_,?_,?_,?_⟩<;>first | (exact nE') | (intro _;exact hC.w (by assumption)) | (intro _;exact aB5 ⟨by first | omega | (simp_all [bY,bD];done) | (simp_all [bY,bD];omega),v1⟩) | (intro _;exact trivial) | (intro _;dsimp only;rw [SB _ _ _ _ ad g];exact aHE _ _ _ _ ad g) | (intro _;dsimp only;with_reducible exact aGV _ _ aa) | (intro _;dsimp only;with_reducible exact aG5 _ _ aa) | (intro _;dsimp only;with_reducible exact aGL _ _ _ _ _ aa) | (intro _;exact⟨C4 (t:=t) (n:=n) ad aa (dO _ _),eY (C3 (t:=t) (n:=n) ad aa (dO _ _)) (by dsimp only;omega)⟩) | (intro _;exact aB5 aa) | (intro _;exact⟨hF.w (by assumption),eY hQ (by dsimp only;omega)⟩)))
theorem aDF{t n b:Int}{x:DOS}{st:STS}{s:MS}(hb:Bnd t n s)(hx:YI t n b st x)(hst:stW b st)(hbb:b<=900000):X7 t n x st s:=aLq (aBQ hb hx hst hbb)
theorem aDG{t n b:Int}{x:DOS}{st:STS}{s:MS}(hb:Bnd t n s)(hx:YI t n b st x)(hst:stW b st)(hbb:b<=900000):aG3 t n b s (uM t n x st s):=aLl (aBQ hb hx hst hbb)
theorem aDs{t n b:Int}(sh kd ky lim:Int)(st:STS):(QY t n sh kd ky lim st).run (fun r=>YI t n b st r.1/\r.2=st):=by
 unfold QY
 (repeat' (with_reducible first | exact trivial | rfl | assumption | refine aLg ?_ ?_ | refine Tr.run_ite (fun _=>?_) (fun _=>?_) | refine aLk ?_ | refine And.intro ?_ ?_))
 all_goals first
  | exact bV
  | exact Z7 _ _
  | (intro _;decide)
  | (refine⟨by dsimp only;decide,fun _=>aH0 t n,?_,?_,?_,?_,?_,?_,?_,?_⟩<;>(exact nE'))
structure hstW (e c:Int) (x:HST):Prop where
 he:(x.ev.length:Int)<=e
 hc:(x.cl.length:Int)<=c
 n0:0<=x.n0/\x.n0<=(x.cl.length:Int)
 n1:0<=x.n1/\x.n1<=(x.cl.length:Int)
 n2:0<=x.n2/\x.n2<=(x.cl.length:Int)
 n3:0<=x.n3/\x.n3<=(x.cl.length:Int)
 n4:0<=x.n4/\x.n4<=(x.cl.length:Int)
 n5:0<=x.n5/\x.n5<=(x.cl.length:Int)
 n6:0<=x.n6/\x.n6<=(x.cl.length:Int)
 n7:0<=x.n7/\x.n7<=(x.cl.length:Int)
theorem kD{e c e' c':Int}{x:HST}(h:hstW e c x)(h1:e<=e')(h2:c<=c'):hstW e' c' x:=⟨Int.le_trans h.he h1,Int.le_trans h.hc h2,h.n0,h.n1,h.n2,h.n3,h.n4,h.n5,h.n6,h.n7⟩
theorem nY{P:Prop}(h:P:=by first | omega | (dsimp only;omega) | (simp only [List.length_append,List.length_singleton,List.length_set,List.length_cons,List.length_nil];done) | (simp only [List.length_append,List.length_singleton,List.length_set,List.length_cons,List.length_nil];omega) | (dsimp only;simp only [List.length_append,List.length_singleton,List.length_set];omega)):P:=h
theorem aHW{e c th:Int}{x:HST}(kd ky:Int)(h:hstW e c x)(he:e<=1000000)(hc:c<=1000000)(h0:0<=th/\th<8):(hbT th x kd ky).run (fun r=>hstW (e+1) (c+1) r.2):=by
 have hh:=h;obtain⟨a,b,m0,m1,m2,m3,m4,m5,m6,m7⟩:=h;unfold hbT;refine aLa (fun q0=>?c0) (fun q0=>aLa (fun q1=>?c1) (fun q1=>aLa (fun q2=>?c2) (fun q2=>aLa (fun q3=>?c3) (fun q3=>aLa (fun q4=>?c4) (fun q4=>aLa (fun q5=>?c5) (fun q5=>aLa (fun q6=>?c6) (fun q6=>aLa (fun g=>?c7) (fun g=>?c8))))))))
 case' c0=>unfold JO FN FO
 case' c1=>unfold JP FN FO
 case' c2=>unfold JQ FN FO
 case' c3=>unfold JR FN FO
 case' c4=>unfold JS FN FO
 case' c5=>unfold JT FN FO
 case' c6=>unfold JU FN FO
 case' c7=>unfold JV FN FO
 case c8=>
  have q0:=fC q0;have q1:=fC q1;have q2:=fC q2;have q3:=fC q3;have q4:=fC q4;have q5:=fC q5;have q6:=fC q6;have g:=fC g;omega
 all_goals (repeat' (with_reducible first | exact trivial | rfl | assumption | refine aLg ?_ ?_ | refine Tr.run_ite (fun _=>?_) (fun _=>?_) | refine aLk ?_ | refine And.intro ?_ ?_))
 all_goals first
  | exact bV
  | exact kD hh (by omega) (by omega)
  | exact nY
  | (refine⟨?_,?_,?_,?_,?_,?_,?_,?_,?_,?_⟩<;>exact nY)
theorem aB4{e c th:Int}{x:HST}(code:Int)(okk:Bool)(val:Int)(h:hstW e c x)(he:e<=1000000)(hc:c<=1000000)(h0:0<=th/\th<8):(heT th x code okk val).run (fun r=>hstW (e+1) (c) r.2):=by
 have hh:=h;obtain⟨a,b,m0,m1,m2,m3,m4,m5,m6,m7⟩:=h;unfold heT;refine aLa (fun q0=>?c0) (fun q0=>aLa (fun q1=>?c1) (fun q1=>aLa (fun q2=>?c2) (fun q2=>aLa (fun q3=>?c3) (fun q3=>aLa (fun q4=>?c4) (fun q4=>aLa (fun q5=>?c5) (fun q5=>aLa (fun q6=>?c6) (fun q6=>aLa (fun g=>?c7) (fun g=>?c8))))))))
 case' c0=>unfold JW FP FQ VX SQ;have hW:=cK (x:=x.n0 - 1) ⟨by omega,by omega⟩;change W (x.n0 - 1)=x.n0 - 1 at hW
 case' c1=>unfold JX FP FQ VX SQ;have hW:=cK (x:=x.n1 - 1) ⟨by omega,by omega⟩;change W (x.n1 - 1)=x.n1 - 1 at hW
 case' c2=>unfold JY FP FQ VX SQ;have hW:=cK (x:=x.n2 - 1) ⟨by omega,by omega⟩;change W (x.n2 - 1)=x.n2 - 1 at hW
 case' c3=>unfold JZ FP FQ VX SQ;have hW:=cK (x:=x.n3 - 1) ⟨by omega,by omega⟩;change W (x.n3 - 1)=x.n3 - 1 at hW
 case' c4=>unfold J0 FP FQ VX SQ;have hW:=cK (x:=x.n4 - 1) ⟨by omega,by omega⟩;change W (x.n4 - 1)=x.n4 - 1 at hW
 case' c5=>unfold J1 FP FQ VX SQ;have hW:=cK (x:=x.n5 - 1) ⟨by omega,by omega⟩;change W (x.n5 - 1)=x.n5 - 1 at hW
 case' c6=>unfold J2 FP FQ VX SQ;have hW:=cK (x:=x.n6 - 1) ⟨by omega,by omega⟩;change W (x.n6 - 1)=x.n6 - 1 at hW
 case' c7=>unfold J3 FP FQ VX SQ;have hW:=cK (x:=x.n7 - 1) ⟨by omega,by omega⟩;change W (x.n7 - 1)=x.n7 - 1 at hW
 case c8=>
  have q0:=fC q0;have q1:=fC q1;have q2:=fC q2;have q3:=fC q3;have q4:=fC q4;have q5:=fC q5;have q6:=fC q6;have g:=fC g;omega
 all_goals (repeat' (with_reducible first | exact trivial | rfl | assumption | refine aLg ?_ ?_ | refine Tr.run_ite (fun _=>?_) (fun _=>?_) | refine aLk ?_ | refine And.intro ?_ ?_))
 all_goals first
  | exact bV
  | exact kD hh (by omega) (by omega)
  | exact nY
  | (rw [hW];simp only [bD,Bool.not_eq_false',dT',Bool.not_eq_true',dF']at*;first | omega | exact nY)
  | (refine⟨?_,?_,?_,?_,?_,?_,?_,?_,?_,?_⟩<;>exact nY)
theorem SC{t b c:Int}{st:STS}{x:FTS}(h:ZM t b st x)(hbc:b<=c):ZM t c st x:=⟨h.h,fun e=>⟨(h.fn e).1,eY (h.fn e).2 (by omega)⟩,h.cl,h.ps⟩
theorem CN{t n b c:Int}{e:ENS}(hx:enI t n b e)(hbc:b<=c):enI t n c e:=by
 match e,hx with
 | ⟨0,sh,dn,x,y⟩,hx=>trivial
 | ⟨1,sh,dn,x,y⟩,hx=>exact hx
 | ⟨2,sh,dn,x,y⟩,hx=>trivial
 | ⟨3,sh,dn,x,y⟩,hx=>exact⟨⟨hx.1.1,Int.le_trans hx.1.2 hbc⟩,hx.2⟩
 | ⟨4,sh,dn,x,y⟩,hx=>exact⟨hx.1,hx.2.1,hx.2.2.1,hx.2.2.2.1,hx.2.2.2.2.1,Int.le_trans hx.2.2.2.2.2 hbc⟩
theorem O4{t n b c:Int}{e:SWS}(hx:O3 t n b e)(hbc:b<=c):O3 t n c e:=by
 match e,hx with
 | ⟨0,N,m,i,ks,fs,gs,j,l⟩,hx=>trivial
 | ⟨1,N,m,i,ks,fs,gs,j,l⟩,hx=>exact⟨⟨hx.1.1,Int.le_trans hx.1.2 hbc⟩,hx.2⟩
 | ⟨2,N,m,i,ks,fs,gs,j,l⟩,hx=>exact⟨hx.1,hx.2.1,hx.2.2.1,hx.2.2.2.1,hx.2.2.2.2.1,Int.le_trans hx.2.2.2.2.2 hbc⟩
theorem ST{t n b c:Int}{st:STS}{x:HPS}(h:hpW t n b st x)(hbc:b<=c):hpW t n c st x:=⟨h.h,h.u,h.ex,fun e=>CN (h.en e) hbc,fun e=>⟨(h.fn e).1,eY (h.fn e).2 (by omega)⟩,h.cl,h.ps⟩
theorem QZ{t n b c:Int}{st:STS}{x:DOS}(h:YI t n b st x)(hbc:b<=c):YI t n c st x:=⟨h.h,h.hd,fun e=>ST (h.hp e) hbc,fun e=>CN (h.en e) hbc,fun e=>SC (h.ft e) hbc,h.an,h.aw,fun e=>⟨(h.fn e).1,eY (h.fn e).2 (by omega)⟩,h.dr,fun e=>O4 (h.sw e) hbc⟩
structure wkW (t n b:Int) (w:WKS):Prop where
 ht:w.t=t
 hn:w.n=n
 st:stW b w.st
 d:w.b=true->YI t n b w.st w.d/\w.en<(w.tk.length:Int)
 e0:0<=w.en
 e1:w.en<=(w.tk.length:Int)
 tl:(w.tl.length:Int)=w.en+(bif w.b then 1 else 0)
 sl:(w.sl.length:Int)<=w.en
 tk:(w.tk.length:Int)<=100000
structure VH (t n b:Int) (w:WK1):Prop where
 ht:w.t=t
 hn:w.n=n
 st:stW b w.st
 d:YI t n b w.st w.d
 e0:0<=w.en
 e1:w.en<(w.tk.length:Int)
 tl:(w.tl.length:Int)=w.en+1
 sl:(w.sl.length:Int)<=w.en
 tk:(w.tk.length:Int)<=100000
theorem VJ{t n b c:Int}{w:WKS}(h:wkW t n b w)(hbc:b<=c):wkW t n c w:=⟨h.ht,h.hn,jE h.st hbc,fun e=>⟨QZ (h.d e).1 hbc,(h.d e).2⟩,h.e0,h.e1,h.tl,h.sl,h.tk⟩
theorem VD{t n b tr:Int}{w:WKS}(h:wkW t n b w)(hb:w.b=false)(hl:w.en<(w.tk.length:Int)):(O9 tr w).run (VH t n b):=by
 obtain⟨rfl,rfl,ac,hd,e0,e1,g,ad,aa⟩:=h;rw [hb]at g;have g:(w.tl.length:Int)=w.en+0:=g;have hN:=fun sh kd ky lim=>aDs (t:=w.t) (n:=w.n) (b:=b) sh kd ky lim w.st;unfold O9 w2h
 (repeat' (with_reducible first | exact trivial | rfl | assumption | refine aLg ?_ ?_ | refine Tr.run_ite (fun _=>?_) (fun _=>?_) | refine aLk ?_ | refine And.intro ?_ ?_))
 all_goals first
  | exact bV
  | exact aLq (hN _ _ _ _)
  | (simp only [List.length_append,List.length_singleton];done)
  | (refine⟨rfl,rfl,?_,?_,e0,hl,?_,ad,aa⟩
     ·dsimp only;rw [show(dqNF _ _ _ _ _ _ _).2=w.st from(aLl (hN _ _ _ _)).2];exact ac
     ·dsimp only;rw [show(dqNF _ _ _ _ _ _ _).2=w.st from(aLl (hN _ _ _ _)).2];exact(aLl (hN _ _ _ _)).1
     ·dsimp only;rw [List.length_append,List.length_singleton];omega)
theorem aF6{t n b tr:Int}{w:WKS}(h:wkW t n b w)(hl:w.en<(w.tk.length:Int)):VF tr w:=by
 unfold VF;cases hb:w.b with
 | true=>trivial
 | false=>exact aLq (VD h hb hl)
theorem aF7{t n b tr:Int}{w:WKS}(h:wkW t n b w)(hl:w.en<(w.tk.length:Int)):VH t n b (wbF tr w):=by
 unfold wbF;cases hb:w.b with
 | true=>
   obtain⟨h1,h2,h3,h4,h5,h6,g,h8,h9⟩:=h;rw [hb]at g;exact⟨h1,h2,h3,(h4 hb).1,h5,hl,g,h8,h9⟩
 | false=>exact aLl (VD h hb hl)
structure aIO (t n b:Int) (s:MS) (o:WkO):Prop where
 a:Act1 s o.s
 w:wkW t n (b+1) o.x
theorem aCw{t n b:Int}{w:WK1}{s:MS}(hb:Bnd t n s)(h:VH t n b w)(hbb:b<=900000):(wsT w s).run (aIO t n b s):=by
 obtain⟨rfl,rfl,g,hd,e0,e1,ac,ad,aa⟩:=h;have hD:=aDG hb hd g hbb;have ae:=aDF hb hd g hbb;have hA:=hD.a;have hW:W (w.en+1)=w.en+1:=cK ⟨by omega,by omega⟩
 unfold wsT w2j w2i
 (repeat' (with_reducible first | exact trivial | rfl | assumption | refine aLg ?_ ?_ | refine Tr.run_ite (fun _=>?_) (fun _=>?_) | refine aLk ?_ | refine And.intro ?_ ?_))
 all_goals first
  | exact bV
  | (simp only [List.length_append,List.length_singleton,List.length_set];done)
  | (refine⟨hA,⟨rfl,rfl,hD.st,?_,?_,?_,?_,?_,aa⟩⟩
     ·first
       | (intro e;exact Bool.noConfusion e)
       | (intro e;exact⟨hD.w (by assumption),e1⟩)
     ·first | exact e0 | (dsimp only;rw [hW];omega)
     ·first | (dsimp only;omega) | (dsimp only;rw [hW];omega)
     ·dsimp only;rw [List.length_set]
      first | (rw [hW];show _=w.en+1+0;omega) | (show _=w.en+1;omega)
     ·dsimp only
      first | (rw [hW];simp only [List.length_append,List.length_singleton];omega) | (rw [hW];omega) | omega)
theorem aGf{t n b:Int}{w:WK1}{s:MS}(hb:Bnd t n s)(h:VH t n b w)(hbb:b<=900000):aBw w s:=aLq (aCw hb h hbb)
theorem aGg{t n b:Int}{w:WK1}{s:MS}(hb:Bnd t n s)(h:VH t n b w)(hbb:b<=900000):aIO t n b s (wsF w s):=aLl (aCw hb h hbb)
structure egW (t n:Int) (x:EGS):Prop where
 ht:1<=t/\t<=8
 hn:1<=n/\n<=1000
 st:x.s.t=t
 sn:x.s.n=n
 xt:x.th=t
 xn:x.nd=n
 k:0<=x.k/\x.k<=60000
 c:x.s.c=x.k
 w:okW x.s.xs
 l:(x.ws.length:Int)=t
 ws: ∀i,i<x.ws.length->wkW t n x.k (aX x.ws i)
 h:hstW (2*x.k) x.k x.h
theorem VI{ws:List WKS}{i j:Nat}{w:WKS}(hi:i<ws.length):aX (dI ws i w) j=if i=j then w else aX ws j:=by
 unfold aX dI;rw [gD',List.getElem?_set,gD']
 by_cases e:i=j
 ·subst e;rw [if_pos rfl,if_pos rfl,if_pos hi];rfl
 ·rw [if_neg e,if_neg e]
theorem zA(ws:List WKS)(i:Nat)(w:WKS):(dI ws i w).length =ws.length:=by unfold dI;exact List.length_set
theorem IY{ws:List WKS}{i:Nat}(hi:i<ws.length):dI ws i (aX ws i)=ws:=by
 unfold dI aX;apply List.ext_getElem
 ·simp
 ·intro j h1 h2;rw [List.getElem_set];split
  ·rename_i e;subst e;rw [gD',gE' hi];rfl
  ·rfl
structure aAQ (t n:Int) (x:EGS) (r:Bool×EGS):Prop where
 no:r.1=false->r.2=x
 yes:r.1=true->egW t n r.2/\r.2.k=x.k+1/\r.2.sh=x.sh/\r.2.tr=x.tr
 w:egW t n r.2
theorem uQ{t n:Int}{x:EGS}(h:egW t n x):aAQ t n x (false,x):=⟨fun _=>rfl,fun e=>Bool.noConfusion e,h⟩
theorem rM{t n:Int}{x:EGS}{s:MS}{h:HST}{i:Nat}{w:WKS}(hx:egW t n x)(hk:x.k<60000)(hi:i<x.ws.length)(ha:Act1 x.s s)(hw:wkW t n (x.k+1) w)(hh:hstW (2*(x.k+1)) (x.k+1) h):
 aAQ t n x (true,{sh:=x.sh,th:=x.th,nd:=x.nd,tr:=x.tr,s:=s,h:=h,ws:=dI x.ws i w,k:=W (x.k+1) }):=by
 obtain⟨ht,hn,st,sn,xt,xn,k,c,wd,l,ws,g⟩:=hx;have hW:W (x.k+1)=x.k+1:=cK ⟨by omega,by omega⟩
 rw [hW]
 have hr:egW t n {sh:=x.sh,th:=x.th,nd:=x.nd,tr:=x.tr,s:=s,h:=h,ws:=dI x.ws i w,k:=x.k+1} :=by
  refine⟨ht,hn,ha.t.trans st,ha.n.trans sn,xt,xn,?_,?_,ha.w wd,?_,?_,hh⟩
  ·dsimp only;omega
  ·dsimp only;rw [ha.c,c]
  ·dsimp only;rw [zA];exact l
  ·intro j hj;dsimp only at hj⊢;rw [zA]at hj;rw [VI hi];split
   ·exact hw
   ·exact VJ (ws j hj) (by omega)
 exact⟨fun e=>Bool.noConfusion e,fun _=>⟨hr,rfl,rfl,rfl⟩,hr⟩
theorem aCf{t n:Int}{x:EGS}(th:Int)(hx:egW t n x):(pkT th x).run (aAQ t n x):=by
 have hx':=hx;obtain⟨ht,hn,st,sn,xt,xn,hk,hc,wd,hl,ah,ac⟩:=hx;have hB:Bnd t n x.s:=⟨⟨ht.1,by omega⟩,hn,by omega,wd⟩
 unfold pkT w2m w2n;refine Tr.run_ite (fun e1=>?_) (fun e1=>Tr.run_ite (fun e2=>?_) (fun e2=>?_))
 · (repeat' (with_reducible first | exact trivial | rfl | assumption | refine aLg ?_ ?_ | refine Tr.run_ite (fun _=>?_) (fun _=>?_) | refine aLk ?_ | refine And.intro ?_ ?_));exact uQ hx'
 · (repeat' (with_reducible first | exact trivial | rfl | assumption | refine aLg ?_ ?_ | refine Tr.run_ite (fun _=>?_) (fun _=>?_) | refine aLk ?_ | refine And.intro ?_ ?_));exact uQ hx'
 rw [bD,dF']at e1;rw [bY,dF']at e2;have hi:0+Int.toNat th*1<x.ws.length:=by omega
 have hw:=ah _ hi;have g:=IY hi;generalize hig:0+Int.toNat th*1=i at*;refine aLg ⟨by omega,by omega⟩ (aLg hi (aLg trivial (Tr.run_ite (fun e3=>?_) (fun e3=>Tr.run_ite (fun e4=>?_) (fun e4=>?_)))))
 · (repeat' (with_reducible first | exact trivial | rfl | assumption | refine aLg ?_ ?_ | refine Tr.run_ite (fun _=>?_) (fun _=>?_) | refine aLk ?_ | refine And.intro ?_ ?_))
   all_goals first | assumption | (rw [g];exact uQ hx')
 · (repeat' (with_reducible first | exact trivial | rfl | assumption | refine aLg ?_ ?_ | refine Tr.run_ite (fun _=>?_) (fun _=>?_) | refine aLk ?_ | refine And.intro ?_ ?_))
   all_goals first | assumption | (rw [g];exact uQ hx')
 rw [bY,dF']at e4
 have ae:(aX x.ws i).en <((aX x.ws i).tk.length :Int):=by
  have h0:=hw.e0;have h1:=hw.e1;have h2:=hw.tk;have h3:=fC e3;have hW:=cK (x:=((aX x.ws i).tk.length :Int) - (aX x.ws i).en) ⟨by omega,by omega⟩
  have h4:W (((aX x.ws i).tk.length :Int) - (aX x.ws i).en)≠0:=h3;have hW:W (((aX x.ws i).tk.length :Int) - (aX x.ws i).en)=((aX x.ws i).tk.length :Int) - (aX x.ws i).en :=hW;rw [hW]at h4;omega
 have ag:=aF7 (tr:=x.tr) hw ae;have aj:=aF6 (tr:=x.tr) hw ae;refine aLg aj ?_;have hS:=aGg hB ag (by omega)
 have ak:=aGf hB ag (by omega)
 generalize wbF x.tr (aX x.ws i)=w1 at*;generalize hsg:wsF w1 x.s=o at*;have aa:0<=th/\th<8:=by omega
 refine Tr.run_ite (fun e5=>?_) (fun e5=>?_)
 ·have hH:=aHW (th:=th) (kd:=(WK1.d w1).6) (ky:=(WK1.d w1).7) ac (by omega) (by omega) aa
  have al:hbOk th x.h (WK1.d w1).6 (WK1.d w1).7:=aLq hH;have af:hstW (2*x.k+1) (x.k+1) (hbF th x.h (WK1.d w1).6 (WK1.d w1).7).2:=aLl hH;generalize hbF th x.h (WK1.d w1).6 (WK1.d w1).7=y at*;have hE:=aB4 (th:=th) (code:=o.1) (okk:=o.2) (val:=o.3) af (by omega) (by omega) aa
  have ai:heOk th y.2 o.1 o.2 o.3:=aLq hE;have ad:hstW (2*x.k+1+1) (x.k+1) (heF th y.2 o.1 o.2 o.3).2:=aLl hE
  (repeat' (with_reducible first | exact trivial | rfl | assumption | refine aLg ?_ ?_ | refine Tr.run_ite (fun _=>?_) (fun _=>?_) | refine aLk ?_ | refine And.intro ?_ ?_))
  all_goals first
   | assumption
   | exact rM hx' (by omega) hi hS.a hS.w (kD ad (by omega) (by omega))
   | exact rM hx' (by omega) hi hS.a hS.w (kD af (by omega) (by omega))
 ·have hE:=aB4 (th:=th) (code:=o.1) (okk:=o.2) (val:=o.3) ac (by omega) (by omega) aa
  have ai:heOk th x.h o.1 o.2 o.3:=aLq hE;have ad:hstW (2*x.k+1) x.k (heF th x.h o.1 o.2 o.3).2:=aLl hE
  (repeat' (with_reducible first | exact trivial | rfl | assumption | refine aLg ?_ ?_ | refine Tr.run_ite (fun _=>?_) (fun _=>?_) | refine aLk ?_ | refine And.intro ?_ ?_))
  all_goals first
   | assumption
   | exact rM hx' (by omega) hi hS.a hS.w (kD ad (by omega) (by omega))
   | exact rM hx' (by omega) hi hS.a hS.w (kD ac (by omega) (by omega))
theorem aFx{t n:Int}{x:EGS}(th:Int)(hx:egW t n x):aAP th x:=aLq (aCf th hx)
theorem kY{t n:Int}{x:EGS}(th:Int)(hx:egW t n x):aAQ t n x (pkF th x):=aLl (aCf th hx)
def thR(row:Nat->List AVal)(i:Nat):Int:=match row i with
 | .int _ a::_=>a
 | _=>0
def tmR(row:Nat->List AVal)(i:Nat):Int:=match row i with
 | _:: .int _ a::_=>a
 | _=>0
def eP(n:Nat)(row:Nat->List AVal):List Int:=BK (thR row) (tmR row) n 0 60000
structure rowOk (row:Nat->List AVal):Prop where
 h: ∃th tm:Nat->Int,row=fun i=>[.int .i64 (th i),.int .i64 (tm i)]
theorem aMe{w:World}{l:Nat}{d d':Option (List Deferred)}(h:w.heap[l]? =some (.deferred d)):bN w (w.putObj l (.deferred d')):=by
 have g:l<w.heap.size:=(Array.getElem?_eq_some_iff.1 h).1;refine⟨rfl,rfl,?_,?_⟩
 ·show w.heap.size<=(w.heap.setIfInBounds l _).size
  simp
 ·intro a _;unfold World.frozen?
  by_cases e:a.block=l
  ·rw [e,h,World.putObj_heap_same g]
  ·rw [World.putObj_heap_other e]
theorem FB{α:Type}{l:List α}{i:Nat}{z:α}(h:l[i]? =some z):l.set i z=l:=by
 apply List.ext_getElem?;intro j
 by_cases e:i=j
 ·subst e;have g:=(List.getElem?_eq_some_iff.1 h).1;rw [List.getElem?_set_self g,h]
 ·rw [List.getElem?_set_ne e]
theorem yS{V V':Val}{m:Nat}{us:List AVal}{vs:List Value}(h:aH V us vs)(hw:aLe (upto 0 m) us=true)(hv: ∀l y,l<m->V l=some y->V' l=some y):aH V' us vs:=by
 have h1:aH (fun i=>if i<m then V i else none) us vs:=aLw (pl:=upto 0 m) (fun i hi=>by
  have:=(gW m 0 i).1 hi;show V i=if i<m then V i else none
  rw [if_pos (by omega)]) _ _ hw h
 refine aH.mono ?_ _ _ h1;intro i y e;have e:(if i<m then V i else none)=some y:=e
 by_cases hi:i<m
 ·rw [if_pos hi]at e;exact hv i y hi e
 ·rw [if_neg hi]at e;cases e
theorem RB:aBT=.seq (dG nQ) (.seq (dG (iP nQ)) (dG (dG (iP (iP nQ))))):=rfl
theorem L0:Tryz.f85.body=some (.seq (dG nQ) (.seq (dG (iP nQ)) (.seq (.seq (dG (dG (iP (iP nQ)))) (.block 0 (.rangeFunc (.tmp 8) #[9] (sJ sN) (sK sN)))) (.seq RD .ret)))):=rfl
noncomputable def EUa:=EU9
noncomputable def EUb:=EUa
theorem fK{a b:Int}(h:ilt a b=true):a<b:=by rw [bD]at h;exact of_decide_eq_true h
theorem fQ{a b:Int}(h:ilt a b=false): ¬a<b:=by rw [bD]at h;exact of_decide_eq_false h
noncomputable def EUc:=EUb
abbrev wG(m:Nat)(ln:Nat->Nat)(f g:Nat->Nat->Int):AVal:=.view m 1 (fun i=>[.view (ln i) 2 (fun j=>[.I (f i j),.I (g i j)])])
structure er1 (m:Nat) (ln:Nat->Nat) (x:Nat):Prop where
 hi:x<=m
 hl: ∀j,j<x->ln j<=40
structure er2 (sh:Int) (m:Nat) (ln:Nat->Nat) (f g:Nat->Nat->Int) (x:Nat):Prop where
 hi:x<=m
 hl: ∀j,j<x->eS sh (ln j) (f j) (g j)=true
structure er3 (sh:Int) (m:Nat) (ln:Nat->Nat) (f g:Nat->Nat->Int) (i0:Int) (x:Nat×Nat):Prop where
 hi:x.1<m
 h0:(x.1:Int)=i0
 hk:x.2<=ln x.1
 hl: ∀j,j<x.1->eS sh (ln j) (f j) (g j)=true
 hr: ∀j,j<x.2->bU sh (f x.1 j) (g x.1 j)=true
def WA(sh th nd tr:Int)(m:Nat)(ln:Nat->Nat)(f g:Nat->Nat->Int):Hint Ob:= {X:=Nat,st:=fun x=>([.I sh,.I th,.I nd,.I tr,wG m ln f g,.O,.O,.O,.O,.O,.O,.I (x:Int)]++List.replicate 71 .O,[]),ok:=er1 m ln,mu:=fun x=>m - x,keep:=[0,1,2,3,4,11] }
def WB(sh th nd tr:Int)(m:Nat)(ln:Nat->Nat)(f g:Nat->Nat->Int):Hint Ob:= {X:=Nat,st:=fun x=>([.I sh,.O,.O,.O,wG m ln f g,.O,.O,.O,.O,.O,.O,.O,.I (x:Int)]++List.replicate 70 .O,[]),ok:=er2 sh m ln f g,mu:=fun x=>m - x,keep:=[0,4,12] }
def WC(sh th nd tr:Int)(m:Nat)(ln:Nat->Nat)(f g:Nat->Nat->Int)(i0:Int):Hint Ob:= {X:=Nat×Nat,st:=fun x=>([.I sh,.O,.O,.O,wG m ln f g,.O,.O,.O,.O,.O,.O,.O,.I (x.1:Int),.I (x.2:Int)]++List.replicate 69 .O,[]),ok:=er3 sh m ln f g i0,mu:=fun x=>ln x.1 - x.2,keep:=[0,4,12,13] }
def LER(sh th nd tr:Int)(m:Nat)(ln:Nat->Nat)(f g:Nat->Nat->Int):FuncId->Nat->Option (kK Ob):=fun _ k=>match k with
 | 8=>some (.states (WA sh th nd tr m ln f g))
 | 13=>some (.states (WB sh th nd tr m ln f g))
 | 16=>some (.statesAt 12 (WC sh th nd tr m ln f g))
 | _=>none
def YY(sh th nd tr:Int)(m:Nat)(ln:Nat->Nat)(f g:Nat->Nat->Int)(K:AVal->aB Ob->Prop):Prop:=bif ilt sh 1 then K (.I 1) []else bif ilt 4 sh then K (.I 1) []else bif ilt th 1 then K (.I 2) []else bif ilt 8 th then K (.I 2) []else bif ilt nd 1 then K (.I 2) []else bif ilt 200 nd then K (.I 2) []else bif ilt tr 0 then K (.I 2) []else bif ilt 50 tr then K (.I 2) []else bif ilt th (↑m:Int)then K (.I 6) []else dF (WA sh th nd tr m ln f g) (Hint.ok (WA sh th nd tr m ln f g)) (.I sh::.I th::.I nd::.I tr::(.view m 1 fun i=>[.view (ln i) 2 fun j=>[.I (f i j),.I (g i j)]])::.O::.O::.O::.O::.O::.O::.I 0::(tO' 71 [])) []/\ ∀(x:Nat),er1 m ln x->bif ilt (↑x:Int) (↑m:Int)then((0:Int)<=(↑x:Int)/\(↑x:Int)<(↑m:Int))/\bif ilt 40 (↑(ln (Int.toNat (↑x:Int))):Int)then K (.I 6) []else dF (WA sh th nd tr m ln f g) (fun x'=>Hint.ok (WA sh th nd tr m ln f g) x'/\Hint.mu (WA sh th nd tr m ln f g) x'<Hint.mu (WA sh th nd tr m ln f g) x) (.I sh::.I th::.I nd::.I tr::(.view m 1 fun i=>[.view (ln i) 2 fun j=>[.I (f i j),.I (g i j)]])::.O::.O::.O::.O::.O::.O::.I (W ((↑x:Int)+1))::(tO' 71 [])) []else dF (WB sh th nd tr m ln f g) (Hint.ok (WB sh th nd tr m ln f g)) (.I sh::.O::.O::.O::(.view m 1 fun i=>[.view (ln i) 2 fun j=>[.I (f i j),.I (g i j)]])::.O::.O::.O::.O::.O::.O::.O::.I 0::(tO' 70 [])) []/\ ∀(x:Nat),er2 sh m ln f g x->bif ilt (↑x:Int) (↑m:Int)then dF (WC sh th nd tr m ln f g (↑x:Int)) (Hint.ok (WC sh th nd tr m ln f g (↑x:Int))) (.I sh::.O::.O::.O::(.view m 1 fun i=>[.view (ln i) 2 fun j=>[.I (f i j),.I (g i j)]])::.O::.O::.O::.O::.O::.O::.O::.I (↑x:Int)::.I 0::(tO' 69 [])) []/\ ∀(x_1:(Nat×Nat)),er3 sh m ln f g (↑x:Int) x_1->((0:Int)<=(↑x_1.1:Int)/\(↑x_1.1:Int)<(↑m:Int))/\bif ilt (↑x_1.2:Int) (↑(ln (Int.toNat (↑x_1.1:Int))):Int)then((0:Int)<=(↑x_1.1:Int)/\(↑x_1.1:Int)<(↑m:Int))/\((0:Int)<=(↑x_1.2:Int)/\(↑x_1.2:Int)<(↑(ln (Int.toNat (↑x_1.1:Int))):Int))/\True/\bif !bU sh (f (Int.toNat (↑x_1.1:Int)) (Int.toNat (↑x_1.2:Int))) (g (Int.toNat (↑x_1.1:Int)) (Int.toNat (↑x_1.2:Int)))then K (.I 1) []else dF (WC sh th nd tr m ln f g (↑x:Int)) (fun x'=>Hint.ok (WC sh th nd tr m ln f g (↑x:Int)) x'/\Hint.mu (WC sh th nd tr m ln f g (↑x:Int)) x'<Hint.mu (WC sh th nd tr m ln f g (↑x:Int)) x_1) (.I sh::.O::.O::.O::(.view m 1 fun i=>[.view (ln i) 2 fun j=>[.I (f i j),.I (g i j)]])::.O::.O::.O::.O::.O::.O::.O::.I (↑x_1.1:Int)::.I (W ((↑x_1.2:Int)+1))::(tO' 69 [])) []else dF (WB sh th nd tr m ln f g) (fun x'=>Hint.ok (WB sh th nd tr m ln f g) x'/\Hint.mu (WB sh th nd tr m ln f g) x'<Hint.mu (WB sh th nd tr m ln f g) x) (.I sh::.O::.O::.O::(.view m 1 fun i=>[.view (ln i) 2 fun j=>[.I (f i j),.I (g i j)]])::.O::.O::.O::.O::.O::.O::.O::.I (W ((↑x_1.1:Int)+1))::(tO' 70 [])) []else K (.I 0) []
set_option maxRecDepth 100000 in
theorem RU(sh th nd tr:Int)(m:Nat)(ln:Nat->Nat)(f g:Nat->Nat->Int)(K:AVal->aB Ob->Prop)(h:YY sh th nd tr m ln f g K):cT' 78 [.I sh,.I th,.I nd,.I tr,wG m ln f g] [] (d9 0 K):=by
 exact aD (E:=EUc) Tryz.checked.mixed (L:=LER sh th nd tr m ln f g) (n:=10) (aJ (by kernel_rfl) h)
theorem aBY{sh th nd tr:Int}{m:Nat}{ln:Nat->Nat}{f g:Nat->Nat->Int}(h:gnC sh th nd tr m ln f g=0):wrE sh th nd tr=0:=by
 unfold gnC at h;cases h1:ieq (wrE sh th nd tr) 0 with
 | true=>exact fJ h1
 | false=>rw [h1]at h;exact h
theorem aEC{sh th nd tr:Int}{m:Nat}{ln:Nat->Nat}{f g:Nat->Nat->Int}(h:gnC sh th nd tr m ln f g=0):lgB th m ln=false:=by
 have h0:=aBY h;unfold gnC at h;rw [h0]at h;cases e:lgB th m ln with
 | false=>rfl
 | true=>rw [e]at h;exact absurd (show(6:Int)=0 from h) (by decide)
theorem aED{sh th nd tr:Int}{m:Nat}{ln:Nat->Nat}{f g:Nat->Nat->Int}(h:gnC sh th nd tr m ln f g=0){i:Nat}(hi:i<m):ln i<=40:=by
 have h1:=aEC h;unfold lgB at h1;rw [Bool.or_eq_false_iff]at h1;have h2:=List.any_eq_false.1 h1.1 i (List.mem_range.2 hi)
 simpa using h2
theorem OD(k:Nat):okW (List.replicate k 0):=by
 refine⟨fun x hx=>?_⟩;rw [List.eq_of_mem_replicate hx];exact⟨by decide,by decide⟩
theorem aBt{sh th nd tr:Int}{m:Nat}{ln:Nat->Nat}{f g:Nat->Nat->Int}(h:gnC sh th nd tr m ln f g=0){j:Nat}(hj:(j:Int)<th)(hth:th<=8):wkW th nd 0 (gX sh th nd m ln f g j):=by
 have hl:((bif ilt (j:Int) (m:Int)then ofR sh (ln j) (f j) (g j)else []).length :Int)<=40:=by
  cases e:ilt (j:Int) (m:Int)with
  | false=>exact(by decide:((0:Nat):Int)<=40)
  | true=>
    rw [bD,dT']at e;have h1:=aED h (i:=j) (by omega)
    show((ofR sh (ln j) (f j) (g j)).length :Int)<=40;unfold ofR;cases eS sh (ln j) (f j) (g j)with
    | false=>exact(by decide:((0:Nat):Int)<=40)
    | true=>show((lB sh (ln j) (f j) (g j)).length :Int)<=40;rw [qH];omega
 unfold gX;generalize (bif ilt (j:Int) (m:Int)then ofR sh (ln j) (f j) (g j)else [])=tk at hl⊢;exact⟨rfl,rfl,⟨⟨by show(0:Int)<=(j:Int);omega,by show(j:Int)<=1000;omega⟩,sY,(by decide:((0:Nat):Int)<=0)⟩,fun e=>Bool.noConfusion e,(by decide:(0:Int)<=0),by show(0:Int)<=(tk.length:Int);omega,rfl,(by decide:((0:Nat):Int)<=0),by show(tk.length:Int)<=100000;omega⟩
theorem JD{sh th nd tr:Int}{m:Nat}{ln:Nat->Nat}{f g:Nat->Nat->Int}(h:gnC sh th nd tr m ln f g=0):egW th nd (nR sh th nd tr m ln f g):=by
 have h0:=aBY h;obtain⟨_,_,⟨t0,t1,n0,n1⟩,_⟩:=aCv (by rw [cA,h0];rfl)
 refine⟨⟨t0,t1⟩,⟨n0,by omega⟩,rfl,rfl,rfl,rfl,⟨(by decide:(0:Int)<=0),(by decide:(0:Int)<=60000)⟩,rfl,OD _,?_,?_,?_⟩
 ·show(((List.range th.toNat).map _).length :Int)=th;rw [List.length_map,List.length_range];omega
 ·intro i hi;have hi:i<((List.range th.toNat).map (gX sh th nd m ln f g)).length :=hi;rw [List.length_map,List.length_range]at hi
  have e:aX (nR sh th nd tr m ln f g).ws i=gX sh th nd m ln f g i:=by
   show aX ((List.range th.toNat).map (gX sh th nd m ln f g)) i=_;unfold aX;rw [gD',List.getElem?_map,List.getElem?_range hi];rfl
  rw [e];exact aBt h (by omega) t1
 ·refine⟨(by decide:((0:Nat):Int)<=2*0),(by decide:((0:Nat):Int)<=0),?_,?_,?_,?_,?_,?_,?_,?_⟩<;>exact⟨(by decide:(0:Int)<=0),(by decide:(0:Int)<=((0:Nat):Int))⟩
theorem lL{sh th nd tr:Int}{m:Nat}{ln:Nat->Nat}{f g:Nat->Nat->Int}{c:Int}(h:wrE sh th nd tr=c)(h0:ieq c 0=false):gnC sh th nd tr m ln f g=c:=by
 unfold gnC;rw [h,h0];rfl
theorem aBZ{sh th nd tr:Int}{m:Nat}{ln:Nat->Nat}{f g:Nat->Nat->Int}(h:wrE sh th nd tr=0)(hl:lgB th m ln=true):gnC sh th nd tr m ln f g=6:=by
 unfold gnC;rw [h,hl];rfl
theorem aHH{sh th nd tr:Int}{m:Nat}{ln:Nat->Nat}{f g:Nat->Nat->Int}(h:wrE sh th nd tr=0)(hl:lgB th m ln=false)(ha: ∃i k,i<m/\k<ln i/\bU sh (f i k) (g i k)=false):gnC sh th nd tr m ln f g=1:=by
 have:((List.range m).all fun j=>eS sh (ln j) (f j) (g j))=false:=by
  obtain⟨i,k,hi,hk,hr⟩:=ha;rw [List.all_eq_false];refine⟨i,List.mem_range.2 hi,?_⟩;intro e;rw [oX.1 e k hk]at hr;cases hr
 unfold gnC;rw [h,hl,this];rfl
theorem aEE{sh th nd tr:Int}{m:Nat}{ln:Nat->Nat}{f g:Nat->Nat->Int}(h:wrE sh th nd tr=0)(hl:lgB th m ln=false)(ha: ∀i,i<m->eS sh (ln i) (f i) (g i)=true):gnC sh th nd tr m ln f g=0:=by
 have:((List.range m).all fun j=>eS sh (ln j) (f j) (g j))=true:=by
  rw [List.all_eq_true];intro i hi;exact ha i (List.mem_range.1 hi)
 unfold gnC;rw [h,hl,this];rfl
theorem rQ{t n:Int}(h:t<1\/8<t\/n<1\/200<n):eG t n=false:=by
 cases e:eG t n with
 | false=>rfl
 | true=>have:=tT.1 e;omega
theorem J9{a b:Int}(h:a<b):ilt a b=true:=by rw [bD];exact decide_eq_true h
theorem tQ{a b:Int}(h: ¬a<b):ilt a b=false:=by rw [bD];exact decide_eq_false h
theorem W1{i:Nat}{m:Nat}(hi:i<m)(hm:m<=1000000):W ((i:Int)+1)=((i+1:Nat):Int):=by
 have:=cK (x:=(i:Int)+1) ⟨by omega,by omega⟩
 exact this.trans (by omega)
set_option maxRecDepth 10000 in
theorem aHv(sh th nd tr:Int)(m:Nat)(ln:Nat->Nat)(f g:Nat->Nat->Int)(K:AVal->aB Ob->Prop)(hm:m<=1000000)(hK:K (.I (gnC sh th nd tr m ln f g)) []):YY sh th nd tr m ln f g K:=by
 have key: ∀c,gnC sh th nd tr m ln f g=c->K (.I c) []:=fun c e=>by rw [<-e];exact hK
 have w1:(sh<1\/4<sh)->wrE sh th nd tr=1:=by
  intro h;unfold wrE
  by_cases h1:sh<1
  ·rw [J9 h1];rfl
  ·rw [tQ h1,J9 (show 4<sh by omega)];rfl
 have w2: ¬(sh<1\/4<sh)->(eG th nd=false\/tr<0\/50<tr)->wrE sh th nd tr=2:=by
  intro h h2;unfold wrE;rw [tQ (show¬sh<1 by omega),tQ (show¬4<sh by omega)]
  cases e:eG th nd with
  | false=>rfl
  | true=>
    rw [e]at h2
    by_cases h3:tr<0
    ·rw [J9 h3];rfl
    ·rw [tQ h3,J9 (show 50<tr by rcases h2 with h2 | h2 | h2<;>first | (exact Bool.noConfusion h2) | omega)];rfl
 unfold YY;refine aT (fun e1=>key 1 (lL (w1 (.inl (fK e1))) rfl)) (fun e1=>?_);refine aT (fun e2=>key 1 (lL (w1 (.inr (fK e2))) rfl)) (fun e2=>?_);have e1:=fQ e1;have e2:=fQ e2;have hs: ¬(sh<1\/4<sh):=by omega
 refine aT (fun e3=>key 2 (lL (w2 hs (.inl (rQ (.inl (fK e3))))) rfl)) (fun e3=>?_);refine aT (fun e4=>key 2 (lL (w2 hs (.inl (rQ (.inr (.inl (fK e4)))))) rfl)) (fun e4=>?_);refine aT (fun e5=>key 2 (lL (w2 hs (.inl (rQ (.inr (.inr (.inl (fK e5))))))) rfl)) (fun e5=>?_);refine aT (fun e6=>key 2 (lL (w2 hs (.inl (rQ (.inr (.inr (.inr (fK e6))))))) rfl)) (fun e6=>?_);refine aT (fun e7=>key 2 (lL (w2 hs (.inr (.inl (fK e7)))) rfl)) (fun e7=>?_);refine aT (fun e8=>key 2 (lL (w2 hs (.inr (.inr (fK e8)))) rfl)) (fun e8=>?_);have e3:=fQ e3;have e4:=fQ e4;have e5:=fQ e5;have e6:=fQ e6;have e7:=fQ e7;have e8:=fQ e8;have hr:eG th nd=true:=tT.2 ⟨by omega,by omega,by omega,by omega⟩
 have hw:wrE sh th nd tr=0:=by
  unfold wrE;rw [tQ e1,tQ e2,hr,tQ e7,tQ e8];rfl
 refine aT (fun e9=>key 6 (aBZ hw (KC (.inr (fK e9))))) (fun e9=>?_);have e9:=fQ e9;refine⟨aQ (H:=WA sh th nd tr m ln f g) (0:Nat) rfl ⟨Nat.zero_le _,fun j hj=>absurd hj (Nat.not_lt_zero _)⟩,?_⟩;rintro x ⟨hx,ac⟩;refine aT (fun a1=>?_) (fun a1=>?_)
 ·have a1:=fK a1;have aa:x<m:=by omega
  rw [Int.toNat_natCast];refine⟨⟨by omega,by omega⟩,aT (fun a2=>key 6 (aBZ hw (KC (.inl ⟨x,aa,by have:=fK a2;omega⟩)))) (fun a2=>?_)⟩
  have a2:=fQ a2;rw [W1 aa hm];refine aQ (H:=WA sh th nd tr m ln f g) (x+1:Nat) rfl ⟨⟨aa,fun j hj=>?_⟩,by show m - (x+1)<m - x;omega⟩
  by_cases e:j=x
  ·subst e;omega
  ·exact ac j (by omega)
 ·have a1:=fQ a1;have aa:x=m:=by omega
  subst aa;have ae:lgB th x ln=false:=S5.2 ⟨ac,by omega⟩
  refine⟨aQ (H:=WB sh th nd tr x ln f g) (0:Nat) rfl ⟨Nat.zero_le _,fun j hj=>absurd hj (Nat.not_lt_zero _)⟩,?_⟩;rintro i ⟨hi,af⟩;refine aT (fun b1=>?_) (fun b1=>?_)
  ·have b1:=fK b1;have ad:i<x:=by omega
   refine⟨aQ (H:=WC sh th nd tr x ln f g (i:Int)) (i,(0:Nat)) rfl ⟨ad,rfl,Nat.zero_le _,af,fun j hj=>absurd hj (Nat.not_lt_zero _)⟩,?_⟩;rintro⟨i2,k⟩ ⟨ci,c0,ck,cl,cr⟩;dsimp only at ci c0 ck cl cr⊢;have c0:i2=i:=by omega
   subst c0;rw [Int.toNat_natCast,Int.toNat_natCast];have ag:=ac i2 ci;refine⟨⟨by omega,by omega⟩,aT (fun d1=>?_) (fun d1=>?_)⟩
   ·have d1:=fK d1;refine⟨⟨by omega,by omega⟩,⟨by omega,by omega⟩,trivial,aT (fun d2=>key 1 (aHH hw ae ⟨i2,k,ci,by omega,by simpa using d2⟩)) (fun d2=>?_)⟩
    rw [W1 (show k<ln i2 by omega) (by omega)]
    refine aQ (H:=WC sh th nd tr x ln f g (i2:Int)) (i2,(k+1:Nat)) rfl ⟨⟨ci,rfl,by dsimp only;omega,cl,fun j hj=>?_⟩,by show ln i2 - (k+1)<ln i2 - k;omega⟩
    dsimp only at hj⊢
    by_cases e:j=k
    ·subst e;simpa using d2
    ·exact cr j (by omega)
   ·have d1:=fQ d1;rw [W1 ci hm];refine aQ (H:=WB sh th nd tr x ln f g) (i2+1:Nat) rfl ⟨⟨ci,fun j hj=>?_⟩,by show x - (i2+1)<x - i2;omega⟩
    by_cases e:j=i2
    ·subst e;exact oX.2 (fun q hq=>cr q (by omega))
    ·exact cl j (by omega)
  ·have b1:=fQ b1;have ad:i=x:=by omega
   subst ad;exact key 0 (aEE hw ae af)
def erS:aI Ob:=fun args h=>match args,h with
 | [.int .i64 sh,.int .i64 th,.int .i64 nd,.int .i64 tr,.view m 1 vr],[]=>some (.pre (m<=1000000/\f6 vr) (.ret (.I (gnC sh th nd tr m (vL vr) (vK vr) (vY vr))) []))
 | _,_=>none
theorem aHu:sT' 78 erS:=by
 intro args h o ho K hK;unfold erS at ho;split at ho<;>cases ho
 rename_i sh th nd tr m g;obtain⟨⟨hm,⟨hr⟩⟩,hK⟩:=hK;rw [hr];exact aK8 (RU sh th nd tr m (vL g) (vK g) (vY g) K (aHv sh th nd tr m (vL g) (vK g) (vY g) K hm hK))
noncomputable def EUd:=EUc.addS 78 erS aHu
def aFI:bA Ob:=fun args h=>match args,h with
 | [.ptr 0 0,.int .i64 th],[some (.abs (.engine x) [])]=>some (True,.I (gL th x))
 | _,_=>none
theorem aA6:sT' 33 aFI.spec:=by
 intro args h o ho K g;unfold bA.spec at ho;split at ho
 case h_2=>cases ho
 rename_i hv;unfold aFI at hv;split at hv
 case h_2=>cases hv
 simp only [sI',pI']at hv;obtain⟨rfl,rfl⟩:=hv;simp only [sI']at ho;subst ho;exact UK _ _ _ rfl K g
def aD8:bA Ob:=fun args h=>match args,h with
 | [.ptr 0 0],[some (.abs (.engine x) [])]=>some (True,.I x.k)
 | _,_=>none
theorem YZ:sT' 34 aD8.spec:=by
 intro args h o ho K g;unfold bA.spec at ho;split at ho
 case h_2=>cases ho
 rename_i hv;unfold aD8 at hv;split at hv
 case h_2=>cases hv
 simp only [sI',pI']at hv;obtain⟨rfl,rfl⟩:=hv;simp only [sI']at ho;subst ho;exact RV _ _ _ rfl K g
def aDU:bA Ob:=fun args h=>match args,h with
 | [.ptr 0 0],[some (.abs (.engine x) [])]=>some (True,.agg [.I x.s.t,.I x.s.n])
 | _,_=>none
theorem YS:sT' 38 aDU.spec:=by
 intro args h o ho K g;unfold bA.spec at ho;split at ho
 case h_2=>cases ho
 rename_i hv;unfold aDU at hv;split at hv
 case h_2=>cases hv
 simp only [sI',pI']at hv;obtain⟨rfl,rfl⟩:=hv;simp only [sI']at ho;subst ho;exact RM _ _ _ rfl K g
def aD4:bA Ob:=fun args h=>match args,h with
 | [.ptr 0 0,.int .i64 a],[some (.abs (.engine x) [])]=>some (True,.int .u64 (aF x.s.xs a))
 | _,_=>none
theorem YX:sT' 37 aD4.spec:=by
 intro args h o ho K g;unfold bA.spec at ho;split at ho
 case h_2=>cases ho
 rename_i hv;unfold aD4 at hv;split at hv
 case h_2=>cases hv
 simp only [sI',pI']at hv;obtain⟨rfl,rfl⟩:=hv;simp only [sI']at ho;subst ho;exact RR _ _ _ rfl K g
def aDT:bA Ob:=fun args h=>match args,h with
 | [.ptr 0 0],[some (.abs (.engine x) [])]=>some (True,.agg [.I x.s.k,.I x.s.a,.int .u64 x.s.o,.int .u64 x.s.w,.bool x.s.ok])
 | _,_=>none
theorem YR:sT' 45 aDT.spec:=by
 intro args h o ho K g;unfold bA.spec at ho;split at ho
 case h_2=>cases ho
 rename_i hv;unfold aDT at hv;split at hv
 case h_2=>cases hv
 simp only [sI',pI']at hv;obtain⟨rfl,rfl⟩:=hv;simp only [sI']at ho;subst ho;exact RL _ _ _ rfl K g
def aFM:cV Ob:=fun args h=>match args,h with
 | [.ptr 0 0,.int .i64 th],[some (.abs (.engine x) [])]=>some (jM x,.slice 1 0 (gV th x).length 1,[.ints (some .i64) (gV th x)])
 | _,_=>none
theorem aBa:sT' 32 aFM.spec:=by
 intro args h o ho K g;unfold cV.spec at ho;split at ho
 case h_2=>cases ho
 rename_i hv;unfold aFM at hv;split at hv
 case h_2=>cases hv
 simp only [sI',pI']at hv;obtain⟨rfl,rfl,rfl⟩:=hv;simp only [sI']at ho;subst ho;exact UP _ _ _ rfl K g
def aFL:cV Ob:=fun args h=>match args,h with
 | [.ptr 0 0,.int .i64 th],[some (.abs (.engine x) [])]=>some (jM x,.slice 1 0 (gS th x).length 1,[.ints (some .i64) (gS th x)])
 | _,_=>none
theorem aA9:sT' 35 aFL.spec:=by
 intro args h o ho K g;unfold cV.spec at ho;split at ho
 case h_2=>cases ho
 rename_i hv;unfold aFL at hv;split at hv
 case h_2=>cases hv
 simp only [sI',pI']at hv;obtain⟨rfl,rfl,rfl⟩:=hv;simp only [sI']at ho;subst ho;exact UO _ _ _ rfl K g
def aFH:cV Ob:=fun args h=>match args,h with
 | [.ptr 0 0,.int .i64 th],[some (.abs (.engine x) [])]=>some (jM x,.slice 1 0 (gK th x).length 1,[.ints (some .i64) (gK th x)])
 | _,_=>none
theorem aA5:sT' 69 aFH.spec:=by
 intro args h o ho K g;unfold cV.spec at ho;split at ho
 case h_2=>cases ho
 rename_i hv;unfold aFH at hv;split at hv
 case h_2=>cases hv
 simp only [sI',pI']at hv;obtain⟨rfl,rfl,rfl⟩:=hv;simp only [sI']at ho;subst ho;exact UI _ _ _ rfl K g
def aDR:cV Ob:=fun args h=>match args,h with
 | [.ptr 0 0],[some (.abs (.engine x) [])]=>some (x.h.ev.length<=4294967296/\x.h.cl.length<=4294967296,.ptr 1 0,[.abs (.hist x.h) []])
 | _,_=>none
theorem YP:sT' 28 aDR.spec:=by
 intro args h o ho K g;unfold cV.spec at ho;split at ho
 case h_2=>cases ho
 rename_i hv;unfold aDR at hv;split at hv
 case h_2=>cases hv
 simp only [sI',pI']at hv;obtain⟨rfl,rfl,rfl⟩:=hv;simp only [sI']at ho;subst ho;exact RH _ _ _ rfl K g
def aDS:cV Ob:=fun args h=>match args,h with
 | [.ptr 0 0],[some (.abs (.engine x) [])]=>some (0<=x.s.n/\x.s.n<=100000,.slice 1 0 (bM x).length 1,[.ints (some .i64) (bM x)])
 | _,_=>none
theorem YQ:sT' 55 aDS.spec:=by
 intro args h o ho K g;unfold cV.spec at ho;split at ho
 case h_2=>cases ho
 rename_i hv;unfold aDS at hv;split at hv
 case h_2=>cases hv
 simp only [sI',pI']at hv;obtain⟨rfl,rfl,rfl⟩:=hv;simp only [sI']at ho;subst ho;exact RJ _ _ _ rfl K g
noncomputable def EUe0:=((((((((((EUd.addR 33 aFI aA6).addR 34 aD8 YZ).addR 38 aDU YS).addR 37 aD4 YX).addR 45 aDT YR).addN 32 aFM aBa).addN 35 aFL aA9).addN 69 aFH aA5).addN 28 aDR YP).addN 55 aDS YQ)
theorem H0(t:TypeId)(l off:Nat)(h:aB Ob)(v:AVal)(q:Option Prop)(hk:(wD tbl Tryz.prog t l off h).map (·,none)=some (v,q))(_:onp q)(V:Val)(hR:PHeap)(w:World)(b k:Nat)(hi:Inv (obI tbl) V (toF h) hR w)(hV:V l=some (b,k)): ∃v',(Instr.loadAt t (.pointer (some ⟨b,off,none⟩))).run Tryz.prog w=.ok v' w/\Rep V v v':=by
 cases e:wD tbl Tryz.prog t l off h with
 | none=>rw [e]at hk;cases hk
 | some x=>rw [e]at hk;cases hk;exact OA t l off h _ e V hR w b k hi hV
noncomputable def EUe:Env Ob Tryz.prog:= {EUe0 with fld:=fun t l off h=>(wD tbl Tryz.prog t l off h).map (·,none),fldOk:=H0}
theorem RE{t n:Int}{x:EGS}(h:egW t n x):jM x:=by
 have hk:=h.k;refine⟨by have:=h.l;have:=h.ht;omega,fun i hi=>?_,fun i hi=>?_,fun i hi=>?_⟩
 ·have h1:=(h.ws i hi).tl;have:=(h.ws i hi).e1;have:=(h.ws i hi).tk;cases hb:(aX x.ws i).b with
  | true=>
    rw [hb]at h1;have h1:((aX x.ws i).tl.length :Int)=(aX x.ws i).en +1:=h1;omega
  | false=>
    rw [hb]at h1;have h1:((aX x.ws i).tl.length :Int)=(aX x.ws i).en +0:=h1;omega
 ·have:=(h.ws i hi).sl;have:=(h.ws i hi).e1;have:=(h.ws i hi).tk;omega
 ·have:=(h.ws i hi).st.ln;omega
theorem RF{t n:Int}{x:EGS}(h:egW t n x):x.h.ev.length<=4294967296/\x.h.cl.length<=4294967296:=by
 have:=h.h.he;have:=h.h.hc;have hk:=h.k;exact⟨by omega,by omega⟩
end Go.Sh
namespace Go.Sh
open Go Go.Proofs
theorem kX{b:Bool}{x y:aB Mc}(hx:cJ x=true)(hy:cJ y=true):cJ (bif b then x else y)=true:=by cases b<;>assumption
theorem yI{A:Type}(ws:List (Option A)): ∀k,aLA (rowC k ws)=true:=by
 induction ws with
 | nil=>intro k;rfl
 | cons w ws ih=>
   intro k;cases w with
   | none=>exact ih (k+1)
   | some t=>exact ih (k+1)
theorem D5(v:AVal)(hv:v.noV=true)(l:List AVal): ∀i,aLA l=true->aLA (l.set i v)=true:=by
 induction l with
 | nil=>intro i h;exact h
 | cons a l ih=>
   intro i h;obtain⟨h1,h2⟩:=Bool.and_eq_true_iff.1 h;cases i with
   | zero=>exact Bool.and_eq_true_iff.2 ⟨hv,h2⟩
   | succ i=>exact Bool.and_eq_true_iff.2 ⟨h1,ih i h2⟩
theorem D6{A:Type}(ws:List (Option A)):cJ (UN ws)=true:=by
 induction ws with
 | nil=>rfl
 | cons w ws ih=>cases w<;>exact ih
theorem KG{A:Type}(h:aB A): ∀i,cJ h=true->cJ (h.set i none)=true:=by
 induction h with
 | nil=>intro i hh;exact hh
 | cons e h ih=>
   intro i hh;unfold cJ at hh⊢;rw [List.all_cons,Bool.and_eq_true]at hh;cases i with
   | zero=>rw [List.set_cons_zero,List.all_cons,Bool.and_eq_true];exact⟨rfl,hh.2⟩
   | succ i=>rw [List.set_cons_succ,List.all_cons,Bool.and_eq_true];exact⟨hh.1,ih i hh.2⟩
theorem TC{A:Type}(ws:List (Option A)):cJ (rowE ws)=true:=by
 unfold rowE cJ;rw [List.all_cons,Bool.and_eq_true];exact⟨yI _ 1,D6 _⟩
theorem NY{A:Type}(ws:List (Option A))(i:Nat):cJ (lM ws i)=true:=by
 unfold lM cJ;rw [List.all_cons,List.all_cons,Bool.and_eq_true,Bool.and_eq_true];exact⟨D5 _ rfl _ i (yI _ 2),rfl,KG _ i (D6 _)⟩
theorem wC{A:Type}{E:xR A}(h: ∀k x,(E.hd k x).noV =true)(ws:List E.X): ∀k,aLA (jN E k ws)=true:=by
 induction ws with
 | nil=>intro k;rfl
 | cons w ws ih=>intro k;exact Bool.and_eq_true_iff.2 ⟨h _ _,ih _⟩
theorem yJ{A:Type}{E:xR A}(h: ∀x,(E.en x).noV =true)(ws:List E.X):cJ (EY E ws)=true:=by
 induction ws with
 | nil=>rfl
 | cons w ws ih=>exact Bool.and_eq_true_iff.2 ⟨h _,ih⟩
theorem NZ{A:Type}{E:xR A}(h: ∀k x,(E.hd k x).noV =true)(h2: ∀x,(E.en x).noV =true)(ws:List E.X):cJ (fM E ws)=true:=
 Bool.and_eq_true_iff.2 ⟨wC h ws 1,yJ h2 ws⟩
theorem HZ{A:Type}{E:xR A}(h: ∀k x,(E.hd k x).noV =true)(h2: ∀x,(E.en x).noV =true)(ws:List E.X)(i:Nat):cJ (iB E ws i)=true:=by
 unfold iB cJ;rw [List.all_cons,List.all_cons,Bool.and_eq_true,Bool.and_eq_true];refine⟨D5 _ ?_ _ i (wC h ws 2),rfl,KG _ i (yJ h2 ws)⟩;unfold HH;split
 ·exact h _ _
 ·rfl
theorem KQ(t:Mc):cJ (tbl t).2=true:=by
 cases t with
 | sweep t n y=>show cJ (O2 t n y)=true;unfold O2;split<;>rfl
 | ensure t n e=>show cJ (FM t n e)=true;unfold FM;split<;>rfl
 | find t n x=>show cJ (vO t n x)=true;unfold vO;exact kX rfl rfl
 | fast t n x=>show cJ (nT t n x)=true;unfold nT;exact kX rfl (kX rfl (kX rfl rfl))
 | help t n x=>show cJ (kS t n x)=true;unfold kS;exact kX rfl (kX rfl (kX rfl (kX rfl (kX rfl rfl))))
 | doer t n x=>
   show cJ (eI t n x)=true;unfold eI
   repeat' (first | apply kX | rfl)
 | worker w=>show cJ (wkG w)=true;unfold wkG;exact kX rfl rfl
 | wrow ws=>exact TC _
 | whole ws i=>exact NY _ i
 | srow ws=>exact NZ (E:=intE) (fun _ _=>rfl) (fun _=>rfl) ws
 | shole ws i=>exact HZ (E:=intE) (fun _ _=>rfl) (fun _=>rfl) ws i
 | _=>rfl
variable [c:Con]
def PH(a c:Int)(i:Nat):Int:=bif Nat.beq i 0 then a else c
def newLS:aI Ob:=fun args h=>match args,h with
 | [.agg [.int .i64 sh,.int .i64 th,.int .i64 nd,.int .i64 tr],.slice 0 0 n 1],[some (.cells [.slice 1 0 n1 2,.slice 2 0 n2 2]),some (.cells [.int .i64 p,.int .i64 q]),some (.cells [.int .i64 r,.int .i64 s])]=>some (.pre ((n=2/\n1=1/\n2=1)/\gnC sh th nd tr 2 (fun _=>1) (fun i _=>PH p r i) (fun i _=>PH q s i)=0)
    (.ret (.tup [.ptr 3 0,.I 0]) [cE' [.slice 1 0 1 2,.slice 2 0 1 2],cE' [.I p,.I q],cE' [.I r,.I s],some (.abs (.engine (nR sh th nd tr 2 (fun _=>1) (fun i _=>PH p r i) (fun i _=>PH q s i))) [])]))
 | _,_=>none
def vr2(p q r s:Int)(i:Nat):List AVal:=[.view 1 2 (fun _=>[.I (PH p r i),.I (PH q s i)])]
theorem aAI:sT' 25 newLS:=by
 intro args h o ho K hK;unfold newLS at ho;split at ho<;>cases ho
 rename_i sh th nd tr n n1 n2 p q r s;obtain⟨⟨⟨rfl,rfl,rfl⟩,hg⟩,hK⟩:=hK;have hK:K (.tup [.ptr 3 0,.I 0]) [cE' [.slice 1 0 1 2,.slice 2 0 1 2],cE' [.I p,.I q],cE' [.I r,.I s],some (.abs (.engine (nR sh th nd tr 2 (fun _=>1) (fun i _=>PH p r i) (fun i _=>PH q s i))) [])]:=hK;refine aL4 (args2:=[.agg [.I sh,.I th,.I nd,.I tr],.view 2 1 (vr2 p q r s)]) KQ (fun _=>false) ?_ ?_
 ·intro c' hc V l hm hr;obtain⟨v0,l0,rfl,r0,v1,l1,rfl,r1,r2⟩:=hr;refine⟨v0,_,rfl,Rep.con hc _ _ r0,v1,_,rfl,?_,r2⟩;obtain⟨p0,a1,a2⟩:=hm 0 _ rfl rfl;obtain⟨p1,b1,b2⟩:=hm 1 _ rfl rfl;obtain⟨p2,d1,d2⟩:=hm 2 _ rfl rfl;refine rZ (Rep.con hc _ _ r1) a1 a2 ?_ (Nat.le_refl _);intro i hi;refine⟨rfl,fun rs h=>?_⟩
  match i,hi with
  | 0,_=>
    obtain⟨y,ys,rfl,y1,y2⟩:=h;refine⟨y,ys,rfl,?_,y2⟩
    have y3: @Rep c' V (.view 1 2 (fun _=>[.I p,.I q])) y:=rZ y1 b1 b2 (fun j hj=>⟨rfl,fun rs h=>by
     match j,hj with
     | 0,_=>exact h
     | j+1,hj=>omega⟩) (Nat.le_refl _)
    exact y3
  | 1,_=>
    obtain⟨y,ys,rfl,y1,y2⟩:=h;refine⟨y,ys,rfl,?_,y2⟩
    have y3: @Rep c' V (.view 1 2 (fun _=>[.I r,.I s])) y:=rZ y1 d1 d2 (fun j hj=>⟨rfl,fun rs h=>by
     match j,hj with
     | 0,_=>exact h
     | j+1,hj=>omega⟩) (Nat.le_refl _)
    exact y3
  | i+2,hi=>omega
 ·intro c'
  have h1:=@JM c' [.agg [.I sh,.I th,.I nd,.I tr],.view 2 1 (vr2 p q r s)] [] _ rfl (fun v g=>v=.tup [.ptr 0 0,.I 0]/\g=[some (.abs (.engine (nR sh th nd tr 2 (fun _=>1) (fun i _=>PH p r i) (fun i _=>PH q s i))) [])]) ⟨⟨by decide,⟨rfl⟩⟩,by
   show(rC sh th nd tr 2 (fun _=>1) (fun i _=>PH p r i) (fun i _=>PH q s i)).run _;unfold rC;rw [hg];exact⟨rfl,rfl⟩⟩
  refine aLM h1 [] rfl (by decide) (fun l hl=>by cases hl) ?_ rfl ?_
  ·intro i l hi;simp at hi
  ·rintro v g ⟨rfl,rfl⟩ _;refine⟨rfl,rfl,?_,hK⟩;intro l hl hS
   match l,hl with
   | 0,_=>rfl
   | 1,_=>rfl
   | 2,_=>rfl
   | l+3,hl=>simp at hl;omega
end Go.Sh
namespace Go.Sh
open Go Go.Proofs
variable [Con]
def JN(m n:Nat)(ln:Nat->Nat):Bool:=bif ilt 10 (m:Int)then true else bif ilt 60 (n:Int)then true else(List.range m).any (fun i=>ilt 50 (ln i:Int))
structure gr1 (m:Nat) (ln:Nat->Nat) (x:Nat):Prop where
 hi:x<=m
 hl: ∀j,j<x->ilt 50 (ln j:Int)=false
def WE(m:Nat)(ln:Nat->Nat)(f g:Nat->Nat->Int):Hint Ob:= {X:=Nat,st:=fun x=>(List.replicate 17 .O ++ [wG m ln f g,.I (m:Int),.I (x:Int)]++List.replicate 7 .O,[]),ok:=gr1 m ln,mu:=fun x=>m - x,keep:=[17,18,19] }
def LGR(m:Nat)(ln:Nat->Nat)(f g:Nat->Nat->Int):FuncId->Nat->Option (kK Ob):=fun _ k=>match k with
 | 4=>some (.states (WE m ln f g))
 | _=>none
def ZP(sh th nd tr:Int)(m:Nat)(ln:Nat->Nat)(f g:Nat->Nat->Int)(n:Nat)(row:Nat->List AVal)(K:AVal->aB Ob->Prop):Prop:=bif ilt 10 (↑m:Int)then K (.bool true) []else bif ilt 60 (↑n:Int)then K (.bool true) []else dF (WE m ln f g) (Hint.ok (WE m ln f g)) (tO' 17 [(.view m 1 fun i=>[.view (ln i) 2 fun j=>[.I (f i j),.I (g i j)]]),.I (↑m:Int),.I 0,.O,.O,.O,.O,.O,.O,.O]) []/\ ∀(x:Nat),gr1 m ln x->bif ilt (↑x:Int) (↑m:Int)then((0:Int)<=(↑x:Int)/\(↑x:Int)<(↑m:Int))/\bif ilt 50 (↑(ln (Int.toNat (↑x:Int))):Int)then K (.bool true) []else dF (WE m ln f g) (fun x'=>Hint.ok (WE m ln f g) x'/\Hint.mu (WE m ln f g) x'<Hint.mu (WE m ln f g) x) (tO' 17 [(.view m 1 fun i=>[.view (ln i) 2 fun j=>[.I (f i j),.I (g i j)]]),.I (↑m:Int),.I (W ((↑x:Int)+1)),.O,.O,.O,.O,.O,.O,.O]) []else K (.bool false) []
theorem SH(sh th nd tr:Int)(m:Nat)(ln:Nat->Nat)(f g:Nat->Nat->Int)(n:Nat)(row:Nat->List AVal)(K:AVal->aB Ob->Prop)(h:ZP sh th nd tr m ln f g n row K):cT' 23 [.agg [.I sh,.I th,.I nd,.I tr,wG m ln f g],.view n 2 row] [] (d9 0 K):=by
 exact aD (E:=EUe) Tryz.checked.mixed (L:=LGR m ln f g) (n:=10) (aJ (by kernel_rfl) h)
abbrev aHw:List Code1:=[some .i64,none,some .i64,some .i64,some .i64,none,some .i64]
structure sm1 (ev:List (List Int)) (x:Nat):Prop where
 hi:x<=ev.length
def WK(y:HST)(ev:List (List Int)):Hint Ob:= {X:=Nat,st:=fun x=>([.ptr 0 0,.ptr 1 0,.O,.O,.O,.tslice 2 0 ev.length 7,.tslice 3 0 ev.length 7]++List.replicate 11 .O ++ [.I (ev.length:Int),.I (x:Int)]++List.replicate 12 .O,[some (.abs (.hist y) []),some (.abs (.hist y) []),some (.tab aHw ev),some (.tab aHw ev)]),ok:=sm1 ev,mu:=fun x=>ev.length - x,keep:=[0,1,5,6,18,19] }
def LSM(y:HST)(ev:List (List Int)):FuncId->Nat->Option (kK Ob):=fun _ k=>match k with
 | 5=>some (.states (WK y ev))
 | _=>none
abbrev w3r(x:HST):Option (aG Ob):=some (.abs (.hist x) [])
def aBd(x:HST)(K:AVal->aB Ob->Prop):Prop:=x.1.length<=(4294967296:Nat)/\x.1.length<=(4294967296:Nat)/\bif !ieq (↑x.1.length:Int) (↑x.1.length:Int)then K (.bool false) [w3r x,w3r x]else dF (WK x (HST.ev x)) (Hint.ok (WK x (HST.ev x))) [.ptr 0 0,.ptr 1 0,.O,.O,.O,.tslice 2 0 x.1.length 7,.tslice 3 0 x.1.length 7,.O,.O,.O,.O,.O,.O,.O,.O,.O,.O,.O,.I (↑x.1.length:Int),.I 0,.O,.O,.O,.O,.O,.O,.O,.O,.O,.O,.O,.O] [w3r x,w3r x,some (.tab cK7 x.1),some (.tab cK7 x.1)]/\ ∀(x_1:Nat),sm1 x.1 x_1->bif ilt (↑x_1:Int) (↑x.1.length:Int)then((0:Int)<=(↑x_1:Int)/\(↑x_1:Int)<(↑x.1.length:Int))/\0+Int.toNat (↑x_1:Int)<x.1.length/\((0:Int)<=(↑x_1:Int)/\(↑x_1:Int)<(↑x.1.length:Int))/\0+Int.toNat (↑x_1:Int)<x.1.length/\bif !bif ieq (List.headD (List.getD x.1 (0+Int.toNat (↑x_1:Int)) []) 0) (List.headD (List.getD x.1 (0+Int.toNat (↑x_1:Int)) []) 0)then bif bif !ieq (List.headD (List.tail (List.getD x.1 (0+Int.toNat (↑x_1:Int)) [])) 0) 0 then !ieq (List.headD (List.tail (List.getD x.1 (0+Int.toNat (↑x_1:Int)) [])) 0) 0 else !!ieq (List.headD (List.tail (List.getD x.1 (0+Int.toNat (↑x_1:Int)) [])) 0) 0 then bif bif ieq (List.headD (List.tail (List.tail (List.getD x.1 (0+Int.toNat (↑x_1:Int)) []))) 0) (List.headD (List.tail (List.tail (List.getD x.1 (0+Int.toNat (↑x_1:Int)) []))) 0)then bif ieq (List.headD (List.tail (List.tail (List.tail (List.getD x.1 (0+Int.toNat (↑x_1:Int)) [])))) 0) (List.headD (List.tail (List.tail (List.tail (List.getD x.1 (0+Int.toNat (↑x_1:Int)) [])))) 0)then true else false else false then bif bif ieq (List.headD (List.tail (List.tail (List.tail (List.tail (List.getD x.1 (0+Int.toNat (↑x_1:Int)) []))))) 0) (List.headD (List.tail (List.tail (List.tail (List.tail (List.getD x.1 (0+Int.toNat (↑x_1:Int)) []))))) 0)then bif bif !ieq (List.headD (List.tail (List.tail (List.tail (List.tail (List.tail (List.getD x.1 (0+Int.toNat (↑x_1:Int)) [])))))) 0) 0 then !ieq (List.headD (List.tail (List.tail (List.tail (List.tail (List.tail (List.getD x.1 (0+Int.toNat (↑x_1:Int)) [])))))) 0) 0 else !!ieq (List.headD (List.tail (List.tail (List.tail (List.tail (List.tail (List.getD x.1 (0+Int.toNat (↑x_1:Int)) [])))))) 0) 0 then bif ieq (List.headD (List.tail (List.tail (List.tail (List.tail (List.tail (List.tail (List.getD x.1 (0+Int.toNat (↑x_1:Int)) []))))))) 0) (List.headD (List.tail (List.tail (List.tail (List.tail (List.tail (List.tail (List.getD x.1 (0+Int.toNat (↑x_1:Int)) []))))))) 0)then true else false else false else false then true else false else false else false else false then K (.bool false) [w3r x,w3r x]else dF (WK x (HST.ev x)) (fun x'=>Hint.ok (WK x (HST.ev x)) x'/\Hint.mu (WK x (HST.ev x)) x'<Hint.mu (WK x (HST.ev x)) x_1) [.ptr 0 0,.ptr 1 0,.O,.O,.O,.tslice 2 0 x.1.length 7,.tslice 3 0 x.1.length 7,.O,.O,.O,.O,.O,.O,.O,.O,.O,.O,.O,.I (↑x.1.length:Int),.I (W ((↑x_1:Int)+1)),.O,.O,.O,.O,.O,.O,.O,.O,.O,.O,.O,.O] [w3r x,w3r x,some (.tab cK7 x.1),some (.tab cK7 x.1)]else K (.bool true) [w3r x,w3r x]
theorem UV(x:HST)(K:AVal->aB Ob->Prop)(h:aBd x K):cT' 99 [.ptr 0 0,.ptr 1 0] [some (.abs (.hist x) []),some (.abs (.hist x) [])] (d9 2 K):=by
 exact aD (E:=EUe) Tryz.checked.mixed (L:=LSM x x.ev) (n:=10) (aJ (by kernel_rfl) h)
theorem aEG{m n:Nat}{ln:Nat->Nat}(h:ilt 10 (m:Int)=true):JN m n ln=true:=by unfold JN;rw [h];rfl
theorem aEI{m n:Nat}{ln:Nat->Nat}(h:ilt 10 (m:Int)=false)(h2:ilt 60 (n:Int)=true):JN m n ln=true:=by unfold JN;rw [h,h2];rfl
theorem aEH{m n:Nat}{ln:Nat->Nat}(h:ilt 10 (m:Int)=false)(h2:ilt 60 (n:Int)=false){i:Nat}(hi:i<m)(h3:ilt 50 (ln i:Int)=true):JN m n ln=true:=by
 unfold JN;rw [h,h2];exact List.any_eq_true.2 ⟨i,List.mem_range.2 hi,h3⟩
theorem aEJ{m n:Nat}{ln:Nat->Nat}(h:ilt 10 (m:Int)=false)(h2:ilt 60 (n:Int)=false)(h3: ∀i,i<m->ilt 50 (ln i:Int)=false):JN m n ln=false:=by
 unfold JN;rw [h,h2];show(List.range m).any _=false;rw [List.any_eq_false];intro i hi;rw [h3 i (List.mem_range.1 hi)];simp
theorem aHT{m n:Nat}{ln:Nat->Nat}(h:JN m n ln=false):m<=10/\n<=60:=by
 unfold JN at h;cases h1:ilt 10 (m:Int)with
 | true=>rw [h1]at h;cases h
 | false=>
   cases h2:ilt 60 (n:Int)with
   | true=>rw [h1,h2]at h;cases h
   | false=>have:=fQ h1;have:=fQ h2;omega
theorem aHU(sh th nd tr:Int)(m:Nat)(ln:Nat->Nat)(f g:Nat->Nat->Int)(n:Nat)(row:Nat->List AVal)(K:AVal->aB Ob->Prop)(hK:K (.bool (JN m n ln)) []):ZP sh th nd tr m ln f g n row K:=by
 have key: ∀c,JN m n ln=c->K (.bool c) []:=fun c e=>by rw [<-e];exact hK
 unfold ZP;refine aT (fun e1=>key true (aEG e1)) (fun e1=>?_);refine aT (fun e2=>key true (aEI e1 e2)) (fun e2=>?_);have m10:=fQ e1;refine⟨aQ (H:=WE m ln f g) (0:Nat) rfl ⟨Nat.zero_le _,fun j hj=>absurd hj (Nat.not_lt_zero _)⟩,?_⟩;rintro x ⟨hx,ac⟩;refine aT (fun a1=>?_) (fun a1=>?_)
 ·have a1:=fK a1;have aa:x<m:=by omega
  rw [Int.toNat_natCast];refine⟨⟨by omega,by omega⟩,aT (fun a2=>key true (aEH e1 e2 aa a2)) (fun a2=>?_)⟩
  rw [W1 aa (by omega)]
  refine aQ (H:=WE m ln f g) (x+1:Nat) rfl ⟨⟨aa,fun j hj=>?_⟩,by show m - (x+1)<m - x;omega⟩
  by_cases e:j=x
  ·subst e;exact a2
  ·exact ac j (by omega)
 ·have a1:=fQ a1;exact key false (aEJ e1 e2 (fun i hi=>ac i (by omega)))
def grS:aI Ob:=fun args h=>match args,h with
 | [.agg [.int .i64 sh,.int .i64 th,.int .i64 nd,.int .i64 tr,.view m 1 vr],.view n 2 row],[]=>some (.pre (f6 vr) (.ret (.bool (JN m n (vL vr))) []))
 | _,_=>none
theorem aB0:sT' 23 grS:=by
 intro args h o ho K hK;unfold grS at ho;split at ho<;>cases ho
 rename_i sh th nd tr m g n row;obtain⟨⟨hr⟩,hK⟩:=hK;rw [hr];exact aK8 (SH sh th nd tr m (vL g) (vK g) (vY g) n row K (aHU sh th nd tr m (vL g) (vK g) (vY g) n row K hK))
theorem SX(a:Int):ieq a a=true:=by rw [cA];exact decide_eq_true rfl
theorem W2{i:Nat}{m:Nat}(hi:i<m)(hm:m<=4294967296):W ((i:Int)+1)=((i+1:Nat):Int):=by
 have:=cK (x:=(i:Int)+1) ⟨by omega,by omega⟩
 exact this.trans (by omega)
theorem aDf(b:Bool):(bif b then b else !b)=true:=by cases b<;>rfl
theorem aID(x:HST)(K:AVal->aB Ob->Prop)(hl:x.ev.length<=4294967296)(hK:K (.bool true) [some (.abs (.hist x) []),some (.abs (.hist x) [])]):aBd x K:=by
 unfold aBd;refine⟨hl,hl,?_⟩;rw [SX];refine⟨aQ (H:=WK x x.ev) (0:Nat) rfl ⟨Nat.zero_le _⟩,?_⟩;rintro i ⟨hi⟩;refine aT (fun a1=>?_) (fun a1=>hK);have a1:=fK a1;have g:i<x.ev.length:=by omega
 refine⟨⟨by omega,a1⟩,by show 0+Int.toNat ((i:Nat):Int)<_;rw [Int.toNat_natCast];omega,⟨by omega,a1⟩,by show 0+Int.toNat ((i:Nat):Int)<_;rw [Int.toNat_natCast];omega,?_⟩
 simp only [SX,aDf,cond_true,Bool.not_true,cond_false];rw [W2 g hl];exact aQ (H:=WK x x.ev) (i+1:Nat) rfl ⟨⟨g⟩,by show x.ev.length - (i+1)<x.ev.length - i;omega⟩
def smR:bA Ob:=fun args h=>match args,h with
 | [.ptr 0 0,.ptr 1 0],[some (.abs (.hist x) []),some (.abs (.hist y) [])]=>some (x=y/\x.ev.length<=4294967296,.bool true)
 | _,_=>none
theorem aFQ:sT' 99 smR.spec:=by
 intro args h o ho K g;unfold bA.spec at ho;split at ho
 case h_2=>cases ho
 rename_i p v hv;unfold smR at hv;split at hv
 case h_2=>cases hv
 rename_i x y;simp only [sI',pI']at hv;obtain⟨rfl,rfl⟩:=hv;simp only [sI']at ho;subst ho;obtain⟨⟨rfl,hl⟩,g⟩:=g;exact aK8 (UV x K (aID x K hl g))
noncomputable def EUf:=(EUe.addS 23 grS aB0).addR 99 smR aFQ
structure on1 (x:EGS) (u:Nat):Prop where
 hi:(u:Int)<=x.s.t
structure on2 (x:EGS) (a:Nat):Prop where
 hi:(a:Int)<=2*x.s.n+5*x.s.t+6
def WG(x:EGS):Hint Ob:= {X:=Nat,st:=fun u=>([.ptr 0 0,.ptr 1 0,.O,.O,.O,.ptr 2 0,.I (u:Int)]++List.replicate 97 .O,[some (.abs (.engine x) []),some (.abs (.engine x) []),cE' [.I x.s.t,.I x.s.n]]),ok:=on1 x,mu:=fun u=>(x.s.t - (u:Int)).toNat,keep:=[0,1,5,6] }
def WH(x:EGS):Hint Ob:= {X:=Nat,st:=fun a=>([.ptr 0 0,.ptr 1 0,.O,.O,.O,.ptr 2 0,.O,.I (a:Int)]++List.replicate 96 .O,[some (.abs (.engine x) []),some (.abs (.engine x) []),cE' [.I x.s.t,.I x.s.n]]),ok:=on2 x,mu:=fun a=>(2*x.s.n+5*x.s.t+6 - (a:Int)).toNat,keep:=[0,1,5,7] }
def LON(x:EGS):FuncId->Nat->Option (kK Ob):=fun _ k=>match k with
 | 5=>some (.states (WG x))
 | 10=>some (.states (WH x))
 | _=>none
abbrev w3s(x:EGS):Option (aG Ob):=some (.abs (.engine x) [])
abbrev w3t(x:EGS):List AVal:=[.I (EGS.s x).1,.I (EGS.s x).2]
def aAN(x:EGS)(K:AVal->aB Ob->Prop):Prop:=True/\True/\bif !bif ieq (EGS.s x).1 (EGS.s x).1 then bif ieq (EGS.s x).2 (EGS.s x).2 then true else false else false then K (.bool false) [w3s x,w3s x]else bif !bif ieq x.1 x.1 then bif ieq x.2 x.2 then bif ieq x.3 x.3 then bif ieq x.4 x.4 then true else false else false else false else false then K (.bool false) [w3s x,w3s x]else True/\True/\bif !ieq x.8 x.8 then K (.bool false) [w3s x,w3s x]else(List.length (EGS.h x).1<=(4294967296:Nat)/\List.length (EGS.h x).2<=(4294967296:Nat))/\(List.length (EGS.h x).1<=(4294967296:Nat)/\List.length (EGS.h x).2<=(4294967296:Nat))/\(x.6=x.6/\List.length (EGS.h x).1<=(4294967296:Nat))/\((0:Int)<=(EGS.s x).2/\(EGS.s x).2<=(100000:Int))/\((0:Int)<=(EGS.s x).2/\(EGS.s x).2<=(100000:Int))/\((lE' (bM x)/\lE' (bM x))/\List.length (bM x)<=(4294967296:Nat))/\bif !eR (bM x) (bM x)then K (.bool false) [w3s x,w3s x]else dF (WG x) (Hint.ok (WG x)) (.ptr 0 0::.ptr 1 0::.O::.O::.O::.ptr 2 0::.I 0::(tO' 97 [])) [w3s x,w3s x,cE' (w3t x)]/\ ∀(x_1:Nat),on1 x x_1->bif ilt (↑x_1:Int) (EGS.s x).1 then True/\True/\bif !ieq (gL (↑x_1:Int) x) (gL (↑x_1:Int) x)then K (.bool false) [w3s x,w3s x]else jM x/\jM x/\((lE' (gV (↑x_1:Int) x)/\lE' (gV (↑x_1:Int) x))/\List.length (gV (↑x_1:Int) x)<=(4294967296:Nat))/\bif !eR (gV (↑x_1:Int) x) (gV (↑x_1:Int) x)then K (.bool false) [w3s x,w3s x]else jM x/\jM x/\((lE' (gS (↑x_1:Int) x)/\lE' (gS (↑x_1:Int) x))/\List.length (gS (↑x_1:Int) x)<=(4294967296:Nat))/\bif !eR (gS (↑x_1:Int) x) (gS (↑x_1:Int) x)then K (.bool false) [w3s x,w3s x]else jM x/\jM x/\((lE' (gK (↑x_1:Int) x)/\lE' (gK (↑x_1:Int) x))/\List.length (gK (↑x_1:Int) x)<=(4294967296:Nat))/\bif !eR (gK (↑x_1:Int) x) (gK (↑x_1:Int) x)then K (.bool false) [w3s x,w3s x]else dF (WG x) (fun x'=>Hint.ok (WG x) x'/\Hint.mu (WG x) x'<Hint.mu (WG x) x_1) (.ptr 0 0::.ptr 1 0::.O::.O::.O::.ptr 2 0::.I (W ((↑x_1:Int)+1))::(tO' 97 [])) [w3s x,w3s x,cE' (w3t x)]else dF (WH x) (Hint.ok (WH x)) (.ptr 0 0::.ptr 1 0::.O::.O::.O::.ptr 2 0::.O::.I 0::(tO' 96 [])) [w3s x,w3s x,cE' (w3t x)]/\ ∀(x_2:Nat),on2 x x_2->(((0:Int)<=(EGS.s x).1/\(EGS.s x).1<=(100000:Int))/\(0:Int)<=(EGS.s x).2/\(EGS.s x).2<=(100000:Int))/\bif ilt (↑x_2:Int) (2*(EGS.s x).2+5*(EGS.s x).1+6)then True/\True/\bif !ieq (aF (EGS.s x).3 (↑x_2:Int)) (aF (EGS.s x).3 (↑x_2:Int))then K (.bool false) [w3s x,w3s x]else dF (WH x) (fun x'=>Hint.ok (WH x) x'/\Hint.mu (WH x) x'<Hint.mu (WH x) x_2) (.ptr 0 0::.ptr 1 0::.O::.O::.O::.ptr 2 0::.O::.I (W ((↑x_2:Int)+1))::(tO' 96 [])) [w3s x,w3s x,cE' (w3t x)]else K (.bool true) [w3s x,w3s x]
theorem TT(x:EGS)(K:AVal->aB Ob->Prop)(h:aAN x K):cT' 42 [.ptr 0 0,.ptr 1 0] [some (.abs (.engine x) []),some (.abs (.engine x) [])] (d9 2 K):=by
 exact aD (E:=EUf) Tryz.checked.mixed (L:=LON x) (n:=10) (aJ (by kernel_rfl) h)
noncomputable def EUg:=(EUf.addS 25 (aI.or newLS gnS) (aLK aAI JM))
theorem KO(xs:List Int):eR xs xs=true:=qG.2 rfl
structure TU (x:EGS):Prop where
 w: ∃t n:Int,egW t n x
theorem NE(sp:Int)(xs:List Int):(mB sp xs).length <=xs.length+1:=by
 unfold mB;cases ieq sp 0 with
 | true=>exact Nat.le_succ _
 | false=>exact Nat.le_refl _
theorem O7{x:EGS}(h:jM x)(u:Int):(gV u x).length <=4294967296:=by
 unfold gV;cases ilt u 0 with
 | true=>exact Nat.zero_le _
 | false=>
   rw [cond_false];cases e:ile (x.ws.length:Int) u with
   | true=>exact Nat.zero_le _
   | false=>
     rw [bY]at e;have e:=of_decide_eq_false e;have h0:=h.h0
     by_cases hu:u.toNat<x.ws.length
     ·exact Nat.le_trans (h.ht _ hu) (by omega)
     ·omega
theorem OZ{x:EGS}(h:jM x)(u:Int):(gS u x).length <=4294967296:=by
 unfold gS;cases ilt u 0 with
 | true=>exact Nat.zero_le _
 | false=>
   rw [cond_false];cases e:ile (x.ws.length:Int) u with
   | true=>exact Nat.zero_le _
   | false=>
     rw [bY]at e;have e:=of_decide_eq_false e;have h0:=h.h0
     by_cases hu:u.toNat<x.ws.length
     ·exact Nat.le_trans (h.hs _ hu) (by omega)
     ·omega
theorem ND{x:EGS}(h:jM x)(u:Int):(gK u x).length <=4294967296:=by
 unfold gK;cases ilt u 0 with
 | true=>exact Nat.zero_le _
 | false=>
   rw [cond_false];cases e:ile (x.ws.length:Int) u with
   | true=>exact Nat.zero_le _
   | false=>
     rw [bY]at e;have e:=of_decide_eq_false e;have h0:=h.h0
     by_cases hu:u.toNat<x.ws.length
     ·have:=h.hr _ hu;exact Nat.le_trans (NE _ _) (by omega)
     ·omega
theorem f0{x:EGS}(h:0<=x.s.n/\x.s.n<=100000):(bM x).length <=4294967296:=by
 have l0:=jA x.s.xs x.s.n 0;have l1:=jA x.s.xs x.s.n 1;have l2:=jA x.s.xs x.s.n 2;have g:=jA x.s.xs x.s.n 3;have hn:x.s.n.toNat<=100000:=by omega
 unfold bM;cases ieq x.sh 3 with
 | true=>rw [cond_true];omega
 | false=>
   rw [cond_false];cases ieq x.sh 4 with
   | true=>rw [cond_true];omega
   | false=>rw [cond_false,oU,List.length_append,List.length_append,List.length_append];omega
set_option maxRecDepth 10000 in
theorem aIx(x:EGS)(K:AVal->aB Ob->Prop)(hx:TU x)(hK:K (.bool true) [some (.abs (.engine x) []),some (.abs (.engine x) [])]):aAN x K:=by
 obtain⟨⟨t,n,hw⟩⟩:=hx;have hf:=RE hw;have hl:=RF hw;have ht:=hw.ht;have hn:=hw.hn;have st:=hw.st;have sn:=hw.sn;have g:0<=x.s.n/\x.s.n<=100000:=by omega
 have aa:0<=x.s.t/\x.s.t<=100000:=by omega
 unfold aAN;simp only [SX,KO,cond_true,Bool.not_true,cond_false];refine⟨trivial,trivial,trivial,trivial,hl,hl,⟨trivial,hl.1⟩,g,g,⟨⟨trivial,trivial⟩,f0 g⟩,aQ (H:=WG x) (0:Nat) rfl ⟨by show((0:Nat):Int)<=x.s.t;omega⟩,?_⟩
 rintro u ⟨hu⟩;refine aT (fun a1=>?_) (fun a1=>?_)
 ·have a1:=fK a1;refine⟨trivial,trivial,hf,hf,⟨⟨trivial,trivial⟩,O7 hf _⟩,hf,hf,⟨⟨trivial,trivial⟩,OZ hf _⟩,hf,hf,⟨⟨trivial,trivial⟩,ND hf _⟩,?_⟩;have e:W ((u:Int)+1)=((u+1:Nat):Int):=(cK (x:=(u:Int)+1) ⟨by omega,by omega⟩).trans (by omega)
  rw [e];exact aQ (H:=WG x) (u+1:Nat) rfl ⟨⟨by show((u+1:Nat):Int)<=x.s.t;omega⟩,by show(x.s.t - ((u+1:Nat):Int)).toNat <(x.s.t - (u:Int)).toNat;omega⟩
 ·refine⟨aQ (H:=WH x) (0:Nat) rfl ⟨by show((0:Nat):Int)<=2*x.s.n+5*x.s.t+6;omega⟩,?_⟩
  rintro a ⟨ha⟩;refine⟨⟨aa,g⟩,aT (fun b1=>?_) (fun b1=>hK)⟩;have b1:=fK b1;have e:W ((a:Int)+1)=((a+1:Nat):Int):=(cK (x:=(a:Int)+1) ⟨by omega,by omega⟩).trans (by omega)
  rw [e];exact⟨trivial,trivial,aQ (H:=WH x) (a+1:Nat) rfl ⟨⟨by show((a+1:Nat):Int)<=2*x.s.n+5*x.s.t+6;omega⟩,by show(2*x.s.n+5*x.s.t+6 - ((a+1:Nat):Int)).toNat <(2*x.s.n+5*x.s.t+6 - (a:Int)).toNat;omega⟩⟩
def onS:aI Ob:=fun args h=>match args,h with
 | [.ptr 0 0,.ptr 1 0],[some (.abs (.engine x) []),some (.abs (.engine y) [])]=>some (.pre (x=y/\TU x) (.ret (.bool true) [some (.abs (.engine x) []),some (.abs (.engine y) [])]))
 | _,_=>none
theorem aIw:sT' 42 onS:=by
 intro args h o ho K g;unfold onS at ho;split at ho<;>cases ho
 rename_i x y;obtain⟨⟨rfl,hx⟩,g⟩:=g;exact aK8 (TT x K (aIx x K hx g))
abbrev iV(xs:List Int):AVal:=.iview (some .i64) xs
structure eq1 (xs ys:List Int) (i:Nat):Prop where
 h1:i<=xs.length
 h2:xs.length=ys.length
 h3:xs.take i=ys.take i
def BF(a b:AVal)(h:aB Ob)(xs ys:List Int):Hint Ob:= {X:=Nat,st:=fun i=>([a,b]++List.replicate 10 .O ++ [.I (xs.length:Int),.I (i:Int)]++List.replicate 12 .O,h),ok:=eq1 xs ys,mu:=fun i=>xs.length - i,keep:=[0,1,12,13] }
def LEQ(a b:AVal)(h:aB Ob)(xs ys:List Int):FuncId->Nat->Option (kK Ob):=fun _ k=>match k with
 | 4=>some (.states (BF a b h xs ys))
 | _=>none
abbrev VU(xs:List Int):AVal:=.slice 0 0 xs.length 1
abbrev VV(ys:List Int):AVal:=.slice 1 0 ys.length 1
abbrev RG(xs ys:List Int):aB Ob:=[iI' xs,iI' ys]
def RS(xs ys:List Int)(K:AVal->aB Ob->Prop):Prop:=bif !ieq (↑xs.length:Int) (↑ys.length:Int)then K (.bool false) [iI' xs,iI' ys]else dF (BF (VU xs) (VV ys) (RG xs ys) xs ys) (Hint.ok (BF (VU xs) (VV ys) (RG xs ys) xs ys)) [.slice 0 0 xs.length 1,.slice 1 0 ys.length 1,.O,.O,.O,.O,.O,.O,.O,.O,.O,.O,.I (↑xs.length:Int),.I 0,.O,.O,.O,.O,.O,.O,.O,.O,.O,.O,.O,.O] [iI' xs,iI' ys]/\ ∀(x:Nat),eq1 xs ys x->bif ilt (↑x:Int) (↑xs.length:Int)then((0:Int)<=(↑x:Int)/\(↑x:Int)<(↑xs.length:Int))/\0+Int.toNat (↑x:Int)*(1:Nat)<xs.length/\((0:Int)<=(↑x:Int)/\(↑x:Int)<(↑ys.length:Int))/\0+Int.toNat (↑x:Int)*(1:Nat)<ys.length/\bif !ieq (List.getD xs (0+Int.toNat (↑x:Int)*1) 0) (List.getD ys (0+Int.toNat (↑x:Int)*1) 0)then K (.bool false) [iI' xs,iI' ys]else dF (BF (VU xs) (VV ys) (RG xs ys) xs ys) (fun x'=>Hint.ok (BF (VU xs) (VV ys) (RG xs ys) xs ys) x'/\Hint.mu (BF (VU xs) (VV ys) (RG xs ys) xs ys) x'<Hint.mu (BF (VU xs) (VV ys) (RG xs ys) xs ys) x) [.slice 0 0 xs.length 1,.slice 1 0 ys.length 1,.O,.O,.O,.O,.O,.O,.O,.O,.O,.O,.I (↑xs.length:Int),.I (W ((↑x:Int)+1)),.O,.O,.O,.O,.O,.O,.O,.O,.O,.O,.O,.O] [iI' xs,iI' ys]else K (.bool true) [iI' xs,iI' ys]
theorem L8(xs ys:List Int)(K:AVal->aB Ob->Prop)(h:RS xs ys K):cT' 108 [VU xs,VV ys] (RG xs ys) (d9 2 K):=by
 exact aD (E:=EUe) Tryz.checked.mixed (L:=LEQ (VU xs) (VV ys) (RG xs ys) xs ys) (n:=10) (aJ (by kernel_rfl) h)
def RT(xs ys:List Int)(K:AVal->aB Ob->Prop):Prop:=bif !ieq (↑xs.length:Int) (↑ys.length:Int)then K (.bool false) []else dF (BF (iV xs) (iV ys) [] xs ys) (Hint.ok (BF (iV xs) (iV ys) [] xs ys)) [.iview (some .i64) xs,.iview (some .i64) ys,.O,.O,.O,.O,.O,.O,.O,.O,.O,.O,.I (↑xs.length:Int),.I 0,.O,.O,.O,.O,.O,.O,.O,.O,.O,.O,.O,.O] []/\ ∀(x:Nat),eq1 xs ys x->bif ilt (↑x:Int) (↑xs.length:Int)then((0:Int)<=(↑x:Int)/\(↑x:Int)<(↑xs.length:Int))/\((0:Int)<=(↑x:Int)/\(↑x:Int)<(↑ys.length:Int))/\bif !ieq (List.getD xs (Int.toNat (↑x:Int)) 0) (List.getD ys (Int.toNat (↑x:Int)) 0)then K (.bool false) []else dF (BF (iV xs) (iV ys) [] xs ys) (fun x'=>Hint.ok (BF (iV xs) (iV ys) [] xs ys) x'/\Hint.mu (BF (iV xs) (iV ys) [] xs ys) x'<Hint.mu (BF (iV xs) (iV ys) [] xs ys) x) [.iview (some .i64) xs,.iview (some .i64) ys,.O,.O,.O,.O,.O,.O,.O,.O,.O,.O,.I (↑xs.length:Int),.I (W ((↑x:Int)+1)),.O,.O,.O,.O,.O,.O,.O,.O,.O,.O,.O,.O] []else K (.bool true) []
theorem L9(xs ys:List Int)(K:AVal->aB Ob->Prop)(h:RT xs ys K):cT' 108 [iV xs,iV ys] [] (d9 0 K):=by
 exact aD (E:=EUe) Tryz.checked.mixed (L:=LEQ (iV xs) (iV ys) [] xs ys) (n:=10) (aJ (by kernel_rfl) h)
theorem aHt{xs ys:List Int}{K:AVal->aB Ob->Prop}{h:aB Ob}(hK:K (.bool (eR xs ys)) h):(xs=ys->K (.bool true) h)/\(xs≠ys->K (.bool false) h):=by
 refine⟨fun e=>?_,fun e=>?_⟩
 ·rw [qG.2 e]at hK;exact hK
 ·have:eR xs ys=false:=by
   cases hs:eR xs ys with
   | false=>rfl
   | true=>exact(e (qG.1 hs)).elim
  rw [this]at hK;exact hK
theorem JH{xs ys:List Int}{i:Nat}(hi:i<xs.length)(h2:xs.length=ys.length)(h3:xs.take i=ys.take i)(e:xs.getD i 0=ys.getD i 0):xs.take (i+1)=ys.take (i+1):=by
 have hj:i<ys.length:=by omega
 rw [gD',gE' hi,gD',gE' hj]at e;rw [List.take_succ_eq_append_getElem hi,List.take_succ_eq_append_getElem hj,h3];have g:xs[i]=ys[i]:=by simpa using e
 rw [g]
theorem aD6(xs ys:List Int)(K:AVal->aB Ob->Prop)(hl:xs.length<=4294967296)(hK:K (.bool (eR xs ys)) (RG xs ys)):RS xs ys K:=by
 obtain⟨kt,kf⟩:=aHt hK;refine aL (fun e=>kf ?_) (fun e=>?_)
 ·rw [cA]at e;rintro rfl;simp at e
 ·have aa:xs.length=ys.length:=by rw [cA]at e;simp at e;omega
  refine⟨aQ (H:=BF (VU xs) (VV ys) (RG xs ys) xs ys) (0:Nat) rfl ⟨Nat.zero_le _,aa,rfl⟩,?_⟩;rintro i ⟨h1,h2,h3⟩;refine aT (fun e1=>?_) (fun e1=>?_)
  ·have e1:=fK e1;have hi:i<xs.length:=by omega
   have e2:0+(i:Int).toNat *1=i:=by omega
   rw [e2];refine⟨by omega,hi,by omega,by omega,aL (fun g=>kf ?_) (fun g=>?_)⟩
   ·rw [cA]at g;rintro rfl;simp at g
   ·rw [cA]at g;have g:xs.getD i 0=ys.getD i 0:=by simpa using g
    rw [W2 hi hl];exact aQ (H:=BF (VU xs) (VV ys) (RG xs ys) xs ys) (i+1:Nat) rfl ⟨⟨hi,h2,JH hi h2 h3 g⟩,by show xs.length - (i+1)<xs.length - i;omega⟩
  ·have e1:=fQ e1;refine kt ?_;rw [List.take_of_length_le (by omega),List.take_of_length_le (by omega)]at h3;exact h3
theorem aD7(xs ys:List Int)(K:AVal->aB Ob->Prop)(hl:xs.length<=4294967296)(hK:K (.bool (eR xs ys)) []):RT xs ys K:=by
 obtain⟨kt,kf⟩:=aHt hK;refine aL (fun e=>kf ?_) (fun e=>?_)
 ·rw [cA]at e;rintro rfl;simp at e
 ·have aa:xs.length=ys.length:=by rw [cA]at e;simp at e;omega
  refine⟨aQ (H:=BF (iV xs) (iV ys) [] xs ys) (0:Nat) rfl ⟨Nat.zero_le _,aa,rfl⟩,?_⟩;rintro i ⟨h1,h2,h3⟩;refine aT (fun e1=>?_) (fun e1=>?_)
  ·have e1:=fK e1;have hi:i<xs.length:=by omega
   rw [Int.toNat_natCast];refine⟨by omega,by omega,aL (fun g=>kf ?_) (fun g=>?_)⟩
   ·rw [cA]at g;rintro rfl;simp at g
   ·rw [cA]at g;have g:xs.getD i 0=ys.getD i 0:=by simpa using g
    rw [W2 hi hl];exact aQ (H:=BF (iV xs) (iV ys) [] xs ys) (i+1:Nat) rfl ⟨⟨hi,h2,JH hi h2 h3 g⟩,by show xs.length - (i+1)<xs.length - i;omega⟩
  ·have e1:=fQ e1;refine kt ?_;rw [List.take_of_length_le (by omega),List.take_of_length_le (by omega)]at h3;exact h3
def eqR:bA Ob:=fun args h=>match args,h with
 | [.slice 0 0 n 1,.slice 1 0 m 1],[some (.ints (some .i64) xs),some (.ints (some .i64) ys)]=>some ((n=xs.length/\m=ys.length)/\n<=4294967296,.bool (eR xs ys))
 | [.iview (some .i64) xs,.iview (some .i64) ys],[]=>some (xs.length<=4294967296,.bool (eR xs ys))
 | _,_=>none
theorem aD5:sT' 108 eqR.spec:=by
 intro args h o ho K g;unfold bA.spec at ho;split at ho
 case h_2=>cases ho
 rename_i p v hv;unfold eqR at hv;split at hv
 case h_3=>cases hv
 ·rename_i n m xs ys;simp only [sI',pI']at hv;obtain⟨rfl,rfl⟩:=hv;simp only [sI']at ho;subst ho;obtain⟨⟨⟨rfl,rfl⟩,hl⟩,g⟩:=g;exact aK8 (L8 xs ys K (aD6 xs ys K hl g))
 ·rename_i xs ys;simp only [sI',pI']at hv;obtain⟨rfl,rfl⟩:=hv;simp only [sI']at ho;subst ho;obtain⟨hl,g⟩:=g;exact aK8 (L9 xs ys K (aD7 xs ys K hl g))
def aGY(sh th nd tr:Int)(m:Nat)(vr:Nat->List AVal)(K:AVal->aB Ob->Prop):Prop:=K (.agg [.I sh,.I th,.I nd,.I tr]) []
theorem QL(sh th nd tr:Int)(m:Nat)(vr:Nat->List AVal)(K:AVal->aB Ob->Prop)(h:aGY sh th nd tr m vr K):cT' 26 [.agg [.I sh,.I th,.I nd,.I tr,.view m 1 vr]] [] (d9 0 K):=by
 exact cM' (E:=EUg) (by kernel_rfl) h
def cfR:bA Ob:=fun args h=>match args,h with
 | [.agg [.int .i64 sh,.int .i64 th,.int .i64 nd,.int .i64 tr,.view m 1 vr]],[]=>some (True,.agg [.I sh,.I th,.I nd,.I tr])
 | _,_=>none
theorem QK:sT' 26 cfR.spec:=by
 intro args h o ho K g;unfold bA.spec at ho;split at ho
 case h_2=>cases ho
 rename_i p v hv;unfold cfR at hv;split at hv
 case h_2=>cases hv
 rename_i sh th nd tr m vr;simp only [sI',pI']at hv;obtain⟨rfl,rfl⟩:=hv;simp only [sI']at ho;subst ho;obtain⟨_,g⟩:=g;exact aK8 (QL sh th nd tr m vr K g)
def gn1S:aI Ob:=fun args h=>match args,h with
 | [.agg [.int .i64 sh,.int .i64 th,.int .i64 nd,.int .i64 tr],.view m 1 vr],[]=>some (.pre ((m<=1000000/\f6 vr)/\gnC sh th nd tr m (vL vr) (vK vr) (vY vr)=0) (.ret (.tup [.ptr 0 0,.I 0]) (egH (nR sh th nd tr m (vL vr) (vK vr) (vY vr)))))
 | _,_=>none
theorem HF:sT' 25 gn1S:=by
 intro args h o ho K hK;unfold gn1S at ho;split at ho<;>cases ho
 rename_i sh th nd tr m g;obtain⟨⟨h1,h2⟩,hK⟩:=hK;have hS:gnS [.agg [.I sh,.I th,.I nd,.I tr],.view m 1 g] []=some (.pre (m<=1000000/\f6 g) (rC sh th nd tr m (vL g) (vK g) (vY g))):=rfl;refine JM _ _ _ hS K ⟨h1,?_⟩;show(rC sh th nd tr m (vL g) (vK g) (vY g)).run K;unfold rC;rw [h2];exact hK
abbrev pkW(pt pm:Nat->Int)(i:Nat):List AVal:=[.I (pt i),.I (pm i)]
end Go.Sh
