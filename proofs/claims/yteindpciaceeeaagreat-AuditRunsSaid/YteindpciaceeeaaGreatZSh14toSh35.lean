import Derived.ControlIn
import Derived.TacticsIn
import Derived.RangeFuncIn
import Derived.RowKit3
import Derived.WideKeyArgs
import Derived.OpenShut
import Derived.RangeFuncRecord
import Derived.Below
import Derived.Test.YteindpciaceeeaaGreatZSh1toSh13
set_option linter.all false
set_option maxHeartbeats 8000000
namespace Go.Sh
open Go
variable [Con] {A:Type}
section
variable {P:Program} {E:Env A P}
theorem pY{ops:Array Oper}{x y:Item A}(h:fD ops x y=true):
 (∀d,x.o.dst=some d->d∉y.o.looksAt ops/\y.o.dst≠some d)/\(∀d,y.o.dst=some d->d∉x.o.looksAt ops/\x.o.dst≠some d)/\(∀l∈y.foot,x.puts l=false)/\(∀l∈x.foot,y.puts l=false):=by
 unfold fD at h;simp only [Bool.and_eq_true,List.all_eq_true,Bool.not_eq_true']at h;obtain⟨⟨⟨h1,h2⟩,h3⟩,g⟩:=h;refine⟨?_,?_,h3,g⟩
 ·intro d hd;simp only [l9,hd,Bool.and_eq_true,Bool.not_eq_true',bne_iff_ne,ne_eq]at h1;exact⟨by have:=h1.1;simpa using this,h1.2⟩
 ·intro d hd;simp only [l9,hd,Bool.and_eq_true,Bool.not_eq_true',bne_iff_ne,ne_eq]at h2;exact⟨by have:=h2.1;simpa using this,h2.2⟩
theorem rE(foot:List Nat): ∀(h:aB A) (i l:Nat),aK (hres foot i h) l=if foot.contains (i+l)then aK h l else none
 | [],i,l=>by simp [hres,aK]
 | e::h,i,0=>by
   simp only [hres,aK,List.getD_cons_zero,Nat.add_zero];cases foot.contains i<;>rfl
 | e::h,i,l+1=>by
   have:=rE foot h (i+1) l;simp only [aK]at this;simp only [hres,aK,List.getD_cons_succ];rw [this,show i+1+l=i+(l+1)from by omega]
theorem tP(foot:List Nat): ∀(h:aB A) (i:Nat),(hres foot i h).length =h.length
 | [],_=>rfl
 | e::h,i=>by simp [hres,tP foot h]
structure iN (E:Env A P) (ops:Array Oper) (tm0:List AVal) (h0:aB A) (its:List (Item A)) (tmN:List AVal) (hN:aB A):Prop where
 trace:gF E ops tm0 h0 its tmN hN
 opers:its.map (·.o)=ops.toList.take its.length
 edges:mQ ops.toList
 wells:its.all jF=true
 pairs:FT ops (masks [] ops.toList) its
variable {ops:Array Oper} {tm0:List AVal} {h0:aB A} {its:List (Item A)} {tmN:List AVal} {hN:aB A}
theorem iN.oper(d:iN E ops tm0 h0 its tmN hN){k:Nat}{it:Item A}(hk:its[k]? =some it):ops.toList[k]? =some it.o:=by
 have g:k<its.length:=(List.getElem?_eq_some_iff.1 hk).1;have h1:(its.map (·.o))[k]? =some it.o:=by rw [List.getElem?_map,hk];rfl
 rw [d.opers,List.getElem?_take,if_pos g]at h1;exact h1
theorem iN.item(d:iN E ops tm0 h0 its tmN hN){k:Nat}{o:Oper}(hk:ops.toList[k]? =some o)(hkl:k<its.length): ∃it,its[k]? =some it/\it.o=o:=by
 have h1:(its.map (·.o))[k]? =some o:=by rw [d.opers,List.getElem?_take,if_pos hkl];exact hk
 rw [List.getElem?_map]at h1;cases h:its[k]? with
 | none=>rw [h]at h1;cases h1
 | some it=>rw [h]at h1;cases h1;exact⟨it,rfl,rfl⟩
theorem iN.pair(d:iN E ops tm0 h0 its tmN hN){i j:Nat}{x y:Item A}(hi:its[i]? =some x)(hj:its[j]? =some y)(hij:i<j):
 (((masks [] ops.toList).getD j 0).testBit i=true)\/fD ops x y=true:=by
 exact d.pairs i j x y hi hj hij
theorem iN.well(d:iN E ops tm0 h0 its tmN hN){k:Nat}{it:Item A}(hk:its[k]? =some it):jF it=true:=by
 have:=List.all_eq_true.1 d.wells;exact this it (List.mem_of_getElem? hk)
theorem iN.ordered(d:iN E ops tm0 h0 its tmN hN){D:Nat->Bool}(hc:mK ops.toList D){k:Nat}{it:Item A}(hk:its[k]? =some it)(hD:D k=false)
 (hr: ∀e∈it.o.after.toList,Region.binds .any e=true->D e.on=true) {i:Nat} {x:Item A} (hi:its[i]? =some x) (hik:i≠k)
 (hdep:fD ops x it=false\/fD ops it x=false) (hsym:fD ops x it=false->fD ops it x=false) (hsym2:fD ops it x=false->fD ops x it=false):D i=decide (i<k):=by
 rcases Nat.lt_or_gt_of_ne hik with g | aa
 ·rcases d.pair hi hk g with h | h
  ·rcases qE hc (d.oper hk) hr h with h | h
   ·exact(hik h).elim
   ·rw [h];simp [g]
  ·rcases hdep with e | e
   ·rw [e]at h;cases h
   ·rw [hsym2 e]at h;cases h
 ·rcases d.pair hk hi aa with h | h
  ·have:D i=false:=by
    cases e:D i with
    | false=>rfl
    | true=>rw [LM hc e h]at hD;cases hD
   rw [this];simp;omega
  ·rcases hdep with e | e
   ·rw [hsym e]at h;cases h
   ·rw [e]at h;cases h
theorem pZ{x y:Item A} :fD ops x y=fD ops y x:=by
 unfold fD;cases l9 ops x.o y.o<;>cases l9 ops y.o x.o<;>cases y.foot.all (fun l=>!x.puts l)<;>cases x.foot.all (fun l=>!y.puts l)<;>rfl
theorem iN.order(d:iN E ops tm0 h0 its tmN hN){D:Nat->Bool}(hc:mK ops.toList D){k:Nat}{it:Item A}(hk:its[k]? =some it)(hD:D k=false)
 (hr: ∀e∈it.o.after.toList,Region.binds .any e=true->D e.on=true) {i:Nat} {x:Item A} (hi:its[i]? =some x) (hik:i≠k) (hdep:fD ops x it=false):D i=decide (i<k):=
 d.ordered hc hk hD hr hi hik (.inl hdep) (fun h=>by rw [pZ];exact h) (fun h=>by rw [pZ];exact h)
theorem QT{x y:Item A}{t:Nat}(hx:x.o.dst=some t)(hy:t∈y.o.looksAt ops):fD ops x y=false:=by
 cases h:fD ops x y with
 | false=>rfl
 | true=>exact((pY h).1 t hx |>.1 hy).elim
theorem X0{x y:Item A}{t:Nat}(hx:x.o.dst=some t)(hy:y.o.dst=some t):fD ops x y=false:=by
 cases h:fD ops x y with
 | false=>rfl
 | true=>exact((pY h).1 t hx |>.2 hy).elim
theorem vC{x y:Item A}{l:Nat}(hx:x.puts l=true)(hy:l∈y.foot):fD ops x y=false:=by
 cases h:fD ops x y with
 | false=>rfl
 | true=>have:=(pY h).2.2.1 l hy;rw [hx]at this;cases this
def xS(E:Env A P)(ds:List Deferred)(tm0:List AVal)(h0:aB A)(its:List (Item A))(V0:Val)(hR:PHeap)(w0:World)(D:Nat->Bool)(a:Act)(w:World):Prop:=
 ∃V,V0.le V/\(∀l,V l≠none->V0 l≠none\/ ∃i it,its[i]? =some it/\D i=true/\it.n<=l/\l<it.n+it.new.length)/\
  aH V (tmF D 0 its tm0) a.tmps.toList/\Inv E.I V (hF D 0 its (toF h0)) hR w/\bN w0 w/\a.defers=ds
theorem NW{o:Oper}{t:Nat}(h:Operand.tmp t∈o.op.operands):t∈o.looksAt ops:=by
 unfold Oper.looksAt;refine List.mem_append_left _ (List.mem_filterMap.2 ⟨.tmp t,by simpa using h,rfl⟩)
theorem tL{o:Oper}{j d:Nat}{want:Bool}(h:o.guard=some (j,want))(hd:(ops[j]?).bind (·.dst)=some d):d∈o.looksAt ops:=by
 unfold Oper.looksAt;refine List.mem_append_right _ ?_;rw [h];simp only;rw [hd];simp
theorem iN.step{ds:List Deferred}(d:iN E ops tm0 h0 its tmN hN){V0:Val}(hV0:bO V0 h0.length){hR:PHeap}{w0:World}{D:Nat->Bool}(hc:mK ops.toList D){k:Nat}{o:Oper}(hko:ops.toList[k]? =some o)(hkl':k<its.length)(hD:D k=false)
 (hr: ∀e∈o.after.toList,Region.binds .any e=true->D e.on=true) {a:Act} {w:World} (hs:xS E ds tm0 h0 its V0 hR w0 D a w) {Q:Exit->Act->World->Prop} {K:Act->World->Prop}
 (hK: ∀a' w',xS E ds tm0 h0 its V0 hR w0 (fun i=>decide (i=k)||D i) a' w'->K a' w'):wpOp P ops Q k K a w:=by
 obtain⟨it,hk,rfl⟩:=d.item hko hkl';obtain⟨V,ba,ay,ap,a7,hg,bu⟩:=hs;obtain⟨ad,av,br,cb,ca⟩:=d.trace.at d.wells 0 k it hk;simp only [Nat.zero_add]at av br
 have look: ∀t∈it.o.looksAt ops,(tmF D 0 its tm0)[t]? =(tmF (fun i=>decide (i<k)) 0 its tm0)[t]? :=by
  intro t ht;refine oY its 0 tm0 tm0 rfl rfl ?_;intro i x hi hx;rw [Nat.zero_add]
  by_cases aa:i=k
  ·subst aa;rw [hD];simp
  ·exact d.order hc hk hD hr hi aa (QT hx ht)
 have seen: ∀l∈it.foot,hF D 0 its (toF h0) l=toF ad l:=by
  intro l hl;rw [br];refine nV its 0 _ _ rfl ?_;intro i x hi hx;rw [Nat.zero_add]
  by_cases aa:i=k
  ·subst aa;rw [hD];simp
  ·exact d.order hc hk hD hr hi aa (vC hx hl)
 have bj: ∀x∈it.o.op.operands,dM (tmF D 0 its tm0) x=dM (tmF (fun i=>decide (i<k)) 0 its tm0) x:=by
  intro x hx;cases x with
  | tmp t=>
    show(tmF D 0 its tm0).getD t _=(tmF _ 0 its tm0).getD t _;rw [gD',gD',look t (NW hx)]
  | _=>rfl
 have af:=d.well hk
 have au:tmF (fun i=>decide (i=k)||D i) 0 its tm0=u6 (tmF D 0 its tm0) it.o.dst it.v:=by
  apply List.ext_getElem?;intro t;rw [nN,qI]
  by_cases hd:it.o.dst=some t
  ·have e1:(tmF (fun i=>decide (i=k)||D i) 0 its tm0)[t]? =(tmF (fun i=>decide (i<k+1)) 0 its tm0)[t]? :=by
    refine oY its 0 tm0 tm0 rfl rfl ?_;intro i x hi hx;rw [Nat.zero_add]
    by_cases aa:i=k
    ·subst aa;simp
    ·have:=d.order hc hk hD hr hi aa (X0 hx hd);rw [this];have:decide (i=k)=false:=by simpa using aa
     rw [this,Bool.false_or];congr 1;apply propext;omega
   have e2:(tmF (fun i=>decide (i<k+1)) 0 its tm0)[t]? =if it.o.dst=some t/\t<tm0.length then some it.v else none:=by
    have bi: ∀(its:List (Item A)) (base k:Nat) (tm:List AVal),its[k]? =some it->(tmF (fun i=>decide (i<base+k+1)) base its tm)[t]? =if it.o.dst=some t/\t<tm.length then some it.v else none:=by
     intro its
     induction its with
     | nil=>intro base k tm h;simp at h
     | cons x its ih=>
       intro base k tm h;unfold tmF;rw [if_pos (by simp;omega)]
       cases k with
       | zero=>
         simp at h;subst h;rw [rX _ _ _ (by intro j hj;simp;omega),nN]
         by_cases ae:t<tm.length
         ·simp [hd,ae]
         ·simp [ae]
       | succ k=>
         simp at h;have:=ih (base+1) k (u6 tm x.o.dst x.v) h;rw [nO]at this;rw [<-this];congr 3;funext i;congr 1;apply propext;omega
    have:=bi its 0 k tm0 hk;rw [Nat.zero_add]at this;exact this
   rw [e1,e2]
   by_cases ae:t<tm0.length
   ·simp [hd,ae]
   ·rw [if_neg (by simp [ae]),if_neg (by simp [ae]),List.getElem?_eq_none (by rw [qI];omega)]
  ·rw [if_neg (by simp [hd])]
   refine oY its 0 tm0 tm0 rfl rfl ?_;intro i x hi hx;rw [Nat.zero_add]
   by_cases aa:i=k
   ·subst aa;rw [hk]at hi;cases hi;exact(hd hx).elim
   ·simp [aa]
 have ah: ∀l,it.puts l=true-> ∀i x,its[i]? =some x->i≠k->x.puts l=true->D i=true->i<k/\l∈it.foot:=by
  intro l hl i x hi aa hx am
  have ag: ∀(it:Item A),jF it=true-> ∀l,it.upd.any (fun x=>x.1 == l)=true->l∈it.foot/\l<it.n:=by
   intro it hw l hl;obtain⟨u,hu,he⟩:=List.any_eq_true.1 hl;have:=List.all_eq_true.1 hw u hu;simp only [Bool.and_eq_true,dT']at this;have e:u.1=l:=by simpa using he
   rw [e]at this;exact⟨by simpa using this.1,this.2⟩
  simp only [Item.puts,Bool.or_eq_true,Bool.and_eq_true,dT']at hl hx;have b2:it.puts l=true:=by simp only [Item.puts,Bool.or_eq_true,Bool.and_eq_true,dT'];exact hl
  have b3:x.puts l=true:=by simp only [Item.puts,Bool.or_eq_true,Bool.and_eq_true,dT'];exact hx
  have ao:fD ops x it=false->i<k:=by
   intro h;have:=d.order hc hk hD hr hi aa h;rw [am]at this
   simpa using this.symm
  rcases hl with hl | hl
  ·obtain⟨f1,f2⟩:=ag it af l hl;exact⟨ao (vC b3 f1),f1⟩
  ·rcases hx with hx | hx
   ·obtain⟨f1,f2⟩:=ag x (d.well hi) l hx;have ae:=ao (by rw [pZ];exact vC b2 f1)
    have:=d.trace.news i k x it hi hk ae;omega
   ·rcases Nat.lt_or_gt_of_ne aa with ae | bf
    ·have:=d.trace.news i k x it hi hk ae;omega
    ·have:=d.trace.news k i it x hk hi bf;omega
 have bb:hF (fun i=>decide (i=k)||D i) 0 its (toF h0)=it.putF (hF D 0 its (toF h0)):=by
  funext l;cases hp:it.puts l with
  | false=>
    rw [k9 it _ l hp];refine nV its 0 _ _ rfl ?_;intro i x hi hx;rw [Nat.zero_add]
    by_cases aa:i=k
    ·subst aa;rw [hk]at hi;cases hi;rw [hp]at hx;cases hx
    ·simp [aa]
  | true=>
    have bi: ∀(js:List (Item A)) (base k:Nat) (D':Nat->Bool) (h g:aY A),js[k]? =some it->D' (base+k)=true->(∀i x,js[i]? =some x->x.puts l=true->D' (base+i)=true->i<=k)->hF D' base js h l=it.putF g l:=by
     intro js
     induction js with
     | nil=>intro base k D' h g hj;simp at hj
     | cons x js ih=>
       intro base k D' h g hj bh bp;unfold hF;cases k with
       | zero=>
         simp at hj;subst hj;rw [Nat.add_zero]at bh;rw [if_pos bh]
         have e1:hF D' (base+1) js (x.putF h) l=hF (fun _=>false) (base+1) js (x.putF h) l:=by
          refine nV js (base+1) _ _ rfl ?_;intro i y hi hy;cases e:D' (base+1+i)with
          | false=>rfl
          | true=>
            have:=bp (i+1) y (by simpa using hi) hy (by rw [show base+(i+1)=base+1+i from by omega];exact e)
            omega
         rw [e1,rD _ _ _ (fun _ _=>rfl)];exact sW x h g l (.inl hp)
       | succ k=>
         simp at hj;refine ih (base+1) k D' _ g hj (by rw [show base+1+k=base+(k+1)from by omega];exact bh) ?_
         intro i y hi hy he;have:=bp (i+1) y (by simpa using hi) hy (by rw [show base+(i+1)=base+1+i from by omega];exact he)
         omega
    refine bi its 0 k _ _ _ hk (by simp) ?_
    intro i x hi hx he;rw [Nat.zero_add]at he
    by_cases aa:i=k
    ·omega
    ·simp only [aa,decide_false,Bool.false_or]at he;have:=(ah l hp i x hi aa hx he).1;omega
 have bq:ops[k]? =some it.o:=by rw [<-Array.getElem?_toList];exact hko
 unfold wpOp;rw [bq];simp only;rcases av.2 with⟨bk,⟨r,b1,b0,bz,bl,az⟩,ax⟩ | ⟨bk,hv,bx,b4,j,want,dd,ax,ar,ai⟩
 ·
  have hw:Region.wanted it.o (yielded ops a.tmps)=true:=by
   cases a6:it.o.guard with
   | none=>simp [Region.wanted,a6]
   | some g=>
     obtain⟨j,want⟩:=g;obtain⟨dd,ar,hv⟩:=ax j want a6;rw [<-look dd (tL a6 ar)]at hv;obtain⟨y,hy,ry⟩:=aH.get ap dd _ hv;rw [Array.getElem?_toList]at hy;have bc:y=.bool want:=ry;subst bc;simp [Region.wanted,a6,j9 ar hy]
  rw [if_pos hw];left;obtain⟨cc,bs,bg⟩:=a7.split (fun l=>it.foot.contains l)
  have bd:(fun l=>if it.foot.contains l then hF D 0 its (toF h0) l else none)=toF (hres it.foot 0 ad):=by
   funext l;show _=aK (hres it.foot 0 ad) l;rw [rE,Nat.zero_add]
   by_cases hl:it.foot.contains l=true
   ·rw [if_pos hl,if_pos hl];exact seen l (by simpa using hl)
   ·rw [if_neg hl,if_neg hl]
  rw [bd]at bs;have al:(hres it.foot 0 ad).length =it.n:=by rw [tP,av.1]
  have b6:jP V (hres it.foot 0 ad).length r.new.length:=by
   intro l h1 h2;rw [al]at h1 h2;cases e:V l with
   | none=>rfl
   | some x=>
     rcases ay l (by rw [e];simp)with h | ⟨i,y,hi,am,h3,h4⟩
     ·have:it.n=ad.length:=av.1;exact(h (hV0 l (by omega))).elim
     ·by_cases aa:i=k
      ·subst aa;rw [hD]at am;cases am
      ·rw [az]at h2;rcases Nat.lt_or_gt_of_ne aa with ae | bf
       ·have:=d.trace.news i k y it hi hk ae;omega
       ·have:=d.trace.news k i it y hk hi bf;omega
  have bm:dop E (dM (tmF D 0 its tm0)) it.o.op (hres it.foot 0 ad)=some r:=by rw [LN _ _ bj];exact b1
  refine LO bm b0 bs b6 ap ?_;intro v' V' w' k1 k2 k3 k4 k5;refine hK _ _ ⟨V',Val.le_trans ba k2,?_,?_,?_,hg.trans k5,by rw [iE];exact bu⟩
  ·intro l hl
   by_cases bv:V l=none
   ·have:=k3 l bv hl;rw [al,az]at this;exact .inr ⟨k,it,hk,by simp,this.1,this.2⟩
   ·rcases ay l bv with h | ⟨i,y,hi,am,h3,h4⟩
    ·exact .inl h
    ·exact .inr ⟨i,y,hi,by simp [am],h3,h4⟩
  ·rw [au];exact l8 (aH.mono k2 _ _ ap) (by rw [<-bz];exact k1)
  ·have hz: ∀l,it.foot.contains l=false->hF D 0 its (toF h0) l≠none->toF (r.apply (hres it.foot 0 ad)) l=none:=by
    intro l hl bn;have ac:l∉it.foot:=by simpa using hl
    have aq:r.apply (hres it.foot 0 ad)=it.applyH (hres it.foot 0 ad):=by unfold ORes.apply Item.applyH;rw [bl,az]
    rw [aq,nM al.symm af];cases hp:it.puts l with
    | false=>
      rw [k9 it _ l hp];show aK (hres it.foot 0 ad) l=none;rw [rE,Nat.zero_add,if_neg (by simpa using hl)]
    | true=>
      exfalso
      have a8:hF D 0 its (toF h0) l=hF (fun _=>false) 0 its (toF h0) l:=by
       refine nV its 0 _ _ rfl ?_;intro i x hi hx;rw [Nat.zero_add]
       by_cases aa:i=k
       ·subst aa;exact hD
       ·cases e:D i with
        | false=>rfl
        | true=>exact(ac (ah l hp i x hi aa hx e).2).elim
      rw [rD _ _ _ (fun _ _=>rfl)]at a8;rw [a8]at bn
      have b9:l<h0.length:=by
       cases Nat.lt_or_ge l h0.length with
       | inl h=>exact h
       | inr h=>exact(bn (cC h)).elim
      have b8:it.n=ad.length:=av.1;simp only [Item.puts,Bool.or_eq_true,Bool.and_eq_true,dT']at hp;rcases hp with hp | hp
      ·obtain⟨u,hu,he⟩:=List.any_eq_true.1 hp;have:=List.all_eq_true.1 af u hu;simp only [Bool.and_eq_true,dT']at this;have e:u.1=l:=by simpa using he
       rw [e]at this;exact ac (by simpa using this.1)
      ·omega
   have bt:=bg V' _ w' k2 k4 hz;rw [bb]
   have b7:(fun l=>if it.foot.contains l=false/\hF D 0 its (toF h0) l≠none then hF D 0 its (toF h0) l else toF (r.apply (hres it.foot 0 ad)) l)=it.putF (hF D 0 its (toF h0)):=by
    funext l;have aq:r.apply (hres it.foot 0 ad)=it.applyH (hres it.foot 0 ad):=by unfold ORes.apply Item.applyH;rw [bl,az]
    by_cases aj:it.foot.contains l=false/\hF D 0 its (toF h0) l≠none
    ·rw [if_pos aj];cases hp:it.puts l with
     | false=>rw [k9 it _ l hp]
     | true=>
       exfalso;have:=hz l aj.1 aj.2;rw [aq,nM al.symm af]at this;simp only [Item.puts,Bool.or_eq_true,Bool.and_eq_true,dT']at hp;have ac:l∉it.foot:=by simpa using aj.1
       rcases hp with hp | hp
       ·obtain⟨u,hu,he⟩:=List.any_eq_true.1 hp;have:=List.all_eq_true.1 af u hu;simp only [Bool.and_eq_true,dT']at this;have e:u.1=l:=by simpa using he
        rw [e]at this;exact ac (by simpa using this.1)
       ·unfold Item.putF at this;rw [if_pos hp,gE' (by omega)]at this
        cases this
    ·rw [if_neg aj,aq,nM al.symm af];refine sW it _ _ l ?_;cases hp:it.puts l with
     | true=>exact .inl rfl
     | false=>
       right;show aK (hres it.foot 0 ad) l=_;rw [rE,Nat.zero_add]
       by_cases hl:it.foot.contains l=true
       ·rw [if_pos hl];exact(seen l (by simpa using hl)).symm
       ·rw [if_neg hl];have b5:it.foot.contains l=false:=by simpa using hl
        cases e:hF D 0 its (toF h0) l with
        | none=>rfl
        | some x=>exact(aj ⟨b5,by rw [e];simp⟩).elim
   rw [<-b7];exact bt
 ·
  have hw:Region.wanted it.o (yielded ops a.tmps)=false:=by
   have bo:=look dd (tL ax ar);rcases ai with ai | ai
   ·rw [<-bo]at ai;obtain⟨y,hy,ry⟩:=aH.get ap dd _ ai;rw [Array.getElem?_toList]at hy;have bc:y=.bool (!want):=ry;subst bc;have:Region.wanted it.o (yielded ops a.tmps)=((!want) == want):=by simp [Region.wanted,ax,j9 ar hy]
    rw [this];cases want<;>rfl
   ·have ak:iJ ((tmF D 0 its tm0).getD dd (.raw undef))=true:=by
     rw [gD',bo,<-gD'];exact ai
    have bw:yielded ops a.tmps j=none:=by
     refine l5 ar ?_;cases e:a.tmps[dd]? with
     | none=>exact .inl rfl
     | some x=>
       right
       have ae:dd<(tmF D 0 its tm0).length :=by
        have h1:=aH.length ap;rw [Array.length_toList]at h1;cases Nat.lt_or_ge dd a.tmps.size with
        | inl g=>exact Nat.lt_of_lt_of_eq g h1
        | inr g=>rw [Array.getElem?_eq_none g]at e;cases e
       obtain⟨y,hy,ry⟩:=aH.get ap dd _ (gE' ae);rw [Array.getElem?_toList,e]at hy;cases hy;have e2:(tmF D 0 its tm0).getD dd (.raw undef)=(tmF D 0 its tm0)[dd]:=by rw [gD',gE' ae];rfl
       rw [e2]at ak;unfold iJ at ak;split at ak
       ·rename_i vs e3;rw [e3]at ry;have:x=.tuple vs:=ry;exact⟨vs,by rw [this]⟩
       ·cases ak
    simp [Region.wanted,ax,bw]
  rw [if_neg (by rw [hw];simp)]
  refine hK _ _ ⟨V,ba,?_,?_,?_,hg,by rw [iE];exact bu⟩
  ·intro l hl;rcases ay l hl with h | ⟨i,y,hi,am,h3,h4⟩
   ·exact .inl h
   ·exact .inr ⟨i,y,hi,by simp [am],h3,h4⟩
  ·rw [au,hv];exact l8 ap rfl
  ·rw [bb]
   have:it.putF (hF D 0 its (toF h0))=hF D 0 its (toF h0):=by
    funext l;refine k9 it _ l ?_;simp [Item.puts,bx,b4]
   rw [this];exact a7
theorem yC{p q:Nat->Bool}(h: ∀i,q i=true->p i=true): ∀l:List Nat,(l.filter q).length <=(l.filter p).length
 | []=>Nat.le_refl _
 | x::l=>by
   have ih:=yC h l;rw [List.filter_cons,List.filter_cons];cases hq:q x with
   | true=>rw [h x hq];simp only [if_true,List.length_cons];omega
   | false=>
     cases hp:p x with
     | true=>simp only [Bool.false_eq_true,if_false,if_true,List.length_cons];omega
     | false=>simpa using ih
theorem yD{p q:Nat->Bool}(h: ∀i,q i=true->p i=true){k:Nat}(hp:p k=true)(hq:q k=false): ∀l:List Nat,k∈l->(l.filter q).length <(l.filter p).length
 | [],hk=>by cases hk
 | x::l,hk=>by
   have le:=yC h l;rw [List.filter_cons,List.filter_cons]
   by_cases hx:x=k
   ·subst hx;rw [hp,hq];simp only [Bool.false_eq_true,if_false,if_true,List.length_cons];omega
   ·have hm:k∈l:=by
     rcases List.mem_cons.1 hk with h | h
     ·exact(hx h.symm).elim
     ·exact h
    have ih:=yD h hp hq l hm;cases g:q x with
    | true=>rw [h x g];simp only [if_true,List.length_cons];omega
    | false=>
      cases aa:p x with
      | true=>simp only [Bool.false_eq_true,if_false,if_true,List.length_cons];omega
      | false=>simpa using ih
theorem iN.any{ds:List Deferred}(d:iN E ops tm0 h0 its tmN hN){V0:Val}(hV0:bO V0 h0.length){hR:PHeap}{w0:World}{Q:Exit->Act->World->Prop}(hle:its.length<=ops.size)
 (tot: ∀k,its.length<=k->k<ops.size-> ∀i,i<k->((masks [] ops.toList).getD k 0).testBit i=true)
 (hQ: ∀(fuel:Nat) (listed:Array Bool) (a:Act) (w:World),listed.size=ops.size->(∀i,listed.getD i false=decide (i<its.length))->ops.size<=fuel+its.length->xS E ds tm0 h0 its V0 hR w0 (fun i=>decide (i<its.length)) a w->wpAny P .any ops Q fuel listed a w):
 ∀(fuel:Nat) (listed:Array Bool) (a:Act) (w:World),listed.size=ops.size->
  ((List.range its.length).filter (fun i=>!listed.getD i false)).length +(ops.size - its.length)<=fuel->mK ops.toList (fun i=>listed.getD i false)->(∀i,its.length<=i->listed.getD i false=false)->xS E ds tm0 h0 its V0 hR w0 (fun i=>listed.getD i false) a w->wpAny P .any ops Q fuel listed a w:=by
 have aj: ∀(fuel:Nat) (listed:Array Bool) (a:Act) (w:World),listed.size=ops.size->(∀i,i<its.length->listed.getD i false=true)->ops.size<=fuel+its.length->(∀i,its.length<=i->listed.getD i false=false)->xS E ds tm0 h0 its V0 hR w0 (fun i=>listed.getD i false) a w->wpAny P .any ops Q fuel listed a w:=by
  intro fuel listed a w aa ad ax ae hs
  have ai: ∀i,listed.getD i false=decide (i<its.length):=by
   intro i;cases Nat.lt_or_ge i its.length with
   | inl g=>rw [ad i g];simp [g]
   | inr g=>rw [ae i g];simp;omega
  refine hQ fuel listed a w aa ai ax ?_;have:(fun i=>listed.getD i false)=fun i=>decide (i<its.length):=funext ai;rw [this]at hs;exact hs
 intro fuel
 induction fuel with
 | zero=>
   intro listed a w aa hf hc ae hs;refine aj 0 listed a w aa ?_ (by omega) ae hs
   intro i hi;cases e:listed.getD i false with
   | true=>rfl
   | false=>
     have:i∈(List.range its.length).filter (fun i=>!listed.getD i false):=by
      rw [List.mem_filter];exact⟨by simpa using hi,by rw [e];rfl⟩
     have hp:=List.length_pos_of_mem this;omega
 | succ fuel ih=>
   intro listed a w aa hf hc ae hs
   by_cases ad: ∀i,i<its.length->listed.getD i false=true
   ·refine aj (fuel+1) listed a w aa ad ?_ ae hs;omega
   have ⟨i0,a7,am⟩: ∃i0,i0<its.length/\listed.getD i0 false=false:=by
    refine Classical.byContradiction fun av=>ad fun i hi=>?_;cases e:listed.getD i false with
    | true=>rfl
    | false=>exact(av ⟨i,hi,e⟩).elim
   refine⟨fun au=>?_,?_⟩
   ·exfalso
    have ao: ∀i,i<ops.size->listed.getD i false=true:=by
     intro i
     induction i using Nat.strongRecOn with
     | _ i ih2=>
       intro hi;cases e:listed.getD i false with
       | true=>rfl
       | false=>
         exfalso
         have ah:i∈Region.ready .any ops listed:=by
          unfold Region.ready;rw [List.mem_filter];refine⟨by simpa using hi,?_⟩
          have e1:listed.getD i true=false:=by
           rw [Array.getD_eq_getD_getElem?]at e⊢;rw [Array.getElem?_eq_getElem (by omega)]at e⊢
           exact e
          rw [e1,Array.getElem?_eq_getElem hi];simp only [Bool.not_false,Option.map_some,Option.getD_some,Bool.true_and];rw [Array.all_eq_true_iff_forall_mem];intro x hx;have ay:=d.edges;have h1:=ay i ops[i] (by rw [Array.getElem?_toList,Array.getElem?_eq_getElem hi])
          unfold lI at h1;rw [List.all_eq_true]at h1;have h2:=h1 x (by simpa using hx)
          simp only [Bool.or_eq_true,Bool.not_eq_true']at h2⊢;rcases h2 with h2 | h2
          ·exact .inl h2
          ·have az:x.on<i:=Nat.le_of_ble_eq_true h2;exact .inr (ih2 x.on az (by omega))
         rw [au]at ah;cases ah
    rw [ao i0 (by omega)]at am;cases am
   intro k hk;unfold Region.ready at hk;rw [List.mem_filter]at hk;obtain⟨h1,h2⟩:=hk;have ag:k<ops.size:=by simpa using h1
   simp only [Bool.and_eq_true,Bool.not_eq_true']at h2
   have aq:listed.getD k false=false:=by
    have:=h2.1;rw [Array.getD_eq_getD_getElem?]at this⊢;rw [Array.getElem?_eq_getElem (by omega)]at this⊢
    exact this
   have ak:ops.toList[k]? =some ops[k]:=by rw [Array.getElem?_toList,Array.getElem?_eq_getElem ag]
   have hr: ∀e∈ops[k].after.toList,Region.binds .any e=true->listed.getD e.on false=true:=by
    intro e he hb;have h3:=h2.2;rw [Array.getElem?_eq_getElem ag]at h3;simp only [Option.map_some,Option.getD_some]at h3;rw [Array.all_eq_true_iff_forall_mem]at h3;have:=h3 e (by simpa using he)
    simpa [hb]using this
   have ap:k<its.length:=by
    cases Nat.lt_or_ge k its.length with
    | inl g=>exact g
    | inr g=>
      exfalso;rcases qE hc ak hr (tot k g ag i0 (by omega))with e | e
      ·omega
      ·rw [am]at e;cases e
   have ac: ∀i,(listed.setIfInBounds k true).getD i false=(decide (i=k)||listed.getD i false):=by
    intro i;rw [Array.getD_eq_getD_getElem?,Array.getD_eq_getD_getElem?,Array.getElem?_setIfInBounds]
    by_cases al:k=i
    ·subst al;simp [aa,ag]
    ·simp [al,Ne.symm al]
   have af:(fun i=>(listed.setIfInBounds k true).getD i false)=(fun i=>decide (i=k)||listed.getD i false):=funext ac
   refine d.step hV0 hc ak ap aq hr hs ?_;intro a' w' ar;refine ih _ a' w' (by simp [aa]) ?_ ?_ ?_ (by rw [af];exact ar)
   ·have a6:((List.range its.length).filter (fun i=> !(listed.setIfInBounds k true).getD i false)).length <((List.range its.length).filter (fun i=>!listed.getD i false)).length :=by
     refine yD ?_ (k:=k) ?_ ?_ _ (by simpa using ap)
     ·intro i hi;rw [ac i]at hi;cases e:listed.getD i false with
      | false=>rfl
      | true=>rw [e]at hi;simp at hi
     ·simp only [aq];rfl
     ·simp only [ac k];simp
    omega
   ·rw [af];intro j o hj hD e he hb;simp only [Bool.or_eq_true,dT']at hD⊢;right;rcases hD with rfl | hD
    ·rw [ak]at hj;cases hj;exact hr e he hb
    ·exact hc j o hj hD e he hb
   ·intro i hi;rw [ac i,ae i hi];have:i≠k:=by omega
    simp [this]
theorem BT{Q:Exit->Act->World->Prop}{j0:Nat}(hed:mQ ops.toList)(tot: ∀k,j0<=k->k<ops.size-> ∀i,i<k->((masks [] ops.toList).getD k 0).testBit i=true):
 ∀(rest:List Oper) (k fuel:Nat) (listed:Array Bool) (a:Act) (w:World),ops.toList.drop k=rest->j0<=k->listed.size=ops.size->(∀i,listed.getD i false=decide (i<k))->rest.length<=fuel->wpList P ops Q rest a w->wpAny P .any ops Q fuel listed a w:=by
 intro rest
 induction rest with
 | nil=>
   intro k fuel listed a w ac au ae hl ag hw
   have hk:ops.size<=k:=by
    have:=congrArg List.length ac;simp at this;omega
   have aj:Region.ready .any ops listed=[]:=by
    rw [List.eq_nil_iff_forall_not_mem];intro i hi;unfold Region.ready at hi;rw [List.mem_filter]at hi;obtain⟨h1,h2⟩:=hi;have aa:i<ops.size:=by simpa using h1
    simp only [Bool.and_eq_true,Bool.not_eq_true']at h2;have:=h2.1;have h3:=hl i;rw [Array.getD_eq_getD_getElem?]at this h3;rw [Array.getElem?_eq_getElem (by omega)]at this h3
    simp only [Option.getD_some]at this h3;rw [this]at h3;simp at h3;omega
   have ah:Q .normal a w:=hw;cases fuel with
   | zero=>exact⟨aj,ah⟩
   | succ fuel=>exact⟨fun _=>ah,fun i hi=>by rw [aj]at hi;cases hi⟩
 | cons o rest ih=>
   intro k fuel listed a w ac au ae hl ag hw;cases fuel with
   | zero=>simp at ag
   | succ fuel=>
   have hk:k<ops.size:=by
    have:=congrArg List.length ac;simp at this;omega
   have af:ops.toList[k]? =some o:=by
    have:=congrArg (fun l=>l[0]?) ac;simp only [List.getElem?_drop,Nat.add_zero,List.getElem?_cons_zero]at this;exact this
   have al:ops.toList.drop (k+1)=rest:=by
    have:=congrArg (List.drop 1) ac;rw [List.drop_drop]at this
    simpa using this
   have ay:mK ops.toList (fun i=>listed.getD i false):=by
    intro j o' hj hD e he hb;simp only [hl,dT']at hD⊢;have h1:=hed j o' hj;unfold lI at h1;rw [List.all_eq_true]at h1;have h2:=h1 e he;rw [hb]at h2;have ao:e.on<j:=by simpa using h2
    omega
   refine⟨fun aq=>?_,?_⟩
   ·exfalso
    have ad:k∈Region.ready .any ops listed:=by
     unfold Region.ready;rw [List.mem_filter];refine⟨by simpa using hk,?_⟩
     have e1:listed.getD k true=false:=by
      have h3:=hl k;rw [Array.getD_eq_getD_getElem?]at h3⊢;rw [Array.getElem?_eq_getElem (by omega)]at h3⊢
      simp only [Option.getD_some]at h3⊢;rw [h3];simp
     rw [<-Array.getElem?_toList,af,e1];simp only [Bool.not_false,Option.map_some,Option.getD_some,Bool.true_and];rw [Array.all_eq_true_iff_forall_mem];intro x hx;have h1:=hed k o af;unfold lI at h1;rw [List.all_eq_true]at h1;have h2:=h1 x (by simpa using hx)
     simp only [Bool.or_eq_true,Bool.not_eq_true']at h2⊢;rcases h2 with h2 | h2
     ·exact .inl h2
     ·have ao:x.on<k:=Nat.le_of_ble_eq_true h2;right;rw [hl];simpa using ao
    rw [aq]at ad;cases ad
   intro i hi;unfold Region.ready at hi;rw [List.mem_filter]at hi;obtain⟨h1,h2⟩:=hi;have aa:i<ops.size:=by simpa using h1
   simp only [Bool.and_eq_true,Bool.not_eq_true']at h2
   have am:listed.getD i false=false:=by
    have:=h2.1;rw [Array.getD_eq_getD_getElem?]at this⊢;rw [Array.getElem?_eq_getElem (by omega)]at this⊢
    exact this
   have az:k<=i:=by
    rw [hl]at am;simpa using am
   have av:ops.toList[i]? =some ops[i]:=by rw [Array.getElem?_toList,Array.getElem?_eq_getElem aa]
   have hr: ∀e∈ops[i].after.toList,Region.binds .any e=true->listed.getD e.on false=true:=by
    intro e he hb;have h3:=h2.2;rw [Array.getElem?_eq_getElem aa]at h3;simp only [Option.map_some,Option.getD_some]at h3;rw [Array.all_eq_true_iff_forall_mem]at h3;have:=h3 e (by simpa using he)
    simpa [hb]using this
   have ax:i=k:=by
    cases Nat.lt_or_ge k i with
    | inr g=>omega
    | inl g=>
      rcases qE ay av hr (tot i (by omega) aa k g)with e | e
      ·omega
      ·simp only [hl]at e;simp at e
   subst ax
   have ai: ∀j,(listed.setIfInBounds i true).getD j false=decide (j<i+1):=by
    intro j;rw [Array.getD_eq_getD_getElem?,Array.getElem?_setIfInBounds]
    by_cases ak:i=j
    ·subst ak;simp [ae,aa]
    ·have:=hl j;rw [Array.getD_eq_getD_getElem?]at this;rw [if_neg ak,this];congr 1;apply propext;omega
   have ar:ops[i]? =some o:=by rw [<-Array.getElem?_toList];exact af
   have ap:wpOp P ops Q i (wpList P ops Q rest) a w:=by
    unfold wpOp;rw [ar];exact hw
   exact wpOp_mono (fun a' w' h=>ih (i+1) fuel _ a' w' al (by omega) (by simp [ae]) ai (by simpa using ag) h) ap
end
end Go.Sh
namespace Go.Sh
open Go
variable [Con] {A:Type}
def lab(pl:List Nat)(n:Nat)(i:Nat):Nat:=match pl[i]? with
 | some l=>l
 | none=>n+i
theorem aAC{pl:List Nat}{n:Nat}(hnd:pl.Nodup)(hlt: ∀l∈pl,l<n): ∀i j,lab pl n i=lab pl n j->i=j:=by
 intro i j h;unfold lab at h;cases hi:pl[i]? with
 | some a=>
   rw [hi]at h;cases hj:pl[j]? with
   | some b=>
     rw [hj]at h;simp only at h;subst h
     have h1:i<pl.length:=by
      cases Nat.lt_or_ge i pl.length with
      | inl g=>exact g
      | inr g=>rw [List.getElem?_eq_none g]at hi;cases hi
     exact(List.getElem?_inj h1 hnd).1 (hi.trans hj.symm)
   | none=>
     rw [hj]at h;simp only at h;have:=hlt a (List.mem_of_getElem? hi);omega
 | none=>
   rw [hi]at h;cases hj:pl[j]? with
   | some b=>
     rw [hj]at h;simp only at h;have:=hlt b (List.mem_of_getElem? hj);omega
   | none=>
     rw [hj]at h;simp only at h;omega
structure uS (h':aB A) (pl:List Nat) (h'':aB A):Prop where
 nodup:pl.Nodup
 lt: ∀l∈pl,l<h'.length
 len:h''.length=pl.length
 ent: ∀(i l:Nat),pl[i]? =some l-> ∀e,aK h'' i=some e->aK h' l=some (e.ren (lab pl h'.length))
section
variable {P:Program} {I:Itp A}
theorem Inv.pick{V:Val}{h' h'':aB A}{pl:List Nat}(hp:uS h' pl h''){hR:PHeap}{w:World}(hi:Inv I V (toF h') hR w):Inv I (fun i=>V (lab pl h'.length i)) (toF h'') hR w:=by
 have aa: ∀(S:Nat->Bool),Inv I V (fun l=>if S l then toF h' l else none) hR w:=by
  intro S;obtain⟨hs,h1,h2,h3,h4,h5,h6⟩:=hi;refine⟨fun l=>if S l then hs l else .emp,?_,?_,?_,?_,?_,h6⟩
  ·intro l e he;cases hS:S l with
   | true=>simp [hS]at he⊢;exact h1 l e he
   | false=>simp [hS]at he
  ·intro l hl;cases hS:S l with
   | true=>simp [hS]at hl⊢;exact h2 l hl
   | false=>simp [hS]
  ·intro l m ae;show PHeap.disj (if S l then hs l else .emp) (if S m then hs m else .emp)
   split
   ·split
    ·exact h3 l m ae
    ·exact aLb _
   ·exact(aLb _).symm
  ·intro l;show PHeap.disj (if S l then hs l else .emp) hR
   split
   ·exact h4 l
   ·exact(aLb _).symm
  ·intro l;show(if S l then hs l else PHeap.emp).sub w
   split
   ·exact h5 l
   ·exact aLy _
 let n:=h'.length
 have ad:=aAC hp.nodup hp.lt
 classical
 have hS:=aa (fun l=>decide (∃i e,pl[i]? =some l/\aK h'' i=some e));refine(aLE (ι:=lab pl h'.length) ad ?_ ?_).1 hS
 ·intro i;cases hi:pl[i]? with
  | some l=>
    have e1:lab pl h'.length i=l:=by unfold lab;rw [hi]
    rw [e1];cases he:aK h'' i with
    | some e=>
      have:(∃i e,pl[i]? =some l/\aK h'' i=some e):=⟨i,e,hi,he⟩;rw [if_pos (by simpa using this)]
      show aK h' l=(aK h'' i).map _;rw [he,hp.ent i l hi e he];rfl
    | none=>
      have: ¬(∃j e,pl[j]? =some l/\aK h'' j=some e):=by
       rintro⟨j,e,hj,ac⟩
       have h1:i<pl.length:=by
        cases Nat.lt_or_ge i pl.length with
        | inl g=>exact g
        | inr g=>rw [List.getElem?_eq_none g]at hi;cases hi
       have:=(List.getElem?_inj h1 hp.nodup).1 (hi.trans hj.symm);subst this;rw [he]at ac;cases ac
      rw [if_neg (by simpa using this)]
      show none=(aK h'' i).map _;rw [he];rfl
  | none=>
    have e1:lab pl h'.length i=h'.length+i:=by unfold lab;rw [hi]
    rw [e1]
    have h2:aK h'' i=none:=by
     refine cC ?_;rw [hp.len];exact List.getElem?_eq_none_iff.1 hi
    show _=(aK h'' i).map _;rw [h2];have:toF h' (h'.length+i)=none:=cC (by omega)
    split
    ·exact this
    ·rfl
 ·intro m hm
  have: ¬(∃i e,pl[i]? =some m/\aK h'' i=some e):=by
   rintro⟨i,e,hi,_⟩;refine hm i ?_;unfold lab;rw [hi]
  rw [if_neg (by simpa using this)]
end
def inv(pl:List Nat)(l:Nat):Nat:=match pl with
 | []=>0
 | m::pl=>if m=l then 0 else inv pl l+1
mutual
def AVal.within(pl:List Nat):AVal->Bool
 | .ptr l _=>pl.elem l
 | .slice l _ _ _=>pl.elem l
 | .tslice l _ _ _=>pl.elem l
 | .tptr l _ _ _=>pl.elem l
 | .map l=>pl.elem l
 | .func _ f c=>aLe pl f&&aLe pl c
 | .iface _ a=>AVal.within pl a
 | .agg as=>aLe pl as
 | .tup as=>aLe pl as
 | _=>true
def aLe(pl:List Nat):List AVal->Bool
 | []=>true
 | a::as=>AVal.within pl a&&aLe pl as
end
def nC(pl:List Nat):List Nat->Bool
 | []=>true
 | l::ls=>pl.elem l&&nC pl ls
def aG.within(pl:List Nat):aG A->Bool
 | .cells vs=>aLe pl vs
 | .abs _ ps=>nC pl ps
 | .iter lm _ _ _ _ _=>pl.elem lm
 | _=>true
def fT(pl:List Nat)(h:aB A):aB A:=
 pl.map fun l=>match aK h l with
  | some e=>cond (e.within pl) (some (e.ren (inv pl))) none
  | none=>none
def lC(pl:List Nat)(v:AVal):AVal:=cond (v.within pl) (v.ren (inv pl)) .O
theorem lO{pl:List Nat}{n l:Nat}(h:pl.elem l=true):lab pl n (inv pl l)=l:=by
 have:pl[inv pl l]? =some l:=by
  have g:l∈pl:=List.elem_iff.1 h;clear h
  induction pl with
  | nil=>cases g
  | cons m pl ih=>
    unfold inv
    by_cases e:m=l
    ·rw [if_pos e];simp [e]
    ·rw [if_neg e,List.getElem?_cons_succ];refine ih ?_;rcases List.mem_cons.1 g with h | h
     ·exact(e h.symm).elim
     ·exact h
 unfold lab;rw [this]
mutual
theorem aLT{pl:List Nat}{n:Nat} : ∀(v:AVal),v.within pl=true->(v.ren (inv pl)).ren (lab pl n)=v
 | .bool _,_=>rfl
 | .int _ _,_=>rfl
 | .str _,_=>rfl
 | .ptr l off,h=>by simp only [AVal.ren];rw [lO h]
 | .slice l off len sz,h=>by simp only [AVal.ren];rw [lO h]
 | .map l,h=>by simp only [AVal.ren];rw [lO h]
 | .func fn f c,h=>by
   simp only [AVal.within,Bool.and_eq_true]at h;simp only [AVal.ren];rw [aLC f h.1,aLC c h.2]
 | .iface t a,h=>by simp only [AVal.ren];rw [aLT a h]
 | .agg as,h=>by simp only [AVal.ren];rw [aLC as h]
 | .tup as,h=>by simp only [AVal.ren];rw [aLC as h]
 | .raw _,_=>rfl
 | .any,_=>rfl
 | .O,_=>rfl
 | .iview _ _,_=>rfl
 | .view _ _ _,_=>rfl
 | .cptr _,_=>rfl
 | .tslice l r n w,h=>by simp only [AVal.ren];rw [lO h]
 | .tptr l r w j,h=>by simp only [AVal.ren];rw [lO h]
 | .empty,_=>rfl
theorem aLC{pl:List Nat}{n:Nat} : ∀(v:List AVal),aLe pl v=true->aLn (lab pl n) (aLn (inv pl) v)=v
 | [],_=>rfl
 | a::as,h=>by
   simp only [aLe,Bool.and_eq_true]at h;simp only [aLn];rw [aLT a h.1,aLC as h.2]
end
theorem xX{pl:List Nat}{n:Nat} : ∀(ps:List Nat),nC pl ps=true->(ps.map (inv pl)).map (lab pl n)=ps
 | [],_=>rfl
 | p::ps,h=>by
   simp only [nC,Bool.and_eq_true]at h;simp only [List.map_cons];rw [lO h.1,xX ps h.2]
theorem aG.ren_inv{pl:List Nat}{n:Nat}(e:aG A)(h:e.within pl=true):(e.ren (inv pl)).ren (lab pl n)=e:=by
 cases e with
 | cells vs=>simp only [aG.ren];rw [aLC vs h]
 | ints c xs=>rfl
 | abs t ps=>simp only [aG.ren];rw [xX ps h]
 | tab ks rows=>rfl
 | imap kk vc m=>rfl
 | iter lm kk vc m left cur=>simp only [aG.ren];rw [lO h]
def dU(pl:List Nat)(n:Nat):Bool:=match pl with
 | []=>true
 | l::pl=>!pl.elem l&&Nat.blt l n&&dU pl n
theorem f8: ∀ {pl:List Nat} {n:Nat},dU pl n=true->pl.Nodup/\ ∀l∈pl,l<n
 | [],n,_=>by simp
 | m::pl,n,h=>by
   have h':((!pl.elem m&&Nat.blt m n)&&dU pl n)=true:=h;rw [Bool.and_eq_true,Bool.and_eq_true]at h';have h1:=h'.1.1;have h2:m<n:=by have:=h'.1.2;rwa [Nat.blt_eq]at this
   have h3:=h'.2;obtain⟨g1,g2⟩:=f8 h3;refine⟨List.nodup_cons.2 ⟨by simpa using h1,g1⟩,?_⟩
   intro l hl;rcases List.mem_cons.1 hl with rfl | hl
   ·exact h2
   ·exact g2 l hl
theorem oJ{pl:List Nat}{h:aB A}(hg:dU pl h.length=true):uS h pl (fT pl h):=by
 obtain⟨g1,g2⟩:=f8 hg;refine⟨g1,g2,by simp [fT],?_⟩
 intro i l hi e he;have e1:aK (fT pl h) i=(match aK h l with
  | some e=>cond (e.within pl) (some (e.ren (inv pl))) none
  | none=>none):=by
  unfold fT;show(List.map _ pl).getD i none=_;rw [gD',List.getElem?_map,hi];rfl
 rw [e1]at he;cases hl:aK h l with
 | none=>rw [hl]at he;cases he
 | some e'=>
   rw [hl]at he;simp only at he;cases hw:e'.within pl with
   | false=>rw [hw]at he;cases he
   | true=>
     rw [hw]at he;simp only [cond_true,sI']at he;subst he;rw [aG.ren_inv e' hw]
theorem oZ{V:Val}{pl:List Nat}{n:Nat}{v:AVal}{x:Value}(h:Rep V v x):Rep (fun i=>V (lab pl n i)) (lC pl v) x:=by
 unfold lC;cases hw:v.within pl with
 | false=>exact trivial
 | true=>
   simp only [cond_true];refine(Rep.ren (ι:=lab pl n) _ _).1 ?_;rw [aLT v hw];exact h
def gZ:List Nat->Nat->Nat->Bool
 | _,_,0=>true
 | [],_,_+1=>false
 | l::pl,i,n+1=>Nat.beq l i&&gZ pl (i+1) n
theorem mU: ∀ {pl:List Nat} {j n:Nat},gZ pl j n=true->n<=pl.length/\ ∀i,i<n->pl[i]? =some (j+i)
 | pl,j,0,_=>⟨Nat.zero_le _,fun i hi=>by omega⟩
 | [],_,_+1,h=>by simp [gZ]at h
 | l::pl,j,n+1,h=>by
   simp only [gZ,Bool.and_eq_true]at h;obtain⟨h1,h2⟩:=h;have h1':l=j:=Nat.eq_of_beq_eq_true h1;obtain⟨g1,g2⟩:=mU h2;refine⟨by simp;omega,?_⟩
   intro i hi;cases i with
   | zero=>simp [h1']
   | succ i=>
     rw [List.getElem?_cons_succ,g2 i (by omega)]
     congr 1;omega
def aBb(pl keep:List Nat):Nat->List AVal->List AVal
 | _,[]=>[]
 | i,v::vs=>cond (keep.elem i) (lC pl v) .O ::aBb pl keep (i+1) vs
theorem rU{V:Val}{pl keep:List Nat}{n:Nat} : ∀(i:Nat) (vs:List AVal) (xs:List Value),aH V vs xs->aH (fun i=>V (lab pl n i)) (aBb pl keep i vs) xs
 | _,[],xs,h=>h
 | i,v::vs,_,⟨x,xs,e,r,s⟩=>by
   refine⟨x,xs,e,?_,rU (i+1) vs xs s⟩;cases keep.elem i with
   | true=>exact oZ r
   | false=>exact trivial
mutual
def AVal.labels:AVal->List Nat
 | .ptr l _=>[l]
 | .slice l _ _ _=>[l]
 | .tslice l _ _ _=>[l]
 | .tptr l _ _ _=>[l]
 | .map l=>[l]
 | .func _ f c=>aLB f++aLB c
 | .iface _ a=>AVal.labels a
 | .agg as=>aLB as
 | .tup as=>aLB as
 | _=>[]
def aLB:List AVal->List Nat
 | []=>[]
 | a::as=>AVal.labels a++aLB as
end
def aG.labels:aG A->List Nat
 | .cells vs=>aLB vs
 | .abs _ ps=>ps
 | .iter lm _ _ _ _ _=>[lm]
 | _=>[]
def KN(h:aB A):Nat->List Nat->List Nat->List Nat
 | 0,_,acc=>acc
 | _+1,[],acc=>acc
 | d+1,l::todo,acc=>cond (acc.elem l) (KN h d todo acc) (match aK h l with
   | some e=>KN h d (e.labels++todo) (acc++ [l])
   | none=>KN h d todo (acc++ [l]))
def dE(keep:List Nat):Nat->List AVal->List Nat
 | _,[]=>[]
 | i,v::vs=>cond (keep.elem i) (v.labels++dE keep (i+1) vs) (dE keep (i+1) vs)
def pX:List (Option (aG A))->List Nat
 | []=>[]
 | none::h=>pX h
 | some e::h=>e.labels++pX h
def upto:Nat->Nat->List Nat
 | _,0=>[]
 | i,n+1=>i::upto (i+1) n
def dN(n:Nat)(h:aB A)(more:List Nat):List Nat:=KN h 2000 (pX (h.take n)++more) (upto 0 n)
theorem uS.elim{n:Nat}{h:aB A}{pl:List Nat}(g1:dU pl h.length=true)(g2:gZ pl 0 n=true){I:Itp A}{V:Val}{hR:PHeap}{w:World}
 (hi:Inv I V (toF h) hR w) (hf:bO V h.length):
 (∀l,l<n->V (lab pl h.length l)=V l)/\bO (fun i=>V (lab pl h.length i)) (fT pl h).length /\n<=(fT pl h).length /\Inv I (fun i=>V (lab pl h.length i)) (toF (fT pl h)) hR w:=by
 obtain⟨k1,g⟩:=mU g2;have hp:=oJ (h:=h) g1;refine⟨?_,?_,by rw [hp.len];exact k1,hi.pick hp⟩
 ·intro l hl;have:lab pl h.length l=l:=by unfold lab;rw [g l hl];simp
  rw [this]
 ·intro l hl;rw [hp.len]at hl;show V (lab pl h.length l)=none;have:lab pl h.length l=h.length+l:=by unfold lab;rw [List.getElem?_eq_none hl]
  rw [this];exact hf _ (by omega)
end Go.Sh
namespace Go.Sh
open Go
variable [Con] {A:Type}
inductive gE where
 | ints (c:Code1)
 | tab (ks:List Code1)
inductive Place where
 | slot (i:Nat)
 | cell (l j:Nat)
def isNone:AVal->Bool
 | .raw (.slice none 0 0)=>true
 | .empty =>true
 | _=>false
def B2(K:gE)(v:AVal)(h:aB A):Option (AVal×aB A):=
 match K with
 | .ints c=>cond (isNone v) (some (.slice h.length 0 0 1,h++ [some (.ints c [])])) <|
   match v with
   | .slice l 0 n 1=>match aK h l with
     | some (.ints c' _)=>if c=c' then some (v,h)else none
     | some (.cells vs)=>match gU c vs with
       | some ns=>some (v,h.set l (some (.ints c ns)))
       | none=>none
     | _=>none
   | _=>none
 | .tab ks=>cond (isNone v) (some (.tslice h.length 0 0 ks.length,h++ [some (.tab ks [])])) <|
   match v with
   | .tslice l r n w=>some (v,h)
   | .slice l 0 n w=>if w=ks.length then match aK h l with
      | some (.cells vs)=>match mZ ks n vs with
        | some rs=>some (.tslice l 0 n w,h.set l (some (.tab ks rs)))
        | none=>none
      | _=>none
     else none
   | _=>none
def B1(pl:Place)(K:gE)(tm:List AVal)(h:aB A):Option (List AVal×aB A):=
 match pl with
 | .slot i=>match tm[i]? with
   | some v=>match B2 K v h with
     | some (v',h')=>some (tm.set i v',h')
     | none=>none
   | none=>none
 | .cell l j=>match aK h l with
   | some (.cells vs)=>match vs[j]? with
     | some v=>match B2 K v h with
       | some (v',h')=>match aK h' l with
         | some (.cells vs')=>some (tm,h'.set l (some (.cells (vs'.set j v'))))
         | _=>none
       | none=>none
     | none=>none
   | _=>none
def gH:List (Place×gE)->List AVal->aB A->Option (List AVal×aB A)
 | [],tm,h=>some (tm,h)
 | (pl,K)::cs,tm,h=>match B1 pl K tm h with
   | some (tm',h')=>gH cs tm' h'
   | none=>gH cs tm h
section
variable {P:Program} {I:Itp A}
theorem Inv.weaken{V:Val}{h:aY A}{hR:PHeap}{w:World}(hi:Inv I V h hR w){l:Nat}{e e':aG A}(hl:h l=some e)(he: ∀g,e.interp I V l g->g.sub w->e'.interp I V l g):Inv I V (h.put l (some e')) hR w:=by
 obtain⟨hs,h1,h2,h3,h4,h5,h6⟩:=hi;refine⟨hs,?_,?_,h3,h4,h5,h6⟩
 ·intro m x hm
  by_cases aa:m=l
  ·subst aa;simp [aY.put]at hm;subst hm;exact he _ (h1 m e hl) (h5 m)
  ·simp [aY.put,aa]at hm;exact h1 m x hm
 ·intro m hm
  by_cases aa:m=l
  ·subst aa;simp [aY.put]at hm
  ·simp [aY.put,aa]at hm;exact h2 m hm
def sA(I:Itp A)(V:Val)(h h':aB A)(hR:PHeap)(w:World)(V':Val):Prop:=
 V.le V'/\bO V' h'.length/\h.length<=h'.length/\Inv I V' (toF h') hR w
theorem EV{V:Val}{v:AVal}{x:Value}(h:isNone v=true)(hx:Rep V v x): ∃base,x=.slice base 0 0:=by
 unfold isNone at h;split at h
 ·exact⟨none,hx⟩
 ·exact hx
 ·cases h
theorem bO.add{V:Val}{n:Nat}(hf:bO V n)(x:Nat×Nat):bO (V.add n x) (n+1):=by
 intro l hl;rw [aLH _ _ (by omega)]
 exact hf l (by omega)
theorem vA{K:gE}{v v':AVal}{h h':aB A}{V:Val}{hR:PHeap}{w:World}{x:Value}(hc:B2 K v h=some (v',h'))(hi:Inv I V (toF h) hR w)(hf:bO V h.length)(hx:Rep V v x):
 ∃V',sA I V h h' hR w V'/\Rep V' v' x:=by
 have none: ∀(e:aG A),(∀V':Val,(∃b,V' h.length=some (b,0))->e.interp I V' h.length .emp)->sA I V h (h++ [some e]) hR w (V.add h.length (0,0)):=by
  intro e he;have hV:=hf h.length (Nat.le_refl _);refine⟨aLp hV,?_,by simp,?_⟩
  ·rw [List.length_append];exact hf.add _
  ·rw [fS];exact hi.emptyE hV (cC (Nat.le_refl _)) he
 have stay:sA I V h h hR w V:=⟨V.le_refl,hf,Nat.le_refl _,hi⟩
 have weak: ∀(l:Nat) (e e':aG A),aK h l=some e->(∀g,e.interp I V l g->e'.interp I V l g)->sA I V h (h.set l (some e')) hR w V:=by
  intro l e e' hl he;refine⟨V.le_refl,by rw [List.length_set];exact hf,by simp,?_⟩
  rw [fW _ (cD hl)];exact hi.weaken hl (fun g hg _=>he g hg)
 unfold B2 at hc;cases K with
 | ints c=>
   simp only at hc;cases hn:isNone v with
   | true=>
     rw [hn]at hc;simp only [cond_true,sI',pI']at hc;obtain⟨rfl,rfl⟩:=hc;obtain⟨base,rfl⟩:=EV hn hx;exact⟨_,none (.ints c []) (fun V' hb=>.inl ⟨rfl,rfl,hb⟩),base,0,rfl,Nat.le_refl _,.inr ⟨rfl,rfl⟩⟩
   | false=>
     rw [hn]at hc;simp only [cond_false]at hc;split at hc
     ·rename_i l n;split at hc
      ·split at hc
       ·simp only [sI',pI']at hc;obtain⟨rfl,rfl⟩:=hc;exact⟨V,stay,hx⟩
       ·cases hc
      ·rename_i vs hl;split at hc
       ·rename_i ns ac;simp only [sI',pI']at hc;obtain⟨rfl,rfl⟩:=hc;refine⟨V,weak l (.cells vs) (.ints c ns) hl ?_,hx⟩;rintro g ⟨b,k,e1,cs,T,e2,e3,rs,tail,e4,r⟩;exact .inr ⟨b,k,e1,cs,T,tail,e2,e3,by rw [e4,lS ac r]⟩
       ·cases hc
      ·cases hc
     ·cases hc
 | tab ks=>
   simp only at hc;cases hn:isNone v with
   | true=>
     rw [hn]at hc;simp only [cond_true,sI',pI']at hc;obtain⟨rfl,rfl⟩:=hc;obtain⟨base,rfl⟩:=EV hn hx;exact⟨_,none (.tab ks []) (fun V' hb=>.inl ⟨rfl,rfl,hb⟩),base,0,rfl,Nat.le_refl _,.inr ⟨rfl,rfl⟩⟩
   | false=>
     rw [hn]at hc;simp only [cond_false]at hc;split at hc
     ·simp only [sI',pI']at hc;obtain⟨rfl,rfl⟩:=hc;exact⟨V,stay,hx⟩
     ·rename_i l n w0;split at hc
      case isFalse=>cases hc
      rename_i hw;subst hw;split at hc
      ·rename_i vs hl;split at hc
       ·rename_i rs aa;simp only [sI',pI']at hc;obtain⟨rfl,rfl⟩:=hc;refine⟨V,weak l (.cells vs) (.tab ks rs) hl ?_,lR hx⟩;rintro g ⟨b,k,e1,cs,T,e2,e3,ad,tail,e4,r⟩;exact .inr ⟨b,k,e1,cs,T,tail,e2,e3,by rw [e4,oE aa r]⟩
       ·cases hc
      ·cases hc
     ·cases hc
theorem u9{pl:Place}{K:gE}{tm tm':List AVal}{h h':aB A}{V:Val}{hR:PHeap}{w:World}{xs:List Value}(hc:B1 pl K tm h=some (tm',h'))(hi:Inv I V (toF h) hR w)(hf:bO V h.length)(hx:aH V tm xs):
 ∃V',sA I V h h' hR w V'/\aH V' tm' xs:=by
 unfold B1 at hc;cases pl with
 | slot i=>
   simp only at hc;split at hc
   ·rename_i v hv;split at hc
    ·rename_i v' h2 ag;simp only [sI',pI']at hc;obtain⟨rfl,rfl⟩:=hc;obtain⟨y,hy,ry⟩:=aH.get hx i v hv;obtain⟨V',k1,k2⟩:=vA ag hi hf ry;refine⟨V',k1,?_⟩;have:=aH.set (aH.mono k1.1 _ _ hx) i v' y k2
     rwa [mF xs i y hy]at this
    ·cases hc
   ·cases hc
 | cell l j=>
   simp only at hc;split at hc
   ·rename_i vs hl;split at hc
    ·rename_i v hv;split at hc
     ·rename_i v' h2 ag;split at hc
      ·rename_i vs' af;simp only [sI',pI']at hc;obtain⟨rfl,rfl⟩:=hc;obtain⟨b,k,cs,T,rs,tail,e1,e2,e3,e4,e5⟩:=hi.cells (l:=l) hl;obtain⟨y,hy,ry⟩:=aH.get e5 j v hv;obtain⟨V',⟨k1,k2,k3,k4⟩,k5⟩:=vA ag hi hf ry;refine⟨V',⟨k1,by rw [List.length_set];exact k2,by rw [List.length_set];exact k3,?_⟩,aH.mono k1 _ _ hx⟩
       rw [fW _ (cD af)];obtain⟨b',kk,aq,T',ap,ak,q1,q2,q3,q4,q5⟩:=k4.cells (l:=l) af;have hb:=k1 l _ e1;rw [hb]at q1;cases q1;rw [e2]at q2;simp only [sI',Obj.cells.injEq]at q2;obtain⟨rfl,_⟩:=q2;refine k4.weaken af ?_;rintro g ⟨b1,ah,a1,ad,T1,a2,a3,ae,aa,a4,a5⟩ ai
       have ao:j<rs.length:=by
        cases Nat.lt_or_ge j rs.length with
        | inl g=>exact g
        | inr g=>rw [List.getElem?_eq_none g]at hy;cases hy
       by_cases am:j<vs'.length
       ·refine⟨b1,ah,a1,ad,T1,a2,a3,ae,aa,a4,?_⟩
        have aj:ad=cs:=by
         rw [hb]at a1;cases a1
         have ac:w.heap[b]? =some (.cells ad T1):=by
          rw [a2]at ai;exact PHeap.one_sub.1 ai
         rw [e2]at ac;simp only [sI',Obj.cells.injEq]at ac;exact ac.1.symm
        subst aj
        have al:ae[j]? =some y:=by
         have h1:ad.toList[j]? =some y:=by
          rw [e4,List.getElem?_append_left ao];exact hy
         rw [a4,List.getElem?_append_left (by rw [aH.length a5];exact am)]at h1
         exact h1
        have:=aH.set a5 j v' y k5
        rwa [mF ae j y al]at this
       ·have:vs'.set j v'=vs':=List.set_eq_of_length_le (by omega)
        rw [this];exact⟨b1,ah,a1,ad,T1,a2,a3,ae,aa,a4,a5⟩
      ·cases hc
     ·cases hc
    ·cases hc
   ·cases hc
theorem eX: ∀ {cs:List (Place×gE)} {tm tm':List AVal} {h h':aB A} {V:Val} {hR:PHeap} {w:World} {xs:List Value},gH cs tm h=some (tm',h')->Inv I V (toF h) hR w->bO V h.length->aH V tm xs->
 ∃V',sA I V h h' hR w V'/\aH V' tm' xs
 | [],tm,tm',h,h',V,hR,w,xs,hc,hi,hf,hx=>by
   simp only [gH,sI',pI']at hc;obtain⟨rfl,rfl⟩:=hc;exact⟨V,⟨V.le_refl,hf,Nat.le_refl _,hi⟩,hx⟩
 | (pl,K)::cs,tm,tm',h,h',V,hR,w,xs,hc,hi,hf,hx=>by
   simp only [gH]at hc;split at hc
   ·rename_i tm1 h1 h2;obtain⟨V1,⟨a1,a2,a3,a4⟩,b1⟩:=u9 h2 hi hf hx;obtain⟨V2,⟨c1,c2,c3,c4⟩,d1⟩:=eX hc a4 a2 b1;exact⟨V2,⟨Val.le_trans a1 c1,c2,Nat.le_trans a3 c3,c4⟩,d1⟩
   ·exact eX hc hi hf hx
end
end Go.Sh
namespace Go.Sh
open Go
variable [Con] {A:Type}
section
variable {P:Program} (E:Env A P)
abbrev FW(ro:Option Nat):Fence:= {Fence.wide with round:=ro}
def KU(Z:Operand->AVal)(c:Call):Option Nat:=
 match c.callee with
 | .value f=>match Z f with
   | .func (.yield l) [] []=>some l
   | _=>none
 | _=>none
def yA(inl:s9 A)(Z:Operand->AVal)(op:Op)(h:aB A)(K:AVal->aB A->Prop):Prop:=
 match op with
 | .call c=>match KU Z c with
   | some l=>E.yld l (c.args.toList.map Z) h K
   | none=>xI E inl Z (.call c) h K
 | .defer _=>False
 | op=>xI E inl Z op h K
def jI(inl:s9 A)(base:List AVal)(n:Nat):List Oper->List (Option Tmp)->Nat->List (Nat×AVal)->aB A->(List AVal->aB A->Prop)->Prop
 | [],_,_,U,h,K=>DC (qT U 0 base) fun tm=>K tm h
 | o::rest,seen,i,U,h,K=>
   cL (dok n o.dst) <|
   match o.guard with
   | none=>yA E inl (fY U base) o.op h fun v h'=>jI inl base n rest (o.dst::seen) (Nat.succ i) (jS U o.dst v) h' K
   | some (j,want)=>
     cL (Nat.blt j i) <|
     match rT seen i j with
     | none=>False
     | some d=>
       match GP U base d with
       | .bool b=>cL (Nat.blt d n) <|
         cond b
          (if want then yA E inl (fY ((d,.bool true)::U) base) o.op h fun v h'=>jI inl base n rest (o.dst::seen) (Nat.succ i) (jS ((d,.bool true)::U) o.dst v) h' K
            else jI inl base n rest (o.dst::seen) (Nat.succ i) (jS ((d,.bool true)::U) o.dst (.raw undef)) h K)
          (if want then jI inl base n rest (o.dst::seen) (Nat.succ i) (jS ((d,.bool false)::U) o.dst (.raw undef)) h K
            else yA E inl (fY ((d,.bool false)::U) base) o.op h fun v h'=>jI inl base n rest (o.dst::seen) (Nat.succ i) (jS ((d,.bool false)::U) o.dst v) h' K)
       | v=>if iJ v then jI inl base n rest (o.dst::seen) (Nat.succ i) (jS U o.dst (.raw undef)) h K else False
variable {E}
theorem w7{ro:Option Nat}{o:Oper}(hdf: ∀c,o.op≠ .defer c){a:Act}{w:World}{next:Act->World->Prop}{Q:Exit->Act->World->Prop}(h:o.wp P a w next Q):o.wpIn (FW ro) 0 P a w next Q:=by
 refine⟨fun _ _=>trivial,?_⟩;rw [Oper.semAt_eq _ _ _ hdf];unfold Oper.wp at h
 revert h
 generalize (execOp a.eval o).run P w=r;intro h;unfold Oper.upon at h;split at h
 ·exact h
 ·exact h
 ·exact h
 ·exact⟨fun e=>(by cases e),callsIn_wide.2 h⟩
 ·exact⟨fun e=>(by cases e),fun c cs _=>let ⟨v,g,r,s⟩:=h c cs;⟨v,g,r,stepsIn_wide.2 s⟩⟩
 ·exact h
 ·exact h.elim
theorem CO{ro:Option Nat}{inl:s9 A}(hinl:lE E inl){a:Act}{o:Oper}{tm:List AVal}{h:aB A}{K:AVal->aB A->Prop}(he:yA E inl (dM tm) o.op h K){V:Val}{hR:PHeap}{w:World}
 (hi:Inv E.I V (toF h) hR w) (hf:bO V h.length) (ht:aH V tm a.tmps.toList) {next:Act->World->Prop} {Q:Exit->Act->World->Prop}
 (hn: ∀v v' V' h' w',K v h'->Rep V' v v'->V.le V'->bO V' h'.length->h.length<=h'.length->Inv E.I V' (toF h') hR w'->bN w w'->next (a.put o.dst v') w'):
 o.wpIn (FW ro) 0 P a w next Q:=by
 unfold yA at he;split at he
 ·rename_i c g;split at he
  ·rename_i l hy;unfold KU at hy;split at hy
   ·rename_i f ad;split at hy
    ·rename_i l' ae;simp only [sI']at hy;subst hy;have rf:=fE ht f;rw [ae]at rf;obtain⟨fs,cs,e1,r1,r2⟩:=rf;have r1:fs.toList=[]:=r1;have r2:cs.toList=[]:=r2;have r1:fs= #[]:=by apply Array.ext';simpa using r1
     have r2:cs= #[]:=by apply Array.ext';simpa using r2
     subst r1;subst r2
     have aa:aH V (c.args.toList.map (dM tm)) (c.args.map a.eval).toList :=by
      rw [Array.toList_map];exact gO (fE ht) c.args.toList
     obtain⟨fn,tmps,assign,body,y1,y2⟩:=E.yldOk l' _ h K he V hR w _ hi hf aa;refine⟨fun _ _=>trivial,?_⟩;rw [Oper.semAt_eq _ _ _ (fun c' e=>by rw [g]at e;cases e)]
     have ac:(execOp a.eval o).run P w=.ok (.round l' fn tmps assign body) w:=by
      simp only [execOp,g,resolve,ad,e1,Deferred.ofValue,Sem.run_bind,Sem.run_pure,Result.andThen_ok,invoke]
      simpa using y1
     rw [ac];refine⟨fun e=>(by cases e),y2.mono ?_⟩
     rintro e w' ⟨v,v',V',h',h1,rfl,h3,h4,h5,h6,h7,h8⟩;exact hn v v' V' h' w' h1 h3 h4 h5 h6 h7 h8
    ·cases hy
   ·cases hy
  ·exact w7 (fun c' e=>by rw [g]at e;cases e) (pV hinl (by rw [g];exact he) hi hf ht hn)
 ·exact he.elim
 ·rename_i h1 h2;exact w7 h2 (pV hinl he hi hf ht hn)
theorem qW{ds:List Deferred}{ro:Option Nat}{inl:s9 A}(hinl:lE E inl){ops:Array Oper}{base:List AVal}{n:Nat}(hbn:base.length=n){Q:Exit->Act->World->Prop} : ∀(rest:List Oper) (seen:List (Option Tmp)) (i:Nat) (U:List (Nat×AVal)) (h:aB A) (K:List AVal->aB A->Prop) (a:Act) (w:World) (V:Val) (hR:PHeap),
 tX ops rest seen i->jI E inl base n rest seen i U h K->vD n U->Inv E.I V (toF h) hR w->bO V h.length->aH V (bT U base) a.tmps.toList->a.defers=ds->
 (∀a' w',uU E ds V h.length hR w K a' w'->Q .normal a' w')->wpListIn (FW ro) 0 P ops Q rest a w:=by
 intro rest
 induction rest with
 | nil=>
   intro seen i U h K a w V hR ah he ad hi hf ht hd hQ;unfold jI at he;rw [rB,vE (by rw [hbn];exact ad)]at he
   exact wpListIn_nil (hQ a w ⟨bT U base,V,h,he,ht,V.le_refl,hf,Nat.le_refl _,hi,aLu w,hd⟩)
 | cons o rest ih=>
   intro seen i U h K a w V hR ah he ad hi hf ht hd hQ;have he:=bK.1 he;obtain⟨al,he⟩:=he
   have run: ∀U':List (Nat×AVal),vD n U'->aH V (bT U' base) a.tmps.toList->(yA E inl (fY U' base) o.op h fun v h'=>jI E inl base n rest (o.dst::seen) (Nat.succ i) (jS U' o.dst v) h' K)->Region.wanted o (yielded ops a.tmps)=true->wpListIn (FW ro) 0 P ops Q (o::rest) a w:=by
    intro U' ac ag ai hw;refine wpListIn_step fun K' ak=>?_;rw [if_pos hw];rw [sC (by rw [hbn];exact ac)]at ai
    refine CO hinl ai hi hf ag ?_;intro v v' V' h' w' k1 k2 k3 k4 k5 k6 k7;refine ak _ _ (ih _ _ _ _ _ _ _ V' hR ah.next k1 (mP ac al) k6 k4 (by rw [<-mO (n:=n)];exact l8 (aH.mono k3 _ _ ag) k2) (by rw [iE];exact hd) ?_)
    intro a' ar hT;exact hQ a' ar (hT.chain k3 k5 k7)
   have skip: ∀U':List (Nat×AVal),vD n U'->aH V (bT U' base) a.tmps.toList->jI E inl base n rest (o.dst::seen) (Nat.succ i) (jS U' o.dst (.raw undef)) h K->Region.wanted o (yielded ops a.tmps)=false->wpListIn (FW ro) 0 P ops Q (o::rest) a w:=by
    intro U' ac ag ai hw;refine wpListIn_step fun K' ak=>?_;rw [if_neg (by rw [hw];simp)]
    exact⟨fun _ _=>trivial,ak _ _ (ih _ _ _ _ _ _ _ V hR ah.next ai (mP ac al) hi hf (by rw [<-mO (n:=n)];exact l8 ag rfl) (by rw [iE];exact hd) hQ)⟩
   cases hg:o.guard with
   | none=>
     rw [hg]at he;exact run U ad ht he (by simp [Region.wanted,hg])
   | some g=>
     obtain⟨j,want⟩:=g;rw [hg]at he;simp only at he;obtain⟨av,he⟩:=bK.1 he;have ao:=ah.dst av;cases hj:(ops[j]?).bind (·.dst)with
     | none=>rw [<-ao,hj]at he;exact he.elim
     | some d=>
       rw [<-ao,hj]at he;simp only at he;have aq:=qS U base d (by rw [hbn];exact ad)
       split at he
       ·rename_i b hb;obtain⟨ax,he⟩:=bK.1 he;rw [aq]at hb;have ap:=sP hb;obtain⟨y,hy,ry⟩:=aH.get ht d _ ap;rw [Array.getElem?_toList]at hy;have au:y=.bool b:=ry;subst au;have aj:yielded ops a.tmps j=some b:=j9 hj hy;have hs:bT ((d,.bool b)::U) base=bT U base:=mF _ d _ ap;have aa: ∀v,vD n ((d,v)::U):=fun v=>⟨Nat.le_of_ble_eq_true ax,ad⟩;have af:Region.wanted o (yielded ops a.tmps)=(b == want):=by simp [Region.wanted,hg,aj]
        cases b with
        | true=>
          simp only [cond_true]at he;cases want with
          | true=>rw [if_pos rfl]at he;exact run _ (aa _) (by rw [hs];exact ht) he (by rw [af];rfl)
          | false=>rw [if_neg (by simp)]at he;exact skip _ (aa _) (by rw [hs];exact ht) he (by rw [af];rfl)
        | false=>
          simp only [cond_false]at he;cases want with
          | true=>rw [if_pos rfl]at he;exact skip _ (aa _) (by rw [hs];exact ht) he (by rw [af];rfl)
          | false=>rw [if_neg (by simp)]at he;exact run _ (aa _) (by rw [hs];exact ht) he (by rw [af];rfl)
       ·rename_i ay;split at he
        ·rename_i ae;rw [aq]at ae
         have aj:yielded ops a.tmps j=none:=by
          refine l5 hj ?_;cases e:a.tmps[d]? with
          | none=>exact .inl rfl
          | some x=>
            right
            have am:d<(bT U base).length :=by
             have h1:=aH.length ht;rw [Array.length_toList]at h1;cases Nat.lt_or_ge d a.tmps.size with
             | inl g=>exact Nat.lt_of_lt_of_eq g h1
             | inr g=>rw [Array.getElem?_eq_none g]at e;cases e
            obtain⟨y,hy,ry⟩:=aH.get ht d _ (gE' am);rw [Array.getElem?_toList,e]at hy;cases hy;have e2:(bT U base).getD d (.raw undef)=(bT U base)[d]:=by rw [gD',gE' am];rfl
            rw [e2]at ae;unfold iJ at ae;split at ae
            ·rename_i vs e3;rw [e3]at ry;have:x=.tuple vs:=ry;exact⟨vs,by rw [this]⟩
            ·cases ae
         exact skip U ad ht he (by simp [Region.wanted,hg,aj])
        ·exact he.elim
end
end Go.Sh
namespace Go.Sh
open Go
variable [Con] {A:Type}
inductive Ex where
 | normal
 | exit (id:Nat)
 | ret
abbrev kJ(A:Type):=Ex->List AVal->aB A->Prop
def Ex.out:Ex->Exit
 | .normal =>.normal
 | .exit id=>.exit id
 | .ret =>.ret
structure Hint (A:Type) where
 X:Type
 st:X->List AVal×aB A
 ok:X->Prop
 mu:X->Nat
 keep:List Nat
 casts:List (Place×gE):=[]
 sel:List AVal->aB A->Bool:=fun _ _=>true
inductive dF (H:Hint A) (ok:H.X->Prop) (tm:List AVal) (h:aB A):Prop where
 | mk (x:H.X) (h1:H.st x=(tm,h)) (h2:ok x)
theorem aQ{H:Hint A}{ok:H.X->Prop}{tm:List AVal}{h:aB A}(x:H.X)(h1:H.st x=(tm,h))(h2:ok x):dF H ok tm h:=⟨x,h1,h2⟩
def aE(I:Itp A)(n:Nat)(v:AVal)(g:aB A)(v2:AVal)(g2:aB A):Prop:=
 ∀V hR w x,Inv I V (toF g) hR w->bO V g.length->n<=g.length->Rep V v x->
  ∃V',(∀l y,l<n->V l=some y->V' l=some y)/\bO V' g2.length/\n<=g2.length/\Rep V' v2 x/\Inv I V' (toF g2) hR w
structure H2 (I:Itp A) (n:Nat) (H:Hint A) (ok:H.X->Prop) (tm:List AVal) (h:aB A):Prop where
 ex: ∃tm2 h2,aE I n (.tup tm) h (.tup tm2) h2/\dF H ok tm2 h2
def mJ(H:Hint A)(n:Nat)(tm:List AVal)(h:aB A)(ok:H.X->Prop):Prop:=
 match gH H.casts tm h with
 | some (tm,h)=>
   cL (dU (dN n h (dE H.keep 0 tm)) h.length&&gZ (dN n h (dE H.keep 0 tm)) 0 n) <|
    dF H ok (aBb (dN n h (dE H.keep 0 tm)) H.keep 0 tm) (fT (dN n h (dE H.keep 0 tm)) h)
 | none=>False
def PO(H:Hint A)(n:Nat)(body:List AVal->aB A->kJ A->Prop)(tm:List AVal)(h:aB A)(K:kJ A):Prop:=
 mJ H n tm h H.ok/\ ∀x,H.ok x->body (H.st x).1 (H.st x).2 fun e tm' h'=>match e with
  | .normal =>mJ H n tm' h' fun x'=>H.ok x'/\H.mu x'<H.mu x
  | .exit id=>K (.exit id) tm' h'
  | .ret =>K .ret tm' h'
def pO(I:Itp A)(H:Hint A)(n:Nat)(tm:List AVal)(h:aB A)(ok:H.X->Prop):Prop:=
 match gH H.casts tm h with
 | some (tm,h)=>
   cL (dU (dN n h (dE H.keep 0 tm)) h.length&&gZ (dN n h (dE H.keep 0 tm)) 0 n) <|
    H2 I n H ok (aBb (dN n h (dE H.keep 0 tm)) H.keep 0 tm) (fT (dN n h (dE H.keep 0 tm)) h)
 | none=>False
def PP(I:Itp A)(H:Hint A)(n:Nat)(body:List AVal->aB A->kJ A->Prop)(tm:List AVal)(h:aB A)(K:kJ A):Prop:=
 pO I H n tm h H.ok/\ ∀x,H.ok x->body (H.st x).1 (H.st x).2 fun e tm' h'=>match e with
  | .normal =>pO I H n tm' h' fun x'=>H.ok x'/\H.mu x'<H.mu x
  | .exit id=>K (.exit id) tm' h'
  | .ret =>K .ret tm' h'
def qO:Option Nat->Nat->Prop
 | none,_=>True
 | some m,k=>k<m
def qM:List (Hint A)->Nat->List AVal->aB A->Option Nat->Prop
 | [],_,_,_,_=>False
 | H::r,n,tm,h,b=>cond (H.sel tm h) (mJ H n tm h (fun x=>H.ok x/\qO b (H.mu x))) (qM r n tm h b)
def aCx:List (Hint A)->(Hint A->Prop)->Prop
 | [],_=>True
 | H::r,p=>p H/\aCx r p
theorem BE{p:Hint A->Prop} : ∀ {l:List (Hint A)},aCx l p-> ∀H,H∈l->p H
 | [],_,_,hm=>by cases hm
 | G::r,h,H,hm=>by
   rcases List.mem_cons.1 hm with rfl | hm
   ·exact h.1
   ·exact BE h.2 H hm
def I3(Hs:List (Hint A))(n:Nat)(body:List AVal->aB A->kJ A->Prop)(tm:List AVal)(h:aB A)(K:kJ A):Prop:=
 qM Hs n tm h none/\aCx Hs fun H=> ∀x,H.ok x->body (H.st x).1 (H.st x).2 fun e tm' h'=>match e with
  | .normal =>qM Hs n tm' h' (some (H.mu x))
  | .exit id=>K (.exit id) tm' h'
  | .ret =>K .ret tm' h'
def uT(body:List AVal->aB A->kJ A->Prop):Nat->List AVal->aB A->kJ A->Prop
 | 0,_,_,_=>False
 | m+1,tm,h,K=>body tm h fun e tm' h'=>match e with
   | .normal =>uT body m tm' h' K
   | .exit id=>K (.exit id) tm' h'
   | .ret =>K .ret tm' h'
inductive kK (A:Type) where
 | rounds (m:Nat)
 | states (H:Hint A)
 | statesAt (k:Nat) (F:Int->Hint A)
 | cases (Hs:List (Hint A))
 | told (ks:List Nat) (F:List Int->Hint A)
def oF(tm:List AVal):List Nat->(List Int->Prop)->Prop
 | [],K=>K []
 | k::ks,K=>match tm.getD k .O with
   | .int _ i=>oF tm ks fun r=>K (i::r)
   | _=>False
theorem oG{tm:List AVal} : ∀ {ks:List Nat} {K:List Int->Prop},oF tm ks K-> ∃r,K r
 | [],_,h=>⟨_,h⟩
 | k::ks,K,h=>by
   unfold oF at h;split at h
   ·obtain⟨r,hr⟩:=oG h;exact⟨_,hr⟩
   ·exact h.elim
def gI:Code->Option Nat
 | .region id _ _=>some id
 | .seq x y=>match gI x with
   | some k=>some k
   | none=>gI y
 | .cond _ x y=>match gI x with
   | some k=>some k
   | none=>gI y
 | .block _ c=>gI c
 | .loop c=>gI c
 | .scope c=>gI c
 | .rangeFunc _ _ a c=>match gI a with
   | some k=>some k
   | none=>gI c
 | _=>none
def aFe(L:Nat->Option (kK A))(y:Code):Option (List Nat×(List Int->Hint A)):=match gI y with
 | some k=>match L (k+100000)with
   | some (.told ks F)=>some (ks,F)
   | _=>none
 | none=>none
section
variable {P:Program} (E:Env A P)
def CP(inl:s9 A)(nt:Nat)(ops:Array Oper)(draw:Bool)(tm:List AVal)(h:aB A)(K:List AVal->aB A->Prop):Prop:=
 cL (Nat.beq tm.length nt) (cond draw (mS E (fun rest seen i U h pm=>cL (aBp pm i rest) (kP E inl tm nt rest seen i U h K)) ops tm nt ops.toList [] 0 [] h [] [] K) (jI E inl tm nt ops.toList [] 0 [] h K))
def dA(inl:s9 A)(L:Nat->Option (kK A))(nt n0:Nat):Code->List AVal->aB A->kJ A->Prop
 | .skip,tm,h,K=>K .normal tm h
 | .region _ ops draw,tm,h,K=>CP E inl nt ops draw tm h (K .normal)
 | .seq x y,tm,h,K=>match aFe L y with
   | some p=>oF tm p.1 fun is=>(dA inl L nt n0 x tm h fun e tm' h'=>match e with
      | .normal =>pO E.I (p.2 is) n0 tm' h' (p.2 is).ok
      | .exit id=>K (.exit id) tm' h'
      | .ret =>K .ret tm' h')/\ ∀q,(p.2 is).ok q->dA inl L nt n0 y ((p.2 is).st q).1 ((p.2 is).st q).2 K
   | none=>dA inl L nt n0 x tm h fun e tm' h'=>match e with
     | .normal =>dA inl L nt n0 y tm' h' K
     | .exit id=>K (.exit id) tm' h'
     | .ret =>K .ret tm' h'
 | .cond c x y,tm,h,K=>match dM tm c with
    | .bool b=>cond b (dA inl L nt n0 x tm h K) (dA inl L nt n0 y tm h K)
    | _=>False
 | .block id c,tm,h,K=>dA inl L nt n0 c tm h fun e tm' h'=>match e with
    | .normal =>K .normal tm' h'
    | .exit i=>if i=id then K .normal tm' h' else K (.exit i) tm' h'
    | .ret =>K .ret tm' h'
 | .loop c,tm,h,K=>match gI c with
   | some k=>match L k with
     | some (.rounds m)=>uT (dA inl L nt n0 c) m tm h K
     | some (.states H)=>PO H n0 (dA inl L nt n0 c) tm h K
     | some (.statesAt k F)=>(match tm.getD k .O with
       | .int _ i=>PO (F i) n0 (dA inl L nt n0 c) tm h K
       | _=>False)
     | some (.cases Hs)=>I3 Hs n0 (dA inl L nt n0 c) tm h K
     | some (.told ks F)=>oF tm ks fun is=>PP E.I (F is) n0 (dA inl L nt n0 c) tm h K
     | none=>False
   | none=>False
 | .exit id,tm,h,K=>K (.exit id) tm h
 | .label _,tm,h,K=>K .normal tm h
 | .ret,tm,h,K=>K .ret tm h
 | _,_,_,_=>False
def uC(P:Program)(tm:List AVal)(h:aB A):ResultVar->Option (AVal×Option Prop)
 | .tmp t=>some (tm.getD t (.raw undef),none)
 | .cell a t=>match tm.getD a (.raw undef)with
   | .ptr l off=>(xY P t l off h).map fun r=>(r.v,r.need)
   | _=>none
def aCb:Option Prop->Option Prop->Option Prop
 | none,q=>q
 | some p,none=>some p
 | some p,some q=>some (p/\q)
theorem OB{p q:Option Prop} :onp (aCb p q)↔onp p/\onp q:=by
 cases p with
 | none=>exact⟨fun h=>⟨trivial,h⟩,fun h=>h.2⟩
 | some p=>cases q with
   | none=>exact⟨fun h=>⟨h,trivial⟩,fun h=>h.1⟩
   | some q=>exact Iff.rfl
def kO(P:Program)(tm:List AVal)(h:aB A):List ResultVar->Option (List AVal×Option Prop)
 | []=>some ([],none)
 | r::rs=>match uC P tm h r,kO P tm h rs with
   | some (v,p),some (vs,q)=>some (v::vs,aCb p q)
   | _,_=>none
def amk:List AVal->AVal
 | [v]=>v
 | vs=>.tup vs
def RW(inl:s9 A)(L:Nat->Option (kK A))(fn:Func)(c:Code)(args:List AVal)(h:aB A)(K:AVal->aB A->Prop):Prop:=
 dA E inl L fn.ntmps h.length c (args++List.replicate (fn.ntmps - args.length) (.raw undef)) h fun e tm h'=>match e with
  | .exit _=>False
  | _=>match kO P tm h' fn.results.toList with
    | some (vs,p)=>AK p (K (amk vs) h')
    | none=>False
def iY(L:FuncId->Nat->Option (kK A)):Nat->s9 A
 | 0=>fun _ _ _ _=>False
 | n+1=>fun g args h K=>match P.funcs[g]? with
   | some fn=>match fn.body with
     | some c=>RW E (iY L n) (L g) fn c args h K
     | none=>False
   | none=>False
variable {E}
theorem mC{a b:List Oper}{j:Nat}(hj:j<a.length):(masks [] (a++b)).getD j 0=(masks [] a).getD j 0:=by
 have key: ∀(b acc:List Oper) (h:j<acc.length),(masks [] (acc++b)).getD j 0=(masks [] acc).getD j 0:=by
  intro b
  induction b with
  | nil=>intro acc h;rw [List.append_nil]
  | cons x b ih=>
    intro acc h;have e:acc++x::b=(acc++ [x])++b:=by simp
    rw [e,ih (acc++ [x]) (by simp;omega),kW,gD',List.getElem?_append_left (by rw [fH];simpa using h),<-gD']
 exact key b a hj
theorem yX: ∀(rest done:List Oper) (pm:List Nat),pm=(masks [] done).reverse ->mQ done->aBp pm done.length rest=true->
 mQ (done++rest)/\ ∀k,done.length<=k->k<(done++rest).length -> ∀i,i<k->((masks [] (done++rest)).getD k 0).testBit i=true
 | [],done,pm,hpm,he,_=>⟨by rw [List.append_nil];exact he,fun k h1 h2=>by simp at h2;omega⟩
 | o::rest,done,pm,hpm,he,ht=>by
   unfold aBp at ht;simp only [Bool.and_eq_true]at ht;obtain⟨⟨t1,t2⟩,t3⟩:=ht;have hpl:pm.length=done.length:=by rw [hpm,List.length_reverse,fH];simp
   have hm:maskR pm done.length o=mask (masks [] done) o:=by
    have:=D0 (pm:=pm) (o:=o) (by rw [hpl];exact t1)
    rw [hpl]at this;rw [this,hpm,List.reverse_reverse]
   have ac:mQ (done++ [o]):=by
    intro i o' hi
    by_cases aa:i<done.length
    ·rw [List.getElem?_append_left aa]at hi;exact he i o' hi
    ·rw [List.getElem?_append_right (by omega)]at hi
     have:i=done.length:=by
      cases hq:i - done.length with
      | zero=>omega
      | succ n=>rw [hq]at hi;simp at hi
     subst this;simp at hi;subst hi;exact t1
   have g:(maskR pm done.length o::pm)=(masks [] (done++ [o])).reverse :=by
    rw [kW,List.reverse_append,hm,hpm];rfl
   obtain⟨r1,r2⟩:=yX rest (done++ [o]) _ g ac (by simpa using t3)
   have e:done++o::rest=(done++ [o])++rest:=by simp
   rw [e];refine⟨r1,fun k h1 h2 i hi=>?_⟩
   by_cases hk:k=done.length
   ·subst hk;rw [mC (by simp),kW,gD',List.getElem?_append_right (by rw [fH];simp)]
    simp only [fH,List.length_nil,Nat.zero_add,Nat.sub_self,List.getElem?_cons_zero,Option.getD_some];rw [<-hm,Nat.eq_of_beq_eq_true t2];show Nat.testBit (2^done.length - 1) i=true;rw [Nat.testBit_two_pow_sub_one];simpa using hi
   ·exact r2 k (by simp;omega) h2 i hi
def FR(I:Itp A)(V0:Val)(n0:Nat)(hR:PHeap)(H:Hint A)(At:List AVal->aB A->(H.X->Prop)->Prop):Prop:=
 ∀(tm1:List AVal) (h1:aB A) (V1:Val) (a1:Act) (w1:World) (ok:H.X->Prop),At tm1 h1 ok->Inv I V1 (toF h1) hR w1->bO V1 h1.length->aH V1 tm1 a1.tmps.toList->V0.le V1->
  ∃x V2,ok x/\aH V2 (H.st x).1 a1.tmps.toList/\V0.le V2/\bO V2 (H.st x).2.length /\n0<=(H.st x).2.length /\Inv I V2 (toF (H.st x).2) hR w1
theorem x4{I:Itp A}{V0:Val}{n0:Nat}{hR:PHeap}(hf0: ∀l,n0<=l->V0 l=none)(H:Hint A):FR I V0 n0 hR H (mJ H n0):=by
 intro ap h1 V1 a1 w1 ok aa aj ak ah ad;unfold mJ at aa;split at aa
 case h_2=>exact aa.elim
 rename_i ag h2 ac;obtain⟨Vc,⟨al,am,ao,af⟩,ae⟩:=eX ac aj ak ah;have ad:=Val.le_trans ad al;obtain⟨g0,⟨x,g3,g4⟩⟩:=bK.1 aa;obtain⟨g1,g2⟩:=Bool.and_eq_true_iff.1 g0;obtain⟨m1,m2,m3,m4⟩:=uS.elim g1 g2 af am;refine⟨x,fun i=>Vc (lab (dN n0 h2 (dE H.keep 0 ag)) h2.length i),g4,by rw [g3];exact rU 0 _ _ ae,?_,by rw [g3];exact m2,by rw [g3];exact m3,by rw [g3];exact m4⟩
 intro l y hl
 have ai:l<n0:=by
  cases Nat.lt_or_ge l n0 with
  | inl g=>exact g
  | inr g=>rw [hf0 l g]at hl;cases hl
 show Vc (lab _ _ l)=some y;rw [m1 l ai];exact ad l y hl
theorem sG{I:Itp A}{V0:Val}{n0:Nat}{hR:PHeap}(hf0: ∀l,n0<=l->V0 l=none)(H:Hint A):FR I V0 n0 hR H (pO I H n0):=by
 intro ap h1 V1 a1 w1 ok aa ai aj ah ad;unfold pO at aa;split at aa
 case h_2=>exact aa.elim
 rename_i ao h2 ac;obtain⟨Vc,⟨ak,al,am,ag⟩,af⟩:=eX ac ai aj ah;have ad:=Val.le_trans ad ak;obtain⟨g0,⟨tm3,h3,ht,⟨x,g3,g4⟩⟩⟩:=bK.1 aa;obtain⟨g1,g2⟩:=Bool.and_eq_true_iff.1 g0;obtain⟨m1,m2,m3,m4⟩:=uS.elim g1 g2 ag al;obtain⟨V2,b1,b2,b3,b4,b5⟩:=ht _ hR w1 (.tuple a1.tmps) m4 m2 m3 ⟨a1.tmps,rfl,rU 0 _ _ af⟩;obtain⟨ys,hy,b4⟩:=b4;cases hy;refine⟨x,V2,g4,by rw [g3];exact b4,?_,by rw [g3];exact b2,by rw [g3];exact b3,by rw [g3];exact b5⟩
 intro l y hl
 have ae:l<n0:=by
  cases Nat.lt_or_ge l n0 with
  | inl g=>exact g
  | inr g=>rw [hf0 l g]at hl;cases hl
 refine b1 l y ae ?_;show Vc (lab _ _ l)=some y;rw [m1 l ae];exact ad l y hl
theorem jU{ds:List Deferred}{inl:s9 A}(hinl:lE E inl)(hm:P.follows .mixedOrders =true){L:Nat->Option (kK A)}{nt n0:Nat}{V0:Val}{hR:PHeap}{w0:World}(hf0:bO V0 n0): ∀(c:Code) (tm:List AVal) (h:aB A) (K:kJ A) (a:Act) (w:World) (V:Val) (Q:Exit->Act->World->Prop),
 dA E inl L nt n0 c tm h K->Inv E.I V (toF h) hR w->bO V h.length->aH V tm a.tmps.toList->a.defers=ds->V0.le V->n0<=h.length->bN w0 w->
 (∀e a' w',uU E ds V0 n0 hR w0 (K e) a' w'->Q e.out a' w')->c.wp P Q a w:=by
 intro c
 induction c with
 | skip=>
   intro tm h K a w V Q he hi hf ht hd hV hn hg hQ;exact wp_skip (hQ .normal a w ⟨tm,V,h,he,ht,hV,hf,hn,hi,hg,hd⟩)
 | region id ops draw=>
   intro tm h K a w V Q he hi hf ht hd hV hn hg hQ;simp only [dA,CP]at he;obtain⟨ax,he⟩:=bK.1 he;cases draw with
   | false=>
     simp only [cond_false]at he;exact wpIn_wide.1 (wpIn_region_list (qW (ro:=none) hinl (Nat.eq_of_beq_eq_true ax) ops.toList [] 0 [] h (K .normal) a w V hR ⟨[],rfl,rfl,rfl⟩ he trivial hi hf ht hd (fun a' w' hT=>hQ .normal a' w' (hT.chain hV hn hg))))
   | true=>
     simp only [cond_true]at he;obtain⟨its,rest2,ar,hN,bg,h1,h2,h3,h4⟩:=zY (Nat.eq_of_beq_eq_true ax) ops.toList [] 0 [] h [] [] ⟨[],rfl,rfl,rfl⟩ trivial rfl (nH.nil ops) he;have h1:gF E ops tm h its ar hN:=h1;obtain⟨b1,b2,b3,b4⟩:=h3;simp only [List.append_nil,List.reverse_reverse]at b1 b2 b3 b4;have ay:its.length+rest2.length=ops.size:=by have:=congrArg List.length h2;simpa using this
     have bh:its.map (·.o)=ops.toList.take its.length:=by
      rw [<-h2,List.take_append_of_le_length (by simp),List.take_of_length_le (by simp)]
     have bq:ops.toList.drop its.length=rest2:=by
      rw [<-h2,List.drop_append_of_le_length (by simp),List.drop_of_length_le (by simp)];rfl
     have ai:mQ ops.toList/\(∀k,its.length<=k->k<ops.size-> ∀i,i<k->((masks [] ops.toList).getD k 0).testBit i=true):=by
      rcases h4 with⟨e,_⟩ | ⟨ao,U',_,_,_,hS⟩
      ·subst e;simp only [List.append_nil]at h2;refine⟨by rw [<-h2];exact b2,fun k hk ba=>?_⟩
       simp at ay;omega
      ·obtain⟨ht,_⟩:=bK.1 hS;rw [Nat.zero_add]at ht;have:=yX rest2 (its.map (·.o)) bg b1 b2 (by rw [List.length_map];exact ht)
       rw [h2]at this;refine⟨this.1,fun k hk ba=>this.2 k (by simpa using hk) (by simpa using ba)⟩
     have bu:FT ops (masks [] ops.toList) its:=by
      intro i k x y hi hk bn;have:=b4 i k x y hi hk bn;rw [b1,List.reverse_reverse]at this;rw [<-h2,mC (by simp;exact(List.getElem?_eq_some_iff.1 hk).1)]
      exact this
     have d:iN E ops tm h its ar hN:=⟨h1,bh,ai.1,b3,bu⟩;refine wp_region_any hm ?_
     have a7:(fun i=>(Array.replicate ops.size false).getD i false)=fun _=>false:=by
      funext i;rw [Array.getD_eq_getD_getElem?,Array.getElem?_replicate];split<;>rfl
     have av: ∀(a':Act) (w':World),xS E ds tm h its V hR w (fun i=>decide (i<its.length)) a' w'-> ∃V',V.le V'/\bO V' hN.length/\aH V' ar a'.tmps.toList/\Inv E.I V' (toF hN) hR w'/\bN w w'/\a'.defers=ds:=by
      rintro a' w' ⟨V',g1,g2,g3,g4,g5,g6⟩;obtain⟨e1,e2⟩:=h1.end b3 0 (fun i=>decide (i<its.length)) (by intro k hk;simpa using hk)
      rw [e1]at g3;rw [e2]at g4;refine⟨V',g1,?_,g3,g4,g5,g6⟩;intro l hl;cases e:V' l with
      | none=>rfl
      | some x=>
        rcases g2 l (by rw [e];simp)with h | ⟨i,it,hi,_,q1,q2⟩
        ·have:=h1.le;exact(h (hf l (by omega))).elim
        ·obtain⟨bl,bj,_,_,bx⟩:=h1.at b3 0 i it hi;have:it.n=bl.length:=bj.1;omega
     refine d.any (ds:=ds) hf (hR:=hR) (w0:=w) (by omega) ai.2 ?_ ops.size _ a _ (by simp) ?_ ?_ ?_ ?_
     ·intro fuel listed a' w' bk hl bz hs;obtain⟨V',g1,g2,g3,g4,g5,g6⟩:=av a' w' hs;refine BT ai.1 ai.2 rest2 its.length fuel listed a' w' bq (Nat.le_refl _) bk hl (by omega) ?_
      rcases h4 with⟨e,hK⟩ | ⟨ao,U',hU,bm,bi,hS⟩
      ·subst e;exact hQ .normal a' w' ⟨ar,V',hN,hK,g3,Val.le_trans hV g1,g2,Nat.le_trans hn h1.le,g4,hg.trans g5,g6⟩
      ·obtain⟨_,bp⟩:=bK.1 hS;refine zZ hinl (Nat.eq_of_beq_eq_true ax) rest2 ao _ U' hN (K .normal) a' w' V' hR bi bp bm g4 g2 (by rw [<-hU];exact g3) g6 ?_
       intro bv bf hT;exact hQ .normal bv bf (hT.chain (Val.le_trans hV g1) (Nat.le_trans hn h1.le) (hg.trans g5))
     ·refine Nat.le_trans (Nat.add_le_add_right (List.length_filter_le _ _) _) (by simp;omega)
     ·rw [a7];intro j o _ hj;cases hj
     ·intro i _;exact congrFun a7 i
     ·rw [a7];refine⟨V,V.le_refl,fun l hl=>.inl hl,?_,?_,⟨rfl,rfl,Nat.le_refl _,fun _ _=>rfl⟩,hd⟩
      ·rw [rX _ _ _ (fun _ _=>rfl)];exact ht
      ·rw [rD _ _ _ (fun _ _=>rfl)];exact hi.drew _
 | seq x y ihx ihy=>
   intro tm h K a w V Q he hi hf ht hd hV hn hg hQ;unfold dA at he;split at he
   ·rename_i p hp;obtain⟨is,h1,h2⟩:=oG he;refine wp_seq (ihx tm h _ a w V _ h1 hi hf ht hd hV hn hg ?_);rintro e a' w' ⟨ad,V',h',k1,k2,k3,k4,k5,k6,k7,k8⟩;cases e with
    | normal=>
      obtain⟨q,V2,m1,m2,m3,m4,m5,m6⟩:=sG hf0 (p.2 is) _ _ _ _ _ _ k1 k6 k4 k2 k3;exact ihy _ _ K a' w' V2 Q (h2 q m1) m6 m4 m2 k8 m3 m5 k7 hQ
    | exit id=>exact hQ (.exit id) a' w' ⟨ad,V',h',k1,k2,k3,k4,k5,k6,k7,k8⟩
    | ret=>exact hQ .ret a' w' ⟨ad,V',h',k1,k2,k3,k4,k5,k6,k7,k8⟩
   ·refine wp_seq (ihx tm h _ a w V _ he hi hf ht hd hV hn hg ?_);rintro e a' w' ⟨ad,V',h',k1,k2,k3,k4,k5,k6,k7,k8⟩;cases e with
    | normal=>exact ihy ad h' K a' w' V' Q k1 k6 k4 k2 k8 k3 k5 k7 hQ
    | exit id=>exact hQ (.exit id) a' w' ⟨ad,V',h',k1,k2,k3,k4,k5,k6,k7,k8⟩
    | ret=>exact hQ .ret a' w' ⟨ad,V',h',k1,k2,k3,k4,k5,k6,k7,k8⟩
 | cond c x y ihx ihy=>
   intro tm h K a w V Q he hi hf ht hd hV hn hg hQ;simp only [dA]at he;split at he
   ·rename_i b hb;have hc:=fE ht c;rw [hb]at hc;have br:a.eval c=.bool b:=hc;refine wp_cond br ?_;cases b with
    | true=>exact ihx tm h K a w V Q he hi hf ht hd hV hn hg hQ
    | false=>exact ihy tm h K a w V Q he hi hf ht hd hV hn hg hQ
   ·exact he.elim
 | block id c ih=>
   intro tm h K a w V Q he hi hf ht hd hV hn hg hQ;refine wp_block (ih tm h _ a w V _ he hi hf ht hd hV hn hg ?_);rintro e a' w' ⟨ad,V',h',k1,k2,k3,k4,k5,k6,k7,k8⟩;cases e with
   | normal=>exact hQ .normal a' w' ⟨ad,V',h',k1,k2,k3,k4,k5,k6,k7,k8⟩
   | exit i=>
     simp only [Ex.out,Exit.inBlock]
     by_cases bb:i=id
     ·simp only [bb,if_true]at k1⊢;exact hQ .normal a' w' ⟨ad,V',h',k1,k2,k3,k4,k5,k6,k7,k8⟩
     ·simp only [bb,if_false]at k1⊢;exact hQ (.exit i) a' w' ⟨ad,V',h',k1,k2,k3,k4,k5,k6,k7,k8⟩
   | ret=>exact hQ .ret a' w' ⟨ad,V',h',k1,k2,k3,k4,k5,k6,k7,k8⟩
 | loop c ih=>
   intro tm h K a w V Q he hi hf ht hd hV hn hg hQ;have he:(∃m,uT (dA E inl L nt n0 c) m tm h K)\/(∃(H:Hint A) (At:List AVal->aB A->(H.X->Prop)->Prop),FR E.I V0 n0 hR H At/\At tm h H.ok/\ ∀x,H.ok x->dA E inl L nt n0 c (H.st x).1 (H.st x).2 fun e ad h'=>match e with
    | .normal =>At ad h' fun x'=>H.ok x'/\H.mu x'<H.mu x
    | .exit id=>K (.exit id) ad h'
    | .ret =>K .ret ad h')\/(∃Hs,I3 Hs n0 (dA E inl L nt n0 c) tm h K):=by
    simp only [dA]at he;split at he
    ·split at he
     ·exact .inl ⟨_,he⟩
     ·exact .inr (.inl ⟨_,mJ _ n0,x4 hf0 _,he.1,he.2⟩)
     ·split at he
      ·exact .inr (.inl ⟨_,mJ _ n0,x4 hf0 _,he.1,he.2⟩)
      ·exact he.elim
     ·exact .inr (.inr ⟨_,he⟩)
     ·obtain⟨is,he⟩:=oG he;exact .inr (.inl ⟨_,pO E.I _ n0,sG hf0 _,he.1,he.2⟩)
     ·exact he.elim
    ·exact he.elim
   ·rcases he with⟨m,he⟩ | ⟨H,he⟩ | ⟨Hs,he⟩
    ·skip
     have key: ∀m tm h a w V,uT (dA E inl L nt n0 c) m tm h K->Inv E.I V (toF h) hR w->bO V h.length->aH V tm a.tmps.toList->a.defers=ds->V0.le V->n0<=h.length->bN w0 w->
      ∀(b:Frame) (k:List _root_.Go.Item) (cs:List Frame),∃e a' w',Q e a' w'/\Arrives P (lone (b.at a (.code c:: .inLoop c::k)) cs w) b k cs e a' w':=by
      intro m
      induction m with
      | zero=>intro tm h a w V hr;exact hr.elim
      | succ m ihm=>
        intro tm h a w V hr hi hf ht hd hV hn hg b k cs
        have hb:=ih tm h _ a w V (Exit.then (fun a2 w2=> ∃ac h2 V2,uT (dA E inl L nt n0 c) m ac h2 K/\aH V2 ac a2.tmps.toList/\V0.le V2/\bO V2 h2.length/\n0<=h2.length/\Inv E.I V2 (toF h2) hR w2/\bN w0 w2/\a2.defers=ds) Q) hr hi hf ht hd hV hn hg (by
         rintro e a2 w2 ⟨ac,V2,h2,k1,k2,k3,k4,k5,k6,k7,k8⟩;cases e with
         | normal=>exact⟨ac,h2,V2,k1,k2,k3,k4,k5,k6,k7,k8⟩
         | exit id=>exact hQ (.exit id) a2 w2 ⟨ac,V2,h2,k1,k2,k3,k4,k5,k6,k7,k8⟩
         | ret=>exact hQ .ret a2 w2 ⟨ac,V2,h2,k1,k2,k3,k4,k5,k6,k7,k8⟩)
        obtain⟨e,a2,w2,hq,aa⟩:=hb b (.inLoop c::k) cs;cases e with
        | normal=>
          obtain⟨ac,h2,V2,q1,q3,q4,q5,q6,q7,q8,q9⟩:=hq;obtain⟨e3,a3,w3,ap,af⟩:=ihm ac h2 a2 w2 V2 q1 q7 q5 q3 q9 q4 q6 q8 b k cs;exact⟨e3,a3,w3,ap,.of_steps (Steps.trans aa (.one step_inLoop)) af⟩
        | exit id=>exact⟨_,a2,w2,hq,.pass (x:=.inLoop c) rfl (fun _ _=>.inl (by simp)) aa⟩
        | goto l=>exact⟨_,a2,w2,hq,.pass (x:=.inLoop c) rfl (fun _ _=>.inl (by simp)) aa⟩
        | ret=>exact⟨_,a2,w2,hq,.pass (x:=.inLoop c) rfl (fun _ _=>.inl (by simp)) aa⟩
        | panic ch=>exact⟨_,a2,w2,hq,.pass (x:=.inLoop c) rfl (fun _ _=>.inl (by simp)) aa⟩
        | outgrown=>exact⟨_,a2,w2,hq,.pass (x:=.inLoop c) rfl (fun _ _=>.inl (by simp)) aa⟩
     intro b k cs;obtain⟨e,a',w',hq,aa⟩:=key m tm h a w V he hi hf ht hd hV hn hg b k cs;exact⟨e,a',w',hq,.of_steps (.one step_loop) aa⟩
    ·obtain⟨At,head,hstart,ah⟩:=he
     have key: ∀m x V1 a1 w1,H.mu x<m->H.ok x->aH V1 (H.st x).1 a1.tmps.toList->V0.le V1->bO V1 (H.st x).2.length ->n0<=(H.st x).2.length ->Inv E.I V1 (toF (H.st x).2) hR w1->bN w0 w1->a1.defers=ds->
      ∀(b:Frame) (k:List _root_.Go.Item) (cs:List Frame),∃e a' w',Q e a' w'/\Arrives P (lone (b.at a1 (.code c:: .inLoop c::k)) cs w1) b k cs e a' w':=by
      intro m
      induction m with
      | zero=>intro x V1 a1 w1 aq;omega
      | succ m ihm=>
        intro x V1 a1 w1 aq j1 j2 j3 j4 j5 j6 j7 j8 b k cs
        have hb:=ih (H.st x).1 (H.st x).2 _ a1 w1 V1 (Exit.then (fun a2 w2=> ∃x2 V2,H.mu x2<m/\H.ok x2/\aH V2 (H.st x2).1 a2.tmps.toList/\V0.le V2/\bO V2 (H.st x2).2.length /\n0<=(H.st x2).2.length /\Inv E.I V2 (toF (H.st x2).2) hR w2/\bN w0 w2/\a2.defers=ds) Q) (ah x j1) j6 j4 j2 j8 j3 j5 j7 (by
         rintro e a2 w2 ⟨ac,V2,h2,k1,k2,k3,k4,k5,k6,k7,k8⟩;cases e with
         | normal=>
           obtain⟨x3,V3,⟨m1,au⟩,m2,m3,m4,m5,m6⟩:=head _ _ _ _ _ _ k1 k6 k4 k2 k3;exact⟨x3,V3,by omega,m1,m2,m3,m4,m5,m6,k7,k8⟩
         | exit id=>exact hQ (.exit id) a2 w2 ⟨ac,V2,h2,k1,k2,k3,k4,k5,k6,k7,k8⟩
         | ret=>exact hQ .ret a2 w2 ⟨ac,V2,h2,k1,k2,k3,k4,k5,k6,k7,k8⟩)
        obtain⟨e,a2,w2,hq,aa⟩:=hb b (.inLoop c::k) cs;cases e with
        | normal=>
          obtain⟨x2,V2,q1,q2,q3,q4,q5,q6,q7,q8,q9⟩:=hq;obtain⟨e3,a3,w3,ap,af⟩:=ihm x2 V2 a2 w2 q1 q2 q3 q4 q5 q6 q7 q8 q9 b k cs;exact⟨e3,a3,w3,ap,.of_steps (Steps.trans aa (.one step_inLoop)) af⟩
        | exit id=>exact⟨_,a2,w2,hq,.pass (x:=.inLoop c) rfl (fun _ _=>.inl (by simp)) aa⟩
        | goto l=>exact⟨_,a2,w2,hq,.pass (x:=.inLoop c) rfl (fun _ _=>.inl (by simp)) aa⟩
        | ret=>exact⟨_,a2,w2,hq,.pass (x:=.inLoop c) rfl (fun _ _=>.inl (by simp)) aa⟩
        | panic ch=>exact⟨_,a2,w2,hq,.pass (x:=.inLoop c) rfl (fun _ _=>.inl (by simp)) aa⟩
        | outgrown=>exact⟨_,a2,w2,hq,.pass (x:=.inLoop c) rfl (fun _ _=>.inl (by simp)) aa⟩
     intro b k cs;obtain⟨x,V2,m1,m2,m3,m4,m5,m6⟩:=head _ _ _ _ _ _ hstart hi hf ht hV;obtain⟨e,a',w',hq,aa⟩:=key (H.mu x+1) x V2 a w (Nat.lt_succ_self _) m1 m2 m3 m4 m5 m6 hg hd b k cs;exact⟨e,a',w',hq,.of_steps (.one step_loop) aa⟩
    ·obtain⟨hstart,ah⟩:=he
     have az: ∀(H:Hint A) {ag:List AVal} {h1:aB A} {V1:Val} {a1:Act} {w1:World} {ok:H.X->Prop},mJ H n0 ag h1 ok->Inv E.I V1 (toF h1) hR w1->bO V1 h1.length->aH V1 ag a1.tmps.toList->V0.le V1->
      ∃x V2,ok x/\aH V2 (H.st x).1 a1.tmps.toList/\V0.le V2/\bO V2 (H.st x).2.length /\n0<=(H.st x).2.length /\Inv E.I V2 (toF (H.st x).2) hR w1:=by
      intro H ag h1 V1 a1 w1 ok ae ak al aj am;unfold mJ at ae;split at ae
      case h_2=>exact ae.elim
      rename_i ac h2 a6;obtain⟨Vc,⟨bs,bt,bw,bd⟩,bc⟩:=eX a6 ak al aj;have am:=Val.le_trans am bs;clear ak al aj;have ak:=bd;have al:=bt;have aj:=bc;obtain⟨g0,⟨x,g3,g4⟩⟩:=bK.1 ae;obtain⟨g1,g2⟩:=Bool.and_eq_true_iff.1 g0;obtain⟨m1,m2,m3,m4⟩:=uS.elim g1 g2 ak al;refine⟨x,fun i=>Vc (lab (dN n0 h2 (dE H.keep 0 ac)) h2.length i),g4,by rw [g3];exact rU 0 _ _ aj,?_,by rw [g3];exact m2,by rw [g3];exact m3,by rw [g3];exact m4⟩
      intro l y hl
      have aq:l<n0:=by
       cases Nat.lt_or_ge l n0 with
       | inl g=>exact g
       | inr g=>rw [hf0 l g]at hl;cases hl
      show Vc (lab _ _ l)=some y;rw [m1 l aq];exact am l y hl
     have hr':=BE ah
     have head: ∀(Gs:List (Hint A)) {ag:List AVal} {h1:aB A} {V1:Val} {a1:Act} {w1:World} {bo:Option Nat},qM Gs n0 ag h1 bo->Inv E.I V1 (toF h1) hR w1->bO V1 h1.length->aH V1 ag a1.tmps.toList->V0.le V1->
      ∃H:Hint A,H∈Gs/\ ∃x V2,(H.ok x/\ ∀m,bo=some m->H.mu x<m)/\aH V2 (H.st x).1 a1.tmps.toList/\V0.le V2/\bO V2 (H.st x).2.length /\n0<=(H.st x).2.length /\Inv E.I V2 (toF (H.st x).2) hR w1:=by
      intro Gs
      induction Gs with
      | nil=>intro ag h1 V1 a1 w1 bo ae;exact ae.elim
      | cons G r ihG=>
        intro ag h1 V1 a1 w1 bo ae ak al aj am;unfold qM at ae;cases a8:G.sel ag h1<;>rw [a8]at ae
        case true=>
         obtain⟨x,V2,⟨m1,au⟩,m2,m3,m4,m5,m6⟩:=az G ae ak al aj am;refine⟨G,List.mem_cons_self,x,V2,⟨m1,?_⟩,m2,m3,m4,m5,m6⟩;intro m hm;subst hm;exact au
        case false=>
         obtain⟨H,hH,x,V2,m⟩:=ihG ae ak al aj am;exact⟨H,List.mem_cons_of_mem _ hH,x,V2,m⟩
     have key: ∀m (H:Hint A) (_:H∈Hs) (x:H.X) V1 a1 w1,H.mu x<m->H.ok x->aH V1 (H.st x).1 a1.tmps.toList->V0.le V1->bO V1 (H.st x).2.length ->n0<=(H.st x).2.length ->Inv E.I V1 (toF (H.st x).2) hR w1->bN w0 w1->a1.defers=ds->
      ∀(b:Frame) (k:List _root_.Go.Item) (cs:List Frame),∃e a' w',Q e a' w'/\Arrives P (lone (b.at a1 (.code c:: .inLoop c::k)) cs w1) b k cs e a' w':=by
      intro m
      induction m with
      | zero=>intro H hH x V1 a1 w1 aq;omega
      | succ m ihm=>
        intro H hH x V1 a1 w1 aq j1 j2 j3 j4 j5 j6 j7 j8 b k cs
        have hb:=ih (H.st x).1 (H.st x).2 _ a1 w1 V1 (Exit.then (fun a2 w2=> ∃G:Hint A,G∈Hs/\ ∃x2 V2,G.mu x2<m/\G.ok x2/\aH V2 (G.st x2).1 a2.tmps.toList/\V0.le V2/\bO V2 (G.st x2).2.length /\n0<=(G.st x2).2.length /\Inv E.I V2 (toF (G.st x2).2) hR w2/\bN w0 w2/\a2.defers=ds) Q) (hr' H hH x j1) j6 j4 j2 j8 j3 j5 j7 (by
         rintro e a2 w2 ⟨ac,V2,h2,k1,k2,k3,k4,k5,k6,k7,k8⟩;cases e with
         | normal=>
           obtain⟨G,hG,x3,V3,⟨m1,au⟩,m2,m3,m4,m5,m6⟩:=head Hs k1 k6 k4 k2 k3;have:=au _ rfl;exact⟨G,hG,x3,V3,by omega,m1,m2,m3,m4,m5,m6,k7,k8⟩
         | exit id=>exact hQ (.exit id) a2 w2 ⟨ac,V2,h2,k1,k2,k3,k4,k5,k6,k7,k8⟩
         | ret=>exact hQ .ret a2 w2 ⟨ac,V2,h2,k1,k2,k3,k4,k5,k6,k7,k8⟩)
        obtain⟨e,a2,w2,hq,aa⟩:=hb b (.inLoop c::k) cs;cases e with
        | normal=>
          obtain⟨G,hG,x2,V2,q1,q2,q3,q4,q5,q6,q7,q8,q9⟩:=hq;obtain⟨e3,a3,w3,ap,af⟩:=ihm G hG x2 V2 a2 w2 q1 q2 q3 q4 q5 q6 q7 q8 q9 b k cs;exact⟨e3,a3,w3,ap,.of_steps (Steps.trans aa (.one step_inLoop)) af⟩
        | exit id=>exact⟨_,a2,w2,hq,.pass (x:=.inLoop c) rfl (fun _ _=>.inl (by simp)) aa⟩
        | goto l=>exact⟨_,a2,w2,hq,.pass (x:=.inLoop c) rfl (fun _ _=>.inl (by simp)) aa⟩
        | ret=>exact⟨_,a2,w2,hq,.pass (x:=.inLoop c) rfl (fun _ _=>.inl (by simp)) aa⟩
        | panic ch=>exact⟨_,a2,w2,hq,.pass (x:=.inLoop c) rfl (fun _ _=>.inl (by simp)) aa⟩
        | outgrown=>exact⟨_,a2,w2,hq,.pass (x:=.inLoop c) rfl (fun _ _=>.inl (by simp)) aa⟩
     intro b k cs;obtain⟨H,hH,x,V2,⟨m1,_⟩,m2,m3,m4,m5,m6⟩:=head Hs hstart hi hf ht hV;obtain⟨e,a',w',hq,aa⟩:=key (H.mu x+1) H hH x V2 a w (Nat.lt_succ_self _) m1 m2 m3 m4 m5 m6 hg hd b k cs;exact⟨e,a',w',hq,.of_steps (.one step_loop) aa⟩
 | exit id=>
   intro tm h K a w V Q he hi hf ht hd hV hn hg hQ;exact wp_exit (hQ (.exit id) a w ⟨tm,V,h,he,ht,hV,hf,hn,hi,hg,hd⟩)
 | label l=>
   intro tm h K a w V Q he hi hf ht hd hV hn hg hQ;exact wp_label (hQ .normal a w ⟨tm,V,h,he,ht,hV,hf,hn,hi,hg,hd⟩)
 | ret=>
   intro tm h K a w V Q he hi hf ht hd hV hn hg hQ;exact wp_ret (hQ .ret a w ⟨tm,V,h,he,ht,hV,hf,hn,hi,hg,hd⟩)
 | _=>intro tm h K a w V Q he;exact he.elim
def rvar(tmps:Array Value):ResultVar->Sem Value
 | .tmp t=>Pure.pure (tmps.getD t undef)
 | .cell a t=>do loadVar t (<-asAddr (tmps.getD a undef))
theorem IC(fn:Func)(tmps:Array Value):results fn tmps=(do
 let vs<-fn.results.mapM (rvar tmps)
 Pure.pure (if h:vs.size=1 then vs[0]else .tuple vs)):=by
 unfold results;congr 1
theorem BW{tm:List AVal}{h:aB A}{r:ResultVar}{v:AVal}{p:Option Prop}(hr:uC P tm h r=some (v,p))(hp:onp p){V:Val}{hR:PHeap}{w:World}{tmps:Array Value}(hi:Inv E.I V (toF h) hR w)(ht:aH V tm tmps.toList):
 ∃v',(rvar tmps r).run P w=.ok v' w/\Rep V v v':=by
 have hZ: ∀x,Rep V (dM tm x) (Act.eval ⟨tmps,[]⟩ x):=fE (a:=⟨tmps,[]⟩) ht;cases r with
 | tmp t=>
   simp only [uC,sI',pI']at hr;obtain⟨rfl,rfl⟩:=hr;exact⟨_,rfl,hZ (.tmp t)⟩
 | cell a t=>
   simp only [uC]at hr;split at hr
   ·rename_i l off e;have g:Rep V (tm.getD a (.raw undef)) (tmps.getD a undef):=hZ (.tmp a);rw [e]at g;cases hq:xY P t l off h with
    | none=>rw [hq]at hr;cases hr
    | some q=>
      rw [hq]at hr;simp only [Option.map_some,sI',pI']at hr;obtain⟨rfl,rfl⟩:=hr;obtain⟨v',h1,h2,_,_⟩:=xZ hq hp hi g;obtain⟨b,k,hl,e2⟩:=g;rw [e2]at h1;refine⟨v',?_,h2⟩;show(do loadVar t (<-asAddr (tmps.getD a undef)):Sem Value).run P w=.ok v' w
      rw [e2]
      simpa [asAddr,Instr.loadAt,Instr.sureAddr]using h1
   ·cases hr
theorem zK{fn:Func}{tm:List AVal}{h:aB A}{V:Val}{hR:PHeap}{w:World}{tmps:Array Value}(hi:Inv E.I V (toF h) hR w)(ht:aH V tm tmps.toList){vs:List AVal}{p:Option Prop}(hr:kO P tm h fn.results.toList=some (vs,p))(hp:onp p):
 ∃v',(results fn tmps).run P w=.ok v' w/\Rep V (amk vs) v':=by
 have key: ∀(g:List ResultVar) (vs:List AVal) (p:Option Prop),kO P tm h g=some (vs,p)->onp p->
  ∃ws,(g.mapM (rvar tmps)).run P w=.ok ws w/\aH V vs ws:=by
  intro g
  induction g with
  | nil=>
    intro vs p h1 h2;simp only [kO,sI',pI']at h1;obtain⟨rfl,rfl⟩:=h1;exact⟨[],rfl,rfl⟩
  | cons r g ih=>
    intro vs p h1 h2;simp only [kO]at h1;split at h1
    ·rename_i v q ad q' e1 e2;simp only [sI',pI']at h1;obtain⟨rfl,rfl⟩:=h1;have h2:=OB.1 h2;obtain⟨v',g1,g2⟩:=BW e1 h2.1 hi ht;obtain⟨ws,g3,g4⟩:=ih ad q' e2 h2.2;refine⟨v'::ws,?_,⟨v',ws,rfl,g2,g4⟩⟩;rw [List.mapM_cons];simp only [Sem.run_bind];rw [g1];simp only [Result.andThen_ok,Sem.run_bind];rw [g3];rfl
    ·cases h1
 obtain⟨ws,h1,h2⟩:=key _ vs p hr hp
 have ac:(fn.results.mapM (rvar tmps)).run P w=.ok ws.toArray w:=by
  rw [Array.mapM_eq_mapM_toList,Sem.run_map,h1];rfl
 have aa:(results fn tmps).run P w=.ok (if h:ws.toArray.size=1 then ws.toArray[0]else .tuple ws.toArray) w:=by
  rw [IC,Sem.run_bind,ac];rfl
 refine⟨_,aa,?_⟩
 match vs,ws,h2 with
 | [],_,r=>have e:_=[]:=r;subst e;exact⟨#[],rfl,rfl⟩
 | [v],_,⟨y,ys,e,r,s⟩=>have e2:ys=[]:=s;subst e2;subst e;exact r
 | v1::v2::vs,_,⟨y,_,e,r,y2,ys,e2,r2,s⟩=>
   subst e2;subst e;exact⟨_,rfl,y,_,rfl,r,y2,ys,rfl,r2,s⟩
theorem zX{inl:s9 A}(hinl:lE E inl)(hm:P.follows .mixedOrders =true){g:FuncId}{fn:Func}{c:Code}(hg:P.funcs[g]? =some fn)(hb:fn.body=some c){args:List AVal}{h:aB A}{K:AVal->aB A->Prop}{L:Nat->Option (kK A)}(he:RW E inl L fn c args h K)
 {V:Val} {hR:PHeap} {w:World} {args':Array Value} (hi:Inv E.I V (toF h) hR w) (hf:bO V h.length) (hr:aH V args args'.toList):Calls P g args' w (zD E.I V h.length hR K w):=by
 have aa:args'.size=args.length:=by rw [<-Array.length_toList];exact aH.length hr
 refine calls_of_wp hg hb (jU hinl hm hf c _ h _ _ w V _ he hi hf ?_ rfl V.le_refl (Nat.le_refl _) (aLu w) ?_)
 ·show aH V _ (args'++Array.replicate (fn.ntmps - args'.size) undef).toList;rw [Array.toList_append,Array.toList_replicate,aa];refine aH.append hr ?_
  have: ∀n:Nat,aH V (List.replicate n (.raw undef)) (List.replicate n undef):=by
   intro n
   induction n with
   | zero=>exact rfl
   | succ n ih=>exact⟨undef,_,rfl,rfl,ih⟩
  exact this _
 ·rintro e a' w' ⟨ac,V',h',k1,k2,k3,k4,k5,k6,k7,k8⟩
  have fin:(match kO P ac h' fn.results.toList with | some (vs,p)=>AK p (K (amk vs) h') | none=>False)->a'.defers=[]/\ ∃v,(results fn a'.tmps).run P w'=.ok v w'/\zD E.I V h.length hR K w (.returned v) w':=by
   intro hh;split at hh
   ·rename_i vs p hres;have hh:=n9.1 hh;obtain⟨v',g1,g2⟩:=zK (E:=E) k6 k2 hres hh.1;exact⟨k8,v',g1,amk vs,v',V',h',hh.2,rfl,g2,k3,k4,k5,k6,k7⟩
   ·exact hh.elim
  cases e with
  | normal=>exact fin k1
  | exit id=>exact k1.elim
  | ret=>exact fin k1
theorem lJ(hm:P.follows .mixedOrders =true)(L:FuncId->Nat->Option (kK A)): ∀n,lE E (iY E L n)
 | 0=>fun _ _ _ _ he=>he.elim
 | n+1=>by
   intro g args h K he V hR w args' hi hf hr;unfold iY at he;split at he
   ·rename_i fn hg;split at he
    ·rename_i c hb;exact zX (lJ hm L n) hm hg hb he hi hf hr
    ·exact he.elim
   ·exact he.elim
end
end Go.Sh
namespace Go.Sh
open Go
variable [Con] {A:Type}
def aA(I:Itp A)(P:Program)(f:FuncId)(args:List AVal)(h:aB A)(K:AVal->aB A->Prop):Prop:=
 ∀V hR w (args':Array Value),Inv I V (toF h) hR w->bO V h.length->aH V args args'.toList->Calls P f args' w (zD I V h.length hR K w)
section
variable {P:Program} {I:Itp A}
def d9(n:Nat)(K:AVal->aB A->Prop)(v:AVal)(h':aB A):Prop:=
 cL (dU (dN n h' v.labels) h'.length&&gZ (dN n h' v.labels) 0 n) (K (lC (dN n h' v.labels) v) (fT (dN n h' v.labels) h'))
theorem aK8{f:FuncId}{args:List AVal}{h:aB A}{K:AVal->aB A->Prop}(h0:aA I P f args h (d9 h.length K)):aA I P f args h K:=by
 intro V hR w aa hi hf hr;refine(h0 V hR w aa hi hf hr).mono ?_;rintro e w' ⟨v,v',V',h',ht,k2,k3,k4,k5,k6,k7,k8⟩;obtain⟨g0,hK⟩:=bK.1 ht;obtain⟨g1,g2⟩:=Bool.and_eq_true_iff.1 g0;generalize dN h.length h' v.labels=pl at g1 g2 hK;obtain⟨e1,e2⟩:=mU g2;have hp:=oJ (h:=h') g1;refine⟨lC pl v,v',fun i=>V' (lab pl h'.length i),fT pl h',hK,k2,oZ k3,?_,?_,by rw [hp.len];exact e1,k7.pick hp,k8⟩
 ·intro l x hl
  have ac:l<h.length:=by
   cases Nat.lt_or_ge l h.length with
   | inl g=>exact g
   | inr g=>rw [hf l g]at hl;cases hl
  show V' (lab pl h'.length l)=some x;have:lab pl h'.length l=l:=by unfold lab;rw [e2 l ac];simp
  rw [this];exact k4 l x hl
 ·intro l hl;rw [hp.len]at hl;show V' (lab pl h'.length l)=none;have:lab pl h'.length l=h'.length+l:=by unfold lab;rw [List.getElem?_eq_none hl]
  rw [this];exact k5 _ (by omega)
def aBC(cs:List (Place×gE))(K:AVal->aB A->Prop)(v:AVal)(g:aB A):Prop:=
 match gH cs [v] g with
 | some ([v'],g')=>K v' g'
 | _=>False
theorem aLU{f:FuncId}{args:List AVal}{h:aB A}{K:AVal->aB A->Prop}{cs:List (Place×gE)}(h0:aA I P f args h (aBC cs K)):aA I P f args h K:=by
 intro V hR w aa hi hf hr;refine(h0 V hR w aa hi hf hr).mono ?_;rintro e w' ⟨v,v',V',g,ht,k2,k3,k4,k5,k6,k7,k8⟩;unfold aBC at ht;split at ht
 ·rename_i v1 g1 hc;obtain⟨V1,⟨c1,c2,c3,c4⟩,c5⟩:=eX hc k7 k5 (xs:=[v']) ⟨v',[],rfl,k3,rfl⟩;obtain⟨y,ys,e1,r1,_⟩:=c5;simp only [lI']at e1;exact⟨v1,v',V1,g1,ht,k2,by rw [e1.1];exact r1,Val.le_trans k4 c1,c2,Nat.le_trans k6 c3,c4,k8⟩
 ·exact ht.elim
def i9:List Nat->List (Option (aG A))->aB A->aB A
 | l::il,e::es,h=>i9 il es (h.set l e)
 | _,_,h=>h
def iota(il:List Nat)(n i:Nat):Nat:=match il[i]? with
 | some l=>l
 | none=>n+(i - il.length)
theorem kE{il:List Nat}{n i l:Nat}(h:il[i]? =some l):iota il n i=l:=by unfold iota;rw [h]
theorem iC{il:List Nat}{n i:Nat}(h:il[i]? =none):iota il n i=n+(i - il.length):=by unfold iota;rw [h]
def pG(h:aB A)(il:List Nat)(g:aB A):aB A:=
 i9 il ((g.take il.length).map (Option.map (aG.ren (iota il h.length)))) h++(g.drop il.length).map (Option.map (aG.ren (iota il h.length)))
theorem dX: ∀(il:List Nat) (es:List (Option (aG A))) (h:aB A),(i9 il es h).length =h.length
 | [],_,_=>rfl
 | _::_,[],_=>rfl
 | l::il,e::es,h=>by unfold i9;rw [dX il es];simp
theorem lN: ∀(il:List Nat) (es:List (Option (aG A))) (h:aB A) (m:Nat),m∉il->aK (i9 il es h) m=aK h m
 | [],_,_,_,_=>rfl
 | _::_,[],_,_,_=>rfl
 | l::il,e::es,h,m,hm=>by
   unfold i9;rw [lN il es _ m (by simp at hm;exact hm.2)]
   simp only [aK,gD'];rw [List.getElem?_set_ne (by simp at hm;exact fun e=>hm.1 e.symm)]
theorem sQ: ∀(il:List Nat) (es:List (Option (aG A))) (h:aB A) (i l:Nat),il.Nodup->(∀l∈il,l<h.length)->il[i]? =some l->i<es.length->aK (i9 il es h) l=es.getD i none
 | [],_,_,i,l,_,_,h,_=>by simp at h
 | _::_,[],_,i,_,_,_,_,h=>by simp at h
 | m::il,e::es,h,0,l,hnd,hlt,hi,_=>by
   simp at hi;subst hi;unfold i9;rw [lN il es _ m (List.nodup_cons.1 hnd).1];have:m<h.length:=hlt m (by simp)
   simp [aK,gD',this]
 | m::il,e::es,h,i+1,l,hnd,hlt,hi,hes=>by
   simp at hi;unfold i9;rw [sQ il es _ i l (List.nodup_cons.1 hnd).2 (by intro l hl;simp;exact hlt l (by simp [hl])) hi (by simpa using hes)]
   simp
theorem DV{il:List Nat}{n:Nat}(hnd:il.Nodup)(hlt: ∀l∈il,l<n): ∀i j,iota il n i=iota il n j->i=j:=by
 intro i j h
 have aa: ∀ {i a},il[i]? =some a->i<il.length:=by
  intro i a hi;cases Nat.lt_or_ge i il.length with
  | inl g=>exact g
  | inr g=>rw [List.getElem?_eq_none g]at hi;cases hi
 unfold iota at h;cases hi:il[i]? with
 | some a=>
   rw [hi]at h;cases hj:il[j]? with
   | some b=>
     rw [hj]at h;simp only at h;subst h;exact(List.getElem?_inj (aa hi) hnd).1 (hi.trans hj.symm)
   | none=>
     rw [hj]at h;simp only at h;have:=hlt a (List.mem_of_getElem? hi);omega
 | none=>
   rw [hi]at h;cases hj:il[j]? with
   | some b=>
     rw [hj]at h;simp only at h;have:=hlt b (List.mem_of_getElem? hj);omega
   | none=>
     rw [hj]at h;simp only at h;have h1:=List.getElem?_eq_none_iff.1 hi;have h2:=List.getElem?_eq_none_iff.1 hj;omega
theorem aLM{f:FuncId}{args0 args:List AVal}{h0 h:aB A}{K0 K:AVal->aB A->Prop}(hs:aA I P f args0 h0 K0)(il:List Nat)(hlen:il.length=h0.length)(hnd:il.Nodup)
 (hlt: ∀l∈il,l<h.length) (hent: ∀i l,il[i]? =some l->aK h l=(aK h0 i).map (aG.ren (iota il h.length))) (hargs:args=aLn (iota il h.length) args0)
 (hK: ∀v g,K0 v g->h0.length<=g.length->K (v.ren (iota il h.length)) (pG h il g)):aA I P f args h K:=by
 intro V hR w aj hi hf hr
 classical
 have ak:=DV (n:=h.length) hnd hlt
 have ag: ∀ {i a},il[i]? =some a->i<il.length:=by
  intro i a hi;cases Nat.lt_or_ge i il.length with
  | inl g=>exact g
  | inr g=>rw [List.getElem?_eq_none g]at hi;cases hi
 obtain⟨ao,az,am⟩:=hi.split (fun l=>decide (l∈il))
 have ba:Inv I (fun i=>V (iota il h.length i)) (toF h0) ao w:=by
  refine(aLE ak ?_ ?_).1 az
  ·intro i;cases aa:il[i]? with
   | some l=>
     have e1:iota il h.length i=l:=by unfold iota;rw [aa]
     rw [e1,if_pos (by simpa using List.mem_of_getElem? aa)]
     exact hent i l aa
   | none=>
     have e1:iota il h.length i=h.length+(i - il.length):=by unfold iota;rw [aa]
     have ad:=List.getElem?_eq_none_iff.1 aa;rw [e1,if_neg (by simp;intro hm;have:=hlt _ hm;omega)]
     have:toF h0 i=none:=cC (by omega)
     rw [this];rfl
  ·intro m hm;rw [if_neg];simp only [dT'];intro ac;obtain⟨i,ae,he⟩:=List.getElem_of_mem ac;refine hm i ?_;unfold iota;rw [gE' ae,he]
 have a6:bO (fun i=>V (iota il h.length i)) h0.length:=by
  intro i hi;show V (iota il h.length i)=none;have:il[i]? =none:=List.getElem?_eq_none (by omega)
  rw [iC this];exact hf _ (by omega)
 have ax:aH (fun i=>V (iota il h.length i)) args0 aj.toList:=by
  rw [hargs]at hr;exact(aH.ren args0 _).1 hr
 refine(hs _ ao w aj ba a6 ax).mono ?_;rintro e w' ⟨v,v',V',g,k1,k2,k3,k4,k5,k6,k7,k8⟩
 let V1:Val:=fun m=>if h.length<=m then V' (il.length+(m - h.length))else if hm: ∃i:Nat,il[i]? =some m then V' (Classical.choose hm)else V m
 have a8: ∀i,V1 (iota il h.length i)=V' i:=by
  intro i;cases aa:il[i]? with
  | some l=>
    have e1:iota il h.length i=l:=by unfold iota;rw [aa]
    have hl:=hlt l (List.mem_of_getElem? aa);have hm: ∃i:Nat,il[i]? =some l:=⟨i,aa⟩;show(if h.length<=iota il h.length i then _ else _)=_
    rw [e1,if_neg (by omega),dif_pos hm]
    have hc:=Classical.choose_spec hm;have:=(List.getElem?_inj (ag hc) hnd).1 (hc.trans aa.symm);rw [this]
  | none=>
    have e1:iota il h.length i=h.length+(i - il.length):=by unfold iota;rw [aa]
    have ad:=List.getElem?_eq_none_iff.1 aa;show(if h.length<=iota il h.length i then _ else _)=_
    rw [e1,if_pos (by omega)]
    congr 1;omega
 have af:(fun i=>V1 (iota il h.length i))=V':=funext a8
 have au:V.le V1:=by
  intro m x hm
  have ai:m<h.length:=by
   cases Nat.lt_or_ge m h.length with
   | inl g=>exact g
   | inr g=>rw [hf m g]at hm;cases hm
  show(if h.length<=m then _ else _)=some x
  rw [if_neg (by omega)]
  split
  ·rename_i aq;have hc:=Classical.choose_spec aq;refine k4 _ x ?_;show V (iota il h.length _)=some x;have e1:iota il h.length (Classical.choose aq)=m:=by unfold iota;rw [hc]
   rw [e1];exact hm
  ·exact hm
 let G:aY A:=fun m=>if h.length<=m then(aK g (il.length+(m - h.length))).map (aG.ren (iota il h.length))else if hm: ∃i:Nat,il[i]? =some m then(aK g (Classical.choose hm)).map (aG.ren (iota il h.length))else none
 have hG: ∀i,G (iota il h.length i)=(toF g i).map (aG.ren (iota il h.length)):=by
  intro i;cases aa:il[i]? with
  | some l=>
    have e1:iota il h.length i=l:=by unfold iota;rw [aa]
    have hl:=hlt l (List.mem_of_getElem? aa);have hm: ∃i:Nat,il[i]? =some l:=⟨i,aa⟩;show(if h.length<=iota il h.length i then _ else _)=_
    rw [e1,if_neg (by omega),dif_pos hm]
    have hc:=Classical.choose_spec hm;have:=(List.getElem?_inj (ag hc) hnd).1 (hc.trans aa.symm);rw [this];rfl
  | none=>
    have e1:iota il h.length i=h.length+(i - il.length):=by unfold iota;rw [aa]
    have ad:=List.getElem?_eq_none_iff.1 aa;show(if h.length<=iota il h.length i then _ else _)=_
    rw [e1,if_pos (by omega),show il.length+(h.length+(i - il.length) - h.length)=i from by omega]
    rfl
 have bb: ∀m,(∀l,iota il h.length l≠m)->G m=none:=by
  intro m hm;show(if h.length<=m then _ else _)=none
  by_cases ad:h.length<=m
  ·refine(hm (il.length+(m - h.length)) ?_).elim;rw [iC (List.getElem?_eq_none (by omega))]
   omega
  ·rw [if_neg ad,dif_neg];rintro⟨i,hi⟩;refine hm i ?_;unfold iota;rw [hi]
 have ap:Inv I V1 G ao w':=(aLE ak hG bb).2 (by rw [af];exact k7)
 have al:=am V1 G w' au ap (by
  intro l hl ah;have ay:l∉il:=by simpa using hl
  have ai:l<h.length:=by
   cases Nat.lt_or_ge l h.length with
   | inl g=>exact g
   | inr g=>exact(ah (cC g)).elim
  show(if h.length<=l then _ else _)=none
  rw [if_neg (by omega),dif_neg]
  rintro⟨i,hi⟩;exact ay (List.mem_of_getElem? hi))
 have ar:(pG h il g).length =h.length+(g.length - il.length):=by
  unfold pG;rw [List.length_append,dX,List.length_map,List.length_drop]
 have av:((g.take il.length).map (Option.map (aG.ren (iota il h.length)))).length =il.length:=by
  rw [List.length_map,List.length_take];omega
 have a7:(fun l=>if (fun l=>decide (l∈il)) l=false/\toF h l≠none then toF h l else G l)=toF (pG h il g):=by
  funext m;show _=aK (pG h il g) m
  by_cases ad:h.length<=m
  ·have e0:toF h m=none:=cC ad;rw [if_neg (by rw [e0];simp)]
   show(if h.length<=m then _ else _)=_
   rw [if_pos ad];unfold pG;simp only [aK,gD'];rw [List.getElem?_append_right (by rw [dX];exact ad),dX,List.getElem?_map,List.getElem?_drop]
   cases hq:g[il.length+(m - h.length)]? with
   | none=>rfl
   | some x=>rfl
  ·have ai:m<h.length:=by omega
   have e1:aK (pG h il g) m=aK (i9 il ((g.take il.length).map (Option.map (aG.ren (iota il h.length)))) h) m:=by
    unfold pG;exact cG (by rw [dX];exact ai)
   rw [e1]
   by_cases ac:m∈il
   ·obtain⟨i,ae,he⟩:=List.getElem_of_mem ac;have aa:il[i]? =some m:=by rw [gE' ae,he]
    rw [if_neg (by simp [ac]),sQ il _ h i m hnd hlt aa (by rw [av];exact ae)]
    have e2:iota il h.length i=m:=by unfold iota;rw [aa]
    have:=hG i;rw [e2]at this;rw [this,gD',List.getElem?_map,List.getElem?_take,if_pos ae];show Option.map _ (aK g i)=_;simp only [aK,gD'];cases g[i]? <;>rfl
   ·rw [lN il _ h m ac]
    by_cases ah:toF h m=none
    ·rw [if_neg (by simp [ah])]
     show(if h.length<=m then _ else _)=_
     rw [if_neg ad,dif_neg]
     ·exact ah.symm
     ·rintro⟨i,hi⟩;exact ac (List.mem_of_getElem? hi)
    ·rw [if_pos ⟨by simp [ac],ah⟩];rfl
 rw [a7]at al;refine⟨v.ren (iota il h.length),v',V1,pG h il g,hK v g k1 k6,k2,?_,au,?_,by rw [ar];omega,al,k8⟩
 ·refine(Rep.ren v v').2 ?_;rw [af];exact k3
 ·intro l hl;rw [ar]at hl;show(if h.length<=l then _ else _)=none
  rw [if_pos (by omega)]
  exact k5 _ (by omega)
end
end Go.Sh
namespace Go.Sh
open Go
variable [Con] {A:Type} {P:Program} {I:Itp A}
def PHeap.all(w:World):PHeap:=fun b=>w.heap[b]?
def aCA(W W':World):Prop:=W.keptBut W' (fun _=>False)/\(∀a:Addr,a.block<W.heap.size->W'.frozen? a=W.frozen? a)/\W.heap.size<=W'.heap.size
theorem SI{w w':World}(h:(PHeap.all w).sub w')(g:bN w w'):aCA w w':=by
 refine⟨⟨g.os,g.output,?_⟩,g.frz,g.size⟩;intro i hi;have e:w.heap[i]? =some w.heap[i]:=Array.getElem?_eq_getElem hi;have e':=h i _ e;rw [e,e'];generalize w.heap[i]=o;cases o with
 | cells c t fr=>exact⟨rfl,rfl,rfl,fun _ _=>rfl⟩
 | map es clock=>exact .inr ⟨rfl,rfl⟩
 | _=>rfl
theorem aAB(w:World)(hc: ∀b o,Con.con b=some o->w.heap[b]? =some o):Inv I (fun _=>none) (toF ([]:aB A)) (PHeap.all w) w:=
 ⟨fun _=>.emp,(fun l e h=>by simp [toF,aK]at h),fun _ _=>rfl,fun _ _ _=>aLb _,fun _=>(aLb _).symm,fun _=>aLy _,fun b o h=>h,hc⟩
theorem aA.grown{f:FuncId}{args:List AVal}{K:AVal->aB A->Prop}(h:aA I P f args [] K){args':Array Value}(hr:aH (fun _=>none) args args'.toList)(w:World)(hc: ∀b o,Con.con b=some o->w.heap[b]? =some o):
 Calls P f args' w fun e w'=> ∃v v' V' h',K v h'/\e=.returned v'/\Rep V' v v'/\aCA w w':=by
 refine(h _ _ w args' (aAB w hc) (fun _ _=>rfl) hr).mono ?_;rintro e w' ⟨v,v',V',h',k1,k2,k3,k4,k5,k6,k7,g⟩;obtain⟨hs,_,_,_,_,_,h6,_⟩:=k7;exact⟨v,v',V',h',k1,k2,k3,SI h6 g⟩
theorem aA.law{f:FuncId}{args:List AVal}(h:aA I P f args ([]:aB A) fun v _=>v=.bool true){args':Array Value}(hr:aH (fun _=>none) args args'.toList)(w:World)(hc: ∀b o,Con.con b=some o->w.heap[b]? =some o):
 Calls P f args' w fun e w'=>e=.returned (.bool true)/\aCA w w':=by
 refine(h.grown hr w hc).mono ?_;rintro e w' ⟨v,v',V',h',rfl,rfl,r,g⟩;have:v'=.bool true:=r;subst this;exact⟨rfl,g⟩
mutual
theorem Rep.free{V V':Val} : ∀(a:AVal) (x:Value),a.within []=true->Rep V a x->Rep V' a x
 | .bool _,_,_,r=>r
 | .int _ _,_,_,r=>r
 | .str _,_,_,r=>r
 | .ptr _ _,_,h,_=>by simp [AVal.within]at h
 | .slice _ _ _ _,_,h,_=>by simp [AVal.within]at h
 | .map _,_,h,_=>by simp [AVal.within]at h
 | .func _ f c,_,h,⟨fs,cs,hv,r,s⟩=>by
   simp only [AVal.within,Bool.and_eq_true]at h;exact⟨fs,cs,hv,aH.free f _ h.1 r,aH.free c _ h.2 s⟩
 | .iface _ a,_,h,⟨x,hv,r⟩=>⟨x,hv,Rep.free a _ h r⟩
 | .agg as,_,h,⟨cs,hv,r⟩=>⟨cs,hv,aH.free as _ h r⟩
 | .tup as,_,h,⟨cs,hv,r⟩=>⟨cs,hv,aH.free as _ h r⟩
 | .raw _,_,_,r=>r
 | .any,_,_,r=>r
 | .O,_,_,r=>r
 | .iview _ _,_,_,r=>r
 | .view _ _ _,_,_,r=>r
 | .cptr _,_,_,r=>r
 | .tslice _ _ _ _,_,h,_=>by simp [AVal.within]at h
 | .tptr _ _ _ _,_,h,_=>by simp [AVal.within]at h
 | .empty,_,_,r=>r
theorem aH.free{V V':Val} : ∀(a:List AVal) (x:List Value),aLe [] a=true->aH V a x->aH V' a x
 | [],_,_,r=>r
 | a::as,_,h,⟨v,vs,e,r,s⟩=>by
   simp only [aLe,Bool.and_eq_true]at h;exact⟨v,vs,e,Rep.free a v h.1 r,aH.free as vs h.2 s⟩
end
structure Ev (p:Prop):Prop where
 get:p
theorem aD{E:Env A P}(hm:P.follows .mixedOrders =true){L:FuncId->Nat->Option (kK A)}{n:Nat}{f:FuncId}{args:List AVal}{h:aB A}{K:AVal->aB A->Prop}(he:Ev (iY E L n f args h K)):aA E.I P f args h K:=
 lJ hm L n f args h K he.get
theorem aJ{p q:Prop}(h:p=q)(hq:q):Ev p:=⟨h▸hq⟩
theorem aT{b:Bool}{X Y:Prop}(h1:b=true->X)(h2:b=false->Y):cond b X Y:=by
 cases b
 ·exact h2 rfl
 ·exact h1 rfl
end Go.Sh
namespace Go.Sh
open Go
variable [Con] {A:Type}
inductive Out (A:Type):Type 1 where
 | ret (v:AVal) (g:aB A)
 | ite (b:Bool) (x y:Out A)
 | all (X:Type) (ok:X->Prop) (f:X->Out A)
 | pre (p:Prop) (o:Out A)
def Out.run:Out A->(AVal->aB A->Prop)->Prop
 | .ret v g,K=>K v g
 | .ite b x y,K=>cond b (x.run K) (y.run K)
 | .all X ok f,K=> ∀x,ok x->(f x).run K
 | .pre p o,K=>p/\o.run K
abbrev aI(A:Type):=List AVal->aB A->Option (Out A)
def AV(h:aB A):Nat->List Nat->List Nat->List Nat
 | 0,_,acc=>acc
 | _+1,[],acc=>acc
 | d+1,l::todo,acc=>cond (acc.elem l) (AV h d todo acc) (match aK h l with
   | some e=>AV h d (e.labels++todo) (acc++ [l])
   | none=>AV h d todo (acc++ [l]))
def foot(args:List AVal)(h:aB A):List Nat:=AV h 5000 (aLB args) []
def nF(pl:List Nat)(h:aB A):List Nat->Option (aB A)
 | []=>some []
 | l::ls=>match aK h l,nF pl h ls with
   | some e,some g=>cond (e.within pl) (some (some (e.ren (inv pl))::g)) none
   | _,_=>none
def OP(ι:Nat->Nat):List Nat->aB A->aB A->aB A
 | l::il,e::g,h=>OP ι il g (h.set l (e.map (aG.ren ι)))
 | [],[],h=>h
 | _,g,h=>h++g.map (Option.map (aG.ren ι))
theorem KM(ι:Nat->Nat): ∀(il:List Nat) (g h:aB A),il.length<=g.length->OP ι il g h=i9 il ((g.take il.length).map (Option.map (aG.ren ι))) h++(g.drop il.length).map (Option.map (aG.ren ι))
 | [],[],h,_=>by simp [OP,i9]
 | [],e::g,h,_=>by simp [OP,i9]
 | l::il,[],h,hl=>by simp at hl
 | l::il,e::g,h,hl=>by
   simp only [OP,List.length_cons,List.take_succ_cons,List.drop_succ_cons,List.map_cons];rw [KM ι il g _ (by simpa using hl)]
   rfl
def nP(F:aI A):xQ A:=fun args h K=>
 let il:=foot args h
 cL (dU il h.length&&aLe il args) <|
 match nF il h il with
 | none=>False
 | some h0=>match F (aLn (inv il) args) h0 with
   | none=>False
   | some o=>o.run fun v g=>cL (Nat.ble il.length g.length) (K (v.ren (iota il h.length)) (OP (iota il h.length) il g h))
theorem iF{pl:List Nat}{h:aB A} : ∀ {ls:List Nat} {g:aB A},nF pl h ls=some g->g.length=ls.length/\ ∀(i l:Nat),ls[i]? =some l-> ∃e,aK h l=some e/\e.within pl=true/\aK g i=some (e.ren (inv pl))
 | [],g,h=>by simp [nF]at h;subst h;simp
 | l::ls,g,h=>by
   simp only [nF]at h;split at h
   ·rename_i e g' h1 h2;cases hw:e.within pl with
    | false=>rw [hw]at h;cases h
    | true=>
      rw [hw]at h;simp only [cond_true,sI']at h;subst h;obtain⟨q1,q2⟩:=iF h2;refine⟨by simp [q1],?_⟩
      intro i l' hi;cases i with
      | zero=>simp at hi;subst hi;exact⟨e,h1,hw,rfl⟩
      | succ i=>
        simp at hi;obtain⟨e',a1,a2,a3⟩:=q2 i l' hi;exact⟨e',a1,a2,by simpa [aK]using a3⟩
   ·cases h
theorem kV{il:List Nat}{n l:Nat}(h:il.elem l=true):iota il n (inv il l)=l:=by
 have:=lO (n:=n) h;unfold lab at this;unfold iota;cases g:il[inv il l]? with
 | some m=>rw [g]at this;exact this
 | none=>
   exfalso;have hm:l∈il:=List.elem_iff.1 h
   have: ∀(pl:List Nat),l∈pl->pl[inv pl l]? =some l:=by
    intro pl
    induction pl with
    | nil=>intro h;cases h
    | cons m pl ih=>
      intro hm;unfold inv
      by_cases e:m=l
      ·rw [if_pos e];simp [e]
      ·rw [if_neg e,List.getElem?_cons_succ];rcases List.mem_cons.1 hm with h | h
       ·exact(e h.symm).elim
       ·exact ih h
   rw [this il hm]at g;cases g
mutual
theorem aL3{pl:List Nat}{n:Nat} : ∀(v:AVal),v.within pl=true->(v.ren (inv pl)).ren (iota pl n)=v
 | .bool _,_=>rfl
 | .int _ _,_=>rfl
 | .str _,_=>rfl
 | .ptr l off,h=>by simp only [AVal.ren];rw [kV h]
 | .slice l off len sz,h=>by simp only [AVal.ren];rw [kV h]
 | .map l,h=>by simp only [AVal.ren];rw [kV h]
 | .func fn f c,h=>by
   simp only [AVal.within,Bool.and_eq_true]at h;simp only [AVal.ren];rw [aLx f h.1,aLx c h.2]
 | .iface t a,h=>by simp only [AVal.ren];rw [aL3 a h]
 | .agg as,h=>by simp only [AVal.ren];rw [aLx as h]
 | .tup as,h=>by simp only [AVal.ren];rw [aLx as h]
 | .raw _,_=>rfl
 | .any,_=>rfl
 | .O,_=>rfl
 | .iview _ _,_=>rfl
 | .view _ _ _,_=>rfl
 | .cptr _,_=>rfl
 | .tslice l r n w,h=>by simp only [AVal.ren];rw [kV h]
 | .tptr l r w j,h=>by simp only [AVal.ren];rw [kV h]
 | .empty,_=>rfl
theorem aLx{pl:List Nat}{n:Nat} : ∀(v:List AVal),aLe pl v=true->aLn (iota pl n) (aLn (inv pl) v)=v
 | [],_=>rfl
 | a::as,h=>by
   simp only [aLe,Bool.and_eq_true]at h;simp only [aLn];rw [aL3 a h.1,aLx as h.2]
end
theorem uY{pl:List Nat}{n:Nat} : ∀(ps:List Nat),nC pl ps=true->(ps.map (inv pl)).map (iota pl n)=ps
 | [],_=>rfl
 | p::ps,h=>by
   simp only [nC,Bool.and_eq_true]at h;simp only [List.map_cons];rw [kV h.1,uY ps h.2]
theorem aLO{pl:List Nat}{n:Nat}(e:aG A)(h:e.within pl=true):(e.ren (inv pl)).ren (iota pl n)=e:=by
 cases e with
 | cells vs=>simp only [aG.ren];rw [aLx vs h]
 | ints c xs=>rfl
 | abs t ps=>simp only [aG.ren];rw [uY ps h]
 | tab ks rows=>rfl
 | imap kk vc m=>rfl
 | iter lm kk vc m left cur=>simp only [aG.ren];rw [kV h]
section
variable {P:Program} {I:Itp A}
def aI.ok(I:Itp A)(P:Program)(f:FuncId)(F:aI A):Prop:=
 ∀args h o,F args h=some o-> ∀K,o.run K->aA I P f args h K
def qP(cs:List (Place×gE))(F:aI A):aI A:=fun args h=>match gH cs args h with
 | some (a,g)=>F a g
 | none=>none
theorem tD{f:FuncId}{cs:List (Place×gE)}{F:aI A}(hF:aI.ok I P f F):aI.ok I P f (qP cs F):=by
 intro args h o ho K hK;unfold qP at ho;split at ho
 ·rename_i a g hc;intro V hR w aa hi hf hr;obtain⟨V',⟨v1,v2,v3,v4⟩,v5⟩:=eX hc hi hf hr;refine(hF a g o ho K hK V' hR w aa v4 v2 v5).mono ?_;rintro e w' ⟨v,v',V'',h',k1,k2,k3,k4,k5,k6,k7,k8⟩;exact⟨v,v',V'',h',k1,k2,k3,Val.le_trans v1 k4,k5,Nat.le_trans v3 k6,k7,k8⟩
 ·cases ho
theorem kA{f:FuncId}{F:aI A}(hF:aI.ok I P f F):xQ.ok I P f (nP F):=by
 intro args h K hS;unfold nP at hS;obtain⟨hg,hS⟩:=bK.1 hS;obtain⟨ag,af⟩:=Bool.and_eq_true_iff.1 hg;split at hS
 ·exact hS.elim
 ·rename_i h0 ht;split at hS
  ·exact hS.elim
  ·rename_i o ho;obtain⟨ad,ae⟩:=f8 ag;obtain⟨aa,ac⟩:=iF ht;refine aLM (hF _ _ _ ho _ hS) (foot args h) aa.symm ad ae ?_ ?_ ?_
   ·intro i l hi;obtain⟨e,e1,e2,e3⟩:=ac i l hi;rw [e1,e3];simp only [Option.map_some];rw [aLO e e2]
   ·exact(aLx args af).symm
   ·intro v g hK hl;obtain⟨hb,hK⟩:=bK.1 hK;rw [KM _ _ _ _ (Nat.le_of_ble_eq_true hb)]at hK;exact hK
end
end Go.Sh
namespace Go.Sh
open Go
variable [Con] {A:Type}
mutual
theorem aLG{V V':Val}{pl:List Nat}(hV: ∀l,pl.elem l=true->V l=V' l): ∀(a:AVal) (v:Value),a.within pl=true->Rep V a v->Rep V' a v
 | .bool _,_,_,r=>r
 | .int _ _,_,_,r=>r
 | .str _,_,_,r=>r
 | .ptr l off,_,h,⟨b,k,hl,hv⟩=>⟨b,k,by rw [<-hV l h];exact hl,hv⟩
 | .slice l off len sz,_,h,⟨base,cap,hv,hc,r⟩=>⟨base,cap,hv,hc,r.imp (fun⟨b,k,hl,e⟩=>⟨b,k,by rw [<-hV l h];exact hl,e⟩) id⟩
 | .map l,_,h,⟨b,k,hl,hv⟩=>⟨b,k,by rw [<-hV l h];exact hl,hv⟩
 | .func _ f c,_,h,⟨fs,cs,hv,r,s⟩=>by
   simp only [AVal.within,Bool.and_eq_true]at h;exact⟨fs,cs,hv,aLw hV f _ h.1 r,aLw hV c _ h.2 s⟩
 | .iface _ a,_,h,⟨x,hv,r⟩=>⟨x,hv,aLG hV a _ h r⟩
 | .agg as,_,h,⟨cs,hv,r⟩=>⟨cs,hv,aLw hV as _ h r⟩
 | .tup as,_,h,⟨cs,hv,r⟩=>⟨cs,hv,aLw hV as _ h r⟩
 | .raw _,_,_,r=>r
 | .any,_,_,r=>r
 | .O,_,_,r=>r
 | .iview _ _,_,_,r=>r
 | .view _ _ _,_,_,r=>r
 | .cptr _,_,_,r=>r
 | .tslice l _ _ _,_,h,⟨base,cap,hv,hc,r⟩=>⟨base,cap,hv,hc,r.imp (fun⟨b,k,hl,e⟩=>⟨b,k,by rw [<-hV l h];exact hl,e⟩) id⟩
 | .tptr l _ _ _,_,h,⟨b,k,hl,hv⟩=>⟨b,k,by rw [<-hV l h];exact hl,hv⟩
 | .empty,_,_,r=>r
theorem aLw{V V':Val}{pl:List Nat}(hV: ∀l,pl.elem l=true->V l=V' l): ∀(a:List AVal) (v:List Value),aLe pl a=true->aH V a v->aH V' a v
 | [],_,_,r=>r
 | a::as,_,h,⟨v,vs,e,r,s⟩=>by
   simp only [aLe,Bool.and_eq_true]at h;exact⟨v,vs,e,aLG hV a v h.1 r,aLw hV as vs h.2 s⟩
end
section
variable {P:Program} {I:Itp A}
theorem sD{pl:List Nat} : ∀ {ps:List Nat},nC pl ps=true-> ∀m∈ps,pl.elem m=true
 | [],_,_,hm=>by cases hm
 | p::ps,h,m,hm=>by
   simp only [nC,Bool.and_eq_true]at h;rcases List.mem_cons.1 hm with rfl | hm
   ·exact h.1
   ·exact sD h.2 m hm
theorem aL1{V V':Val}{pl:List Nat}(hV: ∀l,pl.elem l=true->V l=V' l){h:aY A}{hR:PHeap}{w:World}(hin: ∀l e,h l=some e->pl.elem l=true/\e.within pl=true)(hi:Inv I V h hR w):Inv I V' h hR w:=by
 obtain⟨hs,h1,h2,h3,h4,h5,h6⟩:=hi;refine⟨hs,?_,h2,h3,h4,h5,h6⟩;intro l e he;obtain⟨g,q2⟩:=hin l e he;have hi:=h1 l e he;cases e with
 | cells vs=>
   obtain⟨b,k,hl,cs,T,e1,e2,rs,tail,e3,r⟩:=hi;exact⟨b,k,by rw [<-hV l g];exact hl,cs,T,e1,e2,rs,tail,e3,aLw hV _ _ q2 r⟩
 | ints c xs=>
   rcases hi with⟨e1,e2,b,hl⟩ | ⟨b,k,hl,r⟩
   ·exact .inl ⟨e1,e2,b,by rw [<-hV l g];exact hl⟩
   ·exact .inr ⟨b,k,by rw [<-hV l g];exact hl,r⟩
 | abs t ps=>
   obtain⟨b,k,hl,bs,hb,r⟩:=hi;exact⟨b,k,by rw [<-hV l g];exact hl,bs,fX.congr (fun m hm=>hV m (sD q2 m hm)) hb,r⟩
 | tab ks rows=>
   rcases hi with⟨e1,e2,b,hl⟩ | ⟨b,k,hl,r⟩
   ·exact .inl ⟨e1,e2,b,by rw [<-hV l g];exact hl⟩
   ·exact .inr ⟨b,k,by rw [<-hV l g];exact hl,r⟩
 | imap kk vc m=>
   obtain⟨b,k,hl,r⟩:=hi;exact⟨b,k,by rw [<-hV l g];exact hl,r⟩
 | iter lm kk vc m left cur=>
   obtain⟨b,k,hl,bm,km,hm,r⟩:=hi;exact⟨b,k,by rw [<-hV l g];exact hl,bm,km,by rw [<-hV lm q2];exact hm,r⟩
theorem Inv.dom{V:Val}{h:aY A}{hR:PHeap}{w:World}(hi:Inv I V h hR w){l:Nat}{e:aG A}(he:h l=some e): ∃x,V l=some x:=by
 obtain⟨hs,h1,_⟩:=hi;have:=h1 l e he;cases e with
 | cells vs=>obtain⟨b,k,hl,_⟩:=this;exact⟨_,hl⟩
 | ints c xs=>
   rcases this with⟨_,_,b,hl⟩ | ⟨b,k,hl,_⟩
   ·exact⟨_,hl⟩
   ·exact⟨_,hl⟩
 | abs t ps=>obtain⟨b,k,hl,_⟩:=this;exact⟨_,hl⟩
 | tab ks rows=>
   rcases this with⟨_,_,b,hl⟩ | ⟨b,k,hl,_⟩
   ·exact⟨_,hl⟩
   ·exact⟨_,hl⟩
 | imap kk vc m=>obtain⟨b,k,hl,_⟩:=this;exact⟨_,hl⟩
 | iter lm kk vc m left cur=>obtain⟨b,k,hl,_⟩:=this;exact⟨_,hl⟩
def Out.det:Out A->Option (Option Prop×AVal×aB A)
 | .ret v g=>some (none,v,g)
 | .pre p o=>match o.det with
   | some (q,v,g)=>some (some (p/\onp q),v,g)
   | none=>none
 | _=>none
theorem aMc{K:AVal->aB A->Prop} : ∀ {o:Out A} {q:Option Prop} {v:AVal} {g:aB A},o.det=some (q,v,g)->onp q->K v g->o.run K
 | .ret v g,q,v',g',h,_,hk=>by
   simp only [Out.det,sI',pI']at h;obtain⟨_,rfl,rfl⟩:=h;exact hk
 | .pre p o,q,v',g',h,hq,hk=>by
   simp only [Out.det]at h;split at h
   ·rename_i q' v2 g2 hd;simp only [sI',pI']at h;obtain⟨rfl,rfl,rfl⟩:=h;exact⟨hq.1,aMc hd hq.2 hk⟩
   ·cases h
 | .ite _ _ _,_,_,_,h,_,_=>by simp [Out.det]at h
 | .all _ _ _,_,_,_,h,_,_=>by simp [Out.det]at h
def iG:aB A->Option (List (aG A))
 | []=>some []
 | some e::h=>(iG h).map (e:: ·)
 | none::_=>none
theorem uZ: ∀ {h:aB A} {l:List (aG A)},iG h=some l->h=l.map some
 | [],l,e=>by simp [iG]at e;subst e;rfl
 | some x::h,l,e=>by
   simp only [iG]at e;cases hq:iG h with
   | none=>rw [hq]at e;cases e
   | some l'=>rw [hq]at e;simp at e;subst e;simp [uZ hq]
 | none::h,l,e=>by simp [iG]at e
def dB(n:Nat)(g:aB A):Bool:=g.all fun e=>match e with
 | some e=>e.within (upto 0 n)
 | none=>true
def o0(ι:Nat->Nat):List Nat->aB A->List (Nat×Option (aG A))
 | l::il,e::g=>(l,e.map (aG.ren ι))::o0 ι il g
 | _,_=>[]
theorem zB(ι:Nat->Nat): ∀(il:List Nat) (g h:aB A),hupd h (o0 ι il g)=i9 il ((g.take il.length).map (Option.map (aG.ren ι))) h
 | [],_,h=>rfl
 | l::il,[],h=>rfl
 | l::il,e::g,h=>by
   simp only [o0,List.length_cons,List.take_succ_cons,List.map_cons];show hupd (h.set l _) (o0 ι il g)=i9 il _ (h.set l _);exact zB ι il g _
def pT(F:aI A):nI A:=fun args h=>
 let il:=foot args h
 if (dU il h.length&&aLe il args)=true then
  match nF il h il with
  | none=>none
  | some h0=>match F (aLn (inv il) args) h0 with
    | none=>none
    | some o=>match o.det with
      | none=>none
      | some (q,v,g)=>
        match iG (g.drop il.length)with
        | none=>none
        | some new=>
          if (Nat.ble il.length g.length&&v.within (upto 0 g.length)&&dB g.length g)=true then
           some {v:=v.ren (iota il h.length),upd:=o0 (iota il h.length) il g,new:=new.map (aG.ren (iota il h.length)),foot:=il,need:=q}
          else none
 else none
theorem gW: ∀(n i l:Nat),(upto i n).elem l=true↔i<=l/\l<i+n
 | 0,i,l=>by simp only [upto,List.elem_eq_mem,List.not_mem_nil,decide_false];constructor
             ·intro h;cases h
             ·intro h;omega
 | n+1,i,l=>by
   simp only [upto,List.elem_eq_mem,List.mem_cons,dT'];have:=gW n (i+1) l;simp only [List.elem_eq_mem,dT']at this;rw [this];omega
theorem sI{f:FuncId}{F:aI A}(hF:aI.ok I P f F):nI.ok I P f (pT F):=by
 intro args h r hS bp V hR w ak hi hf hr;unfold pT at hS;simp only at hS;split at hS
 case isFalse=>cases hS
 rename_i hg;obtain⟨bu,bd⟩:=Bool.and_eq_true_iff.1 hg;split at hS
 ·cases hS
 rename_i h0 ht;split at hS
 ·cases hS
 rename_i o ho;split at hS
 ·cases hS
 rename_i q v0 g0 bg;split at hS
 ·cases hS
 rename_i new a6;split at hS
 case isFalse=>cases hS
 rename_i bh;obtain⟨av,aq⟩:=Bool.and_eq_true_iff.1 bh;obtain⟨a8,bm⟩:=Bool.and_eq_true_iff.1 av;have b4:=Nat.le_of_ble_eq_true a8;simp only [sI']at hS;subst hS;generalize hil:foot args h=il at*;have ay:onp q:=bp;have bc:=uZ a6;obtain⟨ar,af⟩:=f8 bu;obtain⟨b3,ai⟩:=iF ht;have am:=DV (n:=h.length) ar af
 have az:new.length=g0.length - il.length:=by
  have:=congrArg List.length bc
  simpa using this.symm
 have bw:jP V h.length (g0.length - il.length):=by
  have:(new.map (aG.ren (iota il h.length))).length =g0.length - il.length:=by rw [List.length_map,az]
  have bf:jP V h.length (new.map (aG.ren (iota il h.length))).length :=hf;rw [this]at bf;exact bf
 have ap: ∀ {i a},il[i]? =some a->i<il.length:=by
  intro i a hi;cases Nat.lt_or_ge i il.length with
  | inl g=>exact g
  | inr g=>rw [List.getElem?_eq_none g]at hi;cases hi
 classical
 obtain⟨aj,br,au⟩:=hi.split (fun l=>decide (l∈il))
 let Vr:Val:=fun l=>if l∈il then V l else none
 have bk: ∀l,il.elem l=true->V l=Vr l:=by
  intro l hl;show V l=if l∈il then V l else none
  rw [if_pos (List.elem_iff.1 hl)]
 have bb:Inv I Vr (fun l=>if (fun l=>decide (l∈il)) l then toF h l else none) aj w:=by
  refine aL1 bk ?_ br;intro l e he
  by_cases hl:l∈il
  ·rw [if_pos (by simpa using hl)]at he
   obtain⟨i,bs,ad⟩:=List.getElem_of_mem hl;obtain⟨e',a1,a2,_⟩:=ai i l (by rw [gE' bs,ad])
   have ag:aK h l=some e:=he;rw [a1]at ag;cases ag;exact⟨List.elem_iff.2 hl,a2⟩
  ·rw [if_neg (by simpa using hl)]at he;cases he
 have b1:Inv I (fun i=>Vr (iota il h.length i)) (toF h0) aj w:=by
  refine(aLE am ?_ ?_).1 bb
  ·intro i;cases aa:il[i]? with
   | some l=>
     have e1:iota il h.length i=l:=kE aa;obtain⟨e,a1,a2,a3⟩:=ai i l aa;rw [e1,if_pos (by simpa using List.mem_of_getElem? aa)]
     show aK h l=(aK h0 i).map _;rw [a1,a3];simp only [Option.map_some];rw [aLO e a2]
   | none=>
     have e1:=iC (n:=h.length) aa;have ad:=List.getElem?_eq_none_iff.1 aa;rw [e1,if_neg (by simp;intro hm;have:=af _ hm;omega)]
     have:toF h0 i=none:=cC (by omega)
     rw [this];rfl
  ·intro m hm;rw [if_neg];simp only [dT'];intro ac;obtain⟨i,ae,he⟩:=List.getElem_of_mem ac;refine hm i ?_;rw [kE (by rw [gE' ae,he])]
 have bv:bO (fun i=>Vr (iota il h.length i)) h0.length:=by
  intro i hi;show Vr (iota il h.length i)=none;have:il[i]? =none:=List.getElem?_eq_none (by omega)
  rw [iC this];show(if _∈il then _ else none)=none
  rw [if_neg];intro hm;have:=af _ hm;omega
 have bo:aH (fun i=>Vr (iota il h.length i)) (aLn (inv il) args) ak.toList:=by
  refine(aH.ren _ _).1 ?_;rw [aLx args bd];exact aLw bk _ _ bd hr
 refine(hF _ _ _ ho (fun v g=>v=v0/\g=g0) (aMc bg ay ⟨rfl,rfl⟩) _ aj w ak b1 bv bo).mono ?_;rintro e w' ⟨v,v',V',g,⟨rfl,rfl⟩,k2,k3,k4,k5,k6,k7,k8⟩
 let V1:Val:=fun m=>if h.length<=m/\m<h.length+(g.length - il.length)then V' (il.length+(m - h.length))else V m
 have ba:V.le V1:=by
  intro m x hm;show(if _ then _ else _)=some x
  by_cases hc:h.length<=m/\m<h.length+(g.length - il.length)
  ·rw [bw m hc.1 hc.2]at hm;cases hm
  ·rw [if_neg hc];exact hm
 have b0: ∀i,i<g.length->V1 (iota il h.length i)=V' i:=by
  intro i b5;cases aa:il[i]? with
  | some l=>
    have e1:iota il h.length i=l:=kE aa;have hl:=af l (List.mem_of_getElem? aa);obtain⟨e,a1,_,_⟩:=ai i l aa;obtain⟨x,hx⟩:=hi.dom (l:=l) a1
    have bl:Vr (iota il h.length i)=some x:=by
     rw [e1];show(if l∈il then V l else none)=some x
     rw [if_pos (List.mem_of_getElem? aa)];exact hx
    rw [k4 i x bl,e1];show(if _ then _ else _)=some x
    rw [if_neg (by omega)];exact hx
  | none=>
    have ad:=List.getElem?_eq_none_iff.1 aa;rw [iC aa];show(if _ then _ else _)=_
    rw [if_pos (by omega)]
    congr 1;omega
 have bj: ∀l,(upto 0 g.length).elem l=true->V' l=(fun i=>V1 (iota il h.length i)) l:=by
  intro l hl;have:=(gW _ _ _).1 hl;exact(b0 l (by omega)).symm
 have bt:Inv I (fun i=>V1 (iota il h.length i)) (toF g) aj w':=by
  refine aL1 bj ?_ k7;intro l e he;have a7:l<g.length:=cD (h:=g) he;refine⟨(gW _ _ _).2 (by omega),?_⟩
  unfold dB at aq;rw [List.all_eq_true]at aq;have ag:aK g l=some e:=he;unfold aK at ag;rw [gD',gE' a7]at ag;have:=aq g[l] (List.getElem_mem a7);have bz:g[l]=some e:=ag;rw [bz]at this;exact this
 let G:aY A:=fun m=>if h.length<=m then(aK g (il.length+(m - h.length))).map (aG.ren (iota il h.length))else if hm: ∃i:Nat,il[i]? =some m then(aK g (Classical.choose hm)).map (aG.ren (iota il h.length))else none
 have hG: ∀i,G (iota il h.length i)=(toF g i).map (aG.ren (iota il h.length)):=by
  intro i;cases aa:il[i]? with
  | some l=>
    have e1:iota il h.length i=l:=kE aa;have hl:=af l (List.mem_of_getElem? aa);have hm: ∃i:Nat,il[i]? =some l:=⟨i,aa⟩;show(if h.length<=iota il h.length i then _ else _)=_
    rw [e1,if_neg (by omega),dif_pos hm]
    have hc:=Classical.choose_spec hm;have:=(List.getElem?_inj (ap hc) ar).1 (hc.trans aa.symm);rw [this];rfl
  | none=>
    have e1:=iC (n:=h.length) aa;have ad:=List.getElem?_eq_none_iff.1 aa;show(if h.length<=iota il h.length i then _ else _)=_
    rw [e1,if_pos (by omega),show il.length+(h.length+(i - il.length) - h.length)=i from by omega]
    rfl
 have b2: ∀m,(∀l,iota il h.length l≠m)->G m=none:=by
  intro m hm;show(if h.length<=m then _ else _)=none
  by_cases ad:h.length<=m
  ·refine(hm (il.length+(m - h.length)) ?_).elim;rw [iC (List.getElem?_eq_none (by omega))]
   omega
  ·rw [if_neg ad,dif_neg];rintro⟨i,hi⟩;exact hm i (kE hi)
 have ax:Inv I V1 G aj w':=(aLE am hG b2).2 bt
 have ao:=au V1 G w' ba ax (by
  intro l hl ah;have bq:l∉il:=by simpa using hl
  have al:l<h.length:=by
   cases Nat.lt_or_ge l h.length with
   | inl g=>exact g
   | inr g=>exact(ah (cC g)).elim
  show(if h.length<=l then _ else _)=none
  rw [if_neg (by omega),dif_neg]
  rintro⟨i,hi⟩;exact bq (List.mem_of_getElem? hi))
 have bn:((g.take il.length).map (Option.map (aG.ren (iota il h.length)))).length =il.length:=by
  rw [List.length_map,List.length_take];omega
 generalize hap:ORes.apply (A:=A) {v:=v.ren (iota il h.length),upd:=o0 (iota il h.length) il g,new:=new.map (aG.ren (iota il h.length)),foot:=il,need:=q} h=apl
 have bi:apl=i9 il ((g.take il.length).map (Option.map (aG.ren (iota il h.length)))) h++(g.drop il.length).map (Option.map (aG.ren (iota il h.length))):=by
  rw [<-hap];show hupd h (o0 (iota il h.length) il g)++(new.map (aG.ren (iota il h.length))).map some=_;rw [zB,bc]
  simp
 have bx:(fun l=>if (fun l=>decide (l∈il)) l=false/\toF h l≠none then toF h l else G l)=toF apl:=by
  rw [bi];funext m;show _=aK (i9 il ((g.take il.length).map (Option.map (aG.ren (iota il h.length)))) h++(g.drop il.length).map (Option.map (aG.ren (iota il h.length)))) m
  by_cases ad:h.length<=m
  ·have e0:toF h m=none:=cC ad;rw [if_neg (by rw [e0];simp)]
   show(if h.length<=m then _ else _)=_
   rw [if_pos ad];simp only [aK,gD'];rw [List.getElem?_append_right (by rw [dX];exact ad),dX,List.getElem?_map,List.getElem?_drop]
   cases hq:g[il.length+(m - h.length)]? with
   | none=>rfl
   | some x=>rfl
  ·have al:m<h.length:=by omega
   rw [cG (by rw [dX];exact al)]
   by_cases ac:m∈il
   ·obtain⟨i,ae,he⟩:=List.getElem_of_mem ac;have aa:il[i]? =some m:=by rw [gE' ae,he]
    rw [if_neg (by simp [ac]),sQ il _ h i m ar af aa (by rw [bn];exact ae)]
    have:=hG i;rw [kE aa]at this;rw [this,gD',List.getElem?_map,List.getElem?_take,if_pos ae];show Option.map _ (aK g i)=_;simp only [aK,gD'];cases g[i]? <;>rfl
   ·rw [lN il _ h m ac]
    by_cases ah:toF h m=none
    ·rw [if_neg (by simp [ah])]
     show(if h.length<=m then _ else _)=_
     rw [if_neg ad,dif_neg]
     ·exact ah.symm
     ·rintro⟨i,hi⟩;exact ac (List.mem_of_getElem? hi)
    ·rw [if_pos ⟨by simp [ac],ah⟩];rfl
 rw [bx]at ao;refine⟨v',V1,k2,?_,ba,?_,ao,k8⟩
 ·refine(Rep.ren v v').2 ?_;exact aLG bj _ _ bm k3
 ·intro l e1 e2;show h.length<=l/\l<h.length+(new.map (aG.ren (iota il h.length))).length;rw [List.length_map,az]
  by_cases hc:h.length<=l/\l<h.length+(g.length - il.length)
  ·exact hc
  ·exfalso;apply e2;show(if _ then _ else _)=none
   rw [if_neg hc];exact e1
def Env.addS(E:Env A P)(f:FuncId)(F:aI A)(h:aI.ok E.I P f F):Env A P where
 I:=E.I
 cps:=fun g=>if g=f then some (nP F)else E.cps g
 det:=fun g=>if g=f then some (pT F)else E.det g
 meth:=E.meth
 cpsOk:=by
  intro g T hg
  by_cases e:g=f
  ·rw [if_pos e]at hg;cases hg;rw [e];exact kA h
  ·rw [if_neg e]at hg;exact E.cpsOk g T hg
 detOk:=by
  intro g T hg
  by_cases e:g=f
  ·rw [if_pos e]at hg;cases hg;rw [e];exact sI h
  ·rw [if_neg e]at hg;exact E.detOk g T hg
 methOk:=E.methOk
 row:=E.row
 rowOk:=E.rowOk
 fld:=E.fld
 fldOk:=E.fldOk
end
end Go.Sh
namespace Go.Sh
open Go
def HT(P:Program)(t:TypeId)(name:String):Option FuncId:=
 match P.info? t,P.underlying t with
 | some i,some (.pointer _)=>match i.methods.toList.find? (·.name == name)with
   | some m=>match m.path.toList,m.func with
     | [],some (f,true)=>some f
     | _,_=>none
   | none=>none
 | _,_=>none
theorem HU{P:Program}{t:TypeId}{name:String}{f:FuncId}(h:HT P t name=some f)(v:Value)(w:World):(method (P.types.size+Made.depth) t v name).run P w=.ok (f,v) w:=by
 unfold HT at h;split at h
 ·rename_i i e hi hu;split at h
  ·rename_i m hm;split at h
   ·rename_i f' hp hf;simp only [sI']at h;subst h;rw [Array.find?_toList]at hm
    have hd:P.types.size+Made.depth=(P.types.size+(Made.depth - 1))+1:=by
     have:Made.depth≠0:=by decide
     omega
    rw [hd];unfold method;have g:(typeInfo t).run P w=.ok i w:=by simp [typeInfo,hi]
    simp only [Sem.run_bind,g,Result.andThen_ok,hm,hp,follow,Sem.run_pure,hf,receiverAt,underlying,run_program,hu,Go.Place.get]
   ·cases h
  ·cases h
 ·cases h
end Go.Sh
namespace Go.Sh
open Go
variable [Con] {A:Type}
abbrev bA(A:Type):=List AVal->aB A->Option (Prop×AVal)
def bA.spec(F:bA A):aI A:=fun args h=>match F args h with
 | some (p,v)=>some (.pre p (.ret v h))
 | none=>none
def GM(F:bA A):nI A:=fun args h=>
 let il:=foot args h
 if (dU il h.length&&aLe il args)=true then
  match nF il h il with
  | none=>none
  | some h0=>match F (aLn (inv il) args) h0 with
    | none=>none
    | some (p,v)=>
      if (v.within (upto 0 il.length))=true then
       some {v:=v.ren (iota il h.length),upd:=[],new:=[],foot:=il,need:=some p}
      else none
 else none
theorem A2(pl:List Nat)(h:aB A): ∀(ls:List Nat) (g:aB A),nF pl h ls=some g-> ∀(i:Nat) (e:aG A),aK g i=some e-> ∃e' l,e=aG.ren (inv pl) e'/\e'.within pl=true/\ls[i]? =some l/\aK h l=some e'
 | ls,g,ht,i,e,he=>by
   obtain⟨q1,q2⟩:=iF ht;have hlt:=cD he;have:ls[i]? =some (ls[i]'(by omega)):=gE' (by omega)
   obtain⟨e',a1,a2,a3⟩:=q2 i _ this;rw [he]at a3;exact⟨e',_,by simpa using a3,a2,this,a1⟩
theorem sV{h:aB A}{il pl:List Nat}(n:Nat): ∀ {ls:List Nat} {g:aB A},nF il h ls=some g->hupd h (o0 (iota il n) ls g)=h
 | [],g,ht=>by cases g<;>rfl
 | l::ls,g,ht=>by
   simp only [nF]at ht;split at ht
   ·rename_i e g' h1 h2;cases hw:e.within il with
    | false=>rw [hw]at ht;cases ht
    | true=>
      rw [hw]at ht;simp only [cond_true,sI']at ht;subst ht;show hupd (h.set l ((some (e.ren (inv il))).map (aG.ren (iota il n)))) (o0 (iota il n) ls g')=h
      have:h.set l ((some (e.ren (inv il))).map (aG.ren (iota il n)))=h:=by
       simp only [Option.map_some];rw [aLO e hw,<-h1];apply List.ext_getElem?;intro i
       by_cases hi:l=i
       ·subst hi;have hl:=cD (h:=h) h1;rw [List.getElem?_set_self hl,gE' hl];simp [aK,gD',gE' hl]
       ·rw [List.getElem?_set_ne hi]
      rw [this];exact sV (pl:=pl) n h2
   ·cases ht
theorem BL:iG ([]:aB A)=some []:=rfl
section
variable {P:Program} {I:Itp A}
theorem qB{pl:List Nat}{l:Nat}(h:pl.elem l=true):(upto 0 pl.length).elem (inv pl l)=true:=by
 rw [gW];refine⟨Nat.zero_le _,?_⟩;rw [Nat.zero_add];have hm:l∈pl:=List.elem_iff.1 h;clear h
 induction pl with
 | nil=>cases hm
 | cons m pl ih=>
   unfold inv
   by_cases e:m=l
   ·rw [if_pos e];simp
   ·rw [if_neg e];rcases List.mem_cons.1 hm with h | h
    ·exact(e h.symm).elim
    ·have:=ih h;simp;omega
mutual
theorem aLX{pl:List Nat} : ∀(v:AVal),v.within pl=true->(v.ren (inv pl)).within (upto 0 pl.length)=true
 | .bool _,_=>rfl
 | .int _ _,_=>rfl
 | .str _,_=>rfl
 | .ptr l off,h=>qB (pl:=pl) h
 | .slice l off len sz,h=>qB (pl:=pl) h
 | .map l,h=>qB (pl:=pl) h
 | .func fn f c,h=>by
   simp only [AVal.within,Bool.and_eq_true]at h;simp only [AVal.ren,AVal.within,Bool.and_eq_true];exact⟨aLz f h.1,aLz c h.2⟩
 | .iface t a,h=>aLX a h
 | .agg as,h=>aLz as h
 | .tup as,h=>aLz as h
 | .raw _,_=>rfl
 | .any,_=>rfl
 | .O,_=>rfl
 | .iview _ _,_=>rfl
 | .view _ _ _,_=>rfl
 | .cptr _,_=>rfl
 | .tslice l r n w,h=>qB (pl:=pl) h
 | .tptr l r w j,h=>qB (pl:=pl) h
 | .empty,_=>rfl
theorem aLz{pl:List Nat} : ∀(v:List AVal),aLe pl v=true->aLe (upto 0 pl.length) (aLn (inv pl) v)=true
 | [],_=>rfl
 | a::as,h=>by
   simp only [aLe,Bool.and_eq_true]at h;simp only [aLn,aLe,Bool.and_eq_true];exact⟨aLX a h.1,aLz as h.2⟩
end
theorem xW{pl:List Nat} : ∀(ps:List Nat),nC pl ps=true->nC (upto 0 pl.length) (ps.map (inv pl))=true
 | [],_=>rfl
 | p::ps,h=>by
   simp only [nC,Bool.and_eq_true]at h;simp only [List.map_cons,nC,Bool.and_eq_true];exact⟨qB h.1,xW ps h.2⟩
theorem aG.within_inv{pl:List Nat}(e:aG A)(h:e.within pl=true):(e.ren (inv pl)).within (upto 0 pl.length)=true:=by
 cases e with
 | cells vs=>exact aLz vs h
 | ints c xs=>rfl
 | abs t ps=>exact xW ps h
 | tab ks rows=>rfl
 | imap kk vc m=>rfl
 | iter lm kk vc m left cur=>exact qB h
theorem sZ{il:List Nat}{h g:aB A}(ht:nF il h il=some g)(hnd:il.Nodup):dB g.length g=true:=by
 unfold dB;rw [List.all_eq_true];intro e he;cases e with
 | none=>rfl
 | some e=>
   obtain⟨i,hi,aa⟩:=List.getElem_of_mem he;have hx:aK g i=some e:=by simp [aK,gD',gE' hi,aa]
   obtain⟨e',l,a1,a2,_,_⟩:=A2 il h il g ht i e hx;rw [a1,(iF ht).1];exact aG.within_inv e' a2
theorem LE{f:FuncId}{F:bA A}(hF:aI.ok I P f F.spec):nI.ok I P f (GM F):=by
 intro args h r g ad V hR w aa hi hf hr
 have hD: ∃r',pT F.spec args h=some r'/\r'.v=r.v/\r'.new=[]/\r.new=[]/\r.upd=[]/\hupd h r'.upd=h/\(r.obl->r'.obl):=by
  unfold GM at g;simp only at g;split at g
  case isFalse=>cases g
  rename_i hg;split at g
  ·cases g
  rename_i h0 ht;split at g
  ·cases g
  rename_i p v ho;split at g
  case isFalse=>cases g
  rename_i hv;simp only [sI']at g;subst g;obtain⟨af,ai⟩:=Bool.and_eq_true_iff.1 hg;obtain⟨ae,ah⟩:=f8 af;obtain⟨ac,ag⟩:=iF ht;have hw:=sZ ht ae;refine⟨{v:=v.ren (iota (foot args h) h.length),upd:=o0 (iota (foot args h) h.length) (foot args h) h0,new:=[],foot:=foot args h,need:=some (p/\True) },?_,rfl,rfl,rfl,rfl,sV (pl:=[]) _ ht,fun hp=>⟨hp,trivial⟩⟩;unfold pT;simp only [hg,if_true,ht,bA.spec,ho,Out.det];rw [List.drop_eq_nil_of_le (by omega),BL]
  simp only;rw [hw,ac,hv];simp [onp]
 obtain⟨r',e1,e2,e3,e4,e5,e6,e7⟩:=hD;have:=sI hF args h r' e1 (e7 ad) V hR w aa hi (by rw [e3];rw [e4]at hf;exact hf) hr
 refine this.mono ?_;rintro e w' ⟨v',V',k1,k2,k3,k4,k5,k6⟩;refine⟨v',V',k1,by rw [<-e2];exact k2,k3,by rw [e4];rw [e3]at k4;exact k4,?_,k6⟩
 have ha:r'.apply h=r.apply h:=by
  unfold ORes.apply;rw [e6,e3,e4,e5];rfl
 rw [<-ha];exact k5
def Env.addR(E:Env A P)(f:FuncId)(F:bA A)(h:aI.ok E.I P f F.spec):Env A P where
 I:=E.I
 cps:=fun g=>if g=f then some (nP F.spec)else E.cps g
 det:=fun g=>if g=f then some (GM F)else E.det g
 meth:=E.meth
 cpsOk:=by
  intro g T hg
  by_cases e:g=f
  ·rw [if_pos e]at hg;cases hg;rw [e];exact kA h
  ·rw [if_neg e]at hg;exact E.cpsOk g T hg
 detOk:=by
  intro g T hg
  by_cases e:g=f
  ·rw [if_pos e]at hg;cases hg;rw [e];exact LE h
  ·rw [if_neg e]at hg;exact E.detOk g T hg
 methOk:=E.methOk
 row:=E.row
 rowOk:=E.rowOk
 fld:=E.fld
 fldOk:=E.fldOk
end
end Go.Sh
namespace Go.Sh
open Go
inductive Shp where
 | code (c:Code1)
 | str
 | ints (c:Code1)
 | rows (r:List Shp)
mutual
def Den:Shp->Type
 | .code _=>Int
 | .str =>ByteArray
 | .ints _=>List Int
 | .rows r=>List (DenL r)
def DenL:List Shp->Type
 | []=>Unit
 | s::r=>Den s×DenL r
end
mutual
def dfl:(s:Shp)->Den s
 | .code _=>(0:Int)
 | .str =>ByteArray.empty
 | .ints _=>([]:List Int)
 | .rows r=>([]:List (DenL r))
def X1:(r:List Shp)->DenL r
 | []=>()
 | s::r=>(dfl s,X1 r)
end
mutual
def toA:(s:Shp)->Den s->AVal
 | .code c,n=>Code1.aval c n
 | .str,s=>.str s
 | .ints c,xs=>.iview c xs
 | .rows r,xs=>.view (List.length (α:=DenL r) xs) r.length (fun i=>jL r (List.getD (α:=DenL r) xs i (X1 r)))
def jL:(r:List Shp)->DenL r->List AVal
 | [],_=>[]
 | s::r,x=>toA s x.1::jL r x.2
end
def zT:Code1->Int->Prop
 | some k,n=>(Lit.int k n).wf =true
 | none,n=>n=0\/n=1
mutual
def okS:(s:Shp)->Den s->Prop
 | .code c,n=>zT c n
 | .str,s=>ByteArray.size s<=maxLen
 | .ints c,xs=>List.length (α:=Int) xs<=maxLen/\ ∀x:Int,List.Mem x xs->zT c x
 | .rows r,xs=>List.length (α:=DenL r) xs<=maxLen/\ ∀x:DenL r,List.Mem x xs->OC r x
def OC:(r:List Shp)->DenL r->Prop
 | [],_=>True
 | s::r,x=>okS s x.1/\OC r x.2
end
def kG(P:Program)(rec:TypeId->Option (List Shp)):Nat->List Field->Option (List Shp)
 | _,[]=>some []
 | off,f::fs=>match rec f.type with
   | some r=>if f.offset=off/\P.cellsOf f.type=r.length then(kG P rec (off+r.length) fs).map (r++ ·)else none
   | none=>none
def UT(P:Program):Nat->TypeId->Option (List Shp)
 | 0,_=>none
 | d+1,t=>match P.underlying t with
   | some .bool =>some [.code none]
   | some (.int k)=>some [.code (some k)]
   | some .string =>some [.str]
   | some (.slice e)=>match UT P d e with
     | some [.code c]=>if P.cellsOf e=1 then some [.ints c]else none
     | some r=>if P.cellsOf e=r.length/\0<r.length then some [.rows r]else none
     | none=>none
   | some (.struct fs)=>match kG P (UT P d) 0 fs.toList with
     | some r=>if P.cellsOf t=r.length then some r else none
     | none=>none
   | some (.array n e)=>match UT P d e with
     | some r=>if P.cellsOf e=r.length/\P.cellsOf t=n*r.length then some ((List.replicate n r).flatten)else none
     | none=>none
   | _=>none
theorem tV: ∀(r:List Shp) (x:DenL r),(jL r x).length =r.length
 | [],_=>rfl
 | s::r,x=>by show(toA s x.1::jL r x.2).length =_;simp [tV r x.2]
def K4:(r q:List Shp)->DenL r->DenL q->DenL (r++q)
 | [],_,_,y=>y
 | _::r,q,x,y=>(x.1,K4 r q x.2 y)
theorem wV: ∀(r q:List Shp) (x:DenL r) (y:DenL q),jL (r++q) (K4 r q x y)=jL r x++jL q y
 | [],_,_,_=>rfl
 | s::r,q,x,y=>by
   show toA s x.1::jL (r++q) (K4 r q x.2 y)=toA s x.1::(jL r x.2++jL q y);rw [wV r q]
theorem AM: ∀(r q:List Shp) (x:DenL r) (y:DenL q),OC r x->OC q y->OC (r++q) (K4 r q x y)
 | [],_,_,_,_,h=>h
 | s::r,q,x,y,hx,hy=>⟨hx.1,AM r q x.2 y hx.2 hy⟩
theorem nS{α:Type}{p:Nat->α->Prop} : ∀(n:Nat),(∀i,i<n-> ∃x,p i x)-> ∃l:List α,l.length=n/\ ∀i (h:i<l.length),p i l[i]
 | 0,_=>⟨[],rfl,fun i h=>by simp at h⟩
 | n+1,h=>by
   obtain⟨l,h1,h2⟩:=nS n (fun i hi=>h i (by omega))
   obtain⟨x,hx⟩:=h n (by omega)
   refine⟨l++ [x],by simp [h1],?_⟩
   intro i hi
   by_cases hc:i<l.length
   ·rw [List.getElem_append_left hc];exact h2 i hc
   ·have:i=n:=by simp at hi;omega
    subst this;rw [List.getElem_append_right (by omega)]
    simpa [h1]using hx
section
variable {H:Type} {enc:TypeId×Value->H} {P:Program} {w:World}
theorem add_zero(a:Addr):a.add 0=a:=by simp [Addr.add]
theorem xU(a:Addr)(n:Nat):(a.add n).block =a.block:=by unfold Addr.add;split<;>rfl
theorem I5(a:Addr)(n:Nat):(a.add n).off =a.off+n:=by
 unfold Addr.add;split<;>simp_all
theorem rS{a:Addr}{n:Nat}{cs:List Value}(h:w.cells? 0 a n=some cs)(hn:0<n):
 ∃c T fz,a.spot=none/\w.heap[a.block]? =some (.cells c T fz)/\(c.toList.drop a.off).take n=cs:=by
 obtain⟨_,hl,hc⟩:=World.cells?_some h;have h0:=hc 0 hn;obtain⟨v0,g⟩: ∃v,cs[0]? =some v:=⟨cs[0],gE' (by omega)⟩
 rw [g]at h0;have aa:a.add 0=a:=by simp [Addr.add]
 rw [aa]at h0;have hs:=World.cell?_spot h0;obtain⟨b,off,sp⟩:=a;simp only at hs;subst hs;unfold World.cell? at h0;split at h0
 ·rename_i c T fz hb;refine⟨c,T,fz,rfl,hb,?_⟩;apply List.ext_getElem?;intro j;rw [List.getElem?_take]
  by_cases hj:j<n
  ·rw [if_pos hj,List.getElem?_drop,<-hc j hj,Addr.add_lit,Array.getElem?_toList];exact(cell_of_row w b (off+j) c T fz hb).symm
  ·rw [if_neg hj,List.getElem?_eq_none (by omega)]
 ·cases h0
theorem QR{V:Val} [Con]{r:List Shp}{x:DenL r}{c:Code1}{cs:List Value}(hr:r=[.code c])(h:aH V (jL r x) cs)(ho:OC r x): ∃n,cs=[Code1.val c n]/\zT c n:=by
 subst hr;obtain⟨v,vs,rfl,h1,h2⟩:=h;have aa:vs=[]:=h2;subst aa;refine⟨x.1,?_,ho.1⟩;have g:Rep V (Code1.aval c x.1) v:=h1;cases c with
 | some k=>have:v=.int k x.1:=g;rw [this];rfl
 | none=>have:v=Code1.val none x.1:=g;rw [this]
theorem pJ [Con]{rec:TypeId->Option (List Shp)}{cs:List Value}{rd:TypeId->List Value->Prop}
 (hrec: ∀t r l,rec t=some r->rd t l-> ∃x:DenL r,OC r x/\aH (fun _=>none) (jL r x) l):
 ∀(fs:List Field) (off:Nat) (r:List Shp),kG P rec off fs=some r->off+r.length<=cs.length->(∀f∈fs,rd f.type ((cs.drop f.offset).take (P.cellsOf f.type)))->
  ∃x:DenL r,OC r x/\aH (fun _=>none) (jL r x) ((cs.drop off).take r.length)
 | [],off,r,h,_,_=>by
   simp [kG]at h;subst h;exact⟨(),trivial,by simp [jL,aH]⟩
 | f::fs,off,r,h,hl,hrd=>by
   simp only [kG]at h;cases hf:rec f.type with
   | none=>rw [hf]at h;cases h
   | some q=>
     rw [hf]at h;simp only at h;split at h
     ·rename_i hc;obtain⟨ho,hq⟩:=hc;cases hfs:kG P rec (off+q.length) fs with
      | none=>rw [hfs]at h;cases h
      | some r'=>
        rw [hfs]at h;simp at h;subst h;rw [List.length_append]at hl;obtain⟨x,ox,rx⟩:=hrec f.type q _ hf (hrd f (by simp))
        obtain⟨y,oy,ry⟩:=pJ hrec fs _ r' hfs (by omega) (fun g hg=>hrd g (by simp [hg]))
        refine⟨K4 q r' x y,AM q r' x y ox oy,?_⟩;rw [wV,List.length_append,List.take_add,List.drop_drop];rw [ho,hq]at rx;exact aH.append rx ry
     ·cases h
theorem qZ [Con]{P':List Value->Prop}{r:List Shp}(hr: ∀l,P' l-> ∃x:DenL r,OC r x/\aH (fun _=>none) (jL r x) l):
 ∀(n:Nat) (cs:List Value),cs.length=n*r.length->(∀i,i<n->P' ((cs.drop (i*r.length)).take r.length))->
  ∃x:DenL ((List.replicate n r).flatten),OC _ x/\aH (fun _=>none) (jL _ x) cs
 | 0,cs,hl,_=>by
   have:cs=[]:=List.length_eq_zero_iff.1 (by omega)
   subst this;exact⟨(),trivial,by simp [jL,aH]⟩
 | n+1,cs,hl,h=>by
   obtain⟨x,ox,rx⟩:=hr _ (h 0 (by omega))
   rw [Nat.zero_mul,List.drop_zero]at rx
   obtain⟨y,oy,ry⟩:=qZ hr n (cs.drop r.length) (by rw [List.length_drop,hl,Nat.succ_mul];omega) (by
    intro i hi;have:=h (i+1) (by omega)
    rw [List.drop_drop];rw [show r.length+i*r.length=(i+1)*r.length from by rw [Nat.succ_mul];omega]
    exact this)
   refine⟨K4 r _ x y,AM r _ x y ox oy,?_⟩;show aH _ (jL (r++(List.replicate n r).flatten) _) cs;rw [wV];have:=aH.append rx ry
   rwa [List.take_append_drop]at this
theorem VB [Con](hcon: ∀b o,w.heap[b]? =some o->Con.con b=some o): ∀(m n:Nat) (t:TypeId) (cs:List Value) (x:DataW H×List MemPlace) (held:Bool) (r:List Shp),
 DataW.trod enc P w 0 (fun _=>true) held n t cs=some x->UT P m t=some r-> ∃x:DenL r,OC r x/\aH (fun _=>none) (jL r x) cs:=by
 intro m
 induction m with
 | zero=>intro n t cs x held r _ h;simp [UT]at h
 | succ m ih=>
   intro n t cs x held r h hs;unfold UT at hs;split at hs
   ·rename_i ht;obtain⟨b,rfl,_⟩:=DataW.trod_bool ht h;simp at hs;subst hs;refine⟨((cond b 1 0:Int),()),⟨?_,trivial⟩,?_⟩
    ·show(cond b 1 0:Int)=0\/(cond b 1 0:Int)=1;cases b<;>simp
    ·refine⟨.bool b,[],rfl,?_,rfl⟩;show Value.bool b=.bool ((cond b 1 0:Int) !=0);cases b<;>rfl
   ·rename_i k ht;obtain⟨v,rfl,_,hw⟩:=DataW.trod_int ht h;simp at hs;subst hs;exact⟨(v,()),⟨hw,trivial⟩,.int k v,[],rfl,rfl,rfl⟩
   ·rename_i ht;obtain⟨s,rfl,_,hw⟩:=DataW.trod_string ht h;simp at hs;subst hs;exact⟨(s,()),⟨hw,trivial⟩,.string s,[],rfl,rfl,rfl⟩
   ·rename_i e ht;have sl:=DataW.trod_slice ht h;split at hs
    ·rename_i c he;split at hs
     case isFalse=>cases hs
     rename_i ac;simp at hs;subst hs;rcases sl with⟨rfl,_⟩ | ⟨a,len,cap,ae,rest,k,_,rfl,_,_,h1,h2,h3,h4,_⟩
     ·refine⟨(([]:List Int),()),⟨⟨Nat.zero_le _,fun x h=>by cases h⟩,trivial⟩,.slice none 0 0,[],rfl,?_,rfl⟩
      exact⟨none,0,rfl,Nat.le_refl _,.inr rfl⟩
     ·have ad: ∀i,i<len-> ∃v:Int,zT c v/\ ∃c' T fz,(i=0->a.spot=none)/\w.heap[a.block]? =some (.cells c' T fz)/\(c'.toList.drop (a.off+i)).take 1=[Code1.val c v]:=by
       intro i hi;have hb:=h4 i hi;rw [ac,Nat.mul_one]at hb;cases hc:w.cells? 0 (a.add i) 1 with
       | none=>rw [hc,gE' (by omega)]at hb;cases hb
       | some l=>
         rw [hc,gE' (by omega)]at hb
         simp only [Option.bind_some]at hb;obtain⟨y,oy,ry⟩:=ih k e l _ held [.code c] hb he;obtain⟨v,rfl,hv⟩:=QR rfl ry oy;obtain⟨c',T,fz,g,q2,q3⟩:=rS hc (by omega)
         have e1:(a.add i).block =a.block:=xU a _;rw [e1]at q2;have e2:(a.add i).off =a.off+i:=I5 a i;rw [e2]at q3;exact⟨v,hv,c',T,fz,fun h0=>by subst h0;rw [add_zero]at g;exact g,q2,q3⟩
      obtain⟨xs,aa,hx⟩:=nS len ad;refine⟨(xs,()),⟨⟨by show xs.length<=_;omega,?_⟩,trivial⟩,.slice (some a) len cap,[],rfl,?_,rfl⟩
      ·intro v hv;obtain⟨i,hi,rfl⟩:=List.getElem_of_mem hv;exact(hx i hi).1
      ·show Rep _ (.iview c xs) _;refine⟨some a,cap,by rw [aa],by rw [aa];exact h1,?_⟩
       by_cases h0:len=0
       ·right;exact List.length_eq_zero_iff.1 (by omega)
       ·left;obtain⟨_,c',T,fz,g,q2,_⟩:=hx 0 (by omega)
        obtain⟨b,off,sp⟩:=a;simp only at g q2;have g:=g trivial;subst g;refine⟨b,off,c',T,fz,rfl,hcon _ _ q2,(c'.toList.drop off).drop len,?_⟩
        have:xs.map (Code1.val c)=(c'.toList.drop off).take len:=by
         apply List.ext_getElem?;intro i;rw [List.getElem?_map,List.getElem?_take]
         by_cases hi:i<len
         ·rw [if_pos hi,gE' (by omega)]
          obtain⟨_,c2,T2,ah,_,p2,p3⟩:=hx i (by omega)
          simp only at p2 p3;rw [q2]at p2;simp only [sI',Obj.cells.injEq]at p2;obtain⟨rfl,_⟩:=p2;have:=congrArg (fun l=>l[0]?) p3;simp only [List.getElem?_take,List.getElem?_drop]at this;rw [List.getElem?_drop]
          simpa using this.symm
         ·rw [if_neg hi,List.getElem?_eq_none (by omega)];rfl
        rw [this,List.take_append_drop]
    ·rename_i q hq he;split at hs
     case isFalse=>cases hs
     rename_i ac;simp at hs;subst hs;rcases sl with⟨rfl,_⟩ | ⟨a,len,cap,ae,rest,k,_,rfl,_,_,h1,h2,h3,h4,_⟩
     ·refine⟨(([]:List (DenL q)),()),⟨⟨Nat.zero_le _,fun x h=>by cases h⟩,trivial⟩,.slice none 0 0,[],rfl,?_,rfl⟩
      exact⟨none,0,rfl,Nat.le_refl _,.inr rfl⟩
     ·have ad: ∀i,i<len-> ∃y:DenL q,OC q y/\ ∃c' T fz,(i=0->a.spot=none)/\w.heap[a.block]? =some (.cells c' T fz)/\aH (fun _=>none) (jL q y) ((c'.toList.drop (a.off+i*q.length)).take q.length):=by
       intro i hi;have hb:=h4 i hi;rw [ac.1]at hb;cases hc:w.cells? 0 (a.add (i*q.length)) q.length with
       | none=>rw [hc,gE' (by omega)]at hb;cases hb
       | some l=>
         rw [hc,gE' (by omega)]at hb
         simp only [Option.bind_some]at hb;obtain⟨y,oy,ry⟩:=ih k e l _ held q hb he;obtain⟨c',T,fz,g,q2,q3⟩:=rS hc ac.2;have e1:(a.add (i*q.length)).block =a.block:=xU a _;rw [e1]at q2;have e2:(a.add (i*q.length)).off =a.off+i*q.length:=I5 a _;rw [e2]at q3;exact⟨y,oy,c',T,fz,fun h0=>by subst h0;rw [Nat.zero_mul,add_zero]at g;exact g,q2,by rw [q3];exact ry⟩
      obtain⟨xs,aa,hx⟩:=nS len ad;refine⟨(xs,()),⟨⟨by show xs.length<=_;omega,?_⟩,trivial⟩,.slice (some a) len cap,[],rfl,?_,rfl⟩
      ·intro v hv;obtain⟨i,hi,rfl⟩:=List.getElem_of_mem hv;exact(hx i hi).1
      ·show Rep _ (.view xs.length q.length fun i=>jL q (xs.getD i (X1 q))) _;refine⟨some a,cap,by rw [aa],by rw [aa];exact h1,?_⟩
       by_cases h0:len=0
       ·right;omega
       ·left;obtain⟨_,c',T,fz,g,q2,_⟩:=hx 0 (by omega)
        obtain⟨b,off,sp⟩:=a;simp only at g q2;have g:=g trivial;subst g;refine⟨b,off,c',T,fz,rfl,hcon _ _ q2,?_⟩;intro i hi;refine⟨tV _ _,?_⟩;show aH _ (jL q (xs.getD i (X1 q))) _;rw [gD',gE' hi];obtain⟨_,c2,T2,ah,_,p2,p3⟩:=hx i hi;simp only at p2 p3;rw [q2]at p2;simp only [sI',Obj.cells.injEq]at p2;obtain⟨rfl,_⟩:=p2;exact p3
    ·cases hs
   ·rename_i fs ht;split at hs
    ·rename_i q hq;split at hs
     case isFalse=>cases hs
     rename_i ai;simp at hs;subst hs;obtain⟨xs,k,_,_,hl,aa,hf⟩:=DataW.trod_struct ht h
     obtain⟨y,oy,ry⟩:=pJ (P:=P) (cs:=cs) (rec:=UT P m) (rd:=fun t l=> ∃z,DataW.trod enc P w 0 (fun _=>true) held k t l=some z)
      (fun t r l ht' ⟨z,hz⟩=>ih k t l z held r hz ht') fs.toList 0 q hq (by omega) (by
        intro f ag;obtain⟨i,hi,rfl⟩:=List.getElem_of_mem ag;have af:i<fs.size:=by simpa using hi
        have:=hf i fs[i] (Array.getElem?_eq_getElem af);rw [gE' (by omega)]at this
        exact⟨_,by simpa using this⟩)
     refine⟨y,oy,?_⟩;rw [List.drop_zero,List.take_of_length_le (by omega)]at ry
     exact ry
    ·cases hs
   ·rename_i k e ht;split at hs
    ·rename_i q hq;split at hs
     case isFalse=>cases hs
     rename_i ac;simp at hs;subst hs;obtain⟨xs,j,_,_,hl,aa,hf⟩:=DataW.trod_array ht h;refine qZ (P':=fun l=> ∃z,DataW.trod enc P w 0 (fun _=>true) held j e l=some z) (r:=q) (fun l ⟨z,hz⟩=>ih j e l z held q hz hq) k cs (by omega) ?_
     intro i hi;have:=hf i hi;rw [ac.1,gE' (by omega)]at this
     exact⟨_,this⟩
    ·cases hs
   ·cases hs
end
end Go.Sh
namespace Go.Sh
open Go Go.ChangeShapes Go.RowKit
def u7(P:Program):List TypeId->Option (List (Bool×List Shp))
 | []=>some []
 | t::ts=>match eA P t,UT P 40 t,u7 P ts with
   | some b,some r,some l=>if b=true\/r.length=1 then some ((b,r)::l)else none
   | _,_,_=>none
def DenA:List (Bool×List Shp)->Type
 | []=>Unit
 | (_,r)::l=>DenL r×DenA l
def s8:(l:List (Bool×List Shp))->DenA l->List AVal
 | [],_=>[]
 | (true,r)::l,x=>.agg (jL r x.1)::s8 l x.2
 | (false,r)::l,x=>(jL r x.1).headD .O ::s8 l x.2
def okA:(l:List (Bool×List Shp))->DenA l->Prop
 | [],_=>True
 | (_,r)::l,x=>OC r x.1/\okA l x.2
section
variable {H:Type} {enc:TypeId×Value->H} {P:Program} {w:World}
theorem AY{t:TypeId}{v:Value}{base:Nat}(hb:eA P t=some false)(ho:Value.okWide P w .any base t v)(hs: ∃m r,UT P m t=some r):v.cells= #[v]:=by
 obtain⟨m,r,hs⟩:=hs;cases m with
 | zero=>simp [UT]at hs
 | succ m=>
   unfold UT at hs;unfold eA at hb;unfold Value.okWide at ho;cases hu:P.underlying t with
   | none=>rw [hu]at hs;cases hs
   | some d=>
     rw [hu]at ho hb hs;cases v with
     | agg cs=>
       exfalso;cases d<;>simp at hb hs<;>simp [Cell.okWide,hu,Cell.ok]at ho
     | _=>rfl
theorem BX [Con](hcon: ∀b o,w.heap[b]? =some o->Con.con b=some o){base:Nat} : ∀(ts:List TypeId) (vs:List Value) (ds:List (DataW H)) (ps:List MemPlace) (l:List (Bool×List Shp)),
 DataW.TrodAll enc P w 0 (fun _=>true) true ts vs ds ps->(∀(j:Nat) t v,ts[j]? =some t->vs[j]? =some v->Value.okWide P w .any base t v)->u7 P ts=some l->
 ∃x:DenA l,okA l x/\aH (fun _=>none) (s8 l x) vs
 | [],vs,ds,ps,l,h,_,hl=>by
   obtain⟨rfl,rfl,rfl⟩:=trodAll_nil h;simp [u7]at hl;subst hl;exact⟨(),trivial,by simp [s8,aH]⟩
 | t::ts,vs,ds,ps,l,h,hv,hl=>by
   obtain⟨v,vs',d,ds',p,q,rfl,rfl,rfl,h1,h2⟩:=trodAll_cons h;simp only [u7]at hl;split at hl
   ·rename_i b r l' hb hr hl';split at hl
    case isFalse=>cases hl
    rename_i hc;simp at hl;subst hl;obtain⟨y,oy,ry⟩:=BX hcon ts vs' ds' q l' h2 (fun j t v a b=>hv (j+1) t v (by simpa using a) (by simpa using b)) hl'
    obtain⟨n,hn⟩:=h1;obtain⟨x,ox,rx⟩:=VB hcon 40 n t _ _ true r hn hr;have hok:=hv 0 t v rfl rfl;cases b with
    | true=>
      refine⟨(x,y),⟨ox,oy⟩,v,vs',rfl,?_,ry⟩
      have: ∃cs,v=.agg cs:=by
       unfold Value.okWide at hok;unfold eA at hb;cases hu:P.underlying t with
       | none=>rw [hu]at hb;cases hb
       | some d=>
         rw [hu]at hok hb;cases d<;>simp at hb<;>(obtain⟨cs,e,_⟩:=hok;exact⟨cs,e⟩)
      obtain⟨cs,rfl⟩:=this;exact⟨cs,rfl,rx⟩
    | false=>
      refine⟨(x,y),⟨ox,oy⟩,v,vs',rfl,?_,ry⟩;rw [AY hb hok ⟨40,r,hr⟩]at rx;have g:r.length=1:=by simpa using hc
      show Rep _ ((jL r x).headD .O) v
      match r,g,x,rx with
      | [s],_,x,rx=>
        obtain⟨u,us,e,r1,_⟩:=rx;simp only [lI']at e;rw [e.1];exact r1
   ·cases hl
theorem pK{W W':World}(hl:laidOutB P=true){sp:Nat->Bool} : ∀(ts:List TypeId) (vs:List Value) (ds:List (DataW H)) (ps:List MemPlace),
 (∀t∈ts,P.readableRec t=true/\t<P.types.size)->DataW.TrodAll enc P W 0 (fun _=>true) true ts vs ds ps->(∀p∈ps,W.sameAt W' p)->(∀p∈ps,sp p.block=true)->DataW.TrodAll enc P W' 0 sp true ts vs ds ps
 | [],vs,ds,ps,_,h,_,_=>by
   obtain⟨rfl,rfl,rfl⟩:=trodAll_nil h;exact trodAll_mk0
 | t::ts,vs,ds,ps,ht,h,hs,hp=>by
   obtain⟨v,vs',d,ds',p,q,rfl,rfl,rfl,h1,h2⟩:=trodAll_cons h
   exact trodAll_cons_mk (WideElems.Trod_stays hl (ht t (by simp)).1 (ht t (by simp)).2 h1 (fun x hx=>hs x (by simp [hx])) (fun x hx=>hp x (by simp [hx])))
    (pK hl ts vs' ds' q (fun u hu=>ht u (by simp [hu])) h2 (fun x hx=>hs x (by simp [hx])) (fun x hx=>hp x (by simp [hx])))
theorem oK{w:World}{sp:Nat->Bool}{b:Nat}{hd:Bool} : ∀(ts:List TypeId) (vs:List Value) (ds:List (DataW H)) (ps:List MemPlace),DataW.TrodAll enc P w b sp hd ts vs ds ps->ds.length=ts.length
 | [],vs,ds,ps,h=>by obtain⟨rfl,rfl,rfl⟩:=trodAll_nil h;rfl
 | t::ts,vs,ds,ps,h=>by
   obtain⟨v,vs',d,ds',p,q,rfl,rfl,rfl,h1,h2⟩:=trodAll_cons h;simp [oK ts vs' ds' q h2]
abbrev aMd(W:World):Con:=⟨fun b=>W.heap[b]?⟩
theorem OO{f:Func}{s:ChangeSpec}{apart fresh handsOn again:Bool}{W W':World}{args:Array Value}{v:Value}{ds gs:List (DataW H)}{before pa pv:List MemPlace}
 (hW:DataW.Whole enc P f.params.toList s.vars apart W args.toList ds gs before)
 (h1: ∀(b:Nat) (sp:Nat->Bool) (hd:Bool),DataW.TrodAll enc P W' b sp hd f.resultTypes.toList (v.resultList f.resultTypes.size) (s.fn H (ds++gs)).results [])
 (h2: ∀sp:Nat->Bool,(∀p∈before,sp p.block=true)->DataW.TrodAll enc P W' 0 sp true f.params.toList args.toList (s.fn H (ds++gs)).args pa)
 (h3: ∀sp:Nat->Bool,(∀p∈before,sp p.block=true)->DataW.TrodVars enc P W' sp s.vars (s.fn H (ds++gs)).vars pv)
 (hb:before=pa++pv) (hk:W.keptBut W' (· ∈before)) (hz: ∀a:Addr,a.block<W.heap.size->W'.frozen? a=W.frozen? a)
 (ho: ∀(j:Nat) (t:TypeId) (r:Value),f.resultTypes[j]? =some t->(v.resultList f.resultTypes.size)[j]? =some r->Value.okWide P W' .any 0 t r):
 s.post enc P f apart fresh handsOn again W args v W':=by
 have lt: ∀p∈before,p.block<W.heap.size:=fun p hp=>hW.lt p hp;refine⟨ds,gs,before,[],pa,pv,hW,h1 _ _ _,h2 _ (fun p hp=>by simpa using lt p hp),h3 _ (fun p hp=>by simpa using lt p hp),World.keptBut_mono (fun p hp=>⟨hp,.inr (List.mem_append.1 (hb▸hp))⟩) hk,fun _=>⟨ho,_,_,([]++pa)++pv,⟨[]++pa,pv,trodAll_append (h2 _ (fun _ _=>rfl)) (h1 _ _ _),h3 _ (fun _ _=>rfl),rfl,?_,?_⟩,?_⟩⟩
 ·intro b off hp;have g:MemPlace.cell b off∈before:=by rw [hb];simpa using hp
  obtain⟨_,_,_,_,_,q,_⟩:=hW;rw [hz _ (lt _ g)];exact q b off g
 ·intro ha;obtain⟨_,_,_,_,_,_,q⟩:=hW;have:=q ha;rw [hb]at this
  simpa using this
 ·intro p hp _;rw [hb]
  simpa using hp
theorem S4{A:Type}{F:Func}{f:FuncId}{s:ChangeSpec}{tb:TypeId}{l:List (Bool×List Shp)}(hl:laidOutB P=true)
 (hpar:F.params.toList.all (fun t=>P.readableRec t&&decide (t<P.types.size))=true) (hsh:u7 P F.params.toList=some l) (hv:s.vars=[]) (hres:F.resultTypes= #[tb]) (htb:P.underlying tb=some .bool)
 (hfn: ∀ds:List (DataW H),ds.length=F.params.toList.length->s.fn H ds= {results:=[.lit (.bool true)],args:=ds})
 (law: ∀W0:World,∃I:Itp A,∀x:DenA l,okA l x-> @aA (aMd W0) A I P f (s8 l x) ([]:aB A) (fun v _=>v=.bool true))
 (W:World) (base:Nat) (args:Array Value) (ds gs:List (DataW H)) (before:List MemPlace)
 (hval: ∀(j:Nat) t v,F.params[j]? =some t->args[j]? =some v->Value.okWide P W .any base t v)
 (hW:DataW.Whole enc P F.params.toList s.vars false W args.toList ds gs before):
 Calls P f args W fun e W'=> ∃v,e=.returned v/\s.post enc P F false true false false W args v W':=by
 have hW':=hW;obtain⟨p,q,hA,hV,rfl,aj,ai⟩:=hW;rw [hv]at hV;obtain⟨rfl,rfl⟩:=trodVars_none hV;obtain⟨I,hI⟩:=law W
 letI:Con:=aMd W
 obtain⟨x,ox,rx⟩:=BX (enc:=enc) (P:=P) (w:=W) (base:=base) (fun b o h=>h) F.params.toList args.toList ds p l hA (fun j t v a b=>hval j t v (by simpa using a) (by simpa using b)) hsh
 have ae:=oK _ _ _ _ hA;refine(aA.law (hI x ox) rx W (fun b o h=>h)).mono ?_;rintro e W' ⟨rfl,hg⟩
 have aa: ∀p'∈p,W.sameAt W' p':=by
  intro p' hp;have g:p'.block<W.heap.size:=hW'.lt p' (by simpa using hp)
  have hk:=hg.1.2.2 p'.block g;cases p' with
  | cell b off=>
    show W'.cell? ⟨b,off,none⟩=W.cell? ⟨b,off,none⟩;simp only [MemPlace.block]at hk g;unfold World.cell?;simp only;cases h1:W.heap[b]? with
    | none=>rw [Array.getElem?_eq_getElem g]at h1;cases h1
    | some o=>
      rw [h1]at hk;cases h2:W'.heap[b]? with
      | none=>rw [h2]at hk;cases o<;>simp at hk
      | some o'=>
        rw [h2]at hk;cases o<;>cases o'<;>simp at hk<;>first | rfl | skip
        rename_i c t fr c' t' ah;obtain⟨_,_,af,hc⟩:=hk;exact hc off
  | map b=>
    show W'.heap[b]? =W.heap[b]?;simp only [MemPlace.block]at hk g;cases h1:W.heap[b]? with
    | none=>rw [Array.getElem?_eq_getElem g]at h1;cases h1
    | some o=>
      rw [h1]at hk;cases h2:W'.heap[b]? with
      | none=>rw [h2]at hk;cases o<;>simp at hk
      | some o'=>
        rw [h2]at hk;cases o<;>cases o'<;>simp at hk<;>first | (simp_all;done) | skip
        rename_i c t fr c' t' ah;obtain⟨rfl,rfl,af,hc⟩:=hk
        have:c=c':=by
         apply Array.ext_getElem?;intro i;exact(hc i).symm
        rw [this]
 have ac: ∀t∈F.params.toList,P.readableRec t=true/\t<P.types.size:=by
  intro t ht;have:=List.all_eq_true.1 hpar t ht
  simpa using this
 have ad:s.fn H (ds++ [])= {results:=[.lit (.bool true)],args:=ds} :=by rw [List.append_nil];exact hfn ds ae
 refine⟨_,rfl,OO (pa:=p) (pv:=[]) hW' ?_ ?_ ?_ rfl (World.keptBut_mono (fun _ h=>h.elim) hg.1) hg.2.1 ?_⟩
 ·intro b sp hd;rw [ad,hres];exact trodAll_cons_mk (shut_bool htb _) trodAll_mk0
 ·intro sp ag;rw [ad];exact pK hl _ _ _ _ ac hA aa (fun p' hp=>ag p' (by simpa using hp))
 ·intro sp _;rw [ad,hv];rfl
 ·exact ok_one hres rfl (okWide_bool_mk htb _)
end
end Go.Sh
namespace Go.Sh
open Go
variable [Con] {A:Type} (tb:A->Nat×aB A)
structure sB (I:Itp A) (V:Val) (h:aY A) (hs:Nat->PHeap):Prop where
 ent: ∀l e,h l=some e->e.interp I V l (hs l)
 non: ∀l,h l=none->hs l=.emp
 dis: ∀l m,l≠m->(hs l).disj (hs m)
def obN:Nat->Itp A
 | 0,_,_,_,_=>False
 | n+1,t,r,bs,p=> ∃V hs,V 0=some r/\(∀i,i<(tb t).1->V (1+i)=bs[i]?)/\bs.length=(tb t).1/\sB (obN n) V (toF (tb t).2) hs/\p=aLd hs
def obI:Itp A:=fun t r bs p=> ∃n,obN tb n t r bs p
theorem aLv{I I':Itp A}(hI: ∀t r bs p,I t r bs p->I' t r bs p){V:Val}{l:Nat}{e:aG A}{p:PHeap}(h:e.interp I V l p):e.interp I' V l p:=by
 cases e with
 | abs t ps=>
   obtain⟨b,k,h1,bs,h2,h3⟩:=h;exact⟨b,k,h1,bs,h2,hI _ _ _ _ h3⟩
 | cells vs=>exact h
 | ints c xs=>exact h
 | tab ks rows=>exact h
 | imap kk vc m=>exact h
 | iter lm kk vc m left cur=>exact h
theorem sB.mono_I{I I':Itp A}(hI: ∀t r bs p,I t r bs p->I' t r bs p){V:Val}{h:aY A}{hs:Nat->PHeap}(q:sB I V h hs):sB I' V h hs:=
 ⟨fun l e he=>aLv hI (q.ent l e he),q.non,q.dis⟩
theorem D8: ∀(n:Nat) (t:A) (r:Nat×Nat) (bs:List (Nat×Nat)) (p:PHeap),obN tb n t r bs p->obN tb (n+1) t r bs p
 | 0,_,_,_,_,h=>h.elim
 | n+1,t,r,bs,p,⟨V,hs,h1,h2,h3,h4,h5⟩=>⟨V,hs,h1,h2,h3,h4.mono_I (D8 n),h5⟩
theorem oA{n m:Nat}(hnm:n<=m){t:A}{r:Nat×Nat}{bs:List (Nat×Nat)}{p:PHeap}(h:obN tb n t r bs p):obN tb m t r bs p:=by
 induction hnm with
 | refl=>exact h
 | step _ ih=>exact D8 tb _ _ _ _ _ ih
theorem B8{V:Val}{hs:Nat->PHeap} : ∀(g:aB A) (k:Nat),(∀l e,aK g l=some e->e.interp (obI tb) V (k+l) (hs (k+l)))-> ∃n,∀l e,aK g l=some e->e.interp (obN tb n) V (k+l) (hs (k+l))
 | [],k,_=>⟨0,fun l e h=>by simp [aK]at h⟩
 | x::g,k,h=>by
   obtain⟨n,hn⟩:=B8 g (k+1) (fun l e he=>by
    have:=h (l+1) e (by simpa [aK]using he)
    rw [show k+(l+1)=k+1+l from by omega]at this
    exact this)
   have h0: ∃m,∀e,x=some e->e.interp (obN tb m) V k (hs k):=by
    cases x with
    | none=>exact⟨0,fun e he=>by cases he⟩
    | some e=>
      have:=h 0 e rfl;cases e with
      | abs t ps=>
        obtain⟨b,q,h1,bs,h2,m,h3⟩:=this;exact⟨m,fun e he=>by cases he;exact⟨b,q,h1,bs,h2,h3⟩⟩
      | cells vs=>exact⟨0,fun e he=>by cases he;exact this⟩
      | ints c xs=>exact⟨0,fun e he=>by cases he;exact this⟩
      | tab ks rows=>exact⟨0,fun e he=>by cases he;exact this⟩
      | imap kk vc mm=>exact⟨0,fun e he=>by cases he;exact this⟩
      | iter lm kk vc mm left cur=>exact⟨0,fun e he=>by cases he;exact this⟩
   obtain⟨m,hm⟩:=h0;refine⟨max n m,fun l e he=>?_⟩;cases l with
   | zero=>
     have hx:x=some e:=by simpa [aK]using he
     exact aLv (fun t r bs p=>oA tb (Nat.le_max_right n m)) (hm e hx)
   | succ l=>
     have:=aLv (fun t r bs p=>oA tb (Nat.le_max_left n m)) (hn l e (by simpa [aK]using he))
     rw [show k+1+l=k+(l+1)from by omega]at this
     exact this
theorem aL7{I:Itp A}{V V':Val}{pl:List Nat}(hV: ∀l,pl.elem l=true->V l=V' l){l:Nat}{e:aG A}{p:PHeap}(q1:V l=V' l)(q2:e.within pl=true)(hi:e.interp I V l p):e.interp I V' l p:=by
 cases e with
 | cells vs=>
   obtain⟨b,k,hl,cs,T,e1,g,rs,tail,e3,r⟩:=hi;exact⟨b,k,by rw [<-q1];exact hl,cs,T,e1,g,rs,tail,e3,aLw hV _ _ q2 r⟩
 | ints c xs=>
   rcases hi with⟨e1,g,b,hl⟩ | ⟨b,k,hl,r⟩
   ·exact .inl ⟨e1,g,b,by rw [<-q1];exact hl⟩
   ·exact .inr ⟨b,k,by rw [<-q1];exact hl,r⟩
 | abs t ps=>
   obtain⟨b,k,hl,bs,hb,r⟩:=hi;exact⟨b,k,by rw [<-q1];exact hl,bs,fX.congr (fun m hm=>hV m (sD q2 m hm)) hb,r⟩
 | tab ks rows=>
   rcases hi with⟨e1,g,b,hl⟩ | ⟨b,k,hl,r⟩
   ·exact .inl ⟨e1,g,b,by rw [<-q1];exact hl⟩
   ·exact .inr ⟨b,k,by rw [<-q1];exact hl,r⟩
 | imap kk vc m=>
   obtain⟨b,k,hl,r⟩:=hi;exact⟨b,k,by rw [<-q1];exact hl,r⟩
 | iter lm kk vc m left cur=>
   obtain⟨b,k,hl,bm,km,hm,r⟩:=hi;exact⟨b,k,by rw [<-q1];exact hl,bm,km,by rw [<-hV lm q2];exact hm,r⟩
theorem kB{n l:Nat} :(upto 0 n).elem l=true↔l<n:=by rw [gW];omega
theorem fX.len{V:Val} : ∀ {ls:List Nat} {bs:List (Nat×Nat)},fX V ls bs->bs.length=ls.length
 | [],_,e=>by rw [e];rfl
 | _::_,_,⟨x,r,h1,h2,h3⟩=>by rw [h2];simp [fX.len h3]
theorem fX.get{V:Val} : ∀ {ls:List Nat} {bs:List (Nat×Nat)},fX V ls bs-> ∀i,i<ls.length->V (ls.getD i 0)=bs[i]?
 | [],_,_,i,hi=>by cases hi
 | l::ls,_,⟨x,r,h1,h2,h3⟩,i,hi=>by
   subst h2;cases i with
   | zero=>simpa using h1
   | succ i=>simpa using fX.get h3 i (by simpa using hi)
theorem fX.mk{V:Val} : ∀ {ls:List Nat},(∀l∈ls,∃x,V l=some x)-> ∃bs,fX V ls bs
 | [],_=>⟨[],rfl⟩
 | l::ls,h=>by
   obtain⟨x,hx⟩:=h l List.mem_cons_self;obtain⟨r,hr⟩:=fX.mk (fun m hm=>h m (List.mem_cons_of_mem _ hm));exact⟨x::r,x,r,hx,rfl,hr⟩
def unI(l:Nat)(ps:List Nat)(n np:Nat)(i:Nat):Nat:=match i with
 | 0=>l
 | j+1=>if j<np then ps.getD j 0 else n+(j - np)
def aP(h:aB A)(l np:Nat)(g:aB A)(ps:List Nat):aB A:=
 h.set l ((aK g 0).map (aG.ren (unI l ps h.length np)))++(g.drop (1+np)).map (Option.map (aG.ren (unI l ps h.length np)))
theorem gD(h:aB A)(l np:Nat)(g:aB A)(ps:List Nat):(aP h l np g ps).length =h.length+(g.length - (1+np)):=by
 unfold aP;simp
def obOk(np:Nat)(g:aB A):Bool:=dB g.length g&&Nat.ble (1+np) g.length&&(g.drop 1 |>.take np).all (·.isNone)&&(aK g 0).isSome
theorem yK{np:Nat}{g:aB A}(h:obOk np g=true):dB g.length g=true/\1+np<=g.length/\(∀i,i<np->aK g (1+i)=none)/\ ∃e,aK g 0=some e:=by
 unfold obOk at h;simp only [Bool.and_eq_true]at h;obtain⟨⟨⟨h1,h2⟩,h3⟩,h4⟩:=h;refine⟨h1,Nat.le_of_ble_eq_true h2,?_,Option.isSome_iff_exists.1 h4⟩;intro i hi;have aa:=Nat.le_of_ble_eq_true h2;rw [List.all_eq_true]at h3
 have hx:=h3 (aK g (1+i)) (by
  rw [List.mem_iff_getElem?];refine⟨i,?_⟩;rw [List.getElem?_take,if_pos hi,List.getElem?_drop];simp only [aK,gD'];rw [gE' (by omega)]
  rfl)
 simpa using hx
theorem y9{g:aB A}(h:dB g.length g=true){l:Nat}{e:aG A}(he:aK g l=some e):e.within (upto 0 g.length)=true:=by
 unfold dB at h;rw [List.all_eq_true]at h;simp only [aK,gD']at he
 have hl:l<g.length:=by
  cases Nat.lt_or_ge l g.length with
  | inl q=>exact q
  | inr q=>rw [List.getElem?_eq_none q]at he;cases he
 rw [gE' hl]at he;have:=h (g[l]) (List.getElem_mem hl);simp only [Option.getD_some]at he;rw [he]at this;exact this
theorem m9{h:aB A}{l np:Nat}{g:aB A}{ps:List Nat}(hl:l<h.length):aK (aP h l np g ps) l=(aK g 0).map (aG.ren (unI l ps h.length np)):=by
 unfold aP;rw [cG (by simpa using hl)]
 simp only [aK,gD'];rw [List.getElem?_set_self hl];rfl
theorem fU{h:aB A}{l np:Nat}{g:aB A}{ps:List Nat}{m:Nat}(hm:m<h.length)(hlm:m≠l):aK (aP h l np g ps) m=aK h m:=by
 unfold aP;rw [cG (by simpa using hm)]
 simp only [aK,gD'];rw [List.getElem?_set_ne (fun e=>hlm e.symm)]
theorem lT{h:aB A}{l np:Nat}{g:aB A}{ps:List Nat}{j:Nat} :aK (aP h l np g ps) (h.length+j)=(aK g (1+np+j)).map (aG.ren (unI l ps h.length np)):=by
 unfold aP;simp only [aK,gD'];rw [List.getElem?_append_right (by simp),List.length_set,List.getElem?_map,List.getElem?_drop,Nat.add_sub_cancel_left]
 cases g[1+np+j]? <;>rfl
theorem Inv.unpack{V:Val}{h:aB A}{hR:PHeap}{w:World}{t:A}{l np:Nat}{g:aB A}{ps:List Nat}(hi:Inv (obI tb) V (toF h) hR w)(hf:bO V h.length)(hl:aK h l=some (.abs t ps))(ht:tb t=(np,g))(ho:obOk np g=true)(hnp:ps.length=np):
 ∃V',V.le V'/\bO V' (aP h l np g ps).length /\Inv (obI tb) V' (toF (aP h l np g ps)) hR w:=by
 obtain⟨o1,o2,o3,e0,o4⟩:=yK ho;have ar:=cD hl;obtain⟨hs,h1,h2,h3,h4,h5,h6⟩:=hi;obtain⟨b,k,hV,bs,ap,n,ak⟩:=h1 l _ hl;cases n with
 | zero=>exact ak.elim
 | succ n=>
 obtain⟨Vg,gs,g1,g2,g3,⟨g4,g5,g6⟩,g7⟩:=ak;rw [ht]at g2 g3 g4 g5;dsimp only at g2 g3 g4 g5
 let V':Val:=fun m=>if m<h.length then V m else if m<(aP h l np g ps).length then Vg (m - h.length+1+np)else none
 have aq:=gD h l np g ps
 have ah:V.le V':=by
  intro m x hm
  have ao:m<h.length:=by
   cases Nat.lt_or_ge m h.length with
   | inl q=>exact q
   | inr q=>rw [hf m q]at hm;cases hm
  show(if m<h.length then V m else _)=some x
  rw [if_pos ao];exact hm
 have hVι: ∀i,(upto 0 g.length).elem i=true->Vg i=V' (unI l ps h.length np i):=by
  intro i hi;rw [kB]at hi;cases i with
  | zero=>
    show _=V' l;rw [ah l _ hV];exact g1
  | succ j=>
    show _=V' (if j<np then ps.getD j 0 else h.length+(j - np))
    by_cases hj:j<np
    ·rw [if_pos hj];have hg:=ap.get j (by omega)
     have am:j<bs.length:=by omega
     rw [gE' am]at hg;rw [ah _ _ hg,Nat.add_comm,g2 j hj,gE' am]
    ·rw [if_neg hj];show _=if h.length+(j - np)<h.length then _ else _
     rw [if_neg (by omega),if_pos (by omega)]
     congr 1;omega
 have ai: ∀i e,aK g i=some e->(e.ren (unI l ps h.length np)).interp (obI tb) V' (unI l ps h.length np i) (gs i):=by
  intro i e he;refine aG.interp_ren.2 ?_;have q1:=aLv (I':=(obI tb)) (fun t r bs p hh=>⟨n,hh⟩) (g4 i e he);exact aL7 hVι (hVι i (kB.2 (cD he))) (y9 o1 he) q1
 have ae: ∀i b' o,gs i b'=some o->hs l b'=some o:=by
  intro i b' o hh;rw [g7];exact aLt g6 hh
 let hs':Nat->PHeap:=fun m=>if m<h.length then(if m=l then gs 0 else hs m)else gs (m - h.length+1+np)
 refine⟨V',ah,?_,hs',?_,?_,?_,?_,?_,h6⟩
 ·intro m hm;show(if m<h.length then _ else _)=none
  rw [if_neg (by omega),if_neg (by omega)]
 ·intro m e he
  by_cases hm:m<h.length
  ·by_cases ac:m=l
   ·subst ac;have aa:aK (aP h m np g ps) m=some e:=he;rw [m9 hm,o4]at aa;simp only [Option.map_some,sI']at aa;show e.interp (obI tb) V' m (if m<h.length then(if m=m then gs 0 else hs m)else _)
    rw [if_pos hm,if_pos rfl,<-aa];exact ai 0 e0 o4
   ·have aa:aK (aP h l np g ps) m=some e:=he;rw [fU hm ac]at aa;show e.interp (obI tb) V' m (if m<h.length then(if m=l then gs 0 else hs m)else _)
    rw [if_pos hm,if_neg ac];exact aLs ah (h1 m e aa)
  ·have aa:aK (aP h l np g ps) m=some e:=he;have aj:m=h.length+(m - h.length):=by omega
   rw [aj,lT]at aa;cases hq:aK g (1+np+(m - h.length))with
   | none=>rw [hq]at aa;cases aa
   | some e1=>
     rw [hq]at aa;simp only [Option.map_some,sI']at aa;have:=ai _ e1 hq;show e.interp (obI tb) V' m (if m<h.length then _ else gs (m - h.length+1+np))
     rw [if_neg hm,<-aa]
     have e3:unI l ps h.length np (1+np+(m - h.length))=m:=by
      have:1+np+(m - h.length)=(np+(m - h.length))+1:=by omega
      rw [this];show(if np+(m - h.length)<np then _ else h.length+(np+(m - h.length) - np))=m
      rw [if_neg (by omega)];omega
     rw [e3]at this;have e4:m - h.length+1+np=1+np+(m - h.length):=by omega
     rw [e4];exact this
 ·intro m he
  by_cases hm:m<h.length
  ·by_cases ac:m=l
   ·subst ac;have aa:aK (aP h m np g ps) m=none:=he;rw [m9 hm,o4]at aa;cases aa
   ·have aa:aK (aP h l np g ps) m=none:=he;rw [fU hm ac]at aa;show(if m<h.length then(if m=l then gs 0 else hs m)else _)=_
    rw [if_pos hm,if_neg ac];exact h2 m aa
  ·have aa:aK (aP h l np g ps) m=none:=he;have aj:m=h.length+(m - h.length):=by omega
   rw [aj,lT]at aa;show(if m<h.length then _ else gs (m - h.length+1+np))=_
   rw [if_neg hm];have e4:m - h.length+1+np=1+np+(m - h.length):=by omega
   rw [e4];refine g5 _ ?_;cases hq:aK g (1+np+(m - h.length))with
   | none=>exact hq
   | some e1=>rw [hq]at aa;cases aa
 ·intro m m' al;intro b';show(if m<h.length then(if m=l then gs 0 else hs m)else gs (m - h.length+1+np)) b'=none\/(if m'<h.length then(if m'=l then gs 0 else hs m')else gs (m' - h.length+1+np)) b'=none
  have out: ∀i m,m≠l->gs i b'=none\/hs m b'=none:=by
   intro i m ac;cases hq:gs i b' with
   | none=>exact .inl rfl
   | some o=>
     right;have:=ae i b' o hq;rcases h3 l m (fun e=>ac e.symm) b' with q | q
     ·rw [q]at this;cases this
     ·exact q
  by_cases hm:m<h.length
  ·by_cases ag:m'<h.length
   ·rw [if_pos hm,if_pos ag]
    by_cases ac:m=l
    ·have ad:m'≠l:=fun e=>al (ac.trans e.symm);rw [if_pos ac,if_neg ad];exact out 0 m' ad
    ·rw [if_neg ac]
     by_cases ad:m'=l
     ·rw [if_pos ad];exact(out 0 m ac).symm
     ·rw [if_neg ad];exact h3 m m' al b'
   ·rw [if_pos hm,if_neg ag]
    by_cases ac:m=l
    ·rw [if_pos ac];exact g6 0 _ (by omega) b'
    ·rw [if_neg ac];exact(out _ m ac).symm
  ·by_cases ag:m'<h.length
   ·rw [if_neg hm,if_pos ag]
    by_cases ad:m'=l
    ·rw [if_pos ad];exact g6 _ 0 (by omega) b'
    ·rw [if_neg ad];exact out _ m' ad
   ·rw [if_neg hm,if_neg ag];exact g6 _ _ (by omega) b'
 ·intro m b'
  have out: ∀i,gs i b'=none\/hR b'=none:=by
   intro i;cases hq:gs i b' with
   | none=>exact .inl rfl
   | some o=>
     right;have:=ae i b' o hq;rcases h4 l b' with q | q
     ·rw [q]at this;cases this
     ·exact q
  show(if m<h.length then(if m=l then gs 0 else hs m)else gs (m - h.length+1+np)) b'=none\/hR b'=none
  split
  ·split
   ·exact out 0
   ·exact h4 m b'
  ·exact out _
 ·intro m b' o hq;have af:(if m<h.length then(if m=l then gs 0 else hs m)else gs (m - h.length+1+np)) b'=some o:=hq
  split at af
  ·split at af
   ·exact h5 l b' o (ae 0 b' o af)
   ·exact h5 m b' o af
  ·exact h5 l b' o (ae _ b' o af)
def jK(h:aB A)(l:Nat)(ps:List Nat):Bool:=dB h.length h&&ps.all (fun p=>Nat.blt p h.length&& !Nat.beq p l&&(aK h p).isSome)
theorem Inv.pack{V:Val}{h:aB A}{hR:PHeap}{w:World}{t:A}{l np:Nat}{g:aB A}{ps:List Nat}(hi:Inv (obI tb) V (toF (aP h l np g ps)) hR w)(hl:aK h l=some (.abs t ps))(ht:tb t=(np,g))(ho:obOk np g=true)(hnp:ps.length=np)(hp:jK h l ps=true):
 Inv (obI tb) (fun m=>if m<h.length then V m else none) (toF h) hR w:=by
 obtain⟨o1,o2,o3,e0,o4⟩:=yK ho;have ao:=cD hl;unfold jK at hp;rw [Bool.and_eq_true,List.all_eq_true]at hp;obtain⟨p1,p2⟩:=hp;have ah: ∀m e,aK (aP h l np g ps) m=some e-> ∃x,V m=some x:=fun m e he=>hi.dom he;obtain⟨hs,h1,h2,h3,h4,h5,h6⟩:=hi;have ay:=gD h l np g ps
 have ak: ∀p∈ps,p<h.length/\p≠l/\ ∃x,V p=some x:=by
  intro p hp;have:=p2 p hp;simp only [Bool.and_eq_true,Bool.not_eq_true',Nat.blt_eq]at this;obtain⟨⟨q1,q2⟩,q3⟩:=this;have aj:p≠l:=by intro e;rw [e]at q2;simp at q2
  obtain⟨e,he⟩:=Option.isSome_iff_exists.1 q3;exact⟨q1,aj,ah p e (by rw [fU q1 aj];exact he)⟩
 have ax: ∃x,V l=some x:=ah l (e0.ren (unI l ps h.length np)) (by rw [m9 ao,o4];rfl)
 obtain⟨⟨b,k⟩,ap⟩:=ax;obtain⟨bs,ai⟩:=fX.mk (V:=V) (ls:=ps) (fun p hp=>(ak p hp).2.2)
 let gs:Nat->PHeap:=fun j=>match j with
  | 0=>hs l
  | i+1=>if i<np then .emp else hs (h.length+(i - np))
 have ag: ∀j,gs j=.emp \/ ∃m,(m=l\/h.length<=m)/\gs j=hs m:=by
  intro j;cases j with
  | zero=>exact .inr ⟨l,.inl rfl,rfl⟩
  | succ i=>
    show(if i<np then PHeap.emp else hs (h.length+(i - np)))=.emp \/_
    by_cases hi:i<np
    ·rw [if_pos hi];exact .inl rfl
    ·right;refine⟨h.length+(i - np),.inr (by omega),?_⟩
     show(if i<np then PHeap.emp else hs (h.length+(i - np)))=_
     rw [if_neg hi]
 have au: ∀i j,i≠j->(gs i).disj (gs j):=by
  intro i j av;cases i with
  | zero=>
    cases j with
    | zero=>exact(av rfl).elim
    | succ j=>
      show PHeap.disj (hs l) (if j<np then .emp else hs (h.length+(j - np)))
      split
      ·exact aLb _
      ·exact h3 _ _ (by omega)
  | succ i=>
    cases j with
    | zero=>
      show PHeap.disj (if i<np then .emp else hs (h.length+(i - np))) (hs l)
      split
      ·exact(aLb _).symm
      ·exact h3 _ _ (by omega)
    | succ j=>
      show PHeap.disj (if i<np then .emp else hs (h.length+(i - np))) (if j<np then .emp else hs (h.length+(j - np)))
      split
      ·exact(aLb _).symm
      ·split
       ·exact aLb _
       ·exact h3 _ _ (by omega)
 have ar: ∀i e,aK g i=some e->e.interp (obI tb) (fun i=>V (unI l ps h.length np i)) i (gs i):=by
  intro i e he;refine aG.interp_ren.1 ?_;cases i with
  | zero=>
    show(e.ren _).interp (obI tb) V l (hs l);exact h1 l _ (by show aK _ _=_;rw [m9 ao,he];rfl)
  | succ i=>
    have hi: ¬i<np:=by
     intro hi;have:=o3 i hi;rw [Nat.add_comm,he]at this;cases this
    have e3:unI l ps h.length np (i+1)=h.length+(i - np):=by
     show(if i<np then _ else _)=_
     rw [if_neg hi]
    show(e.ren _).interp (obI tb) V (unI l ps h.length np (i+1)) (if i<np then PHeap.emp else hs (h.length+(i - np)))
    rw [if_neg hi,e3];refine h1 _ _ ?_;show aK _ _=_;rw [lT];have:1+np+(i - np)=i+1:=by omega
    rw [this,he];rfl
 obtain⟨n,hn⟩:=B8 tb (hs:=gs) g 0 (by simpa using ar)
 have aq: ∀i,toF g i=none->gs i=.emp :=by
  intro i he;cases i with
  | zero=>have:aK g 0=none:=he;rw [o4]at this;cases this
  | succ i=>
    show(if i<np then PHeap.emp else hs (h.length+(i - np)))=.emp
    by_cases hi:i<np
    ·rw [if_pos hi]
    ·rw [if_neg hi];refine h2 _ ?_;show aK _ _=_;rw [lT];have:1+np+(i - np)=i+1:=by omega
     have ac:aK g (i+1)=none:=he;rw [this,ac];rfl
 have af: ∀b' o,aLd gs b'=some o-> ∃m,(m=l\/h.length<=m)/\hs m b'=some o:=by
  intro b' o hh;obtain⟨j,hj⟩:=aLr hh;rcases ag j with q | ⟨m,q1,q2⟩
  ·rw [q]at hj;cases hj
  ·exact⟨m,q1,by rw [<-q2];exact hj⟩
 have own: ∀m,m<h.length->(fun m=>if m<h.length then V m else none) m=V m:=fun m hm=>if_pos hm
 refine⟨fun m=>if m=l then aLd gs else if m<h.length then hs m else .emp,?_,?_,?_,?_,?_,h6⟩
 ·intro m e he;have hm:m<h.length:=cD he
  by_cases aa:m=l
  ·subst aa;have ac:aK h m=some e:=he;rw [hl]at ac;simp only [sI']at ac;subst ac;show aG.interp (obI tb) _ m _ (if m=m then aLd gs else _)
   rw [if_pos rfl];refine⟨b,k,by show(if m<h.length then V m else none)=_;rw [if_pos hm];exact ap,bs,ai.congr (fun p hp=>(own p (ak p hp).1).symm),n+1,?_⟩
   show∃V1 hs1,V1 0=some (b,k)/\(∀i,i<(tb t).1->V1 (1+i)=bs[i]?)/\bs.length=(tb t).1/\sB (obN tb n) V1 (toF (tb t).2) hs1/\aLd gs=aLd hs1;rw [ht];refine⟨(fun i=>V (unI m ps h.length np i)),gs,ap,?_,by rw [ai.len];exact hnp,⟨fun l e he=>by have:=hn l e he;simpa using this,aq,au⟩,rfl⟩
   intro i hi;have:=ai.get i (by omega)
   rw [<-this];show V (unI m ps h.length np (1+i))=_;rw [Nat.add_comm];show V (if i<np then _ else _)=_
   rw [if_pos hi]
  ·show e.interp (obI tb) _ m (if m=l then _ else if m<h.length then hs m else .emp)
   rw [if_neg aa,if_pos hm];have ac:aK h m=some e:=he;refine aL7 (pl:=upto 0 h.length) (V:=V) (fun i hi=>(own i (kB.1 hi)).symm) (own m hm).symm (y9 p1 ac) ?_;exact h1 m e (by show aK _ _=_;rw [fU hm aa];exact ac)
 ·intro m he;have ac:aK h m=none:=he
  by_cases aa:m=l
  ·subst aa;rw [hl]at ac;cases ac
  ·show(if m=l then _ else if m<h.length then hs m else .emp)=_
   rw [if_neg aa]
   by_cases hm:m<h.length
   ·rw [if_pos hm];exact h2 m (by show aK _ _=_;rw [fU hm aa];exact ac)
   ·rw [if_neg hm]
 ·intro m m' al b';show(if m=l then aLd gs else if m<h.length then hs m else .emp) b'=none\/(if m'=l then aLd gs else if m'<h.length then hs m' else .emp) b'=none
  have out: ∀m,m≠l->aLd gs b'=none\/(if m<h.length then hs m else PHeap.emp) b'=none:=by
   intro m aa
   by_cases hm:m<h.length
   ·rw [if_pos hm];cases hq:aLd gs b' with
    | none=>exact .inl rfl
    | some o=>
      right;obtain⟨m2,q1,q2⟩:=af b' o hq;rcases h3 m2 m (by rcases q1 with q | q<;>omega) b' with q | q
      ·rw [q]at q2;cases q2
      ·exact q
   ·rw [if_neg hm];exact .inr rfl
  by_cases aa:m=l
  ·have ad:m'≠l:=fun e=>al (aa.trans e.symm);rw [if_pos aa,if_neg ad];exact out m' ad
  ·rw [if_neg aa]
   by_cases ad:m'=l
   ·rw [if_pos ad];exact(out m aa).symm
   ·rw [if_neg ad]
    by_cases hm:m<h.length
    ·rw [if_pos hm]
     by_cases am:m'<h.length
     ·rw [if_pos am];exact h3 m m' al b'
     ·rw [if_neg am];exact .inr rfl
    ·rw [if_neg hm];exact .inl rfl
 ·intro m b';show(if m=l then aLd gs else if m<h.length then hs m else .emp) b'=none\/hR b'=none
  by_cases aa:m=l
  ·rw [if_pos aa];cases hq:aLd gs b' with
   | none=>exact .inl rfl
   | some o=>
     right;obtain⟨m2,q1,q2⟩:=af b' o hq;rcases h4 m2 b' with q | q
     ·rw [q]at q2;cases q2
     ·exact q
  ·rw [if_neg aa]
   by_cases hm:m<h.length
   ·rw [if_pos hm];exact h4 m b'
   ·rw [if_neg hm];exact .inl rfl
 ·intro m b' o hq;have ae:(if m=l then aLd gs else if m<h.length then hs m else .emp) b'=some o:=hq
  by_cases aa:m=l
  ·rw [if_pos aa]at ae;obtain⟨m2,q1,q2⟩:=af b' o ae;exact h5 m2 b' o q2
  ·rw [if_neg aa]at ae
   by_cases hm:m<h.length
   ·rw [if_pos hm]at ae;exact h5 m b' o ae
   ·rw [if_neg hm]at ae;cases ae
variable {P:Program}
theorem aA.unpack{f:FuncId}{args:List AVal}{h:aB A}{K:AVal->aB A->Prop}(t:A)(l np:Nat)(g:aB A)(ps:List Nat)(hl:aK h l=some (.abs t ps))(ht:tb t=(np,g))(ho:obOk np g=true)(hnp:ps.length=np)
 (h0:aA (obI tb) P f args (aP h l np g ps) K):aA (obI tb) P f args h K:=by
 intro V hR w aa hi hf hr;obtain⟨V1,v1,v2,v3⟩:=hi.unpack tb hf hl ht ho hnp;refine(h0 V1 hR w aa v3 v2 (aH.mono v1 _ _ hr)).mono ?_;rintro e w' ⟨v,v',V',h',k1,k2,k3,k4,k5,k6,k7,k8⟩;exact⟨v,v',V',h',k1,k2,k3,Val.le_trans v1 k4,k5,Nat.le_trans (by rw [gD];omega) k6,k7,k8⟩
structure BG (n:Nat) (K:AVal->aB A->Prop) (v:AVal) (g':aB A):Prop where
 ex: ∃(pl:List Nat) (h2:aB A) (t:A) (l np:Nat) (g:aB A) (ps:List Nat),(dU pl g'.length&&gZ pl 0 n&&Nat.ble n h2.length&&obOk np g&&jK h2 l ps&&(lC pl v).within (upto 0 h2.length)&&Nat.beq ps.length np)=true/\fT pl g'=aP h2 l np g ps/\tb t=(np,g)/\aK h2 l=some (.abs t ps)/\K (lC pl v) h2
theorem aA.pack{f:FuncId}{args:List AVal}{h:aB A}{K:AVal->aB A->Prop}(h0:aA (obI tb) P f args h (BG tb h.length K)):aA (obI tb) P f args h K:=by
 intro V hR w aa hi hf hr;refine(h0 V hR w aa hi hf hr).mono ?_;rintro e w' ⟨v,v',V',g',⟨pl,h2,t,l,np,g,ps,hb,hT,ht,hl,hK⟩,k2,k3,k4,k5,k6,k7,k8⟩;simp only [Bool.and_eq_true]at hb;obtain⟨⟨⟨⟨⟨⟨b1,b2⟩,b3⟩,b4⟩,b5⟩,b6⟩,b7⟩:=hb;obtain⟨e1,e2⟩:=mU b2;have hp:=oJ (h:=g') b1;have ac:=k7.pick hp;rw [hT]at ac;have ae:=ac.pack tb hl ht b4 (Nat.eq_of_beq_eq_true b7) b5;have hn:h.length<=h2.length:=Nat.le_of_ble_eq_true b3;refine⟨lC pl v,v',_,h2,hK,k2,?_,?_,?_,hn,ae,k8⟩
 ·have:=oZ (n:=g'.length) (pl:=pl) k3
  exact aLG (pl:=upto 0 h2.length) (fun i hi=>by
   show _=if i<h2.length then _ else none
   rw [if_pos (kB.1 hi)]) _ _ b6 this
 ·intro m x hm
  have ad:m<h.length:=by
   cases Nat.lt_or_ge m h.length with
   | inl q=>exact q
   | inr q=>rw [hf m q]at hm;cases hm
  show(if m<h2.length then V' (lab pl g'.length m)else none)=some x
  rw [if_pos (by omega)]
  have:lab pl g'.length m=m:=by unfold lab;rw [e2 m ad];simp
  rw [this];exact k4 m x hm
 ·intro m hm;show(if m<h2.length then _ else none)=none
  rw [if_neg (by omega)]
def farI(n k i:Nat):Nat:=if i<n then i else i+k
def G4(n k:Nat)(g:aB A):aB A:=(g.take n).map (Option.map (aG.ren (farI n k)))++List.replicate k none++(g.drop n).map (Option.map (aG.ren (farI n k)))
theorem RY{n k:Nat}{g:aB A}(hn:n<=g.length)(i:Nat):aK (G4 n k g) (farI n k i)=(aK g i).map (aG.ren (farI n k)):=by
 have hl:((g.take n).map (Option.map (aG.ren (farI n k)))).length =n:=by rw [List.length_map,List.length_take];omega
 unfold G4 aK;simp only [gD']
 by_cases hi:i<n
 ·have e:farI n k i=i:=if_pos hi;rw [e,List.append_assoc,List.getElem?_append_left (by rw [hl];exact hi),List.getElem?_map,List.getElem?_take,if_pos hi]
  rw [gE' (by omega)]
  rfl
 ·have e:farI n k i=i+k:=if_neg hi;rw [e,List.getElem?_append_right (by rw [List.length_append,hl,List.length_replicate];omega),List.getElem?_map,List.getElem?_drop]
  have e2:n+(i+k - ((g.take n).map (Option.map (aG.ren (farI n k)))++List.replicate k (none:Option (aG A))).length)=i:=by
   rw [List.length_append,hl,List.length_replicate];omega
  rw [e2];cases g[i]? <;>rfl
theorem C1{n k:Nat}{g:aB A}(hn:n<=g.length):(G4 n k g).length =g.length+k:=by
 unfold G4;rw [List.length_append,List.length_append,List.length_map,List.length_take,List.length_replicate,List.length_map,List.length_drop];omega
theorem MM{n k:Nat}{g:aB A}(hn:n<=g.length){m:Nat}(h1:n<=m)(h2:m<n+k):aK (G4 n k g) m=none:=by
 have hl:((g.take n).map (Option.map (aG.ren (farI n k)))).length =n:=by rw [List.length_map,List.length_take];omega
 unfold G4 aK;simp only [gD'];rw [List.append_assoc,List.getElem?_append_right (by rw [hl];exact h1),hl,List.getElem?_append_left (by rw [List.length_replicate];omega),List.getElem?_replicate,if_pos (by omega)]
 rfl
theorem RZ{n k:Nat} : ∀i j,farI n k i=farI n k j->i=j:=by
 intro i j h;unfold farI at h;split at h<;>split at h<;>omega
theorem aA.shut{f:FuncId}{args:List AVal}{h':aB A}{K:AVal->aB A->Prop}(h:aB A)(t:A)(l np:Nat)(g:aB A)(ps:List Nat)(he:h'=aP h l np g ps)(hl:aK h l=some (.abs t ps))(ht:tb t=(np,g))
 (hb:(obOk np g&&jK h l ps&&aLe (upto 0 h.length) args&&Nat.beq ps.length np)=true)
 (h0:aA (obI tb) P f args h (fun v g2=>K (v.ren (farI h.length (h'.length - h.length))) (G4 h.length (h'.length - h.length) g2))):aA (obI tb) P f args h' K:=by
 subst he;simp only [Bool.and_eq_true]at hb;obtain⟨⟨⟨b1,b2⟩,b3⟩,b4⟩:=hb;have ag:=gD h l np g ps;generalize hk:(aP h l np g ps).length - h.length=k at h0;intro V hR w aa hi hf hr;have ae:=hi.pack tb hl ht b1 (Nat.eq_of_beq_eq_true b4) b2
 have af:bO (fun m=>if m<h.length then V m else none) h.length:=by
  intro m hm;show(if m<h.length then _ else none)=none
  rw [if_neg (by omega)]
 have ad:aH (fun m=>if m<h.length then V m else none) args aa.toList:=aLw (pl:=upto 0 h.length) (fun i hi=>by
  show _=if i<h.length then _ else none
  rw [if_pos (kB.1 hi)]) _ _ b3 hr
 refine(h0 _ hR w aa ae af ad).mono ?_;rintro e w' ⟨v,v',V',g2,hK,k2,k3,k4,k5,k6,k7,k8⟩
 let V1:Val:=fun m=>if m<h.length then V' m else if m<h.length+k then V m else V' (m - k)
 have ac:(fun i=>V1 (farI h.length k i))=V':=by
  funext i;show(if farI h.length k i<h.length then _ else _)=_
  by_cases hi:i<h.length
  ·have e:farI h.length k i=i:=if_pos hi;rw [e,if_pos hi]
  ·have e:farI h.length k i=i+k:=if_neg hi;rw [e,if_neg (by omega),if_neg (by omega),Nat.add_sub_cancel]
 refine⟨_,v',V1,_,hK,k2,?_,?_,?_,?_,?_,k8⟩
 ·refine(Rep.ren _ _).2 ?_;rw [ac];exact k3
 ·intro m x hm;show(if m<h.length then _ else _)=some x
  by_cases h1:m<h.length
  ·rw [if_pos h1];exact k4 m x (by show(if m<h.length then V m else none)=some x;rw [if_pos h1];exact hm)
  ·rw [if_neg h1]
   have h2:m<h.length+k:=by
    cases Nat.lt_or_ge m (h.length+k)with
    | inl q=>exact q
    | inr q=>rw [hf m (by omega)]at hm;cases hm
   rw [if_pos h2];exact hm
 ·intro m hm;rw [C1 k6]at hm;show(if m<h.length then _ else _)=none
  rw [if_neg (by omega),if_neg (by omega)]
  exact k5 _ (by omega)
 ·rw [C1 k6];omega
 ·refine(aLE (ι:=farI h.length k) (h0:=toF g2) RZ (fun i=>RY k6 i) ?_).2 (by rw [ac];exact k7)
  intro m hm
  by_cases h1:m<h.length
  ·exact(hm m (if_pos h1)).elim
  ·by_cases h2:m<h.length+k
   ·exact MM k6 (by omega) h2
   ·refine(hm (m - k) ?_).elim;show(if m - k<h.length then _ else _)=m
    rw [if_neg (by omega)];omega
end Go.Sh
namespace Go.Sh
open Go
variable [Con] {A:Type} {P:Program}
def oL:List AVal->List AVal->Prop
 | [],[]=>True
 | v::vs,w::ws=>(w=v\/w=.O)/\oL vs ws
 | _,_=>False
theorem y0{V:Val} : ∀ {vs ws:List AVal} {xs:List Value},oL vs ws->aH V vs xs->aH V ws xs
 | [],[],_,_,r=>r
 | v::vs,w::ws,_,⟨h,h2⟩,⟨x,xs,e,r,r2⟩=>⟨x,xs,e,by rcases h with rfl | rfl;exact r;exact trivial,y0 h2 r2⟩
def pL:Option (aG A)->Option (aG A)->Prop
 | _,none=>True
 | some (.cells vs),some (.cells ws)=>oL vs ws
 | x,y=>x=y
def mG:aB A->aB A->Prop
 | [],[]=>True
 | x::g,y::g2=>pL x y/\mG g g2
 | _,_=>False
theorem mH: ∀ {g g2:aB A},mG g g2->g2.length=g.length
 | [],[],_=>rfl
 | x::g,y::g2,h=>by simp [mH h.2]
theorem yZ: ∀ {g g2:aB A},mG g g2-> ∀l,pL (aK g l) (aK g2 l)
 | [],[],_,l=>by simp [aK,pL]
 | x::g,y::g2,h,0=>by simpa [aK]using h.1
 | x::g,y::g2,h,l+1=>by
   have:=yZ h.2 l
   simpa [aK]using this
theorem Inv.weak{I:Itp A}{V:Val}{g g2:aB A}{hR:PHeap}{w:World}(hw:mG g g2)(hi:Inv I V (toF g) hR w):Inv I V (toF g2) hR w:=by
 classical
 obtain⟨hs,h1,h2,h3,h4,h5,h6⟩:=hi;refine⟨fun l=>if aK g2 l=none then .emp else hs l,?_,?_,?_,?_,?_,h6⟩
 ·intro l e he;have aa:aK g2 l=some e:=he;have hq:=yZ hw l;rw [aa]at hq;show e.interp I V l (if aK g2 l=none then PHeap.emp else hs l)
  rw [if_neg (by rw [aa];simp)]
  cases hg:aK g l with
  | none=>rw [hg]at hq;cases e<;>cases hq
  | some e1=>
    rw [hg]at hq;have ac:=h1 l e1 hg;cases e1 with
    | cells vs=>
      cases e with
      | cells ws=>
        obtain⟨b,k,q1,cs,T,q2,q3,rs,tail,q4,q5⟩:=ac;exact⟨b,k,q1,cs,T,q2,q3,rs,tail,q4,y0 hq q5⟩
      | _=>simp [pL]at hq
    | _=>
      simp only [pL,sI']at hq;subst hq;exact ac
 ·intro l he;have aa:aK g2 l=none:=he;show(if aK g2 l=none then PHeap.emp else hs l)=_
  rw [if_pos aa]
 ·intro l m ad;show PHeap.disj (if aK g2 l=none then .emp else hs l) (if aK g2 m=none then .emp else hs m)
  split
  ·exact(aLb _).symm
  ·split
   ·exact aLb _
   ·exact h3 l m ad
 ·intro l;show PHeap.disj (if aK g2 l=none then .emp else hs l) hR
  split
  ·exact(aLb _).symm
  ·exact h4 l
 ·intro l;show PHeap.sub (if aK g2 l=none then .emp else hs l) w
  split
  ·exact aLy _
  ·exact h5 l
structure PN (K:AVal->aB A->Prop) (v:AVal) (g:aB A):Prop where
 ex: ∃g2,mG g g2/\K v g2
theorem aA.less{I:Itp A}{f:FuncId}{args:List AVal}{h:aB A}{K:AVal->aB A->Prop}(h0:aA I P f args h (PN K)):aA I P f args h K:=by
 intro V hR w g hi hf hr;refine(h0 V hR w g hi hf hr).mono ?_;rintro e w' ⟨v,v',V',g',⟨g2,hw,hK⟩,k2,k3,k4,k5,k6,k7,k8⟩;exact⟨v,v',V',g2,hK,k2,k3,k4,by rw [mH hw];exact k5,by rw [mH hw];exact k6,k7.weak hw,k8⟩
end Go.Sh
namespace Go.Sh
open Go
variable [Con] {A:Type} {P:Program}
theorem aLo{I:Itp A}(n:Nat)(v:AVal)(g:aB A):aE I n v g v g:=fun V hR w x h1 h2 h3 h4=>⟨V,fun _ _ _ h=>h,h2,h3,h4,h1⟩
theorem aE.trans{I:Itp A}{n:Nat}{v v2 v3:AVal}{g g2 g3:aB A}(a:aE I n v g v2 g2)(b:aE I n v2 g2 v3 g3):aE I n v g v3 g3:=by
 intro V hR w x h1 h2 h3 h4;obtain⟨V1,a1,a2,a3,a4,a5⟩:=a V hR w x h1 h2 h3 h4;obtain⟨V2,b1,b2,b3,b4,b5⟩:=b V1 hR w x a5 a2 a3 a4;exact⟨V2,fun l y hl hy=>b1 l y hl (a1 l y hl hy),b2,b3,b4,b5⟩
theorem aE.weak{I:Itp A}{n:Nat}{v:AVal}{g g2:aB A}(h:mG g g2):aE I n v g v g2:=fun V hR w x h1 h2 h3 h4=>⟨V,fun _ _ _ h=>h,by rw [mH h];exact h2,by rw [mH h];exact h3,h4,h1.weak h⟩
theorem aE.pick{I:Itp A}{n:Nat}{v:AVal}{g:aB A}(pl:List Nat)(h:(dU pl g.length&&gZ pl 0 n)=true):aE I n v g (lC pl v) (fT pl g):=by
 intro V hR w x h1 h2 h3 h4;obtain⟨q1,q2⟩:=Bool.and_eq_true_iff.1 h;obtain⟨p1,p2,p3,p4⟩:=uS.elim q1 q2 h1 h2;exact⟨_,fun l y hl hy=>(p1 l hl).trans hy,p2,p3,oZ h4,p4⟩
theorem aE.unpack{tb:A->Nat×aB A}{n:Nat}{v:AVal}{g:aB A}(t:A)(l np:Nat)(e:aB A)(ps:List Nat)(hl:aK g l=some (.abs t ps))(ht:tb t=(np,e))(ho:obOk np e=true)(hnp:ps.length=np):aE (obI tb) n v g v (aP g l np e ps):=by
 intro V hR w x h1 h2 h3 h4;obtain⟨V1,v1,v2,v3⟩:=h1.unpack tb h2 hl ht ho hnp;exact⟨V1,fun l y _ hy=>v1 l y hy,v2,by rw [gD];omega,Rep.mono v1 _ _ h4,v3⟩
theorem aE.pack{tb:A->Nat×aB A}{n:Nat}{v:AVal}{g:aB A}(h2:aB A)(t:A)(l np:Nat)(e:aB A)(ps:List Nat)(hg:g=aP h2 l np e ps)(hl:aK h2 l=some (.abs t ps))(ht:tb t=(np,e))
 (hb:(Nat.ble n h2.length&&obOk np e&&jK h2 l ps&&v.within (upto 0 h2.length)&&Nat.beq ps.length np)=true):aE (obI tb) n v g v h2:=by
 subst hg;simp only [Bool.and_eq_true]at hb;obtain⟨⟨⟨⟨b3,b4⟩,b5⟩,b6⟩,b7⟩:=hb;have hn:n<=h2.length:=Nat.le_of_ble_eq_true b3;intro V hR w x h1 hf h3 h4;refine⟨_,?_,?_,hn,?_,h1.pack tb hl ht b4 (Nat.eq_of_beq_eq_true b7) b5⟩
 ·intro m y hm hy;show(if m<h2.length then V m else none)=some y
  rw [if_pos (by omega)];exact hy
 ·intro m hm;show(if m<h2.length then _ else none)=none
  rw [if_neg (by omega)]
 ·exact aLG (pl:=upto 0 h2.length) (fun i hi=>by
   show _=if i<h2.length then _ else none
   rw [if_pos (kB.1 hi)]) _ _ b6 h4
theorem aLh{I:Itp A}{n:Nat}{v v2:AVal}{g g2:aB A}(h1:v=v2)(h2:g=g2):aE I n v g v2 g2:=by subst h1 h2;exact aLo _ _ _
structure cQ (I:Itp A) (n:Nat) (K:AVal->aB A->Prop) (v:AVal) (g:aB A):Prop where
 ex: ∃v2 g2,aE I n v g v2 g2/\K v2 g2
theorem aLi{I:Itp A}{f:FuncId}{args:List AVal}{h:aB A}{K:AVal->aB A->Prop}(h0:aA I P f args h (cQ I h.length K)):aA I P f args h K:=by
 intro V hR w g hi hf hr;refine(h0 V hR w g hi hf hr).mono ?_;rintro e w' ⟨v,v',V',g',⟨v2,g2,ht,hK⟩,k2,k3,k4,k5,k6,k7,k8⟩;obtain⟨V1,a1,a2,a3,a4,a5⟩:=ht V' hR w' v' k7 k5 k6 k3;refine⟨v2,v',V1,g2,hK,k2,a4,?_,a2,a3,a5,k8⟩;intro l y hl
 have aa:l<h.length:=by
  cases Nat.lt_or_ge l h.length with
  | inl q=>exact q
  | inr q=>rw [hf l q]at hl;cases hl
 exact a1 l y aa (k4 l y hl)
inductive Tr (X:Type) where
 | ret (x:X)
 | ite (b:Bool) (l r:Tr X)
 | pre (p:Prop) (t:Tr X)
def Tr.run{X:Type} :Tr X->(X->Prop)->Prop
 | .ret x,K=>K x
 | .ite b l r,K=>cond b (l.run K) (r.run K)
 | .pre p t,K=>p/\t.run K
def Tr.val{X:Type} :Tr X->X
 | .ret x=>x
 | .ite b l r=>bif b then l.val else r.val
 | .pre _ t=>t.val
def Tr.ok{X:Type} :Tr X->Prop
 | .ret _=>True
 | .ite b l r=>cond b l.ok r.ok
 | .pre p t=>p/\t.ok
theorem aLf{X:Type}{K:X->Prop} : ∀ {t:Tr X},t.ok->K t.val->t.run K
 | .ret x,_,k=>k
 | .ite b l r,o,k=>by
   cases b with
   | true=>exact aLf (t:=l) o k
   | false=>exact aLf (t:=r) o k
 | .pre p t,o,k=>⟨o.1,aLf (t:=t) o.2 k⟩
def aCB{X:Type}(n:Nat)(parse:AVal->aB A->Option (Prop×X))(K:X->Prop)(v:AVal)(g:aB A):Prop:=
 cL (dU (dN n g v.labels) g.length&&gZ (dN n g v.labels) 0 n) (match parse (lC (dN n g v.labels) v) (fT (dN n g v.labels) g)with
  | some (p,x)=>p/\K x
  | none=>False)
def bP{X:Type}(I:Itp A)(n:Nat)(parse:AVal->aB A->Option (Prop×X))(fin:X->Out A):Prop:=
 ∀v g p x,parse v g=some (p,x)->p-> ∀K,(fin x).run K->cQ I n K v g
theorem aA.leaf{X:Type}{I:Itp A}{f:FuncId}{args:List AVal}{h:aB A}{K:AVal->aB A->Prop}{parse:AVal->aB A->Option (Prop×X)}{fin:X->Out A}(n:Nat)(hn:n<=h.length)(hr:bP I n parse fin)
 (h0:aA I P f args h (aCB n parse fun x=>(fin x).run K)): ∀V hR w (args':Array Value),Inv I V (toF h) hR w->bO V h.length->aH V args args'.toList->Calls P f args' w (fun e w'=> ∃v v' V' h',K v h'/\e=.returned v'/\Rep V' v v'/\(∀l y,l<n->V l=some y->V' l=some y)/\bO V' h'.length/\n<=h'.length/\Inv I V' (toF h') hR w'/\bN w w'):=by
 intro V hR w args' hi hf ac;refine(h0 V hR w args' hi hf ac).mono ?_;rintro e w' ⟨v,v',V',g',g,k2,k3,k4,k5,k6,k7,k8⟩;unfold aCB at g;obtain⟨hg,g⟩:=bK.1 g;have ht:=aE.pick (I:=I) (v:=v) _ hg;split at g
 ·rename_i p x hp;obtain⟨v2,g2,aa,hK⟩:=(hr _ _ p x hp g.1 K g.2).ex;obtain⟨V1,a1,a2,a3,a4,a5⟩:=(ht.trans aa) V' hR w' v' k7 k5 (by omega) k3
  exact⟨v2,v',V1,g2,hK,k2,a4,fun l y hl hy=>a1 l y hl (k4 l y hy),a2,a3,a5,k8⟩
 ·exact g.elim
theorem aA.plain{X:Type}{I:Itp A}{f:FuncId}{args:List AVal}{h:aB A}{K:AVal->aB A->Prop}{parse:AVal->aB A->Option (Prop×X)}{fin:X->Out A}(hr:bP I h.length parse fin)
 (h0:aA I P f args h (aCB h.length parse fun x=>(fin x).run K)):aA I P f args h K:=by
 intro V hR w g hi hf aa;refine(aA.leaf h.length (Nat.le_refl _) hr h0 V hR w g hi hf aa).mono ?_;rintro e w' ⟨v,v',V',h',k1,k2,k3,k4,k5,k6,k7,k8⟩;refine⟨v,v',V',h',k1,k2,k3,?_,k5,k6,k7,k8⟩;intro l y hy
 have ac:l<h.length:=by
  cases Nat.lt_or_ge l h.length with
  | inl q=>exact q
  | inr q=>rw [hf l q]at hy;cases hy
 exact k4 l y ac hy
end Go.Sh
namespace Go.Sh
open Go
variable [Con] {A:Type} {P:Program}
def aCt(g:aB A):AVal->Bool
 | .ptr l 0=>(match aK g l with
   | some (.abs _ _)=>false
   | _=>true)
 | _=>true
def U8(g:aB A)(pos:List Nat):Nat->List AVal->List AVal
 | _,[]=>[]
 | i,v::vs=>cond (pos.elem i&&aCt g v) .O v::U8 g pos (i+1) vs
theorem wW(g:aB A)(pos:List Nat): ∀(i:Nat) (vs:List AVal),oL vs (U8 g pos i vs)
 | _,[]=>trivial
 | i,v::vs=>by
   refine⟨?_,wW g pos (i+1) vs⟩;cases pos.elem i&&aCt g v with
   | true=>exact .inr rfl
   | false=>exact .inl rfl
theorem wZ: ∀(vs:List AVal),oL vs vs
 | []=>trivial
 | _::vs=>⟨.inl rfl,wZ vs⟩
theorem wY(e:Option (aG A)):pL e e:=by
 cases e with
 | none=>trivial
 | some e=>cases e with
   | cells vs=>exact wZ vs
   | _=>rfl
theorem nA: ∀(g:aB A),mG g g
 | []=>trivial
 | _::g=>⟨wY _,nA g⟩
theorem kI: ∀(g:aB A) (l:Nat) (e2:Option (aG A)),pL (aK g l) e2->mG g (g.set l e2)
 | [],_,_,_=>trivial
 | x::g,0,e2,h=>⟨by simpa [aK]using h,nA g⟩
 | x::g,l+1,e2,h=>⟨wY x,kI g l e2 (by simpa [aK]using h)⟩
def A5(g:aB A)(root:Nat)(pos:List Nat):aB A:=match aK g root with
 | some (.cells vs)=>g.set root (some (.cells (U8 g pos 0 vs)))
 | _=>g
theorem A6(g:aB A)(root:Nat)(pos:List Nat):mG g (A5 g root pos):=by
 unfold A5;split
 ·rename_i vs h;refine kI g root _ ?_;rw [h];exact wW g pos 0 vs
 ·exact nA g
theorem aE.cast{I:Itp A}{n:Nat}{cs:List (Place×gE)}{v v2:AVal}{g g2:aB A}(h:gH cs [v] g=some ([v2],g2)):aE I n v g v2 g2:=by
 intro V hR w x h1 h2 h3 h4;obtain⟨V',⟨c1,c2,c3,c4⟩,r⟩:=eX h h1 h2 (xs:=[x]) ⟨x,[],rfl,h4,rfl⟩;obtain⟨y,ys,e,r1,_⟩:=r;simp only [lI']at e;obtain⟨rfl,_⟩:=e;exact⟨V',fun l y _ hy=>c1 l y hy,c2,by omega,r1,c4⟩
def eU{X:Type}(n root:Nat)(pos:List Nat)(cs:List (Place×gE))(parse:AVal->aB A->Option (Prop×X))(K:X->Prop)(v:AVal)(g:aB A):Prop:=
 let pl:=dN n g v.labels
 cL (dU pl g.length&&gZ pl 0 n) (
  match gH cs [lC pl v] (A5 (fT pl g) root pos)with
  | some ([v3],g3)=>
    let pl2:=dN n g3 v3.labels
    cL (dU pl2 g3.length&&gZ pl2 0 n) (match parse (lC pl2 v3) (fT pl2 g3)with
     | some (p,x)=>p/\K x
     | none=>False)
  | _=>False)
theorem eU.sees{X:Type}{I:Itp A}{n root:Nat}{pos:List Nat}{cs:List (Place×gE)}{parse:AVal->aB A->Option (Prop×X)}{fin:X->Out A}(hr:bP I n parse fin){K:AVal->aB A->Prop}{v:AVal}{g:aB A}
 (h:eU n root pos cs parse (fun x=>(fin x).run K) v g):cQ I n K v g:=by
 unfold eU at h;obtain⟨h1,h⟩:=bK.1 h;have t1:=aE.pick (I:=I) (v:=v) _ h1;split at h
 ·rename_i v3 g3 hc;obtain⟨h2,h⟩:=bK.1 h;have t2:aE I n (lC (dN n g v.labels) v) (fT (dN n g v.labels) g) v3 g3:=(aE.weak (A6 _ root pos)).trans (aE.cast hc);have t3:=aE.pick (I:=I) (v:=v3) _ h2;split at h
  ·rename_i p x hp;obtain⟨v4,g4,t4,hK⟩:=(hr _ _ p x hp h.1 K h.2).ex;exact⟨v4,g4,((t1.trans t2).trans t3).trans t4,hK⟩
  ·exact h.elim
 ·exact h.elim
theorem aL6{X:Type}{I:Itp A}{f:FuncId}{args:List AVal}{h:aB A}{K:AVal->aB A->Prop}{parse:AVal->aB A->Option (Prop×X)}{fin:X->Out A}(n:Nat)(hn:n<=h.length){root:Nat}{pos:List Nat}{cs:List (Place×gE)}(hr:bP I n parse fin)
 (h0:aA I P f args h (eU n root pos cs parse fun x=>(fin x).run K)): ∀V hR w (args':Array Value),Inv I V (toF h) hR w->bO V h.length->aH V args args'.toList->Calls P f args' w (fun e w'=> ∃v v' V' h',K v h'/\e=.returned v'/\Rep V' v v'/\(∀l y,l<n->V l=some y->V' l=some y)/\bO V' h'.length/\n<=h'.length/\Inv I V' (toF h') hR w'/\bN w w'):=by
 intro V hR w args' hi hf aa;refine(h0 V hR w args' hi hf aa).mono ?_;rintro e w' ⟨v,v',V',g',hL,k2,k3,k4,k5,k6,k7,k8⟩;obtain⟨v2,g2,g,hK⟩:=(eU.sees hr hL).ex;obtain⟨V1,a1,a2,a3,a4,a5⟩:=g V' hR w' v' k7 k5 (by omega) k3
 exact⟨v2,v',V1,g2,hK,k2,a4,fun l y hl hy=>a1 l y hl (k4 l y hy),a2,a3,a5,k8⟩
theorem aLm{X:Type}{I:Itp A}{f:FuncId}{args:List AVal}{h:aB A}{K:AVal->aB A->Prop}{parse:AVal->aB A->Option (Prop×X)}{fin:X->Out A}{root:Nat}{pos:List Nat}{cs:List (Place×gE)}(hr:bP I h.length parse fin)
 (h0:aA I P f args h (eU h.length root pos cs parse fun x=>(fin x).run K)):aA I P f args h K:=by
 intro V hR w g hi hf aa;refine(aL6 h.length (Nat.le_refl _) hr h0 V hR w g hi hf aa).mono ?_;rintro e w' ⟨v,v',V',h',k1,k2,k3,k4,k5,k6,k7,k8⟩;refine⟨v,v',V',h',k1,k2,k3,?_,k5,k6,k7,k8⟩;intro l y hy
 have ac:l<h.length:=by
  cases Nat.lt_or_ge l h.length with
  | inl q=>exact q
  | inr q=>rw [hf l q]at hy;cases hy
 exact k4 l y ac hy
end Go.Sh
namespace Go.Sh
open Go
variable [Con] {A:Type} {P:Program}
def rowC:Nat->List (Option A)->List AVal
 | _,[]=>[]
 | k,none::r=>.raw (.pointer none)::rowC (k+1) r
 | k,some _::r=>.ptr k 0::rowC (k+1) r
def UN(ws:List (Option A)):aB A:=ws.map (Option.map fun t=>aG.abs t [])
def rowE(ws:List (Option A)):aB A:=some (.cells (rowC 1 ws))::UN ws
def lM(ws:List (Option A))(i:Nat):aB A:=some (.cells ((rowC 2 ws).set i (.ptr 1 0)))::none::(UN ws).set i none
def OW(k:Nat):Option A->AVal
 | none=>.raw (.pointer none)
 | some _=>.ptr k 0
theorem jC: ∀(ws:List (Option A)) (k j:Nat),(rowC k ws)[j]? =(ws[j]?).map (OW (k+j))
 | [],_,_=>by simp [rowC]
 | none::r,k,0=>by simp [rowC,OW]
 | some _::r,k,0=>by simp [rowC,OW]
 | none::r,k,j+1=>by simp only [rowC,List.getElem?_cons_succ];rw [jC r (k+1) j];rw [show k+1+j=k+(j+1)from by omega]
 | some _::r,k,j+1=>by simp only [rowC,List.getElem?_cons_succ];rw [jC r (k+1) j];rw [show k+1+j=k+(j+1)from by omega]
theorem gQ(k:Nat)(ws:List (Option A)):(rowC k ws).length =ws.length:=by
 induction ws generalizing k with
 | nil=>rfl
 | cons o r ih=>cases o<;>simp [rowC,ih]
theorem aLI{V:Val} : ∀ {av:List AVal} {vs:List Value},av.length=vs.length->(∀(i:Nat) (a:AVal) (v:Value),av[i]? =some a->vs[i]? =some v->Rep V a v)->aH V av vs
 | [],[],_,_=>rfl
 | [],_::_,h,_=>by simp at h
 | _::_,[],h,_=>by simp at h
 | a::av,v::vs,h,hg=>⟨v,vs,rfl,hg 0 a v rfl rfl,aLI (by simpa using h) (fun i a v h1 h2=>hg (i+1) a v (by simpa using h1) (by simpa using h2))⟩
theorem aH.at{V:Val}{av:List AVal}{vs:List Value}(h:aH V av vs){i:Nat}{a:AVal}{v:Value}(ha:av[i]? =some a)(hv:vs[i]? =some v):Rep V a v:=by
 obtain⟨y,g,r⟩:=aH.get h i a ha;rw [hv]at g;cases g;exact r
structure hJ (tb:A->Nat×aB A) where
 R:Type
 row:R->A
 hole:R->Nat->A
 els:R->List (Option A)
 len:R->Nat
 upd:R->Nat->A->Option R
 isRow:A->Option R
 isHole:A->Option (R×Nat)
 is:R->Nat->Bool
 get:R->Nat->A
 isRow_eq: ∀t r,isRow t=some r->t=row r
 isHole_eq: ∀t r i,isHole t=some (r,i)->t=hole r i
 len_eq: ∀r,len r=(els r).length
 upd_eq: ∀r i t r',upd r i t=some r'->els r'=(els r).set i (some t)
 is_true: ∀r i,is r i=true->i<len r->(els r)[i]? =some (some (get r i))
 is_false: ∀r i,is r i=false->i<len r->(els r)[i]? =some none
 tbRow: ∀r,tb (row r)=(0,rowE (els r))
 tbHole: ∀r i,tb (hole r i)=(1,lM (els r) i)
theorem eZ(ws:List (Option A))(j:Nat):aK (rowE ws) (j+1)=(ws[j]?).join.map (fun t=>aG.abs t []):=by
 simp only [rowE,aK,List.getD_cons_succ,UN];rw [gD',List.getElem?_map];cases ws[j]? with
 | none=>rfl
 | some o=>cases o<;>rfl
theorem fV(ws:List (Option A))(i j:Nat):aK (lM ws i) (j+2)=if i=j then none else(ws[j]?).join.map (fun t=>aG.abs t []):=by
 simp only [lM,aK,List.getD_cons_succ,UN];rw [gD',List.getElem?_set];split
 ·split<;>rfl
 ·rw [List.getElem?_map];cases ws[j]? with
  | none=>rfl
  | some o=>cases o<;>rfl
variable {tb:A->Nat×aB A}
theorem pP{N:Nat}{V:Val}{l:Nat}{t:A}{p:PHeap}(h:aG.interp (obN tb N) V l (.abs t []) p): ∃x,V l=some x/\obN tb N t x [] p:=by
 obtain⟨b,k,h1,g,h2,h3⟩:=h;have:g=[]:=h2;subst this;exact⟨_,h1,h3⟩
theorem hJ.lend(R:hJ tb){rr:R.R}{i:Nat}{t:A}{r:Nat×Nat}{p:PHeap}{N:Nat}(h:obN tb (N+1) (R.row rr) r [] p)(hw:(R.els rr)[i]? =some (some t)):
 ∃x q p',obN tb N t x [] q/\obN tb (N+1) (R.hole rr i) r [x] p'/\q.disj p'/\(∀b o,q b=some o->p b=some o)/\(∀b o,p' b=some o->p b=some o)/\
  ∃cs T,p r.1=some (.cells cs T)/\cs.toList[i]? =some (.pointer (some ⟨x.1,0,none⟩)):=by
 obtain⟨V,gs,g1,g2,g3,⟨g4,g5,g6⟩,g7⟩:=h;have ah:=R.tbHole rr i;rw [R.tbRow]at g2 g3 g4 g5;dsimp only at g2 g3 g4 g5;generalize R.els rr=ws at*;have hi:aK (rowE ws) (i+1)=some (.abs t []):=by rw [eZ,hw];rfl
 obtain⟨x,hx,hq⟩:=pP (g4 _ _ hi);have hc:=g4 0 _ (show aK (rowE ws) 0=some (.cells (rowC 1 ws))from rfl)
 obtain⟨b,k,c1,cs,T,c2,c3,rs,tail,c4,c5⟩:=hc;have ay:r=(b,k):=by have aq:V 0=some (b,k):=c1;rw [g1]at aq;simpa using aq
 have aj:=aH.length c5
 have ai:i<rs.length:=by
  rw [aj,gQ];exact(List.getElem?_eq_some_iff.1 hw).1
 have au:=aH.at c5 (i:=i) (a:=.ptr (1+i) 0) (v:=rs[i]) (by rw [jC,hw];rfl) (gE' ai)
 obtain⟨b2,k2,e1,e2⟩:=au
 have ao:x=(b2,k2):=by
  have:V (1+i)=some (b2,k2):=e1;rw [Nat.add_comm]at this;have ar:V (i+1)=some x:=hx;rw [ar]at this;simpa using this
 let V':Val:=fun m=>match m with
  | 0=>V 0
  | 1=>some x
  | j+2=>V (j+1)
 let gs':Nat->PHeap:=fun m=>match m with
  | 0=>gs 0
  | 1=>.emp
  | j+2=>if i=j then .emp else gs (j+1)
 have ag: ∀j b o,gs j b=some o->p b=some o:=by
  intro j b o hh;rw [g7];exact aLt g6 hh
 have ad: ∀m b o,gs' m b=some o-> ∃j,j≠i+1/\gs j b=some o:=by
  intro m b o hh
  match m,hh with
  | 0,hh=>exact⟨0,by omega,hh⟩
  | 1,hh=>cases hh
  | j+2,hh=>
    have al:(if i=j then PHeap.emp else gs (j+1)) b=some o:=hh
    split at al
    ·cases al
    ·exact⟨j+1,by omega,al⟩
 have ap: ∀l m,l≠m->(gs' l).disj (gs' m):=by
  intro l m ak b;cases h1:gs' l b with
  | none=>exact .inl rfl
  | some o=>
    right;cases h2:gs' m b with
    | none=>rfl
    | some o2=>
      exfalso
      have key: ∀l m,l≠m-> ∀o o2,gs' l b=some o->gs' m b=some o2->False:=by
       intro l m ak o o2 h1 h2
       match l,m,h1,h2 with
       | 0,0,_,_=>exact ak rfl
       | 1,_,h1,_=>cases h1
       | _,1,_,h2=>cases h2
       | 0,j+2,h1,h2=>
         have aa:(if i=j then PHeap.emp else gs (j+1)) b=some o2:=h2
         split at aa
         ·cases aa
         ·rcases g6 0 (j+1) (by omega) b with d | d
          ·have ac:gs 0 b=some o:=h1;rw [d]at ac;cases ac
          ·rw [d]at aa;cases aa
       | j+2,0,h1,h2=>
         have ac:(if i=j then PHeap.emp else gs (j+1)) b=some o:=h1
         split at ac
         ·cases ac
         ·rcases g6 0 (j+1) (by omega) b with d | d
          ·have aa:gs 0 b=some o2:=h2;rw [d]at aa;cases aa
          ·rw [d]at ac;cases ac
       | j+2,j2+2,h1,h2=>
         have ac:(if i=j then PHeap.emp else gs (j+1)) b=some o:=h1
         have aa:(if i=j2 then PHeap.emp else gs (j2+1)) b=some o2:=h2
         split at ac
         ·cases ac
         ·split at aa
          ·cases aa
          ·rcases g6 (j+1) (j2+1) (by omega) b with d | d
           ·rw [d]at ac;cases ac
           ·rw [d]at aa;cases aa
      exact key l m ak o o2 h1 h2
 have am:aK (lM ws i) 0=some (.cells ((rowC 2 ws).set i (.ptr 1 0))):=rfl;refine⟨x,gs (i+1),aLd gs',hq,⟨V',gs',g1,?_,?_,⟨?_,?_,ap⟩,rfl⟩,?_,ag _,?_,cs,T,?_,?_⟩
 ·intro j hj;rw [ah]at hj;have:j=0:=by dsimp only at hj;omega
  subst this;rfl
 ·rw [ah];rfl
 ·intro l e he;rw [ah]at he
  match l,he with
  | 0,he=>
    have g:aK (lM ws i) 0=some e:=he;rw [am]at g;simp only [sI']at g;subst g;refine⟨b,k,c1,cs,T,c2,c3,rs,tail,c4,?_⟩;refine aLI (by rw [List.length_set,gQ,aj,gQ]) ?_
    intro j a v ha hv;rw [List.getElem?_set]at ha;split at ha
    ·rename_i ae;subst ae;split at ha
     ·simp only [sI']at ha;subst ha;rw [gE' ai]at hv;simp only [sI']at hv;subst hv;refine⟨b2,k2,?_,e2⟩;show some x=_;rw [ao]
     ·cases ha
    ·rw [jC]at ha;cases af:ws[j]? with
     | none=>rw [af]at ha;cases ha
     | some o=>
       rw [af]at ha;simp only [Option.map_some,sI']at ha;have hr:=aH.at c5 (i:=j) (a:=OW (1+j) o) (v:=v) (by rw [jC,af];rfl) hv
       cases o with
       | none=>subst ha;exact hr
       | some s=>
         subst ha;obtain⟨b3,k3,f1,f2⟩:=hr;refine⟨b3,k3,?_,f2⟩;show V' (2+j)=_;rw [Nat.add_comm];show V (j+1)=_;rw [Nat.add_comm];exact f1
  | 1,he=>cases he
  | j+2,he=>
    have g:aK (lM ws i) (j+2)=some e:=he;rw [fV]at g;split at g
    ·cases g
    ·rename_i ae;have av:aK (rowE ws) (j+1)=some e:=by rw [eZ];exact g
     have ax:=g4 _ _ av;show aG.interp (obN tb N) V' (j+2) e (if i=j then PHeap.emp else gs (j+1))
     rw [if_neg ae];cases af:(ws[j]?).join with
     | none=>rw [af]at g;cases g
     | some s=>
       rw [af]at g;simp only [Option.map_some,sI']at g;subst g;obtain⟨x3,f1,f2⟩:=pP ax;exact⟨x3.1,x3.2,f1,[],rfl,f2⟩
 ·intro l he;rw [ah]at he
  match l,he with
  | 0,he=>cases he
  | 1,he=>rfl
  | j+2,he=>
    have g:aK (lM ws i) (j+2)=none:=he;rw [fV]at g;show(if i=j then PHeap.emp else gs (j+1))=_
    split at g
    ·rename_i ae;rw [if_pos ae]
    ·rename_i ae;rw [if_neg ae];refine g5 _ ?_;show aK (rowE ws) (j+1)=none;rw [eZ];exact g
 ·intro b';cases h1:gs (i+1) b' with
  | none=>exact .inl rfl
  | some o=>
    right;refine aLJ fun m=>?_;cases h2:gs' m b' with
    | none=>rfl
    | some o2=>
      exfalso;obtain⟨j,hj,h3⟩:=ad m b' o2 h2;rcases g6 j (i+1) hj b' with d | d
      ·rw [d]at h3;cases h3
      ·rw [d]at h1;cases h1
 ·intro b' o hh;obtain⟨m,hm⟩:=aLr hh;obtain⟨j,_,h3⟩:=ad m b' o hm;exact ag j b' o h3
 ·refine ag 0 r.1 _ ?_;rw [c2,ay];simp [PHeap.one]
 ·rw [c4,List.getElem?_append_left ai,gE' ai,e2,ao]
theorem hJ.back(R:hJ tb){rr rr':R.R}{i:Nat}{t:A}{r x:Nat×Nat}{p' q:PHeap}{N:Nat}(hp:obN tb (N+1) (R.hole rr i) r [x] p')(hq:obN tb N t x [] q)(hd:q.disj p')(hi:i<R.len rr)(hu:R.upd rr i t=some rr'):
 ∃p,obN tb (N+1) (R.row rr') r [] p/\(∀b o,p b=some o->q b=some o\/p' b=some o):=by
 obtain⟨V,gs,g1,g2,g3,⟨g4,g5,g6⟩,g7⟩:=hp;have af:=R.tbRow rr';rw [R.upd_eq _ _ _ _ hu]at af;rw [R.len_eq]at hi;rw [R.tbHole]at g2 g3 g4 g5;dsimp only at g2 g3 g4 g5;generalize R.els rr=ws at*;have hx:V 1=some x:=by have:=g2 0 (by omega);simpa using this
 have hc:=g4 0 _ (show aK (lM ws i) 0=some (.cells ((rowC 2 ws).set i (.ptr 1 0)))from rfl)
 obtain⟨b,k,c1,cs,T,c2,c3,rs,tail,c4,c5⟩:=hc;have ai:=aH.length c5;rw [List.length_set,gQ]at ai
 let V':Val:=fun m=>match m with
  | 0=>V 0
  | j+1=>if i=j then some x else V (j+2)
 let gs':Nat->PHeap:=fun m=>match m with
  | 0=>gs 0
  | j+1=>if i=j then q else gs (j+2)
 have ag: ∀j b o,gs j b=some o->p' b=some o:=by
  intro j b o hh;rw [g7];exact aLt g6 hh
 have ah: ∀j b o o2,gs j b=some o->q b=some o2->False:=by
  intro j b o o2 h1 h2;have:=ag j b o h1;rcases hd b with d | d
  ·rw [d]at h2;cases h2
  ·rw [d]at this;cases this
 have key: ∀l m b,l≠m-> ∀o o2,gs' l b=some o->gs' m b=some o2->False:=by
  intro l m b ak o o2 h1 h2
  match l,m,h1,h2 with
  | 0,0,_,_=>exact ak rfl
  | 0,j+1,h1,h2=>
    have ac:(if i=j then q else gs (j+2)) b=some o2:=h2
    split at ac
    ·exact ah 0 b o o2 h1 ac
    ·rcases g6 0 (j+2) (by omega) b with d | d
     ·have ad:gs 0 b=some o:=h1;rw [d]at ad;cases ad
     ·rw [d]at ac;cases ac
  | j+1,0,h1,h2=>
    have ad:(if i=j then q else gs (j+2)) b=some o:=h1
    split at ad
    ·exact ah 0 b o2 o h2 ad
    ·rcases g6 0 (j+2) (by omega) b with d | d
     ·have ac:gs 0 b=some o2:=h2;rw [d]at ac;cases ac
     ·rw [d]at ad;cases ad
  | j+1,j2+1,h1,h2=>
    have ad:(if i=j then q else gs (j+2)) b=some o:=h1
    have ac:(if i=j2 then q else gs (j2+2)) b=some o2:=h2
    split at ad
    ·split at ac
     ·omega
     ·exact ah _ b o2 o ac ad
    ·split at ac
     ·exact ah _ b o o2 ad ac
     ·rcases g6 (j+2) (j2+2) (by omega) b with d | d
      ·rw [d]at ad;cases ad
      ·rw [d]at ac;cases ac
 have al: ∀l m,l≠m->(gs' l).disj (gs' m):=by
  intro l m ak b;cases h1:gs' l b with
  | none=>exact .inl rfl
  | some o=>
    right;cases h2:gs' m b with
    | none=>rfl
    | some o2=>exact(key l m b ak o o2 h1 h2).elim
 refine⟨aLd gs',⟨V',gs',g1,?_,?_,⟨?_,?_,al⟩,rfl⟩,?_⟩
 ·intro j hj;rw [af]at hj;dsimp only at hj;omega
 ·rw [af];rfl
 ·intro l e he;rw [af]at he
  match l,he with
  | 0,he=>
    have g:some (aG.cells (rowC 1 (ws.set i (some t))))=some e:=he;simp only [sI']at g;subst g;refine⟨b,k,c1,cs,T,c2,c3,rs,tail,c4,?_⟩;refine aLI (by rw [gQ,List.length_set,ai]) ?_
    intro j a v ha hv;rw [jC,List.getElem?_set]at ha;split at ha
    ·rename_i aa;subst aa;simp only [Option.map_some,sI',OW]at ha;subst ha;have hr:=aH.at c5 (i:=i) (a:=.ptr 1 0) (v:=v) (by rw [List.getElem?_set,if_pos rfl,if_pos (by rw [gQ];exact hi)]) hv
     obtain⟨b3,k3,f1,f2⟩:=hr;refine⟨b3,k3,?_,f2⟩;show V' (1+i)=_;rw [Nat.add_comm];show(if i=i then some x else _)=_
     rw [if_pos rfl,<-hx];exact f1
    ·rename_i aa;cases ae:ws[j]? with
     | none=>rw [ae]at ha;cases ha
     | some o=>
       rw [ae]at ha;simp only [Option.map_some,sI']at ha;have hr:=aH.at c5 (i:=j) (a:=OW (2+j) o) (v:=v) (by rw [List.getElem?_set,if_neg aa,jC,ae];rfl) hv
       cases o with
       | none=>subst ha;exact hr
       | some s=>
         subst ha;obtain⟨b3,k3,f1,f2⟩:=hr;refine⟨b3,k3,?_,f2⟩;show V' (1+j)=_;rw [Nat.add_comm];show(if i=j then some x else V (j+2))=_
         rw [if_neg aa,Nat.add_comm];exact f1
  | j+1,he=>
    have g:aK (rowE (ws.set i (some t))) (j+1)=some e:=he;rw [eZ,List.getElem?_set]at g;show aG.interp (obN tb N) V' (j+1) e (if i=j then q else gs (j+2))
    split at g
    ·rename_i aa;subst aa;simp only [Option.join_some,Option.map_some,sI']at g;subst g;rw [if_pos rfl];exact⟨x.1,x.2,by show(if i=i then some x else _)=_;rw [if_pos rfl],[],rfl,hq⟩
    ·rename_i aa;rw [if_neg aa];have am:aK (lM ws i) (j+2)=some e:=by rw [fV,if_neg aa];exact g
     have ao:=g4 _ _ am;cases ae:(ws[j]?).join with
     | none=>rw [ae]at g;cases g
     | some s=>
       rw [ae]at g;simp only [Option.map_some,sI']at g;subst g;obtain⟨x3,f1,f2⟩:=pP ao;refine⟨x3.1,x3.2,?_,[],rfl,f2⟩;show(if i=j then some x else V (j+2))=_
       rw [if_neg aa];exact f1
 ·intro l he;rw [af]at he
  match l,he with
  | 0,he=>cases he
  | j+1,he=>
    have g:aK (rowE (ws.set i (some t))) (j+1)=none:=he;rw [eZ,List.getElem?_set]at g;show(if i=j then q else gs (j+2))=_
    split at g
    ·rename_i aa;subst aa;cases g
    ·rename_i aa;rw [if_neg aa];refine g5 _ ?_;show aK (lM ws i) (j+2)=none;rw [fV,if_neg aa];exact g
 ·intro b' o hh;obtain⟨m,hm⟩:=aLr hh
  match m,hm with
  | 0,hm=>exact .inr (ag 0 b' o hm)
  | j+1,hm=>
    have aj:(if i=j then q else gs (j+2)) b'=some o:=hm
    split at aj
    ·exact .inl aj
    ·exact .inr (ag _ b' o aj)
theorem hJ.nil(R:hJ tb){rr:R.R}{i:Nat}{r:Nat×Nat}{p:PHeap}{N:Nat}(h:obN tb (N+1) (R.row rr) r [] p)(hw:(R.els rr)[i]? =some none):
 ∃cs T,p r.1=some (.cells cs T)/\cs.toList[i]? =some (.pointer none):=by
 obtain⟨V,gs,g1,g2,g3,⟨g4,g5,g6⟩,g7⟩:=h;rw [R.tbRow]at g4;dsimp only at g4;generalize R.els rr=ws at*;have hc:=g4 0 _ (show aK (rowE ws) 0=some (.cells (rowC 1 ws))from rfl)
 obtain⟨b,k,c1,cs,T,c2,c3,rs,tail,c4,c5⟩:=hc;have ae:r=(b,k):=by have ac:V 0=some (b,k):=c1;rw [g1]at ac;simpa using ac
 have aa:=aH.length c5;have g:i<rs.length:=by rw [aa,gQ];exact(List.getElem?_eq_some_iff.1 hw).1
 have ad:=aH.at c5 (i:=i) (a:=.raw (.pointer none)) (v:=rs[i]) (by rw [jC,hw];rfl) (gE' g)
 have e2:rs[i]=.pointer none:=ad;refine⟨cs,T,?_,?_⟩
 ·rw [g7];refine aLt g6 (l:=0) ?_;rw [c2,ae];simp [PHeap.one]
 ·rw [c4,List.getElem?_append_left g,gE' g,e2]
theorem hJ.lent(R:hJ tb){rr:R.R}{i:Nat}{r x:Nat×Nat}{p:PHeap}{N:Nat}(h:obN tb (N+1) (R.hole rr i) r [x] p)(hi:i<R.len rr):
 ∃cs T,p r.1=some (.cells cs T)/\cs.toList[i]? =some (.pointer (some ⟨x.1,0,none⟩)):=by
 obtain⟨V,gs,g1,g2,g3,⟨g4,g5,g6⟩,g7⟩:=h;rw [R.tbHole]at g2 g4;rw [R.len_eq]at hi;dsimp only at g2 g4;generalize R.els rr=ws at*;have hx:V 1=some x:=by have:=g2 0 (by omega);simpa using this
 have hc:=g4 0 _ (show aK (lM ws i) 0=some (.cells ((rowC 2 ws).set i (.ptr 1 0)))from rfl)
 obtain⟨b,k,c1,cs,T,c2,c3,rs,tail,c4,c5⟩:=hc;have af:r=(b,k):=by have ac:V 0=some (b,k):=c1;rw [g1]at ac;simpa using ac
 have aa:=aH.length c5;rw [List.length_set,gQ]at aa;have g:i<rs.length:=by omega
 have ae:=aH.at c5 (i:=i) (a:=.ptr 1 0) (v:=rs[i]) (by rw [List.getElem?_set,if_pos rfl,if_pos (by rw [gQ];exact hi)]) (gE' g)
 obtain⟨b2,k2,e1,e2⟩:=ae
 have ad:x=(b2,k2):=by
  have:V 1=some (b2,k2):=e1;rw [hx]at this;simpa using this
 refine⟨cs,T,?_,?_⟩
 ·rw [g7];refine aLt g6 (l:=0) ?_;rw [c2,af];simp [PHeap.one]
 ·rw [c4,List.getElem?_append_left g,gE' g,e2,ad]
theorem Inv.lend(R:hJ tb){V:Val}{h:aB A}{hR:PHeap}{w:World}{l i:Nat}{ws:R.R}{t:A}(hi:Inv (obI tb) V (toF h) hR w)(hf:bO V h.length)(hl:aK h l=some (.abs (R.row ws) []))(hw:(R.els ws)[i]? =some (some t)):
 ∃V' x b k cs T,V.le V'/\bO V' (h.length+1)/\Inv (obI tb) V' (toF (h.set l (some (.abs (R.hole ws i) [h.length]))++ [some (.abs t [])])) hR w/\V' h.length=some x/\V l=some (b,k)/\w.heap[b]? =some (.cells cs T)/\cs.toList[i]? =some (.pointer (some ⟨x.1,0,none⟩)):=by
 have ao:=cD hl;obtain⟨hs,h1,h2,h3,h4,h5,h6⟩:=hi;obtain⟨b,k,hV,bs,ar,N,am⟩:=h1 l _ hl;have au:bs=[]:=ar;subst au;cases N with
 | zero=>exact am.elim
 | succ N=>
 obtain⟨x,q,p',o1,o2,o3,o4,o5,cs,T,o6,o7⟩:=R.lend am hw;have hn:V h.length=none:=hf _ (Nat.le_refl _);have al:=aLp (x:=x) hn
 let hs':Nat->PHeap:=fun m=>if m=l then p' else if m=h.length then q else hs m
 have ag: ∀m,m<h.length->m≠l->aK (h.set l (some (.abs (R.hole ws i) [h.length]))++ [some (.abs t [])]) m=aK h m:=by
  intro m hm aa;rw [cG (by simpa using hm)]
  simp only [aK,gD'];rw [List.getElem?_set_ne (fun e=>aa e.symm)]
 have af:aK (h.set l (some (.abs (R.hole ws i) [h.length]))++ [some (.abs t [])]) l=some (.abs (R.hole ws i) [h.length]):=by
  rw [cG (by simpa using ao)]
  simp only [aK,gD'];rw [List.getElem?_set_self ao];rfl
 have ae:aK (h.set l (some (.abs (R.hole ws i) [h.length]))++ [some (.abs t [])]) h.length=some (.abs t []):=by
  simp only [aK,gD'];rw [List.getElem?_append_right (by simp)];simp
 have ap: ∀m,h.length<m->aK (h.set l (some (.abs (R.hole ws i) [h.length]))++ [some (.abs t [])]) m=none:=fun m hm=>cC (by simp;omega)
 have ai: ∀b o,p' b=some o->hs l b=some o:=o5;have ah: ∀b o,q b=some o->hs l b=some o:=o4;have aq: ∀m,h.length<=m->hs m=.emp :=fun m hm=>h2 m (cC hm);refine⟨V.add h.length x,x,b,k,cs,T,al,?_,⟨hs',?_,?_,?_,?_,?_,h6⟩,aLj _ _ _,hV,?_,o7⟩
 ·intro m hm;rw [aLH _ _ (by omega)]
  exact hf m (by omega)
 ·intro m e he;have g:aK (h.set l (some (.abs (R.hole ws i) [h.length]))++ [some (.abs t [])]) m=some e:=he
  by_cases aa:m=l
  ·subst aa;rw [af]at g;simp only [sI']at g;subst g;show aG.interp _ _ _ _ (if m=m then p' else _)
   rw [if_pos rfl];exact⟨b,k,al _ _ hV,[x],⟨x,[],aLj _ _ _,rfl,rfl⟩,N+1,o2⟩
  ·by_cases ac:m=h.length
   ·subst ac;rw [ae]at g;simp only [sI']at g;subst g;show aG.interp _ _ _ _ (if h.length=l then p' else if h.length=h.length then q else _)
    rw [if_neg aa,if_pos rfl];exact⟨x.1,x.2,aLj _ _ _,[],rfl,N,o1⟩
   ·by_cases ak:m<h.length
    ·rw [ag m ak aa]at g;show aG.interp _ _ _ _ (if m=l then p' else if m=h.length then q else hs m)
     rw [if_neg aa,if_neg ac];exact aLs al (h1 m e g)
    ·rw [ap m (by omega)]at g;cases g
 ·intro m he;have g:aK (h.set l (some (.abs (R.hole ws i) [h.length]))++ [some (.abs t [])]) m=none:=he;show(if m=l then p' else if m=h.length then q else hs m)=_
  by_cases aa:m=l
  ·subst aa;rw [af]at g;cases g
  ·by_cases ac:m=h.length
   ·subst ac;rw [ae]at g;cases g
   ·rw [if_neg aa,if_neg ac]
    by_cases ak:m<h.length
    ·rw [ag m ak aa]at g;exact h2 m g
    ·exact aq m (by omega)
 ·intro m m' aj b';show(if m=l then p' else if m=h.length then q else hs m) b'=none\/(if m'=l then p' else if m'=h.length then q else hs m') b'=none
  have part: ∀m,m≠l->m≠h.length->(p' b'=none/\q b'=none)\/hs m b'=none:=by
   intro m aa ac;rcases h3 l m (fun e=>aa e.symm) b' with d | d
   ·left;constructor
    ·cases hp:p' b' with
     | none=>rfl
     | some o=>rw [ai b' o hp]at d;cases d
    ·cases hp:q b' with
     | none=>rfl
     | some o=>rw [ah b' o hp]at d;cases d
   ·exact .inr d
  by_cases a1:m=l
  ·rw [if_pos a1]
   by_cases a2:m'=l
   ·exact(aj (a1.trans a2.symm)).elim
   ·rw [if_neg a2]
    by_cases a3:m'=h.length
    ·rw [if_pos a3];exact(o3 b').symm
    ·rw [if_neg a3];rcases part m' a2 a3 with d | d
     ·exact .inl d.1
     ·exact .inr d
  ·rw [if_neg a1]
   by_cases a0:m=h.length
   ·rw [if_pos a0]
    by_cases a2:m'=l
    ·rw [if_pos a2];exact o3 b'
    ·rw [if_neg a2]
     by_cases a3:m'=h.length
     ·exact(aj (a0.trans a3.symm)).elim
     ·rw [if_neg a3];rcases part m' a2 a3 with d | d
      ·exact .inl d.2
      ·exact .inr d
   ·rw [if_neg a0]
    by_cases a2:m'=l
    ·rw [if_pos a2];rcases part m a1 a0 with d | d
     ·exact .inr d.1
     ·exact .inl d
    ·rw [if_neg a2]
     by_cases a3:m'=h.length
     ·rw [if_pos a3];rcases part m a1 a0 with d | d
      ·exact .inr d.2
      ·exact .inl d
     ·rw [if_neg a3];exact h3 m m' aj b'
 ·intro m b';show(if m=l then p' else if m=h.length then q else hs m) b'=none\/hR b'=none
  split
  ·rcases h4 l b' with d | d
   ·cases hp:p' b' with
    | none=>exact .inl rfl
    | some o=>rw [ai b' o hp]at d;cases d
   ·exact .inr d
  ·split
   ·rcases h4 l b' with d | d
    ·cases hp:q b' with
     | none=>exact .inl rfl
     | some o=>rw [ah b' o hp]at d;cases d
    ·exact .inr d
   ·exact h4 m b'
 ·intro m b' o hh;have ad:(if m=l then p' else if m=h.length then q else hs m) b'=some o:=hh
  split at ad
  ·exact h5 l b' o (ai b' o ad)
  ·split at ad
   ·exact h5 l b' o (ah b' o ad)
   ·exact h5 m b' o ad
 ·exact h5 l b _ o6
theorem Inv.back(R:hJ tb){V:Val}{h:aB A}{hR:PHeap}{w:World}{l i k:Nat}{ws ws':R.R}{t:A}(hu:R.upd ws i t=some ws')(hi:Inv (obI tb) V (toF h) hR w)(hl:aK h l=some (.abs (R.hole ws i) [k]))(hk:aK h k=some (.abs t []))(hkl:k≠l)(hlt:i<R.len ws):
 Inv (obI tb) V (toF ((h.set l (some (.abs (R.row ws') []))).set k none)) hR w:=by
 have aq:=cD hl;have ar:=cD hk;obtain⟨hs,h1,h2,h3,h4,h5,h6⟩:=hi;obtain⟨b,kk,hV,bs,ap,N,ah⟩:=h1 l _ hl;obtain⟨x,r,hx,rfl,hr⟩:=ap;have ao:r=[]:=hr;subst ao;obtain⟨b2,k2,au,av,aj,N2,ag⟩:=h1 k _ hk;have ak:av=[]:=aj;subst ak
 have am:x=(b2,k2):=by
  have:V k=some x:=hx;rw [au]at this;simpa using this.symm
 subst am;cases N with
 | zero=>exact ah.elim
 | succ N=>
 have q1:=oA tb (Nat.le_max_right N N2) ag;have q2:=oA tb (show N+1<=max N N2+1 by omega) ah
 obtain⟨p,p1,p2⟩:=R.back q2 q1 (h3 k l hkl) hlt hu
 let hs':Nat->PHeap:=fun m=>if m=l then p else if m=k then .emp else hs m
 have af: ∀m,m≠l->m≠k->aK ((h.set l (some (.abs (R.row ws') []))).set k none) m=aK h m:=by
  intro m aa ac;simp only [aK,gD'];rw [List.getElem?_set_ne (fun e=>ac e.symm),List.getElem?_set_ne (fun e=>aa e.symm)]
 have ae:aK ((h.set l (some (.abs (R.row ws') []))).set k none) l=some (.abs (R.row ws') []):=by
  simp only [aK,gD'];rw [List.getElem?_set_ne hkl,List.getElem?_set_self aq];rfl
 have al:aK ((h.set l (some (.abs (R.row ws') []))).set k none) k=none:=by
  simp only [aK,gD'];rw [List.getElem?_set_self (by simpa using ar)];rfl
 refine⟨hs',?_,?_,?_,?_,?_,h6⟩
 ·intro m e he;have g:aK ((h.set l (some (.abs (R.row ws') []))).set k none) m=some e:=he;show aG.interp _ _ _ _ (if m=l then p else if m=k then .emp else hs m)
  by_cases aa:m=l
  ·subst aa;rw [ae]at g;simp only [sI']at g;subst g;rw [if_pos rfl];exact⟨b,kk,hV,[],rfl,_,p1⟩
  ·by_cases ac:m=k
   ·subst ac;rw [al]at g;cases g
   ·rw [if_neg aa,if_neg ac];rw [af m aa ac]at g;exact h1 m e g
 ·intro m he;have g:aK ((h.set l (some (.abs (R.row ws') []))).set k none) m=none:=he;show(if m=l then p else if m=k then .emp else hs m)=_
  by_cases aa:m=l
  ·subst aa;rw [ae]at g;cases g
  ·rw [if_neg aa]
   by_cases ac:m=k
   ·rw [if_pos ac]
   ·rw [if_neg ac];rw [af m aa ac]at g;exact h2 m g
 ·intro m m' ai b';show(if m=l then p else if m=k then .emp else hs m) b'=none\/(if m'=l then p else if m'=k then .emp else hs m') b'=none
  have part: ∀m,m≠l->m≠k->p b'=none\/hs m b'=none:=by
   intro m aa ac;cases hp:p b' with
   | none=>exact .inl rfl
   | some o=>
     right;rcases p2 b' o hp with d | d
     ·rcases h3 k m (fun e=>ac e.symm) b' with f | f
      ·rw [f]at d;cases d
      ·exact f
     ·rcases h3 l m (fun e=>aa e.symm) b' with f | f
      ·rw [f]at d;cases d
      ·exact f
  by_cases a1:m=l
  ·rw [if_pos a1]
   by_cases a2:m'=l
   ·exact(ai (a1.trans a2.symm)).elim
   ·rw [if_neg a2]
    by_cases a3:m'=k
    ·rw [if_pos a3];exact .inr rfl
    ·rw [if_neg a3];exact part m' a2 a3
  ·rw [if_neg a1]
   by_cases a0:m=k
   ·rw [if_pos a0];exact .inl rfl
   ·rw [if_neg a0]
    by_cases a2:m'=l
    ·rw [if_pos a2];exact(part m a1 a0).symm
    ·rw [if_neg a2]
     by_cases a3:m'=k
     ·rw [if_pos a3];exact .inr rfl
     ·rw [if_neg a3];exact h3 m m' ai b'
 ·intro m b';show(if m=l then p else if m=k then .emp else hs m) b'=none\/hR b'=none
  split
  ·cases hp:p b' with
   | none=>exact .inl rfl
   | some o=>
     right;rcases p2 b' o hp with d | d
     ·rcases h4 k b' with f | f
      ·rw [f]at d;cases d
      ·exact f
     ·rcases h4 l b' with f | f
      ·rw [f]at d;cases d
      ·exact f
  ·split
   ·exact .inl rfl
   ·exact h4 m b'
 ·intro m b' o hh;have ad:(if m=l then p else if m=k then .emp else hs m) b'=some o:=hh
  split at ad
  ·rcases p2 b' o ad with d | d
   ·exact h5 k b' o d
   ·exact h5 l b' o d
  ·split at ad
   ·cases ad
   ·exact h5 m b' o ad
def hJ.at(R:hJ tb)(ws:R.R)(l off:Nat)(h:aB A)(K:AVal->aB A->Prop):Prop:=
 off<R.len ws/\cond (R.is ws off) (K (.ptr h.length 0) (h.set l (some (.abs (R.hole ws off) [h.length]))++ [some (.abs (R.get ws off) [])])) (K (.raw (.pointer none)) h)
def hJ.load(R:hJ tb)(P:Program)(Z:Operand->AVal)(op:Op)(h:aB A)(K:AVal->aB A->Prop):Prop:=
 match op with
 | .load t a=>match Z a,eA P t with
   | .ptr l off,some false=>match aK h l with
     | some (.abs a [])=>match R.isRow a with
       | some ws=>R.at ws l off h K
       | none=>False
     | some (.abs a [k])=>match R.isHole a with
       | some (ws,i)=>match aK h k with
         | some (.abs s [])=>(match R.upd ws i s with
           | some ws'=>cond (Nat.beq k l) False (i<R.len ws/\R.at ws' l off ((h.set l (some (.abs (R.row ws') []))).set k none) K)
           | none=>False)
         | _=>(i<R.len ws/\off=i)/\K (.ptr k 0) h
       | none=>False
     | _=>False
   | _,_=>False
 | _=>False
theorem hJ.at_ok(R:hJ tb){ws:R.R}{l off:Nat}{h:aB A}{K:AVal->aB A->Prop}(hk:R.at ws l off h K){V:Val}{hR:PHeap}{w:World}{t:TypeId}(ht:eA P t=some false)(hi:Inv (obI tb) V (toF h) hR w)(hf:bO V h.length)(hl:aK h l=some (.abs (R.row ws) [])){x:Value}(hx:Rep V (.ptr l off) x):
 ∃v v' V' h2,K v h2/\(Instr.loadAt t x).run P w=.ok v' w/\Rep V' v v'/\V.le V'/\bO V' h2.length/\h.length<=h2.length/\Inv (obI tb) V' (toF h2) hR w:=by
 obtain⟨ae,hk⟩:=hk;obtain⟨b,k,hV,rfl⟩:=hx
 have aa: ∀ {cs:Array Value} {v:Value},cs.toList[off]? =some v->cs.toList.drop off=[v]++cs.toList.drop (off+1):=by
  intro cs v hv;obtain⟨ad,af⟩:=List.getElem?_eq_some_iff.1 hv;rw [<-af];exact List.drop_eq_getElem_cons ad
 cases hs:R.is ws off with
 | true=>
   rw [hs]at hk;have hw:=R.is_true ws off hs ae;obtain⟨V',y,b',k',cs,T,a1,a2,a3,a4,a5,a6,a7⟩:=hi.lend R hf hl hw;rw [hV]at a5;simp only [sI',pI']at a5;obtain⟨rfl,rfl⟩:=a5;obtain⟨v',g1,g2⟩:=fR (P:=P) (V:=V') (t:=t) (av:=[.ptr h.length 0]) (v:=.ptr h.length 0) a6 (aa a7) ⟨_,[],rfl,⟨y.1,y.2,a4,rfl⟩,rfl⟩ (by unfold eM;rw [ht];rfl)
   exact⟨_,v',V',_,hk,g1,g2,a1,by simpa using a2,by simp,a3⟩
 | false=>
   rw [hs]at hk;have hw:=R.is_false ws off hs ae;have ah:=hi;obtain⟨aj,h1,h2,h3,h4,h5,h6⟩:=hi;obtain⟨b',k',g,bs,ag,N,ac⟩:=h1 l _ hl;have ai:bs=[]:=ag;subst ai;rw [hV]at g;simp only [sI',pI']at g;obtain⟨rfl,rfl⟩:=g;cases N with
   | zero=>exact ac.elim
   | succ N=>
   obtain⟨cs,T,o6,o7⟩:=R.nil ac hw;obtain⟨v',g1,g2⟩:=fR (P:=P) (V:=V) (t:=t) (av:=[.raw (.pointer none)]) (v:=.raw (.pointer none)) (h5 l b _ o6) (aa o7) ⟨_,[],rfl,rfl,rfl⟩ (by unfold eM;rw [ht];rfl)
   exact⟨_,v',V,h,hk,g1,g2,V.le_refl,hf,Nat.le_refl _,ah⟩
theorem hJ.load_ok(R:hJ tb)(Z:Operand->AVal)(o:Oper)(h:aB A)(K:AVal->aB A->Prop)(hk:R.load P Z o.op h K)(V:Val)(hR:PHeap)(w:World)(Z':Operand->Value)(hi:Inv (obI tb) V (toF h) hR w)(hf: ∀l,h.length<=l->V l=none)(hZ: ∀x,Rep V (Z x) (Z' x)):
 ∃nx w' V' v v' h2,K v h2/\(execOp Z' o).run P w=.ok nx w'/\(nx=.value v'\/nx=.skip /\v'=undef)/\Rep V' v v'/\V.le V'/\(∀l,h2.length<=l->V' l=none)/\h.length<=h2.length/\Inv (obI tb) V' (toF h2) hR w'/\bN w w':=by
 unfold hJ.load at hk;split at hk
 case h_2=>exact hk.elim
 rename_i t a am;split at hk
 case h_2=>exact hk.elim
 rename_i l off hZa aa;have hx:=hZ a;rw [hZa]at hx
 have fin: ∀ {v v' V' h2},K v h2->(Instr.loadAt t (Z' a)).run P w=.ok v' w->Rep V' v v'->V.le V'->bO V' h2.length->h.length<=h2.length->Inv (obI tb) V' (toF h2) hR w->
  ∃nx w' V' v v' h2,K v h2/\(execOp Z' o).run P w=.ok nx w'/\(nx=.value v'\/nx=.skip /\v'=undef)/\Rep V' v v'/\V.le V'/\(∀l,h2.length<=l->V' l=none)/\h.length<=h2.length/\Inv (obI tb) V' (toF h2) hR w'/\bN w w':=by
  intro v v' V' h2 a1 a2 a3 a4 a5 a6 a7;exact⟨_,w,V',v,v',h2,a1,by simp [execOp,am,a2],.inl rfl,a3,a4,a5,a6,a7,aLu w⟩
 split at hk
 ·rename_i a0 hl;split at hk
  case h_2=>exact hk.elim
  rename_i ws hr;have:=R.isRow_eq _ _ hr;subst this;obtain⟨v,v',V',h2,a1,a2,a3,a4,a5,a6,a7⟩:=R.at_ok (P:=P) hk aa hi hf hl hx;exact fin a1 a2 a3 a4 a5 a6 a7
 ·rename_i a0 k hl;split at hk
  case h_2=>exact hk.elim
  rename_i ws i hr;have:=R.isHole_eq _ _ _ hr;subst this;split at hk
  ·rename_i s aq;split at hk
   case h_2=>exact hk.elim
   rename_i au hu;cases hb:Nat.beq k l with
   | true=>rw [hb]at hk;exact hk.elim
   | false=>
     rw [hb]at hk;obtain⟨g,hk⟩:=hk;have ah:k≠l:=by intro e;rw [e,Nat.beq_refl]at hb;cases hb
     have ar:=hi.back R hu hl aq ah g;have ap:=cD hl
     obtain⟨v,v',V',h2,a1,a2,a3,a4,a5,a6,a7⟩:=R.at_ok (P:=P) hk aa ar (by intro m hm;exact hf m (by simpa using hm)) (by
      simp only [aK,gD'];rw [List.getElem?_set_ne ah,List.getElem?_set_self ap];rfl) hx
     exact fin a1 a2 a3 a4 a5 (by simpa using a6) a7
  ·obtain⟨⟨g,ae⟩,hk⟩:=hk;subst ae;obtain⟨b,kk,hV,hx⟩:=hx;obtain⟨ax,h1,h2,h3,h4,h5,h6⟩:=id hi;obtain⟨b',k',ac,bs,ao,N,af⟩:=h1 l _ hl;obtain⟨x,r,aj,rfl,al⟩:=ao;have ad:r=[]:=al;subst ad;rw [hV]at ac;simp only [sI',pI']at ac;obtain⟨rfl,rfl⟩:=ac;cases N with
   | zero=>exact af.elim
   | succ N=>
   obtain⟨cs,T,o6,o7⟩:=R.lent af g
   have ai:cs.toList.drop off=[.pointer (some ⟨x.1,0,none⟩)]++cs.toList.drop (off+1):=by
    obtain⟨ag,ak⟩:=List.getElem?_eq_some_iff.1 o7;rw [<-ak];exact List.drop_eq_getElem_cons ag
   obtain⟨v',g1,g2⟩:=fR (P:=P) (V:=V) (t:=t) (av:=[.ptr k 0]) (v:=.ptr k 0) (h5 l b _ o6) ai ⟨_,[],rfl,⟨x.1,x.2,aj,rfl⟩,rfl⟩ (by unfold eM;rw [aa];rfl)
   exact fin hk (by rw [hx];exact g1) g2 V.le_refl hf (Nat.le_refl _) hi
 ·exact hk.elim
def yB(tb:A->Nat×aB A)(P:Program)(t:TypeId)(o:A)(off:Nat)(h:aB A)(K:AVal->aB A->Prop):Prop:=
 match tb o with
 | (_,some (.cells vs)::_)=>match eA P t,bX P t with
   | some true,some n=>cL (Nat.ble (off+n) vs.length&&aLe [] ((vs.drop off).take n)) (K (.agg ((vs.drop off).take n)) h)
   | some false,_=>match vs[off]? with
     | some v=>cL (v.within []) (K v h)
     | none=>False
   | _,_=>False
 | _=>False
def hJ.ops(R:hJ tb)(P:Program)(Z:Operand->AVal)(op:Op)(h:aB A)(K:AVal->aB A->Prop):Prop:=
 match op with
 | .load t a=>match Z a with
   | .ptr l off=>match aK h l with
     | some (.abs o ps)=>match R.isRow o,R.isHole o with
       | none,none=>yB tb P t o off h K
       | _,_=>R.load P Z op h K
     | _=>False
   | _=>False
 | _=>False
theorem hJ.ops_ok(R:hJ tb)(Z:Operand->AVal)(o:Oper)(h:aB A)(K:AVal->aB A->Prop)(hk:R.ops P Z o.op h K)(V:Val)(hR:PHeap)(w:World)(Z':Operand->Value)(hi:Inv (obI tb) V (toF h) hR w)(hf: ∀l,h.length<=l->V l=none)(hZ: ∀x,Rep V (Z x) (Z' x)):
 ∃nx w' V' v v' h2,K v h2/\(execOp Z' o).run P w=.ok nx w'/\(nx=.value v'\/nx=.skip /\v'=undef)/\Rep V' v v'/\V.le V'/\(∀l,h2.length<=l->V' l=none)/\h.length<=h2.length/\Inv (obI tb) V' (toF h2) hR w'/\bN w w':=by
 have ar:=hk;unfold hJ.ops at hk;split at hk
 case h_2=>exact hk.elim
 rename_i t a af;split at hk
 case h_2=>exact hk.elim
 rename_i l off hZa;split at hk
 case h_2=>exact hk.elim
 rename_i ob ps hl;split at hk
 case h_2=>exact R.load_ok Z o h K hk V hR w Z' hi hf hZ
 unfold yB at hk;have hx:=hZ a;rw [hZa]at hx;obtain⟨b,kk,hV,hx⟩:=hx;split at hk
 case h_2=>exact hk.elim
 rename_i np vs rest ah;obtain⟨hs,h1,h2,h3,h4,h5,h6⟩:=id hi;obtain⟨b',k',ad,bs,aq,N,ag⟩:=h1 l _ hl;rw [hV]at ad;simp only [sI',pI']at ad;obtain⟨rfl,rfl⟩:=ad;cases N with
 | zero=>exact ag.elim
 | succ N=>
 obtain⟨Vg,gs,g1,g2,g3,⟨g4,g5,g6⟩,g7⟩:=ag;rw [ah]at g4;have hc:=g4 0 (.cells vs) rfl;obtain⟨b2,k2,c1,cs,T,c2,c3,rs,tail,c4,c5⟩:=hc;have am:b2=b:=by have ae:Vg 0=some (b2,k2):=c1;rw [g1]at ae;simp at ae;exact ae.1.symm
 subst am
 have aa:w.heap[b2]? =some (.cells cs T):=by
  refine h5 l b2 _ ?_;rw [g7];refine aLt g6 (l:=0) ?_;rw [c2];simp [PHeap.one]
 have ao:=aH.length c5
 have drop1: ∀ {av:List AVal},off<=vs.length->cs.toList.drop off=rs.drop off++tail:=by
  intro av aj;rw [c4,List.drop_append_of_le_length (by omega)]
 split at hk
 ·rename_i n e1 e2;obtain⟨ac,hk⟩:=bK.1 hk;obtain⟨al,ak⟩:=Bool.and_eq_true_iff.1 ac;have aj:off+n<=vs.length:=Nat.le_of_ble_eq_true al;have g:aH V ((vs.drop off).take n) ((rs.drop off).take n):=aLw (pl:=[]) (fun i hi=>by cases hi) _ _ ak (aH.take (aH.drop c5 off) n)
  obtain⟨v',g8,g9⟩:=fR (P:=P) (V:=V) (t:=t) (av:=(vs.drop off).take n) (v:=.agg (((vs.drop off).take n).take n)) aa (seg:=(rs.drop off).take n) (rest:=(rs.drop off).drop n++tail) (by rw [drop1 (av:=[]) (by omega),<-List.append_assoc,List.take_append_drop]) g (by
   unfold eM;rw [e1,e2];simp only;rw [if_pos (by rw [List.length_take,List.length_drop];omega)])
  rw [List.take_take,Nat.min_self]at g9;exact⟨_,w,V,_,v',h,hk,by simp [execOp,af,hx,g8],.inl rfl,g9,V.le_refl,hf,Nat.le_refl _,hi,aLu w⟩
 ·rename_i e2 e1;split at hk
  case h_2=>exact hk.elim
  rename_i v hv;obtain⟨ac,hk⟩:=bK.1 hk;have ap:off<vs.length:=(List.getElem?_eq_some_iff.1 hv).1;have ai:=aH.at c5 (i:=off) (a:=v) (v:=rs[off]'(by omega)) hv (gE' (by omega))
  have g:Rep V v (rs[off]'(by omega)):=aLG (pl:=[]) (fun i hi=>by cases hi) _ _ ac ai
  obtain⟨v',g8,g9⟩:=fR (P:=P) (V:=V) (t:=t) (av:=[v]) (v:=v) aa (seg:=[rs[off]'(by omega)]) (rest:=rs.drop (off+1)++tail) (by
   rw [drop1 (av:=[]) (by omega),List.drop_eq_getElem_cons (by omega)];rfl) ⟨_,[],rfl,g,rfl⟩ (by unfold eM;rw [e1];rfl)
  exact⟨_,w,V,_,v',h,hk,by simp [execOp,af,hx,g8],.inl rfl,g9,V.le_refl,hf,Nat.le_refl _,hi,aLu w⟩
 ·exact hk.elim
end Go.Sh
namespace Go.Sh
open Go
variable [Con] {A:Type} {P:Program}
def aR(I:Itp A)(h h2:aB A):Prop:= ∀V hR w,Inv I V (toF h) hR w->bO V h.length-> ∃V',V.le V'/\bO V' h2.length/\h.length<=h2.length/\Inv I V' (toF h2) hR w
theorem aR.refl{I:Itp A}(h:aB A):aR I h h:=fun V hR w h1 h2=>⟨V,V.le_refl,h2,Nat.le_refl _,h1⟩
theorem aR.trans{I:Itp A}{h h2 h3:aB A}(a:aR I h h2)(b:aR I h2 h3):aR I h h3:=by
 intro V hR w h1 g;obtain⟨V1,a1,a2,a3,a4⟩:=a V hR w h1 g;obtain⟨V2,b1,b2,b3,b4⟩:=b V1 hR w a4 a2;exact⟨V2,Val.le_trans a1 b1,b2,Nat.le_trans a3 b3,b4⟩
theorem aR.unpack{tb:A->Nat×aB A}{h:aB A}(t:A)(l np:Nat)(g:aB A)(ps:List Nat)(hl:aK h l=some (.abs t ps))(ht:tb t=(np,g))(ho:obOk np g=true)(hnp:ps.length=np):aR (obI tb) h (aP h l np g ps):=by
 intro V hR w h1 hf;obtain⟨V1,v1,v2,v3⟩:=h1.unpack tb hf hl ht ho hnp;exact⟨V1,v1,v2,by rw [gD];omega,v3⟩
theorem aL2{I:Itp A}{h h2:aB A}(e:h=h2):aR I h h2:=by subst e;exact aR.refl h
theorem aLc{I:Itp A}{f:FuncId}{args:List AVal}{h h2:aB A}{K:AVal->aB A->Prop}(ho:aR I h h2)(h0:aA I P f args h2 K):aA I P f args h K:=by
 intro V hR w g hi hf hr;obtain⟨V1,v1,v2,v3,v4⟩:=ho V hR w hi hf;refine(h0 V1 hR w g v4 v2 (aH.mono v1 _ _ hr)).mono ?_;rintro e w' ⟨v,v',V',h',k1,k2,k3,k4,k5,k6,k7,k8⟩;exact⟨v,v',V',h',k1,k2,k3,Val.le_trans v1 k4,k5,Nat.le_trans v3 k6,k7,k8⟩
theorem aK9{X:Type}{I:Itp A}{f:FuncId}{args:List AVal}{h h2:aB A}{K:AVal->aB A->Prop}{parse:AVal->aB A->Option (Prop×X)}{fin:X->Out A}{root:Nat}{pos:List Nat}{cs:List (Place×gE)}(hr:bP I h.length parse fin)(ho:aR I h h2)
 (h0:aA I P f args h2 (eU h.length root pos cs parse fun x=>(fin x).run K)):aA I P f args h K:=by
 intro V hR w g hi hf aa;obtain⟨V1,v1,v2,v3,v4⟩:=ho V hR w hi hf;refine(aL6 h.length v3 hr h0 V1 hR w g v4 v2 (aH.mono v1 _ _ aa)).mono ?_;rintro e w' ⟨v,v',V',h',k1,k2,k3,k4,k5,k6,k7,k8⟩;refine⟨v,v',V',h',k1,k2,k3,?_,k5,k6,k7,k8⟩;intro l y hy
 have ac:l<h.length:=by
  cases Nat.lt_or_ge l h.length with
  | inl q=>exact q
  | inr q=>rw [hf l q]at hy;cases hy
 exact k4 l y ac (v1 l y hy)
def aI.or(F G:aI A):aI A:=fun args h=>match F args h with
 | some o=>some o
 | none=>G args h
theorem aLK{I:Itp A}{f:FuncId}{F G:aI A}(hF:aI.ok I P f F)(hG:aI.ok I P f G):aI.ok I P f (F.or G):=by
 intro args h o ho K g;unfold aI.or at ho;split at ho
 ·rename_i o' h1;simp only [sI']at ho;subst ho;exact hF args h _ h1 K g
 ·exact hG args h o ho K g
def aF4(pos:List Nat):Nat->List AVal->List AVal
 | _,[]=>[]
 | i,v::vs=>cond (pos.elem i) .O v::aF4 pos (i+1) vs
theorem yW(pos:List Nat): ∀(i:Nat) (vs:List AVal),oL vs (aF4 pos i vs)
 | _,[]=>trivial
 | i,v::vs=>by
   refine⟨?_,yW pos (i+1) vs⟩;cases pos.elem i with
   | true=>exact .inr rfl
   | false=>exact .inl rfl
def aBo(g:aB A)(root:Nat)(pos:List Nat):aB A:=match aK g root with
 | some (.cells vs)=>g.set root (some (.cells (aF4 pos 0 vs)))
 | _=>g
theorem d8(g:aB A)(root:Nat)(pos:List Nat):mG g (aBo g root pos):=by
 unfold aBo;split
 ·rename_i vs h;refine kI g root _ ?_;rw [h];exact yW pos 0 vs
 ·exact nA g
theorem rP{I:Itp A}{n:Nat}{K:AVal->aB A->Prop}{d:Bool}{a b g:aB A}(hK:(Out.ite d (.ret (.bool true) a) (.ret (.bool false) b)).run K)(h1:K (.bool true) a->cQ I n K (.bool true) g)(h2:K (.bool false) b->cQ I n K (.bool false) g):cQ I n K (.bool d) g:=by
 cases d with
 | true=>exact h1 hK
 | false=>exact h2 hK
end Go.Sh
namespace Go.Sh
open Go
variable [Con]
structure kL (P:Program) (l:Nat) (xs:List Int) (Fr:Nat->PHeap->Prop):Prop where
 con: ∀i hF,Fr i hF-> ∀b o,Con.con b=some o->hF b=some o
 step: ∀i x,xs[i]? =some x-> ∀(hF own:PHeap) (w:World),Fr i hF->own.disj hF->own.sub w->hF.sub w->
  YieldAt Fence.wide 0 P l #[.int .i64 x] w fun e w'=>e=.returned (.bool true)/\ ∃hF',Fr (i+1) hF'/\own.disj hF'/\own.sub w'/\hF'.sub w'/\bN w w'
def PHeap.less(h g:PHeap):PHeap:=fun b=>match g b with | some _=>none | none=>h b
theorem aLN{h g:PHeap}{b:Nat}{o:Obj}(e:h.less g b=some o):h b=some o/\g b=none:=by
 unfold PHeap.less at e;cases hg:g b with
 | some o'=>rw [hg]at e;cases e
 | none=>rw [hg]at e;exact⟨e,rfl⟩
theorem PHeap.less_of{h g:PHeap}{b:Nat}{o:Obj}(e:h b=some o)(hg:g b=none):h.less g b=some o:=by unfold PHeap.less;rw [hg];exact e
theorem PHeap.join_some{h g:PHeap}{b:Nat}{o:Obj}(e:h.join g b=some o):h b=some o\/(h b=none/\g b=some o):=by
 unfold PHeap.join at e;cases hh:h b with
 | some o'=>rw [hh]at e;exact .inl (by simpa using e)
 | none=>rw [hh]at e;exact .inr ⟨rfl,e⟩
theorem aLY{h g:PHeap}(hg: ∀b o,g b=some o->h b=some o):(h.less g).join g=h:=by
 funext b;unfold PHeap.join PHeap.less;cases e:g b with
 | some o=>simp [hg b o e]
 | none=>cases e2:h b<;>simp
def frI(Fr:Nat->PHeap->Prop):Itp Nat:=fun i _ _ p=>Fr i (p.join Con.con)/\p.disj Con.con
section
variable {P:Program}
theorem dQ{h g:PHeap}(d:h.disj g){b:Nat}{o:Obj}(e:h b=some o):g b=none:=by
 rcases d b with h1 | h1
 ·rw [e]at h1;cases h1
 ·exact h1
theorem PF{l:Nat}{xs:List Int}{Fr:Nat->PHeap->Prop}(hY:kL P l xs Fr){i:Nat}{x:Int}(hx:xs[i]? =some x){r:aB Nat}{K:AVal->aB Nat->Prop}(hK:K (.bool true) (some (.abs (i+1) [])::r))
 (V:Val) (hR:PHeap) (w:World) (hi:Inv (frI Fr) V (toF (some (.abs i [])::r)) hR w) (hf: ∀l,(some (aG.abs i [])::r).length <=l->V l=none):
 YieldAt Fence.wide 0 P l #[.int .i64 x] w (zD (frI Fr) V (some (aG.abs i [])::r:aB Nat).length hR K w):=by
 obtain⟨hs,h1,h2,h3,h4,h5,h6,h7⟩:=hi;obtain⟨b0,k0,e1,bs,e2,aj,ak⟩:=h1 0 (.abs i []) rfl
 let own:PHeap:=fun b=>(aLd (fun m=>if m=0 then .emp else hs m)).join (hR.less Con.con) b
 have g: ∀b o,own b=some o->(∃m,m≠0/\hs m b=some o)\/(hR b=some o/\Con.con b=none):=by
  intro b o e;rcases PHeap.join_some e with h | ⟨_,h⟩
  ·obtain⟨m,hm⟩:=aLr h
   by_cases h0:m=0
   ·rw [if_pos h0]at hm;cases hm
   ·rw [if_neg h0]at hm;exact .inl ⟨m,h0,hm⟩
  ·exact .inr (aLN h)
 have F_some: ∀b o,(hs 0).join Con.con b=some o->hs 0 b=some o\/Con.con b=some o:=by
  intro b o e;rcases PHeap.join_some e with h | ⟨_,h⟩
  ·exact .inl h
  ·exact .inr h
 have ah:own.disj ((hs 0).join Con.con):=by
  intro b;cases e:own b with
  | none=>exact .inl rfl
  | some o=>
    right;cases e3:(hs 0).join Con.con b with
    | none=>rfl
    | some o2=>
      rcases g b o e with⟨m,hm,e4⟩ | ⟨e4,e5⟩<;>rcases F_some b o2 e3 with e6 | e6
      ·have:=dQ (h3 m 0 hm) e4;rw [e6]at this;cases this
      ·have:=dQ (h4 m) e4;rw [h7 b o2 e6]at this;cases this
      ·have:=dQ (h4 0) e6;rw [e4]at this;cases this
      ·rw [e6]at e5;cases e5
 have ag:own.sub w:=by
  intro b o e;rcases g b o e with⟨m,hm,e4⟩ | ⟨e4,e5⟩
  ·exact h5 m b o e4
  ·exact h6 b o e4
 have ai:((hs 0).join Con.con).sub w:=by
  intro b o e;rcases F_some b o e with e6 | e6
  ·exact h5 0 b o e6
  ·exact h6 b o (h7 b o e6)
 obtain⟨fn,tmps,assign,body,y1,y2⟩:=hY.step i x hx _ own w aj ah ag ai;refine⟨fn,tmps,assign,body,y1,y2.mono ?_⟩;rintro e w' ⟨rfl,ae,g1,g2,g3,g4,g5⟩;have gc:=hY.con _ _ g1;refine⟨.bool true,.bool true,V,_,hK,rfl,rfl,V.le_refl,hf,Nat.le_refl _,?_,g5⟩
 have big_of: ∀m b o,m≠0->hs m b=some o->own b=some o:=by
  intro m b o hm e;show(aLd _).join _ b=_
  have hb:aLd (fun m=>if m=0 then .emp else hs m) b=some o:=by
   refine aLt (l:=m) ?_ ?_
   ·intro p q af;show PHeap.disj (if p=0 then .emp else hs p) (if q=0 then .emp else hs q)
    split
    ·exact(aLb _).symm
    ·split
     ·exact aLb _
     ·exact h3 p q af
   ·show(if m=0 then PHeap.emp else hs m) b=some o
    rw [if_neg hm];exact e
  unfold PHeap.join;rw [hb]
 have aa: ∀b o,hR b=some o->Con.con b=none->own b=some o:=by
  intro b o e ec;show(aLd _).join _ b=_;unfold PHeap.join;cases hb:aLd (fun m=>if m=0 then .emp else hs m) b with
  | none=>exact PHeap.less_of e ec
  | some o2=>
    obtain⟨m,hm⟩:=aLr hb
    by_cases h0:m=0
    ·rw [if_pos h0]at hm;cases hm
    ·rw [if_neg h0]at hm;have:=dQ (h4 m) hm;rw [e]at this;cases this
 obtain⟨ac,z,nz⟩: ∃ac:Nat->PHeap,ac 0=ae.less Con.con/\ ∀m,m≠0->ac m=hs m:=⟨fun m=>if m=0 then ae.less Con.con else hs m,if_pos rfl,fun m h=>if_neg h⟩
 refine⟨ac,?_,?_,?_,?_,?_,?_,h7⟩
 ·intro m e he
  by_cases h0:m=0
  ·subst h0;rw [z];have he:some (aG.abs (i+1) [])=some e:=he;cases he;refine⟨b0,k0,e1,bs,e2,?_,?_⟩
   ·rw [aLY gc];exact g1
   ·intro b;cases ec:Con.con b with
    | none=>exact .inr rfl
    | some o=>left;unfold PHeap.less;rw [ec]
  ·rw [nz m h0];refine h1 m e ?_;cases m with
   | zero=>exact absurd rfl h0
   | succ m=>exact he
 ·intro m hm
  by_cases h0:m=0
  ·subst h0;cases hm
  ·rw [nz m h0];refine h2 m ?_;cases m with
   | zero=>exact absurd rfl h0
   | succ m=>exact hm
 ·have key: ∀m,m≠0->(hs m).disj (ae.less Con.con):=by
   intro m hm b;cases e:hs m b with
   | none=>exact .inl rfl
   | some o=>
     right;have:=dQ g2 (big_of m b o hm e);unfold PHeap.less;rw [this];split<;>rfl
  intro m q ad
  by_cases h0:m=0
  ·subst h0;rw [z,nz q (fun e=>ad e.symm)];exact(key q (fun e=>ad e.symm)).symm
  ·rw [nz m h0]
   by_cases hq:q=0
   ·subst hq;rw [z];exact key m h0
   ·rw [nz q hq];exact h3 m q ad
 ·intro m
  by_cases h0:m=0
  ·subst h0;rw [z];intro b;cases e:hR b with
   | none=>exact .inr rfl
   | some o=>
     left;cases ec:Con.con b with
     | some o2=>unfold PHeap.less;rw [ec]
     | none=>
       have:=dQ g2 (aa b o e ec);unfold PHeap.less;rw [ec];exact this
  ·rw [nz m h0];exact h4 m
 ·intro m b o e
  by_cases h0:m=0
  ·subst h0;rw [z]at e;exact g4 b o (aLN e).1
  ·rw [nz m h0]at e;exact g3 b o (big_of m b o h0 e)
 ·intro b o e;cases ec:Con.con b with
  | some o2=>
    have:=h7 b o2 ec;rw [e]at this;cases this;exact g4 b o (gc b o ec)
  | none=>exact g3 b o (aa b o e ec)
structure aBD (xs:List Int) (i:Nat) (x:Int):Prop where
 h:xs[i]? =some x
def itE(P:Program){l:Nat}{xs:List Int}{Fr:Nat->PHeap->Prop}(hY:kL P l xs Fr):Env Nat P where
 I:=frI Fr
 cps:=fun _=>none
 det:=fun _=>none
 meth:=fun _ _=>none
 cpsOk:=by intro f S h;cases h
 detOk:=by intro f S h;cases h
 methOk:=by intro t n f h;cases h
 rowOk:=by intro Z o h K hk;exact hk.elim
 yld:=fun l' args h K=>match args,h with
  | [.int .i64 x],some (.abs i [])::r=>(l'=l/\aBD xs i x)/\K (.bool true) (some (.abs (i+1) [])::r)
  | _,_=>False
 yldOk:=by
  intro l' args h K hk V hR w args' hi hf hr;split at hk
  ·rename_i x i r;obtain⟨⟨rfl,⟨hx⟩⟩,hK⟩:=hk;obtain⟨v,vs,e,hv,e2⟩:=hr;have hv:v=.int .i64 x:=hv;have e2:vs=[]:=e2;subst hv;subst e2;have ha:args'= #[.int .i64 x]:=by apply Array.ext';simpa using e
   subst ha;exact PF hY hx hK V hR w hi hf
  ·exact hk.elim
end
end Go.Sh
namespace Go.Sh
open Go
variable [Con] {A:Type}
section
variable {P:Program} {E:Env A P}
abbrev PQ(E:Env A P)(ds:List Deferred)(V:Val)(n:Nat)(hR:PHeap)(w:World)(K:List AVal->aB A->Prop)(a:Act)(w':World):Prop:=uU E ds V n hR w K a w'
end
def cI{P:Program}(E:Env A P)(inl:s9 A)(nt:Nat):Code->List AVal->aB A->(List AVal->aB A->Prop)->Prop
 | .skip,tm,h,K=>K tm h
 | .region _ ops draw,tm,h,K=>cL (Nat.beq tm.length nt&& !draw) (jI E inl tm nt ops.toList [] 0 [] h K)
 | .seq x y,tm,h,K=>cI E inl nt x tm h fun tm' h'=>cI E inl nt y tm' h' K
 | .cond c x y,tm,h,K=>match dM tm c with
    | .bool b=>cond b (cI E inl nt x tm h K) (cI E inl nt y tm h K)
    | _=>False
 | .block _ c,tm,h,K=>cI E inl nt c tm h K
 | _,_,_,_=>False
section
variable {P:Program} {E:Env A P}
theorem eK{inl:s9 A}(hinl:lE E inl){ro:Option Nat}{ds:List Deferred}{nt:Nat}{hR:PHeap} : ∀(c:Code) (tm:List AVal) (h:aB A) (K:List AVal->aB A->Prop) (a:Act) (w:World) (V:Val) (Q:Exit->Act->World->Prop),
 cI E inl nt c tm h K->Inv E.I V (toF h) hR w->bO V h.length->aH V tm a.tmps.toList->a.defers=ds->
 (∀a' w',PQ E ds V h.length hR w K a' w'->Q .normal a' w')->c.wpIn (FW ro) 0 P Q a w:=by
 intro c
 induction c with
 | skip=>
   intro tm h K a w V Q he hi g ht hd hQ;exact wpIn_skip (hQ a w ⟨tm,V,h,he,ht,V.le_refl,g,Nat.le_refl _,hi,aLu w,hd⟩)
 | region id ops draw=>
   intro tm h K a w V Q he hi g ht hd hQ;unfold cI at he;obtain⟨hb,ad⟩:=bK.1 he;obtain⟨ac,ae⟩:=Bool.and_eq_true_iff.1 hb;clear he hb;cases draw with
   | true=>cases ae
   | false=>exact wpIn_region_list (qW hinl (Nat.eq_of_beq_eq_true ac) ops.toList [] 0 [] h K a w V hR ⟨[],rfl,rfl,rfl⟩ ad trivial hi g ht hd hQ)
 | seq x y ihx ihy=>
   intro tm h K a w V Q he hi g ht hd hQ;unfold cI at he;refine wpIn_seq (ihx tm h _ a w V _ he hi g ht hd ?_);rintro a' w' ⟨aa,V',h',k1,k2,k3,k4,k5,k6,k7,k8⟩;refine ihy aa h' K a' w' V' Q k1 k6 k4 k2 k8 ?_;intro a2 w2 hT;exact hQ a2 w2 (uU.chain hT k3 k5 k7)
 | cond c x y ihx ihy=>
   intro tm h K a w V Q he hi g ht hd hQ;unfold cI at he;split at he
   ·rename_i b hb;have hv:=fE ht c;rw [hb]at hv;have hv:a.eval c=.bool b:=hv;cases b with
    | true=>exact wpIn_cond hv (ihx tm h K a w V Q he hi g ht hd hQ)
    | false=>exact wpIn_cond hv (ihy tm h K a w V Q he hi g ht hd hQ)
   ·exact he.elim
 | block id c ih=>
   intro tm h K a w V Q he hi g ht hd hQ;unfold cI at he;refine wpIn_block (ih tm h K a w V _ he hi g ht hd ?_);intro a' w' hT;exact hQ a' w' hT
 | _=>
   intro tm h K a w V Q he hi g ht hd hQ;exact he.elim
def WL(I:Itp A)(V:Val)(h:aY A)(hR hF:PHeap):Prop:=
 ∃hs:Nat->PHeap,(∀l e,h l=some e->e.interp I V l (hs l))/\(∀l,h l=none->hs l=.emp)/\
  (∀l m,l≠m->(hs l).disj (hs m))/\(∀l,(hs l).disj hR)/\hF=(aLd hs).join hR/\ ∀b o,Con.con b=some o->hR b=some o
theorem o9{hs:Nat->PHeap}{hR:PHeap}{b:Nat}{o:Obj}(e:(aLd hs).join hR b=some o):(∃l,hs l b=some o)\/hR b=some o:=by
 rcases PHeap.join_some e with h | ⟨_,h⟩
 ·exact .inl (aLr h)
 ·exact .inr h
theorem f7{hs:Nat->PHeap}{hR:PHeap}(d: ∀l m,l≠m->(hs l).disj (hs m))(dR: ∀l,(hs l).disj hR){b:Nat}{o:Obj}(e:(∃l,hs l b=some o)\/hR b=some o):(aLd hs).join hR b=some o:=by
 unfold PHeap.join;rcases e with⟨l,e⟩ | e
 ·rw [aLt d e]
 ·cases hb:aLd hs b with
  | none=>exact e
  | some o2=>
    obtain⟨l,hl⟩:=aLr hb;have:=dQ (dR l) hl;rw [e]at this;cases this
theorem cM{h g:PHeap}{b:Nat}{o:Obj}(e:h b=some o):h.join g b=some o:=by unfold PHeap.join;rw [e]
theorem pE{h g:PHeap}(d:g.disj h){b:Nat}{o:Obj}(e:g b=some o):h.join g b=some o:=by
 unfold PHeap.join;rw [dQ d e];exact e
theorem WL.inv{I:Itp A}{V:Val}{h:aY A}{hR hF own:PHeap}{w:World}(hh:WL I V h hR hF)(hd:own.disj hF)(ho:own.sub w)(hs:hF.sub w):Inv I V h (hR.join own) w:=by
 obtain⟨g,h1,h2,h3,h4,rfl,h6⟩:=hh
 have aa:own.disj hR:=by
  intro b;cases e:own b with
  | none=>exact .inl rfl
  | some o=>
    right;have:=dQ hd e;cases e2:hR b with
    | none=>rfl
    | some o2=>rw [f7 h3 h4 (.inr e2)]at this;cases this
 refine⟨g,h1,h2,h3,?_,fun l b o e=>hs b o (f7 h3 h4 (.inl ⟨l,e⟩)),?_,fun b o e=>cM (h6 b o e)⟩
 ·intro l b;cases e:g l b with
  | none=>exact .inl rfl
  | some o=>
    right;unfold PHeap.join;rw [dQ (h4 l) e];cases e2:own b with
    | none=>rfl
    | some o2=>
      have:=dQ hd e2;rw [f7 h3 h4 (.inl ⟨l,e⟩)]at this;cases this
 ·intro b o e;rcases PHeap.join_some e with e | ⟨_,e⟩
  ·exact hs b o (f7 h3 h4 (.inr e))
  ·exact ho b o e
theorem Inv.held{I:Itp A}{V:Val}{h:aY A}{hR own:PHeap}{w:World}(hi:Inv I V h (hR.join own) w)(hd:own.disj hR)(hc: ∀b o,Con.con b=some o->hR b=some o):
 ∃hF,WL I V h hR hF/\own.disj hF/\own.sub w/\hF.sub w:=by
 obtain⟨hs,h1,h2,h3,h4,h5,h6,h7⟩:=hi
 have d1: ∀l,(hs l).disj hR:=by
  intro l b;rcases h4 l b with e | e
  ·exact .inl e
  ·right;cases e2:hR b with
   | none=>rfl
   | some o=>rw [cM e2]at e;cases e
 refine⟨_,⟨hs,h1,h2,h3,d1,rfl,hc⟩,?_,fun b o e=>h6 b o (pE hd e),?_⟩
 ·intro b;cases e:own b with
  | none=>exact .inl rfl
  | some o=>
    right;cases e2:(aLd hs).join hR b with
    | none=>rfl
    | some o2=>
      rcases o9 e2 with⟨l,g⟩ | g
      ·have:=dQ (h4 l) g;rw [pE hd e]at this;cases this
      ·have:=dQ hd e;rw [g]at this;cases this
 ·intro b o e;rcases o9 e with⟨l,e⟩ | e
  ·exact h5 l b o e
  ·exact h6 b o (cM e)
end
end Go.Sh
namespace Go.Sh
open Go Go.RowKit
variable [Con] {A:Type}
def FS(P:Program)(fA:FuncId)(view:AVal)(xs:List Int):Prop:=
 ∀(l:Nat) (Fr:Nat->PHeap->Prop),kL P l xs Fr->aA (frI Fr) P fA [.func (.yield l) [] [],.ptr 1 0] [some (.abs 0 []),some (.cells [view])] (fun v h=>h=[some (.abs xs.length []),some (.cells [view])])
theorem Inv.put{I:Itp A}{V:Val}{h:aY A}{hX hY:PHeap}{w:World}{l:Nat}{o o':Obj}(hi:Inv I V h hX w)(hl:hX l=some o)(hY1:hY l=some o')(hY2: ∀b,b≠l->hY b=hX b)(hc:Con.con l=none):Inv I V h hY (w.putObj l o'):=by
 obtain⟨hs,h1,h2,h3,h4,h5,h6,h7⟩:=hi;have g:l<w.heap.size:=(Array.getElem?_eq_some_iff.1 (h6 l o hl)).1
 have nl: ∀m,hs m l=none:=fun m=>by
  rcases h4 m l with e | e
  ·exact e
  ·rw [hl]at e;cases e
 refine⟨hs,h1,h2,h3,?_,?_,?_,?_⟩
 ·intro m b
  by_cases e:b=l
  ·subst e;exact .inl (nl m)
  ·rw [hY2 b e];exact h4 m b
 ·intro m b x e;have hb:b≠l:=fun e2=>by subst e2;rw [nl m]at e;cases e
  rw [World.putObj_heap_other hb];exact h5 m b x e
 ·intro b x e
  by_cases hb:b=l
  ·subst hb;rw [hY1]at e;cases e;exact World.putObj_heap_same g
  ·rw [World.putObj_heap_other hb];rw [hY2 b hb]at e;exact h6 b x e
 ·intro b x e;have hb:b≠l:=fun e2=>by subst e2;rw [hc]at e;cases e
  rw [hY2 b hb];exact h7 b x e
theorem Inv.shrink{I:Itp A}{V:Val}{h:aY A}{hX hY:PHeap}{w:World}(hi:Inv I V h hX w)(hs: ∀b o,hY b=some o->hX b=some o)(hc: ∀b o,Con.con b=some o->hY b=some o):Inv I V h hY w:=by
 obtain⟨g,h1,h2,h3,h4,h5,h6,h7⟩:=hi;refine⟨g,h1,h2,h3,?_,h5,fun b o e=>h6 b o (hs b o e),hc⟩;intro m b;rcases h4 m b with e | e
 ·exact .inl e
 ·right;cases e2:hY b with
  | none=>rfl
  | some o=>rw [hs b o e2]at e;cases e
theorem bN.put{w:World}{l:Nat}{r r':Loop}(h:w.heap[l]? =some (.loop r)):bN w (w.putObj l (.loop r')):=by
 have g:l<w.heap.size:=(Array.getElem?_eq_some_iff.1 h).1;refine⟨rfl,rfl,?_,?_⟩
 ·show w.heap.size<=(w.heap.setIfInBounds l _).size
  simp
 ·intro a _;unfold World.frozen?
  by_cases e:a.block=l
  ·rw [e,h,World.putObj_heap_same g]
  ·rw [World.putObj_heap_other e]
theorem aL8(w:World)(o:Obj):bN w (w.alloc o):=by
 refine⟨rfl,rfl,?_,?_⟩
 ·rw [World.size_alloc];omega
 ·intro a ha;unfold World.frozen?
  have:(w.alloc o).heap[a.block]? =w.heap[a.block]? :=by
   show(w.heap.push o)[a.block]? =_;rw [Array.getElem?_push,if_neg (by omega)]
  rw [this]
section
variable {P:Program} {E:Env A P}
def rgH(hR:PHeap)(D l:Nat)(r:Loop):PHeap:=fun b=>if b=l then some (.loop r)else if b=D then some (.deferred (some []))else hR b
theorem yU(hR:PHeap)(D l:Nat)(r:Loop):rgH hR D l r l=some (.loop r):=if_pos rfl
theorem aCl{hR:PHeap}{D l:Nat}{r r':Loop}{b:Nat}(h:b≠l):rgH hR D l r' b=rgH hR D l r b:=by
 unfold rgH;rw [if_neg h,if_neg h]
theorem yR{inl:s9 A}(hinl:lE E inl){fA:FuncId}{view:AVal}{xs:List Int}(hA:FS P fA view xs){nt m m0:Nat}(hmm:m0<=m){g:Operand}{p:Tmp}{assign body:Code}{tm:List AVal}{S:Nat->aB A}
 (hS: ∀j,(S j).length =m) (hwv:view.within []=true) (hSw:dB m (S 0)=true)
 (hb: ∀j x,xs[j]? =some x->cI E inl nt assign (tm.set p (.int .i64 x)) (S j) (fun tm1 h1=>cI E inl nt body tm1 h1 (fun _ h2=>aE E.I m0 (.bool true) h2 (.bool true) (S (j+1)))))
 {V:Val} {hR:PHeap} {w:World} {a:Act} {blk k:Nat} (hi:Inv E.I V (toF (S 0++ [some (.cells [view])])) hR w) (hf:bO V (m+1)) (hVm:V m=some (blk,k))
 (ht:aH V tm a.tmps.toList) (hwt:aLe (upto 0 m0) tm=true) (hd:a.defers=[])
 (hg:a.eval g=.func (.func fA) #[] #[.pointer (some ⟨blk,0,none⟩)]) (hpl:mX P fA=true)
 {Q:Exit->Act->World->Prop}
 (hQ: ∀(w':World) (D:Nat) (V':Val),(∀l y,l<m0->V l=some y->V' l=some y)->bO V' m->hR D=none->w'.heap[D]? =some (.deferred (some []))->
   Inv E.I V' (toF (S xs.length)) (fun b=>if b=D then some (.deferred (some []))else hR b) w'->bN w w'->Q .normal {a with defers:=[{target:=.collected D,args:= #[] }] } w'):
 (Code.rangeFunc g #[p] assign body).wp P Q a w:=by
 have cd:(S 0).length =m:=hS 0;refine(wpIn_wide (n:=0)).1 (wpIn_rangeFunc ?_);intro fn c0;obtain⟨D,hD⟩: ∃D,D=w.heap.size:=⟨_,rfl⟩;obtain⟨l,hl⟩: ∃l,l=w.heap.size+1:=⟨_,rfl⟩;have bt:l≠D:=by omega
 obtain⟨rec,aa⟩: ∃rec:LoopState->Loop,rec=fun st=> {state:=st,pending:=none,fn,tmps:=a.tmps,params:= #[p],assign,body,defers:=D} :=⟨_,rfl⟩;obtain⟨W1,ai⟩: ∃W1,(w.alloc (.deferred (some []))).alloc (.loop (rec .ready))=W1:=⟨_,rfl⟩
 have hold: ∀(b:Nat) (o:Obj),w.heap[b]? =some o->W1.heap[b]? =some o:=by
  intro b o e;have ce:=(Array.getElem?_eq_some_iff.1 e).1;rw [<-ai];exact(Below.heap_alloc _ _ b (by rw [World.size_alloc];omega)).trans ((Below.heap_alloc _ _ b ce).trans e)
 have ck:W1.heap[l]? =some (.loop (rec .ready)):=by
  rw [<-ai,hl];have:=World.alloc_heap_new (w.alloc (.deferred (some []))) (.loop (rec .ready))
  rwa [World.size_alloc]at this
 have cn:W1.heap[D]? =some (.deferred (some [])):=by
  rw [<-ai,hD];exact(Below.heap_alloc _ _ _ (by simp)).trans (World.alloc_heap_new w _)
 have cq:bN w W1:=by rw [<-ai];exact(aL8 _ _).trans (aL8 _ _)
 have am: ∀ {h:PHeap} {b:Nat},h.sub w->w.heap.size<=b->h b=none:=by
  intro h b hs hb;cases e:h b with
  | none=>rfl
  | some o=>
    have:=(Array.getElem?_eq_some_iff.1 (hs b o e)).1;omega
 obtain⟨hs,h1,h2,h3,h4,h5,h6,h7⟩:=hi;have bh:hR D=none:=am h6 (by omega)
 have bg:hR l=none:=am h6 (by omega)
 have a7:Con.con D=none:=by
  cases e:Con.con D with
  | none=>rfl
  | some o=>rw [h7 D o e]at bh;cases bh
 have al:Con.con l=none:=by
  cases e:Con.con l with
  | none=>rfl
  | some o=>rw [h7 l o e]at bg;cases bg
 obtain⟨Vm,ax⟩: ∃Vm:Val,Vm=fun i=>if i<m then V i else none:=⟨_,rfl⟩
 have ag: ∀i,i<m->V i=Vm i:=fun i h=>by rw [ax];exact(if_pos h).symm
 have a8: ∀i,(upto 0 m).elem i=true->V i=Vm i:=fun i h=>ag i (by have:=(gW m 0 i).1 h;omega)
 obtain⟨Vz,bz⟩: ∃Vz:Val,Vz=fun i=>if i<m0 then V i else none:=⟨_,rfl⟩
 have ca:aH Vz tm a.tmps.toList:=aLw (fun i h=>by have:=(gW m0 0 i).1 h;rw [bz];exact(if_pos (by omega)).symm) _ _ hwt ht
 have ae: ∀i y,Vz i=some y->i<m0/\Vm i=some y:=by
  intro i y e;rw [bz]at e
  by_cases h:i<m0
  ·have e:(if i<m0 then V i else none)=some y:=e
   rw [if_pos h]at e;exact⟨h,by rw [<-ag i (by omega)];exact e⟩
  ·have e:(if i<m0 then V i else none)=some y:=e
   rw [if_neg h]at e;cases e
 have cg:bO Vm m:=fun i h=>by rw [ax];exact if_neg (by omega)
 have bb: ∀st,∀b o,Con.con b=some o->rgH hR D l (rec st) b=some o:=by
  intro st b o e;unfold rgH;rw [if_neg (fun e2=>by subst e2;rw [al]at e;cases e),if_neg (fun e2=>by subst e2;rw [a7]at e;cases e)]
  exact h7 b o e
 have ac: ∀i,i<m->aK (S 0++ [some (.cells [view])]) i=aK (S 0) i:=by
  intro i h;unfold aK;rw [gD',gD',List.getElem?_append_left (by omega)]
 have ao:aK (S 0++ [some (.cells [view])]) m=some (.cells [view]):=by
  unfold aK;rw [gD',List.getElem?_append_right (by omega),cd]
  simp
 have ad: ∀i,m<=i->aK (S 0) i=none:=by
  intro i h;unfold aK;rw [gD',List.getElem?_eq_none (by omega)];rfl
 have cx:(hs m).sub w:=fun b o e=>h5 m b o e;have br: ∀i,hs i l=none:=fun i=>am (fun b o e=>h5 i b o e) (by omega)
 have bs: ∀i,hs i D=none:=fun i=>am (fun b o e=>h5 i b o e) (by omega)
 have af: ∀st b o,rgH hR D l (rec st) b=some o->(b=l/\o=.loop (rec st))\/(b=D/\o=.deferred (some []))\/hR b=some o:=by
  intro st b o e;unfold rgH at e
  by_cases e1:b=l
  ·rw [if_pos e1]at e;cases e;exact .inl ⟨e1,rfl⟩
  ·rw [if_neg e1]at e
   by_cases e2:b=D
   ·rw [if_pos e2]at e;cases e;exact .inr (.inl ⟨e2,rfl⟩)
   ·rw [if_neg e2]at e;exact .inr (.inr e)
 have b5: ∀i,(hs i).disj (rgH hR D l (rec .ready)):=by
  intro i b;cases e:hs i b with
  | none=>exact .inl rfl
  | some o=>
    right;cases e2:rgH hR D l (rec .ready) b with
    | none=>rfl
    | some o2=>
      rcases af _ b o2 e2 with⟨e3,_⟩ | ⟨e3,_⟩ | e3
      ·rw [e3,br i]at e;cases e
      ·rw [e3,bs i]at e;cases e
      ·have:=dQ (h4 i) e;rw [e3]at this;cases this
 have bj:Inv E.I V (toF (S 0)) ((rgH hR D l (rec .ready)).join (hs m)) W1:=by
  refine⟨fun i=>if i<m then hs i else .emp,?_,?_,?_,?_,?_,?_,fun b o e=>cM (bb _ b o e)⟩
  ·intro i e he
   by_cases hi:i<m
   ·show e.interp E.I V i (if i<m then hs i else .emp)
    rw [if_pos hi];exact h1 i e (by show aK _ i=_;rw [ac i hi];exact he)
   ·have:aK (S 0) i=some e:=he;rw [ad i (by omega)]at this;cases this
  ·intro i he;show(if i<m then hs i else .emp)=_
   by_cases hi:i<m
   ·rw [if_pos hi];exact h2 i (by show aK _ i=_;rw [ac i hi];exact he)
   ·rw [if_neg hi]
  ·intro i j bd;show PHeap.disj (if i<m then hs i else .emp) (if j<m then hs j else .emp)
   by_cases hi:i<m
   ·rw [if_pos hi]
    by_cases hj:j<m
    ·rw [if_pos hj];exact h3 i j bd
    ·rw [if_neg hj];exact aLb _
   ·rw [if_neg hi];exact(aLb _).symm
  ·intro i;show PHeap.disj (if i<m then hs i else .emp) _
   by_cases hi:i<m
   ·rw [if_pos hi];intro b;cases e:hs i b with
    | none=>exact .inl rfl
    | some o=>
      right;unfold PHeap.join;rw [dQ (b5 i) e];exact dQ (h3 i m (by omega)) e
   ·rw [if_neg hi];exact(aLb _).symm
  ·intro i b o e;have e:(if i<m then hs i else PHeap.emp) b=some o:=e
   by_cases hi:i<m
   ·rw [if_pos hi]at e;exact hold b o (h5 i b o e)
   ·rw [if_neg hi]at e;cases e
  ·intro b o e;rcases PHeap.join_some e with e | ⟨_,e⟩
   ·rcases af _ b o e with⟨rfl,rfl⟩ | ⟨rfl,rfl⟩ | e
    ·exact ck
    ·exact cn
    ·exact hold b o (h6 b o e)
   ·exact hold b o (h5 m b o e)
 have bi:Inv E.I Vm (toF (S 0)) ((rgH hR D l (rec .ready)).join (hs m)) W1:=by
  refine aL1 (pl:=upto 0 m) a8 ?_ bj;intro i e he;have ah:aK (S 0) i=some e:=he
  have hi:i<m:=by
   cases Nat.lt_or_ge i m with
   | inl h=>exact h
   | inr h=>rw [ad i h]at ah;cases ah
  refine⟨(gW m 0 i).2 (by omega),?_⟩
  unfold dB at hSw;rw [List.all_eq_true]at hSw
  have bq:some e∈S 0:=by
   unfold aK at ah;rw [gD',gE' (by omega)]at ah
   have ah:(S 0)[i]'(by omega)=some e:=ah
   rw [<-ah];exact List.getElem_mem _
  exact hSw _ bq
 have b8:(hs m).disj (rgH hR D l (rec .ready)):=b5 m;obtain⟨hF0,cp,b9,b7,cb⟩:=bi.held b8 (bb _);obtain⟨Fr,ak⟩: ∃Fr:Nat->PHeap->Prop,Fr=fun j hF=> ∃V2:Val,(∀i y,i<m0->Vm i=some y->V2 i=some y)/\bO V2 m/\WL E.I V2 (toF (S j)) (rgH hR D l (rec .ready)) hF:=⟨_,rfl⟩;have a6:Fr 0 hF0:=by rw [ak];exact⟨Vm,fun _ _ _ h=>h,cg,cp⟩
 have hY:kL P l xs Fr:=by
  constructor
  ·intro i hF hh b o e;rw [ak]at hh;obtain⟨V2,_,_,bc,_,_,g3,g4,rfl,g6⟩:=hh;exact f7 g3 g4 (.inr (g6 b o e))
  ·intro i x hx hF own w0 b4 bp cc cr;rw [ak]at b4;obtain⟨V2,bn,ci,aj⟩:=b4;have ay:Inv E.I V2 (toF (S i)) ((rgH hR D l (rec .ready)).join own) w0:=aj.inv bp cc cr
   have bl: ∀ {V':Val} {h':aY A} {st:LoopState} {w':World},Inv E.I V' h' ((rgH hR D l (rec st)).join own) w'->w'.heap[l]? =some (.loop (rec st)):=by
    rintro V' h' st w' ⟨_,_,_,_,_,_,g6,_⟩;exact g6 l _ (cM (yU _ _ _ _))
   have bm:own.disj (rgH hR D l (rec .ready)):=by
    intro b;cases e:own b with
    | none=>exact .inl rfl
    | some o=>
      right;cases e2:rgH hR D l (rec .ready) b with
      | none=>rfl
      | some o2=>
        obtain⟨bc,_,_,g3,g4,rfl,_⟩:=aj;have:=dQ bp e;rw [f7 g3 g4 (.inr e2)]at this;cases this
   have cf:Vz.le V2:=fun i y e=>bn i y (ae i y e).1 (ae i y e).2
   have au: ∀(st ba:LoopState) {V':Val} {h':aY A} {w':World},Inv E.I V' h' ((rgH hR D l (rec st)).join own) w'->Inv E.I V' h' ((rgH hR D l (rec ba)).join own) (w'.putObj l (.loop (rec ba))):=by
    intro st ba V' h' w' hh;refine hh.put (cM (yU _ _ _ _)) (cM (yU _ _ _ _)) ?_ al;intro b hb;unfold PHeap.join;rw [aCl hb]
   have aq:=bl ay;have hy:=run_yield (P:=P) (args:= #[.int .i64 x]) aq (by rw [aa];rfl)
   refine⟨fn,a.tmps.setIfInBounds p (.int .i64 x),assign,body,?_,?_⟩
   ·rw [aa]at hy
    simpa using hy
   refine roundIn_of_wpIn trivial ?_;refine eK hinl (ro:=some l) (ds:=[]) assign (tm.set p (.int .i64 x)) (S i) _ _ w0 V2 _ (hb i x hx) ay (by rw [hS];exact ci) ?_ rfl ?_
   ·show aH V2 _ (a.tmps.setIfInBounds p _).toList;rw [Array.toList_setIfInBounds];exact aH.set (aH.mono cf _ _ ca) p _ _ rfl
   rintro a1 w1 ⟨tm1,V3,g1,k1,k2,k3,k4,k5,k6,k7,k8⟩;have hL1':=bl k6;have bx:=run_beginRound (P:=P) hL1' (by rw [aa])
   have bk: {rec .ready with state:=.busy } =rec .busy :=by rw [aa]
   rw [bk]at bx;refine⟨_,bx,?_⟩;refine eK hinl (ro:=some l) (ds:=[]) body tm1 g1 _ a1 _ V3 _ k1 (au _ .busy k6) k4 k2 k8 ?_;rintro a2 w3 ⟨cz,V4,g2,q1,q2,q3,q4,q5,q6,q7,q8⟩;have b0:=bl q6;have bw:=run_endRound (P:=P) none b0;have ar: {rec .busy with state:=if (none:Option Code).isNone then .ready else .done,pending:=none} =rec .ready :=by rw [aa];rfl
   rw [ar]at bw;have q6':=au _ .ready q6;obtain⟨V5,t1,t2,t3,t4,t5⟩:=q1 V4 _ _ (.bool true) q6' q4 (by rw [hS]at k5;omega) rfl
   obtain⟨ct,z1,z2,z3,z4⟩:=t5.held bm (bb _);refine⟨_,_,bw,rfl,ct,?_,z2,z3,z4,?_⟩
   ·rw [ak];refine⟨V5,?_,by rw [hS]at t2;exact t2,z1⟩
    intro i' y bu e;exact t1 i' y bu (q3 _ _ (k3 _ _ (bn i' y bu e)))
   ·exact k7.trans ((bN.put hL1').trans (q7.trans (bN.put b0)))
 obtain⟨V',ap⟩: ∃V':Val,V'=fun i=>if i=0 then some (0,0)else if i=1 then V m else none:=⟨_,rfl⟩
 have co:Inv (frI Fr) V' (toF [some (.abs 0 []),some (.cells [view])]) Con.con W1:=by
  refine⟨fun i=>if i=0 then hF0.less Con.con else if i=1 then hs m else .emp,?_,?_,?_,?_,?_,?_,fun b o e=>e⟩
  ·intro i e he
   match i,he with
   | 0,he=>
     have he:some (aG.abs 0 [])=some e:=he;cases he;refine⟨0,0,by rw [ap];rfl,[],rfl,?_,?_⟩
     ·show Fr 0 ((hF0.less Con.con).join Con.con);rw [aLY (hY.con 0 hF0 a6)];exact a6
     ·intro b;cases ec:Con.con b with
      | none=>exact .inr rfl
      | some o=>left;show hF0.less Con.con b=none;unfold PHeap.less;rw [ec]
   | 1,he=>
     have he:some (aG.cells [view])=some e:=he;cases he;obtain⟨b',k',e1,cs,T,e2,e3,rs,tail,e4,e5⟩:=h1 m (.cells [view]) ao;exact⟨b',k',by rw [ap];exact e1,cs,T,e2,e3,rs,tail,e4,aH.free [view] rs (by unfold aLe;rw [hwv];rfl) e5⟩
   | i+2,he=>cases he
  ·intro i he
   match i,he with
   | 0,he=>cases he
   | 1,he=>cases he
   | i+2,he=>rfl
  ·have b6:(hF0.less Con.con).disj (hs m):=by
    intro b;cases e:hs m b with
    | none=>exact .inr rfl
    | some o=>
      left;have:=dQ b9 e;unfold PHeap.less;rw [this];split<;>rfl
   intro i j bd
   match i,j,bd with
   | 0,0,h=>exact absurd rfl h
   | 0,1,_=>exact b6
   | 0,j+2,_=>exact aLb _
   | 1,0,_=>exact b6.symm
   | 1,1,h=>exact absurd rfl h
   | 1,j+2,_=>exact aLb _
   | i+2,_,_=>exact(aLb _).symm
  ·intro i b
   match i with
   | 0=>
     cases ec:Con.con b with
     | none=>exact .inr rfl
     | some o=>left;show hF0.less Con.con b=none;unfold PHeap.less;rw [ec]
   | 1=>
     rcases h4 m b with e | e
     ·exact .inl e
     ·right;cases ec:Con.con b with
      | none=>rfl
      | some o=>rw [h7 b o ec]at e;cases e
   | i+2=>exact .inl rfl
  ·intro i b o e
   match i,e with
   | 0,e=>exact cb b o (aLN e).1
   | 1,e=>exact b7 b o e
   | i+2,e=>cases e
  ·intro b o e;exact hold b o (h6 b o (h7 b o e))
 have bv:bO V' ([some (.abs 0 []),some (.cells [view])]:aB Nat).length :=by
  intro i hi;have hi:2<=i:=hi;rw [ap];show(if i=0 then _ else if i=1 then _ else _)=_
  rw [if_neg (by omega),if_neg (by omega)]
 have bf:=hA l Fr hY V' Con.con W1 (#[.func (.yield l) #[] #[]]++ #[.pointer (some ⟨blk,0,none⟩)]) co bv ⟨_,_,rfl,⟨#[], #[],rfl,rfl,rfl⟩,_,_,rfl,⟨blk,k,by rw [ap];exact hVm,rfl⟩,rfl⟩
 refine⟨l,[{target:=.collected D,args:= #[] }],W1,{target:=.fn (.func fA) #[.pointer (some ⟨blk,0,none⟩)],args:= #[.func (.yield l) #[] #[]] },W1,fA, #[.func (.yield l) #[] #[]]++ #[.pointer (some ⟨blk,0,none⟩)],W1,?_,?_,?_,?_,(fun e=>by cases e),?_⟩
 ·rw [<-ai,aa,hl,hD];exact run_enterLoop_outer _ _ _ _ _
 ·simp only [resolve,hg];simp [go_sem]
 ·intro f' _;trivial
 ·simp [invoke,go_sem,gG hpl]
 ·refine callsIn_wide.2 (bf.mono ?_);rintro e w' ⟨v,v',V2,c1,rfl,rfl,_,_,_,_,hI,hG⟩;obtain⟨bc,i1,i2,i3,i4,i5,i6,i7⟩:=hI;obtain⟨b2,k2,_,c2,_,az,cy⟩:=i1 0 (.abs xs.length []) rfl;rw [ak]at az;obtain⟨V3,u1,u2,u3⟩:=az
  have bo:((bc 0).join Con.con).sub w':=by
   intro b o e;rcases PHeap.join_some e with e | ⟨_,e⟩
   ·exact i5 0 b o e
   ·exact i6 b o e
  have b3:Inv E.I V3 (toF (S xs.length)) ((rgH hR D l (rec .ready)).join .emp) w':=u3.inv (fun b=>.inl rfl) (fun b o e=>by cases e) bo
  have aq:w'.heap[l]? =some (.loop (rec .ready)):=by
   obtain⟨_,_,_,_,_,_,g6,_⟩:=b3;exact g6 l _ (cM (yU _ _ _ _))
  have av:=run_endLoop (P:=P) aq (by rw [aa];intro e;cases e)
  have cv: {rec .ready with state:=.exhausted } =rec .exhausted :=by rw [aa]
  rw [cv,show(rec .ready).pending =none by rw [aa]]at av
  refine⟨none,_,av,?_⟩
  have b1:Inv E.I V3 (toF (S xs.length)) ((rgH hR D l (rec .exhausted)).join .emp) (w'.putObj l (.loop (rec .exhausted))):=by
   refine b3.put (cM (yU _ _ _ _)) (cM (yU _ _ _ _)) ?_ al;intro b hb;unfold PHeap.join;rw [aCl hb]
  have cm:(w'.putObj l (.loop (rec .exhausted))).heap[D]? =some (.deferred (some [])):=by
   obtain⟨_,_,_,_,_,_,g6,_⟩:=b1;refine g6 D _ (cM ?_);unfold rgH;rw [if_neg (fun e=>bt e.symm),if_pos rfl]
  rw [hd];refine hQ _ D V3 (fun i y h e=>u1 i y h (by rw [<-ag i (by omega)];exact e)) u2 bh cm ?_ (cq.trans (hG.trans (bN.put aq)))
  refine b1.shrink ?_ ?_
  ·intro b o e;refine cM ?_;unfold rgH
   have cj:b≠l:=by
    intro e2;subst e2;rw [if_neg bt,bg]at e;cases e
   rw [if_neg cj];exact e
  ·intro b o e;show(if b=D then _ else _)=_
   rw [if_neg (fun e2=>by subst e2;rw [a7]at e;cases e)]
   exact h7 b o e
end
end Go.Sh
namespace Go.Sh
open Go Go.RowKit
variable [Con] {A:Type}
section
variable {P:Program} {E:Env A P}
theorem PD{inl:s9 A}(hinl:lE E inl){ro:Option Nat}{ds:List Deferred}{nt:Nat}{hR:PHeap}{x y z b r c:Code}(hc:c=.seq x (.seq y z)){tm:List AVal}{h:aB A}{K:List AVal->aB A->Prop}(he:Ev (cI E inl nt c tm h K))
 {a:Act} {w:World} {V:Val} {Q:Exit->Act->World->Prop} (hi:Inv E.I V (toF h) hR w) (hf:bO V h.length) (ht:aH V tm a.tmps.toList) (hd:a.defers=ds)
 (hQ: ∀a' w',PQ E ds V h.length hR w K a' w'->b.wpIn (FW ro) 0 P (Exit.then (r.wpIn (FW ro) 0 P Q) Q) a' w'):
 (Code.seq x (.seq y (.seq (.seq z b) r))).wpIn (FW ro) 0 P Q a w:=by
 subst hc;have he:=he.get;unfold cI at he;refine wpIn_seq (eK hinl _ _ _ _ _ w V _ he hi hf ht hd ?_);rintro q1 w1 ⟨ac,V1,g1,g,k2,k3,k4,k5,k6,k7,k8⟩;unfold cI at g;refine wpIn_seq (eK hinl _ _ _ _ _ w1 V1 _ g k6 k4 k2 k8 ?_);rintro q2 w2 ⟨aa,V2,g2,j1,j2,j3,j4,j5,j6,j7,j8⟩;refine wpIn_seq (wpIn_seq (eK hinl _ _ _ _ _ w2 V2 _ j1 j6 j4 j2 j8 ?_));intro q3 w3 hT;exact hQ q3 w3 ((hT.chain j3 j5 j7).chain k3 k5 k7)
theorem PC{inl:s9 A}(hinl:lE E inl){ro:Option Nat}{ds:List Deferred}{nt:Nat}{hR:PHeap}{z r:Code}{tm:List AVal}{h:aB A}{K:List AVal->aB A->Prop}(he:Ev (cI E inl nt z tm h K))
 {a:Act} {w:World} {V:Val} {Q:Exit->Act->World->Prop} (hi:Inv E.I V (toF h) hR w) (hf:bO V h.length) (ht:aH V tm a.tmps.toList) (hd:a.defers=ds)
 (hQ: ∀a' w',PQ E ds V h.length hR w K a' w'->r.wpIn (FW ro) 0 P Q a' w'):
 (Code.seq z r).wpIn (FW ro) 0 P Q a w:=by
 exact wpIn_seq (eK hinl _ _ _ _ _ w V _ he.get hi hf ht hd hQ)
theorem H9{inl:s9 A}(hinl:lE E inl){fA:FuncId}{view:AVal}{xs:List Int}(hA:FS P fA view xs){nt m m0:Nat}(hmm:m0<=m){g:Operand}{p:Tmp}{assign body:Code}{tm:List AVal}{S:Nat->aB A}
 (hS: ∀j,(S j).length =m) (hwv:view.within []=true) (hSw:dB m (S 0)=true)
 (hb: ∀j x,xs[j]? =some x->Ev (cI E inl nt assign (tm.set p (.int .i64 x)) (S j) (fun tm1 h1=>cI E inl nt body tm1 h1 (fun _ h2=>aE E.I m0 (.bool true) h2 (.bool true) (S (j+1))))))
 {V:Val} {hR:PHeap} {w:World} {a:Act} {blk k:Nat} (hi:Inv E.I V (toF (S 0++ [some (.cells [view])])) hR w) (hf:bO V (m+1)) (hVm:V m=some (blk,k))
 (ht:aH V tm a.tmps.toList) (hwt:aLe (upto 0 m0) tm=true) (hd:a.defers=[])
 (hg:a.eval g=.func (.func fA) #[] #[.pointer (some ⟨blk,0,none⟩)]) (hpl:mX P fA=true)
 {Q:Exit->Act->World->Prop}
 (hQ: ∀(w':World) (D:Nat) (V':Val),(∀l y,l<m0->V l=some y->V' l=some y)->bO V' m->hR D=none->w'.heap[D]? =some (.deferred (some []))->
   Inv E.I V' (toF (S xs.length)) (fun b=>if b=D then some (.deferred (some []))else hR b) w'->bN w w'->Q .normal {a with defers:=[{target:=.collected D,args:= #[] }] } w'):
 (Code.rangeFunc g #[p] assign body).wpIn (FW none) 0 P Q a w:=
 wpIn_wide.2 (yR hinl hA hmm hS hwv hSw (fun j x hx=>(hb j x hx).get) hi hf hVm ht hwt hd hg hpl hQ)
end
end Go.Sh
namespace Go.Sh
open Go
variable {A:Type}
mutual
def AVal.noV:AVal->Bool
 | .func _ f c=>aLA f&&aLA c
 | .iface _ a=>AVal.noV a
 | .agg av=>aLA av
 | .tup av=>aLA av
 | .iview _ _=>false
 | .view _ _ _=>false
 | .cptr _=>false
 | .bool _=>true
 | .int _ _=>true
 | .str _=>true
 | .ptr _ _=>true
 | .slice _ _ _ _=>true
 | .map _=>true
 | .raw _=>true
 | .any =>true
 | .O =>true
 | .tslice _ _ _ _=>true
 | .tptr _ _ _ _=>true
 | .empty =>true
def aLA:List AVal->Bool
 | []=>true
 | a::av=>AVal.noV a&&aLA av
end
def Con.sub(c c':Con):Prop:= ∀b o,c.con b=some o->c'.con b=some o
mutual
theorem Rep.con{c c':Con}(h:Con.sub c c'){V:Val} : ∀(a:AVal) (v:Value),@Rep c V a v-> @Rep c' V a v
 | .bool _,_,r=>r
 | .int _ _,_,r=>r
 | .str _,_,r=>r
 | .ptr _ _,_,r=>r
 | .slice _ _ _ _,_,r=>r
 | .map _,_,r=>r
 | .func _ f g,_,⟨fs,cs,hv,r,s⟩=>⟨fs,cs,hv,aH.con h f _ r,aH.con h g _ s⟩
 | .iface _ a,_,⟨x,hv,r⟩=>⟨x,hv,Rep.con h a _ r⟩
 | .agg av,_,⟨cs,hv,r⟩=>⟨cs,hv,aH.con h av _ r⟩
 | .tup av,_,⟨cs,hv,r⟩=>⟨cs,hv,aH.con h av _ r⟩
 | .raw _,_,r=>r
 | .any,_,r=>r
 | .O,_,r=>r
 | .iview _ _,_,⟨base,cap,hv,hc,r⟩=>⟨base,cap,hv,hc,r.imp (fun⟨b,off,cs,T,fz,e,f,g⟩=>⟨b,off,cs,T,fz,e,h _ _ f,g⟩) id⟩
 | .view _ _ row,_,⟨base,cap,hv,hc,r⟩=>⟨base,cap,hv,hc,r.imp (fun⟨b,off,cs,T,fz,e,f,g⟩=>⟨b,off,cs,T,fz,e,h _ _ f,fun i hi=>⟨(g i hi).1,aH.con h (row i) _ (g i hi).2⟩⟩) id⟩
 | .tslice _ _ _ _,_,r=>r
 | .tptr _ _ _ _,_,r=>r
 | .empty,_,r=>r
 | .cptr av,_,⟨b,off,cs,T,fz,e,f,g⟩=>⟨b,off,cs,T,fz,e,h _ _ f,aH.con h av _ g⟩
theorem aH.con{c c':Con}(h:Con.sub c c'){V:Val} : ∀(a:List AVal) (v:List Value),@aH c V a v-> @aH c' V a v
 | [],_,r=>r
 | a::av,_,⟨v,vs,e,r,s⟩=>⟨v,vs,e,Rep.con h a v r,aH.con h av vs s⟩
end
mutual
theorem aLZ{c c':Con}{V:Val} : ∀(a:AVal) (v:Value),a.noV=true-> @Rep c V a v-> @Rep c' V a v
 | .bool _,_,_,r=>r
 | .int _ _,_,_,r=>r
 | .str _,_,_,r=>r
 | .ptr _ _,_,_,r=>r
 | .slice _ _ _ _,_,_,r=>r
 | .map _,_,_,r=>r
 | .func _ f g,_,n,⟨fs,cs,hv,r,s⟩=>⟨fs,cs,hv,aLF f _ (Bool.and_eq_true_iff.1 n).1 r,aLF g _ (Bool.and_eq_true_iff.1 n).2 s⟩
 | .iface _ a,_,n,⟨x,hv,r⟩=>⟨x,hv,aLZ a _ n r⟩
 | .agg av,_,n,⟨cs,hv,r⟩=>⟨cs,hv,aLF av _ n r⟩
 | .tup av,_,n,⟨cs,hv,r⟩=>⟨cs,hv,aLF av _ n r⟩
 | .raw _,_,_,r=>r
 | .any,_,_,r=>r
 | .O,_,_,r=>r
 | .iview _ _,_,n,_=>Bool.noConfusion (show false=true from n)
 | .view _ _ _,_,n,_=>Bool.noConfusion (show false=true from n)
 | .tslice _ _ _ _,_,_,r=>r
 | .tptr _ _ _ _,_,_,r=>r
 | .empty,_,_,r=>r
 | .cptr _,_,n,_=>Bool.noConfusion (show false=true from n)
theorem aLF{c c':Con}{V:Val} : ∀(a:List AVal) (v:List Value),aLA a=true-> @aH c V a v-> @aH c' V a v
 | [],_,_,r=>r
 | a::av,_,n,⟨v,vs,e,r,s⟩=>⟨v,vs,e,aLZ a v (Bool.and_eq_true_iff.1 n).1 r,aLF av vs (Bool.and_eq_true_iff.1 n).2 s⟩
end
def aG.noV:aG A->Bool
 | .cells vs=>aLA vs
 | _=>true
def cJ(h:aB A):Bool:=h.all fun e=>match e with
 | some e=>e.noV
 | none=>true
theorem tO{h:aB A}(hn:cJ h=true){l:Nat}{e:aG A}(he:aK h l=some e):e.noV=true:=by
 letI:Con:=⟨fun _=>none⟩
 have hl:=cD he;unfold cJ at hn;rw [List.all_eq_true]at hn
 have hm:(some e:Option (aG A))∈h:=by
  have:h[l]'hl=some e:=by
   have:=he;unfold aK at this;rw [gD',gE' hl]at this;exact this
  rw [<-this];exact List.getElem_mem hl
 exact hn _ hm
theorem aLV{c c':Con}(h:Con.sub c c'){I:Itp A}{V:Val}{l:Nat}{e:aG A}{p:PHeap}(hi: @aG.interp c A I V l e p): @aG.interp c' A I V l e p:=by
 cases e with
 | cells vs=>
   obtain⟨b,k,hl,cs,T,e1,e2,g,tail,e3,r⟩:=hi;exact⟨b,k,hl,cs,T,e1,e2,g,tail,e3,aH.con h _ _ r⟩
 | ints c xs=>exact hi
 | abs t ps=>exact hi
 | tab ks rows=>exact hi
 | imap kk vc m=>exact hi
 | iter lm kk vc m left cur=>exact hi
theorem aLS{c c':Con}{I:Itp A}{V:Val}{l:Nat}{e:aG A}{p:PHeap}(hn:e.noV=true)(hi: @aG.interp c A I V l e p): @aG.interp c' A I V l e p:=by
 cases e with
 | cells vs=>
   obtain⟨b,k,hl,cs,T,e1,e2,g,tail,e3,r⟩:=hi;exact⟨b,k,hl,cs,T,e1,e2,g,tail,e3,aLF _ _ hn r⟩
 | ints c xs=>exact hi
 | abs t ps=>exact hi
 | tab ks rows=>exact hi
 | imap kk vc m=>exact hi
 | iter lm kk vc m left cur=>exact hi
section
variable {tb:A->Nat×aB A}
theorem D7(c c':Con)(htb: ∀t,cJ (tb t).2=true)(n:Nat): ∀(t:A) (r:Nat×Nat) (bs:List (Nat×Nat)) (p:PHeap),@obN c A tb n t r bs p-> @obN c' A tb n t r bs p:=by
 induction n with
 | zero=>intro t r bs p h;exact h
 | succ n ih=>
   intro t r bs p h;obtain⟨V,hs,h1,h2,h3,⟨q1,q2,g⟩,h5⟩:=h;refine⟨V,hs,h1,h2,h3,@sB.mk c' A (@obN c' A tb n) V (toF (tb t).2) hs (fun l e he=>?_) q2 g,h5⟩;have h6:=q1 l e he;have h7: @aG.interp c' A (@obN c A tb n) V l e (hs l):=aLS (tO (htb t) he) h6;exact @aLv c' A _ _ ih V l e (hs l) h7
theorem TF(c c':Con)(htb: ∀t,cJ (tb t).2=true): @obI c A tb= @obI c' A tb:=by
 funext t r bs p;exact propext ⟨fun⟨n,h⟩=>⟨n,D7 c c' htb n t r bs p h⟩,fun⟨n,h⟩=>⟨n,D7 c' c htb n t r bs p h⟩⟩
end
theorem Inv.split2 [Con]{I:Itp A}{V:Val}{h:aY A}{hR:PHeap}{w:World}(hi:Inv I V h hR w)(S:Nat->Bool):
 ∃hR',Inv I V (fun l=>if S l then h l else none) hR' w/\(∀b o,hR b=some o->hR' b=some o)/\(∀l e,S l=false->h l=some e-> ∃p,e.interp I V l p/\ ∀b o,p b=some o->hR' b=some o)/\
  ∀V' g w',V.le V'->Inv I V' g hR' w'->(∀l,S l=false->h l≠none->g l=none)->
   Inv I V' (fun l=>if S l=false/\h l≠none then h l else g l) hR w':=by
 obtain⟨hs,h1,h2,h3,h4,h5,h6⟩:=hi
 let rs:Nat->PHeap:=fun l=>if S l then .emp else hs l
 have rd: ∀l m,l≠m->(rs l).disj (rs m):=by
  intro l m ac;show PHeap.disj (if S l then .emp else hs l) (if S m then .emp else hs m)
  split
  ·exact(aLb _).symm
  ·split
   ·exact aLb _
   ·exact h3 l m ac
 have ag: ∀b,aLd rs b=none\/hR b=none:=by
  intro b;cases e:aLd rs b with
  | none=>exact .inl rfl
  | some o=>
    obtain⟨l,hl⟩:=aLr e
    have:hs l b≠none:=by
     have aa:(if S l then PHeap.emp else hs l) b=some o:=hl
     split at aa
     ·cases aa
     ·rw [aa];simp
    rcases h4 l b with d | d
    ·exact(this d).elim
    ·exact .inr d
 refine⟨PHeap.join hR (aLd rs),⟨fun l=>if S l then hs l else .emp,?_,?_,?_,?_,?_,?_⟩,fun b o e=>aLD e,?_,?_⟩
 ·intro l e he;cases hS:S l with
  | true=>simp [hS]at he⊢;exact h1 l e he
  | false=>simp [hS]at he
 ·intro l hl;cases hS:S l with
  | true=>simp [hS]at hl⊢;exact h2 l hl
  | false=>simp [hS]
 ·intro l m ac;show PHeap.disj (if S l then hs l else .emp) (if S m then hs m else .emp)
  split
  ·split
   ·exact h3 l m ac
   ·exact aLb _
  ·exact(aLb _).symm
 ·intro l b;show(if S l then hs l else PHeap.emp) b=none\/_
  cases hS:S l with
  | false=>exact .inl rfl
  | true=>
    simp only [if_true];cases e:hs l b with
    | none=>exact .inl rfl
    | some o=>
      refine .inr (PHeap.join_none.2 ⟨?_,aLJ fun m=>?_⟩)
      ·rcases h4 l b with d | d
       ·rw [e]at d;cases d
       ·exact d
      ·show(if S m then PHeap.emp else hs m) b=none
       by_cases hm:S m=true
       ·rw [if_pos hm];rfl
       ·rw [if_neg hm];have:l≠m:=fun e'=>hm (e'▸hS);rcases h3 l m this b with d | d
        ·rw [e]at d;cases d
        ·exact d
 ·intro l;show(if S l then hs l else PHeap.emp).sub w
  split
  ·exact h5 l
  ·exact aLy _
 ·refine⟨?_,fun b o e=>aLD (h6.2 b o e)⟩;intro b o e;unfold PHeap.join at e;cases er:hR b with
  | some p=>rw [er]at e;cases e;exact h6.1 b _ er
  | none=>
    rw [er]at e;obtain⟨l,hl⟩:=aLr e;have aa:(if S l then PHeap.emp else hs l) b=some o:=hl
    split at aa
    ·cases aa
    ·exact h5 l b o aa
 ·intro l e hS he;refine⟨hs l,h1 l e he,fun b o eb=>?_⟩
  have e1:rs l b=some o:=by
   show(if S l then PHeap.emp else hs l) b=some o
   rw [if_neg (by rw [hS];simp)];exact eb
  have e2:=aLt rd e1;rcases ag b with d | d
  ·rw [e2]at d;cases d
  ·rw [aLL d];exact e2
 ·intro V' g w' hV hg hz;obtain⟨gs,g1,g2,g3,g4,g5,g6⟩:=hg
  have ae: ∀l,(rs l).sub w':=by
   intro l b o e;have:=aLt rd e;refine g6.1 b o ?_;rcases ag b with d | d
   ·rw [this]at d;cases d
   ·rw [aLL d];exact this
  have ad:hR.sub w':=fun b o e=>g6.1 b o (aLD e)
  have ah: ∀l m,(gs l).disj (rs m):=by
   intro l m b;rcases g4 l b with d | d
   ·exact .inl d
   ·cases e:rs m b with
    | none=>exact .inr rfl
    | some o=>rw [(PHeap.join_none.1 d).2.symm,aLt rd e];exact .inr rfl
  have ai: ∀l,(gs l).disj hR:=fun l b=>(g4 l b).imp id (fun d=>(PHeap.join_none.1 d).1)
  have af: ∀l,(rs l).disj hR:=by
   intro l;show PHeap.disj (if S l then .emp else hs l) hR
   split
   ·exact(aLb _).symm
   ·exact h4 l
  classical
  refine⟨fun l=>if S l=false/\h l≠none then rs l else gs l,?_,?_,?_,?_,?_,⟨ad,h6.2⟩⟩
  ·intro l e he
   by_cases hc:S l=false/\h l≠none
   ·simp only [if_pos hc]at he⊢;show e.interp I V' l (if S l then .emp else hs l)
    rw [if_neg (by simp [hc.1])]
    exact aLs hV (h1 l e he)
   ·simp only [if_neg hc]at he⊢;exact g1 l e he
  ·intro l hl
   by_cases hc:S l=false/\h l≠none
   ·simp only [if_pos hc]at hl;exact(hc.2 hl).elim
   ·simp only [if_neg hc]at hl⊢;exact g2 l hl
  ·intro l m ac
   by_cases hc:S l=false/\h l≠none
   ·simp only [if_pos hc]
    by_cases hd:S m=false/\h m≠none
    ·simp only [if_pos hd];exact rd l m ac
    ·simp only [if_neg hd];exact(ah m l).symm
   ·simp only [if_neg hc]
    by_cases hd:S m=false/\h m≠none
    ·simp only [if_pos hd];exact ah l m
    ·simp only [if_neg hd];exact g3 l m ac
  ·intro l
   by_cases hc:S l=false/\h l≠none
   ·simp only [if_pos hc];exact af l
   ·simp only [if_neg hc];exact ai l
  ·intro l
   by_cases hc:S l=false/\h l≠none
   ·simp only [if_pos hc];exact ae l
   ·simp only [if_neg hc];exact g5 l
def thaw(S:Nat->Bool):Nat->aB A->aB A
 | _,[]=>[]
 | i,e::h=>(cond (S i) e none)::thaw S (i+1) h
def back(S:Nat->Bool):Nat->aB A->aB A->aB A
 | _,[],g=>g
 | i,e::h,[]=>e::h
 | i,e::h,x::g=>(cond (S i) x e)::back S (i+1) h g
theorem wU(S:Nat->Bool): ∀(h:aB A) (i:Nat),(thaw S i h).length =h.length
 | [],_=>rfl
 | e::h,i=>congrArg (· +1) (wU S h (i+1))
theorem FH(S:Nat->Bool): ∀(h:aB A) (i l:Nat),toF (thaw S i h) l=if S (i+l)then toF h l else none
 | [],i,l=>by
   show none=if _ then none else none
   split<;>rfl
 | e::h,i,0=>by
   show(cond (S i) e none)=if S (i+0)then e else none
   rw [Nat.add_zero];cases S i<;>rfl
 | e::h,i,l+1=>by
   show toF (thaw S (i+1) h) l=if S (i+(l+1))then toF h l else none
   rw [FH S h (i+1) l,show i+1+l=i+(l+1)from by omega]
theorem BZ(S:Nat->Bool): ∀(h g:aB A) (i:Nat),h.length<=g.length->(back S i h g).length =g.length
 | [],g,_,_=>rfl
 | e::h,[],_,hl=>by simp at hl
 | e::h,x::g,i,hl=>congrArg (· +1) (BZ S h g (i+1) (by simpa using hl))
theorem FF(S:Nat->Bool): ∀(h g:aB A) (i l:Nat),h.length<=g.length->(∀m,S (i+m)=false->toF h m=none->m<h.length->toF g m=none)->
 toF (back S i h g) l=if S (i+l)=false/\toF h l≠none then toF h l else toF g l
 | [],g,i,l,_,_=>by
   show toF g l=_;split
   ·rename_i hq;exact(hq.2 rfl).elim
   ·rfl
 | e::h,[],_,_,hl,_=>by simp at hl
 | e::h,x::g,i,0,hl,hz=>by
   show(cond (S i) x e)=if S (i+0)=false/\e≠none then e else x
   rw [Nat.add_zero];cases hS:S i with
   | true=>simp
   | false=>
     cases e with
     | some e=>simp
     | none=>
       have:=hz 0 (by rw [Nat.add_zero];exact hS) rfl (by simp)
       have this:x=none:=this;simp [this]
 | e::h,x::g,i,l+1,hl,hz=>by
   show toF (back S (i+1) h g) l=if S (i+(l+1))=false/\toF h l≠none then toF h l else toF g l
   rw [FF S h g (i+1) l (by simpa using hl) (fun m h1 h2 h3=>hz (m+1) (by rw [<-h1];congr 1;omega) h2 (by simpa using h3)),show i+1+l=i+(l+1)from by omega]
structure aI6 (S:Nat->Bool) (h:aB A) (K:AVal->aB A->Prop) (v:AVal) (g:aB A):Prop where
 hv:v.noV=true
 hg:cJ g=true
 hz: ∀l,l<h.length->S l=false->aK g l=none
 hk:K v (back S 0 h g)
theorem aL4 [c:Con]{tb:A->Nat×aB A}(htb: ∀t,cJ (tb t).2=true){P:Program}{f:FuncId}{args args2:List AVal}{h:aB A}{K:AVal->aB A->Prop}(S:Nat->Bool)
 (ha: ∀(c':Con),Con.sub c c'-> ∀(V:Val) (l:List Value),(∀m e,S m=false->aK h m=some e-> ∃p,@aG.interp c' A (@obI c' A tb) V m e p/\ ∀b o,p b=some o->c'.con b=some o)-> @aH c V args l-> @aH c' V args2 l)
 (h0: ∀c':Con,@aA c' A (@obI c' A tb) P f args2 (thaw S 0 h) (aI6 S h K)):aA (obI tb) P f args h K:=by
 intro V hR w aa hi hf hr;obtain⟨ad,i1,i2,i3,i4⟩:=hi.split2 S
 let c':Con:=⟨ad⟩
 have ac:Con.sub c c':=by
  obtain⟨_,_,_,_,_,_,h6⟩:=hi;exact fun b o e=>i2 b o (h6.2 b o e)
 have hI: @obI c' A tb= @obI c A tb:=TF c' c htb
 have hT:(fun l=>if S l then toF h l else none)=toF (thaw S 0 h):=by
  funext l;rw [FH,Nat.zero_add]
 rw [hT]at i1
 have j1: @Inv c' A (@obI c' A tb) V (toF (thaw S 0 h)) ad w:=by
  obtain⟨hs,k1,k2,k3,k4,k5,k6⟩:=i1;refine⟨hs,fun l e he=>?_,k2,k3,k4,k5,⟨k6.1,fun b o e=>e⟩⟩;rw [hI];exact aLV ac (k1 l e he)
 have j2: @aH c' V args2 aa.toList:=by
  refine ha c' ac V _ ?_ hr;intro m e hS he;obtain⟨p,p1,p2⟩:=i3 m e hS he;refine⟨p,?_,p2⟩;rw [hI];exact aLV ac p1
 refine(h0 c' V ad w aa j1 (by rw [wU];exact hf) j2).mono ?_
 rintro e w' ⟨v,v',V',g,⟨hv,hg,hz,hk⟩,rfl,q3,q4,q5,q6,q7,q8⟩;rw [wU]at q6;have ae:=BZ S h g 0 q6;refine⟨v,v',V',_,hk,rfl,aLZ v v' hv q3,q4,by rw [ae];exact q5,by rw [ae];exact q6,?_,q8⟩
 have j3: @Inv c A (@obI c A tb) V' (toF g) ad w':=by
  obtain⟨hs,k1,k2,k3,k4,k5,k6⟩:=q7;refine⟨hs,fun l e he=>?_,k2,k3,k4,k5,⟨k6.1,ac⟩⟩;rw [<-hI];exact aLS (tO hg he) (k1 l e he)
 have j4:=i4 V' (toF g) w' q4 j3 (fun l hS hn=>hz l (by
  cases hq:toF h l with
  | none=>exact(hn hq).elim
  | some e=>exact cD hq) hS)
 have:(fun l=>if S l=false/\toF h l≠none then toF h l else toF g l)=toF (back S 0 h g):=by
  funext l;rw [FF S h g 0 l q6 (fun m h1 _ h3=>hz m h3 (by rw [<-h1,Nat.zero_add])),Nat.zero_add]
 rw [this]at j4;exact j4
theorem rZ{c:Con}{I:Itp A}{V:Val}{l n k:Nat}{vs:List AVal}{p:PHeap}{v:Value}{row:Nat->List AVal}
 (hv: @Rep c V (.slice l 0 n k) v) (he: @aG.interp c A I V l (.cells vs) p) (hp: ∀b o,p b=some o->c.con b=some o)
 (hrow: ∀i,i<n->(row i).length =k/\ ∀rs,@aH c V ((vs.drop (i*k)).take k) rs-> @aH c (fun _=>none) (row i) rs) (hlen:n*k<=vs.length): @Rep c V (.view n k row) v:=by
 obtain⟨base,cap,e1,e2,e3⟩:=hv;refine⟨base,cap,e1,e2,?_⟩;rcases e3 with⟨b,kk,g1,g2,g3⟩ | ⟨g1,g2⟩
 ·left;obtain⟨b',k',a1,cs,T,a2,a3,rs,tail,a4,a5⟩:=he;rw [g1]at a1;cases a1;refine⟨b,0,cs,T,_,g2,hp b (.cells cs T) (by rw [a2];exact if_pos rfl),fun i hi=>⟨(hrow i hi).1,?_⟩⟩
  refine(hrow i hi).2 _ ?_;rw [Nat.zero_add,a4];have g:=aH.length a5
  have aa:i*k+k<=vs.length:=by
   have:(i+1)*k<=n*k:=Nat.mul_le_mul_right k hi;rw [Nat.add_mul,Nat.one_mul]at this;omega
  rw [List.drop_append_of_le_length (by omega),List.take_append_of_le_length (by rw [List.length_drop];omega)]
  exact aH.take (aH.drop a5 (i*k)) k
 ·right;omega
end Go.Sh
