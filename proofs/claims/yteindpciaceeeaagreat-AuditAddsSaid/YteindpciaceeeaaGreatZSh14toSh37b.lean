import Derived.ControlIn
import Derived.TacticsIn
import Derived.RangeFuncIn
import Derived.RowKit3
import Derived.WideKeyArgs
import Derived.OpenShut
import Derived.RangeFuncRecord
import Derived.Below
import Derived.Test.YteindpciaceeeaaGreatZSh1toSh13
set_option linter.all false
set_option maxHeartbeats 8000000
namespace Go.Sh
open Go
variable [Con] {A:Type}
section
variable {P:Program} {E:Env A P}
theorem qM{ops:Array Oper}{x y:Item A}(h:fM ops x y=true):
 (∀d,x.o.dst=some d->d∉y.o.looksAt ops/\y.o.dst≠some d)/\(∀d,y.o.dst=some d->d∉x.o.looksAt ops/\x.o.dst≠some d)/\(∀l∈y.foot,x.puts l=false)/\(∀l∈x.foot,y.puts l=false):=by
 unfold fM at h;simp only [Bool.and_eq_true,List.all_eq_true,Bool.not_eq_true']at h;obtain⟨⟨⟨h1,h2⟩,h3⟩,h4⟩:=h;refine⟨?_,?_,h3,h4⟩
 ·intro d hd;simp only [mE,hd,Bool.and_eq_true,Bool.not_eq_true',bne_iff_ne,ne_eq]at h1;exact⟨by have:=h1.1;simpa using this,h1.2⟩
 ·intro d hd;simp only [mE,hd,Bool.and_eq_true,Bool.not_eq_true',bne_iff_ne,ne_eq]at h2;exact⟨by have:=h2.1;simpa using this,h2.2⟩
theorem rW(foot:List Nat): ∀(h:aC A) (i l:Nat),aL (hres foot i h) l=if foot.contains (i+l)then aL h l else none
 | [],i,l=>by simp [hres,aL]
 | e::h,i,0=>by
   simp only [hres,aL,List.getD_cons_zero,Nat.add_zero];cases foot.contains i<;>rfl
 | e::h,i,l+1=>by
   have:=rW foot h (i+1) l;simp only [aL]at this;simp only [hres,aL,List.getD_cons_succ];rw [this,show i+1+l=i+(l+1)from by omega]
theorem uE(foot:List Nat): ∀(h:aC A) (i:Nat),(hres foot i h).length =h.length
 | [],_=>rfl
 | e::h,i=>by simp [hres,uE foot h]
structure i8 (E:Env A P) (ops:Array Oper) (tm0:List AVal) (h0:aC A) (its:List (Item A)) (tmN:List AVal) (hN:aC A):Prop where
 trace:gU E ops tm0 h0 its tmN hN
 opers:its.map (·.o)=ops.toList.take its.length
 edges:mZ ops.toList
 wells:its.all jR=true
 pairs:F0 ops (masks [] ops.toList) its
variable {ops:Array Oper} {tm0:List AVal} {h0:aC A} {its:List (Item A)} {tmN:List AVal} {hN:aC A}
theorem i8.oper(d:i8 E ops tm0 h0 its tmN hN){k:Nat}{it:Item A}(hk:its[k]? =some it):ops.toList[k]? =some it.o:=by
 have aa:k<its.length:=(List.getElem?_eq_some_iff.1 hk).1;have h1:(its.map (·.o))[k]? =some it.o:=by rw [List.getElem?_map,hk];rfl
 rw [d.opers,List.getElem?_take,if_pos aa]at h1;exact h1
theorem i8.item(d:i8 E ops tm0 h0 its tmN hN){k:Nat}{o:Oper}(hk:ops.toList[k]? =some o)(hkl:k<its.length): ∃it,its[k]? =some it/\it.o=o:=by
 have h1:(its.map (·.o))[k]? =some o:=by rw [d.opers,List.getElem?_take,if_pos hkl];exact hk
 rw [List.getElem?_map]at h1;cases h:its[k]? with
 | none=>rw [h]at h1;cases h1
 | some it=>rw [h]at h1;cases h1;exact⟨it,rfl,rfl⟩
theorem i8.pair(d:i8 E ops tm0 h0 its tmN hN){i j:Nat}{x y:Item A}(hi:its[i]? =some x)(hj:its[j]? =some y)(hij:i<j):
 (((masks [] ops.toList).getD j 0).testBit i=true)\/fM ops x y=true:=by
 exact d.pairs i j x y hi hj hij
theorem i8.well(d:i8 E ops tm0 h0 its tmN hN){k:Nat}{it:Item A}(hk:its[k]? =some it):jR it=true:=by
 have:=List.all_eq_true.1 d.wells;exact this it (List.mem_of_getElem? hk)
theorem i8.ordered(d:i8 E ops tm0 h0 its tmN hN){D:Nat->Bool}(hc:mR ops.toList D){k:Nat}{it:Item A}(hk:its[k]? =some it)(hD:D k=false)
 (hr: ∀e∈it.o.after.toList,Region.binds .any e=true->D e.on=true) {i:Nat} {x:Item A} (hi:its[i]? =some x) (hik:i≠k)
 (hdep:fM ops x it=false\/fM ops it x=false) (hsym:fM ops x it=false->fM ops it x=false) (hsym2:fM ops it x=false->fM ops x it=false):D i=decide (i<k):=by
 rcases Nat.lt_or_gt_of_ne hik with aa | ac
 ·rcases d.pair hi hk aa with h | h
  ·rcases qS hc (d.oper hk) hr h with h | h
   ·exact(hik h).elim
   ·rw [h];simp [aa]
  ·rcases hdep with e | e
   ·rw [e]at h;cases h
   ·rw [hsym2 e]at h;cases h
 ·rcases d.pair hk hi ac with h | h
  ·have:D i=false:=by
    cases e:D i with
    | false=>rfl
    | true=>rw [LP hc e h]at hD;cases hD
   rw [this];simp;omega
  ·rcases hdep with e | e
   ·rw [hsym e]at h;cases h
   ·rw [e]at h;cases h
theorem qN{x y:Item A} :fM ops x y=fM ops y x:=by
 unfold fM;cases mE ops x.o y.o<;>cases mE ops y.o x.o<;>cases y.foot.all (fun l=>!x.puts l)<;>cases x.foot.all (fun l=>!y.puts l)<;>rfl
theorem i8.order(d:i8 E ops tm0 h0 its tmN hN){D:Nat->Bool}(hc:mR ops.toList D){k:Nat}{it:Item A}(hk:its[k]? =some it)(hD:D k=false)
 (hr: ∀e∈it.o.after.toList,Region.binds .any e=true->D e.on=true) {i:Nat} {x:Item A} (hi:its[i]? =some x) (hik:i≠k) (hdep:fM ops x it=false):D i=decide (i<k):=
 d.ordered hc hk hD hr hi hik (.inl hdep) (fun h=>by rw [qN];exact h) (fun h=>by rw [qN];exact h)
theorem RJ{x y:Item A}{t:Nat}(hx:x.o.dst=some t)(hy:t∈y.o.looksAt ops):fM ops x y=false:=by
 cases h:fM ops x y with
 | false=>rfl
 | true=>exact((qM h).1 t hx |>.1 hy).elim
theorem YL{x y:Item A}{t:Nat}(hx:x.o.dst=some t)(hy:y.o.dst=some t):fM ops x y=false:=by
 cases h:fM ops x y with
 | false=>rfl
 | true=>exact((qM h).1 t hx |>.2 hy).elim
theorem wB{x y:Item A}{l:Nat}(hx:x.puts l=true)(hy:l∈y.foot):fM ops x y=false:=by
 cases h:fM ops x y with
 | false=>rfl
 | true=>have:=(qM h).2.2.1 l hy;rw [hx]at this;cases this
def yC(E:Env A P)(ds:List Deferred)(tm0:List AVal)(h0:aC A)(its:List (Item A))(V0:Val)(hR:PHeap)(w0:World)(D:Nat->Bool)(a:Act)(w:World):Prop:=
 ∃V,V0.le V/\(∀l,V l≠none->V0 l≠none\/ ∃i it,its[i]? =some it/\D i=true/\it.n<=l/\l<it.n+it.new.length)/\
  aH V (tmF D 0 its tm0) a.tmps.toList/\Inv E.I V (hF D 0 its (toF h0)) hR w/\bP w0 w/\a.defers=ds
theorem OA{o:Oper}{t:Nat}(h:Operand.tmp t∈o.op.operands):t∈o.looksAt ops:=by
 unfold Oper.looksAt;refine List.mem_append_left _ (List.mem_filterMap.2 ⟨.tmp t,by simpa using h,rfl⟩)
theorem uA{o:Oper}{j d:Nat}{want:Bool}(h:o.guard=some (j,want))(hd:(ops[j]?).bind (·.dst)=some d):d∈o.looksAt ops:=by
 unfold Oper.looksAt;refine List.mem_append_right _ ?_;rw [h];simp only;rw [hd];simp
theorem i8.step{ds:List Deferred}(d:i8 E ops tm0 h0 its tmN hN){V0:Val}(hV0:bO V0 h0.length){hR:PHeap}{w0:World}{D:Nat->Bool}(hc:mR ops.toList D){k:Nat}{o:Oper}(hko:ops.toList[k]? =some o)(hkl':k<its.length)(hD:D k=false)
 (hr: ∀e∈o.after.toList,Region.binds .any e=true->D e.on=true) {a:Act} {w:World} (hs:yC E ds tm0 h0 its V0 hR w0 D a w) {Q:Exit->Act->World->Prop} {K:Act->World->Prop}
 (hK: ∀a' w',yC E ds tm0 h0 its V0 hR w0 (fun i=>decide (i=k)||D i) a' w'->K a' w'):wpOp P ops Q k K a w:=by
 obtain⟨it,hk,rfl⟩:=d.item hko hkl';obtain⟨V,bb,az,aq,a8,hg,bv⟩:=hs;obtain⟨ae,ax,bs,cc,cb⟩:=d.trace.at d.wells 0 k it hk;simp only [Nat.zero_add]at ax bs
 have look: ∀t∈it.o.looksAt ops,(tmF D 0 its tm0)[t]? =(tmF (fun i=>decide (i<k)) 0 its tm0)[t]? :=by
  intro t ht;refine pM its 0 tm0 tm0 rfl rfl ?_;intro i x hi hx;rw [Nat.zero_add]
  by_cases aa:i=k
  ·subst aa;rw [hD];simp
  ·exact d.order hc hk hD hr hi aa (RJ hx ht)
 have seen: ∀l∈it.foot,hF D 0 its (toF h0) l=toF ae l:=by
  intro l hl;rw [bs];refine oE its 0 _ _ rfl ?_;intro i x hi hx;rw [Nat.zero_add]
  by_cases aa:i=k
  ·subst aa;rw [hD];simp
  ·exact d.order hc hk hD hr hi aa (wB hx hl)
 have bk: ∀x∈it.o.op.operands,dK (tmF D 0 its tm0) x=dK (tmF (fun i=>decide (i<k)) 0 its tm0) x:=by
  intro x hx;cases x with
  | tmp t=>
    show(tmF D 0 its tm0).getD t _=(tmF _ 0 its tm0).getD t _;rw [gD',gD',look t (OA hx)]
  | _=>rfl
 have ag:=d.well hk
 have av:tmF (fun i=>decide (i=k)||D i) 0 its tm0=vV (tmF D 0 its tm0) it.o.dst it.v:=by
  apply List.ext_getElem?;intro t;rw [nX,qV]
  by_cases hd:it.o.dst=some t
  ·have e1:(tmF (fun i=>decide (i=k)||D i) 0 its tm0)[t]? =(tmF (fun i=>decide (i<k+1)) 0 its tm0)[t]? :=by
    refine pM its 0 tm0 tm0 rfl rfl ?_;intro i x hi hx;rw [Nat.zero_add]
    by_cases aa:i=k
    ·subst aa;simp
    ·have:=d.order hc hk hD hr hi aa (YL hx hd);rw [this];have:decide (i=k)=false:=by simpa using aa
     rw [this,Bool.false_or];congr 1;apply propext;omega
   have e2:(tmF (fun i=>decide (i<k+1)) 0 its tm0)[t]? =if it.o.dst=some t/\t<tm0.length then some it.v else none:=by
    have bj: ∀(its:List (Item A)) (base k:Nat) (tm:List AVal),its[k]? =some it->(tmF (fun i=>decide (i<base+k+1)) base its tm)[t]? =if it.o.dst=some t/\t<tm.length then some it.v else none:=by
     intro its
     induction its with
     | nil=>intro base k tm h;simp at h
     | cons x its ih=>
       intro base k tm h;unfold tmF;rw [if_pos (by simp;omega)]
       cases k with
       | zero=>
         simp at h;subst h;rw [sL _ _ _ (by intro j hj;simp;omega),nX]
         by_cases af:t<tm.length
         ·simp [hd,af]
         ·simp [af]
       | succ k=>
         simp at h;have:=ih (base+1) k (vV tm x.o.dst x.v) h;rw [nY]at this;rw [<-this];congr 3;funext i;congr 1;apply propext;omega
    have:=bj its 0 k tm0 hk;rw [Nat.zero_add]at this;exact this
   rw [e1,e2]
   by_cases af:t<tm0.length
   ·simp [hd,af]
   ·rw [if_neg (by simp [af]),if_neg (by simp [af]),List.getElem?_eq_none (by rw [qV];omega)]
  ·rw [if_neg (by simp [hd])]
   refine pM its 0 tm0 tm0 rfl rfl ?_;intro i x hi hx;rw [Nat.zero_add]
   by_cases aa:i=k
   ·subst aa;rw [hk]at hi;cases hi;exact(hd hx).elim
   ·simp [aa]
 have ai: ∀l,it.puts l=true-> ∀i x,its[i]? =some x->i≠k->x.puts l=true->D i=true->i<k/\l∈it.foot:=by
  intro l hl i x hi aa hx ao
  have ah: ∀(it:Item A),jR it=true-> ∀l,it.upd.any (fun x=>x.1 == l)=true->l∈it.foot/\l<it.n:=by
   intro it hw l hl;obtain⟨u,hu,he⟩:=List.any_eq_true.1 hl;have:=List.all_eq_true.1 hw u hu;simp only [Bool.and_eq_true,dT']at this;have e:u.1=l:=by simpa using he
   rw [e]at this;exact⟨by simpa using this.1,this.2⟩
  simp only [Item.puts,Bool.or_eq_true,Bool.and_eq_true,dT']at hl hx;have b3:it.puts l=true:=by simp only [Item.puts,Bool.or_eq_true,Bool.and_eq_true,dT'];exact hl
  have b4:x.puts l=true:=by simp only [Item.puts,Bool.or_eq_true,Bool.and_eq_true,dT'];exact hx
  have ap:fM ops x it=false->i<k:=by
   intro h;have:=d.order hc hk hD hr hi aa h;rw [ao]at this
   simpa using this.symm
  rcases hl with hl | hl
  ·obtain⟨f1,f2⟩:=ah it ag l hl;exact⟨ap (wB b4 f1),f1⟩
  ·rcases hx with hx | hx
   ·obtain⟨f1,f2⟩:=ah x (d.well hi) l hx;have af:=ap (by rw [qN];exact wB b3 f1)
    have:=d.trace.news i k x it hi hk af;omega
   ·rcases Nat.lt_or_gt_of_ne aa with af | bg
    ·have:=d.trace.news i k x it hi hk af;omega
    ·have:=d.trace.news k i it x hk hi bg;omega
 have bc:hF (fun i=>decide (i=k)||D i) 0 its (toF h0)=it.putF (hF D 0 its (toF h0)):=by
  funext l;cases hp:it.puts l with
  | false=>
    rw [lE it _ l hp];refine oE its 0 _ _ rfl ?_;intro i x hi hx;rw [Nat.zero_add]
    by_cases aa:i=k
    ·subst aa;rw [hk]at hi;cases hi;rw [hp]at hx;cases hx
    ·simp [aa]
  | true=>
    have bj: ∀(js:List (Item A)) (base k:Nat) (D':Nat->Bool) (h g:bE A),js[k]? =some it->D' (base+k)=true->(∀i x,js[i]? =some x->x.puts l=true->D' (base+i)=true->i<=k)->hF D' base js h l=it.putF g l:=by
     intro js
     induction js with
     | nil=>intro base k D' h g hj;simp at hj
     | cons x js ih=>
       intro base k D' h g hj bi bq;unfold hF;cases k with
       | zero=>
         simp at hj;subst hj;rw [Nat.add_zero]at bi;rw [if_pos bi]
         have e1:hF D' (base+1) js (x.putF h) l=hF (fun _=>false) (base+1) js (x.putF h) l:=by
          refine oE js (base+1) _ _ rfl ?_;intro i y hi hy;cases e:D' (base+1+i)with
          | false=>rfl
          | true=>
            have:=bq (i+1) y (by simpa using hi) hy (by rw [show base+(i+1)=base+1+i from by omega];exact e)
            omega
         rw [e1,rV _ _ _ (fun _ _=>rfl)];exact tJ x h g l (.inl hp)
       | succ k=>
         simp at hj;refine ih (base+1) k D' _ g hj (by rw [show base+1+k=base+(k+1)from by omega];exact bi) ?_
         intro i y hi hy he;have:=bq (i+1) y (by simpa using hi) hy (by rw [show base+(i+1)=base+1+i from by omega];exact he)
         omega
    refine bj its 0 k _ _ _ hk (by simp) ?_
    intro i x hi hx he;rw [Nat.zero_add]at he
    by_cases aa:i=k
    ·omega
    ·simp only [aa,decide_false,Bool.false_or]at he;have:=(ai l hp i x hi aa hx he).1;omega
 have br:ops[k]? =some it.o:=by rw [<-Array.getElem?_toList];exact hko
 unfold wpOp;rw [br];simp only;rcases ax.2 with⟨bl,⟨r,b2,b1,b0,bm,a6⟩,ay⟩ | ⟨bl,hv,bz,b5,j,want,dd,ay,au,aj⟩
 ·
  have hw:Region.wanted it.o (yielded ops a.tmps)=true:=by
   cases a7:it.o.guard with
   | none=>simp [Region.wanted,a7]
   | some g=>
     obtain⟨j,want⟩:=g;obtain⟨dd,au,hv⟩:=ay j want a7;rw [<-look dd (uA a7 au)]at hv;obtain⟨y,hy,ry⟩:=aH.get aq dd _ hv;rw [Array.getElem?_toList]at hy;have bd:y=.bool want:=ry;subst bd;simp [Region.wanted,a7,kH au hy]
  rw [if_pos hw];left;obtain⟨cd,bt,bh⟩:=a8.split (fun l=>it.foot.contains l)
  have bf:(fun l=>if it.foot.contains l then hF D 0 its (toF h0) l else none)=toF (hres it.foot 0 ae):=by
   funext l;show _=aL (hres it.foot 0 ae) l;rw [rW,Nat.zero_add]
   by_cases hl:it.foot.contains l=true
   ·rw [if_pos hl,if_pos hl];exact seen l (by simpa using hl)
   ·rw [if_neg hl,if_neg hl]
  rw [bf]at bt;have am:(hres it.foot 0 ae).length =it.n:=by rw [uE,ax.1]
  have b7:gT V (hres it.foot 0 ae).length r.new.length:=by
   intro l h1 h2;rw [am]at h1 h2;cases e:V l with
   | none=>rfl
   | some x=>
     rcases az l (by rw [e];simp)with h | ⟨i,y,hi,ao,h3,h4⟩
     ·have:it.n=ae.length:=ax.1;exact(h (hV0 l omz)).elim
     ·by_cases aa:i=k
      ·subst aa;rw [hD]at ao;cases ao
      ·rw [a6]at h2;rcases Nat.lt_or_gt_of_ne aa with af | bg
       ·have:=d.trace.news i k y it hi hk af;omega
       ·have:=d.trace.news k i it y hk hi bg;omega
  have bn:dop E (dK (tmF D 0 its tm0)) it.o.op (hres it.foot 0 ae)=some r:=by rw [LQ _ _ bk];exact b2
  refine LR bn b1 bt b7 aq ?_;intro v' V' w' k1 k2 k3 k4 k5;refine hK _ _ ⟨V',Val.le_trans bb k2,?_,?_,?_,hg.trans k5,by rw [iQ];exact bv⟩
  ·intro l hl
   by_cases bw:V l=none
   ·have:=k3 l bw hl;rw [am,a6]at this;exact .inr ⟨k,it,hk,by simp,this.1,this.2⟩
   ·rcases az l bw with h | ⟨i,y,hi,ao,h3,h4⟩
    ·exact .inl h
    ·exact .inr ⟨i,y,hi,by simp [ao],h3,h4⟩
  ·rw [av];exact mD (aH.mono k2 _ _ aq) (by rw [<-b0];exact k1)
  ·have hz: ∀l,it.foot.contains l=false->hF D 0 its (toF h0) l≠none->toF (r.apply (hres it.foot 0 ae)) l=none:=by
    intro l hl bo;have ac:l∉it.foot:=by simpa using hl
    have ar:r.apply (hres it.foot 0 ae)=it.applyH (hres it.foot 0 ae):=by unfold ORes.apply Item.applyH;rw [bm,a6]
    rw [ar,nW am.symm ag];cases hp:it.puts l with
    | false=>
      rw [lE it _ l hp];show aL (hres it.foot 0 ae) l=none;rw [rW,Nat.zero_add,if_neg (by simpa using hl)]
    | true=>
      exfalso
      have ba:hF D 0 its (toF h0) l=hF (fun _=>false) 0 its (toF h0) l:=by
       refine oE its 0 _ _ rfl ?_;intro i x hi hx;rw [Nat.zero_add]
       by_cases aa:i=k
       ·subst aa;exact hD
       ·cases e:D i with
        | false=>rfl
        | true=>exact(ac (ai l hp i x hi aa hx e).2).elim
      rw [rV _ _ _ (fun _ _=>rfl)]at ba;rw [ba]at bo
      have ca:l<h0.length:=by
       cases Nat.lt_or_ge l h0.length with
       | inl h=>exact h
       | inr h=>exact(bo (cC h)).elim
      have b9:it.n=ae.length:=ax.1;simp only [Item.puts,Bool.or_eq_true,Bool.and_eq_true,dT']at hp;rcases hp with hp | hp
      ·obtain⟨u,hu,he⟩:=List.any_eq_true.1 hp;have:=List.all_eq_true.1 ag u hu;simp only [Bool.and_eq_true,dT']at this;have e:u.1=l:=by simpa using he
       rw [e]at this;exact ac (by simpa using this.1)
      ·omega
   have bu:=bh V' _ w' k2 k4 hz;rw [bc]
   have b8:(fun l=>if it.foot.contains l=false/\hF D 0 its (toF h0) l≠none then hF D 0 its (toF h0) l else toF (r.apply (hres it.foot 0 ae)) l)=it.putF (hF D 0 its (toF h0)):=by
    funext l;have ar:r.apply (hres it.foot 0 ae)=it.applyH (hres it.foot 0 ae):=by unfold ORes.apply Item.applyH;rw [bm,a6]
    by_cases ak:it.foot.contains l=false/\hF D 0 its (toF h0) l≠none
    ·rw [if_pos ak];cases hp:it.puts l with
     | false=>rw [lE it _ l hp]
     | true=>
       exfalso;have:=hz l ak.1 ak.2;rw [ar,nW am.symm ag]at this;simp only [Item.puts,Bool.or_eq_true,Bool.and_eq_true,dT']at hp;have ac:l∉it.foot:=by simpa using ak.1
       rcases hp with hp | hp
       ·obtain⟨u,hu,he⟩:=List.any_eq_true.1 hp;have:=List.all_eq_true.1 ag u hu;simp only [Bool.and_eq_true,dT']at this;have e:u.1=l:=by simpa using he
        rw [e]at this;exact ac (by simpa using this.1)
       ·unfold Item.putF at this;rw [if_pos hp,gE' omz]at this;cases this
    ·rw [if_neg ak,ar,nW am.symm ag];refine tJ it _ _ l ?_;cases hp:it.puts l with
     | true=>exact .inl rfl
     | false=>
       right;show aL (hres it.foot 0 ae) l=_;rw [rW,Nat.zero_add]
       by_cases hl:it.foot.contains l=true
       ·rw [if_pos hl];exact(seen l (by simpa using hl)).symm
       ·rw [if_neg hl];have b6:it.foot.contains l=false:=by simpa using hl
        cases e:hF D 0 its (toF h0) l with
        | none=>rfl
        | some x=>exact(ak ⟨b6,by rw [e];simp⟩).elim
   rw [<-b8];exact bu
 ·
  have hw:Region.wanted it.o (yielded ops a.tmps)=false:=by
   have bp:=look dd (uA ay au);rcases aj with aj | aj
   ·rw [<-bp]at aj;obtain⟨y,hy,ry⟩:=aH.get aq dd _ aj;rw [Array.getElem?_toList]at hy;have bd:y=.bool (!want):=ry;subst bd;have:Region.wanted it.o (yielded ops a.tmps)=((!want) == want):=by simp [Region.wanted,ay,kH au hy]
    rw [this];cases want<;>rfl
   ·have al:iX ((tmF D 0 its tm0).getD dd (.raw undef))=true:=by
     rw [gD',bp,<-gD'];exact aj
    have bx:yielded ops a.tmps j=none:=by
     refine mB au ?_;cases e:a.tmps[dd]? with
     | none=>exact .inl rfl
     | some x=>
       right
       have af:dd<(tmF D 0 its tm0).length :=by
        have h1:=aH.length aq;rw [Array.length_toList]at h1;cases Nat.lt_or_ge dd a.tmps.size with
        | inl g=>exact Nat.lt_of_lt_of_eq g h1
        | inr g=>rw [Array.getElem?_eq_none g]at e;cases e
       obtain⟨y,hy,ry⟩:=aH.get aq dd _ (gE' af);rw [Array.getElem?_toList,e]at hy;cases hy;have e2:(tmF D 0 its tm0).getD dd (.raw undef)=(tmF D 0 its tm0)[dd]:=by rw [gD',gE' af];rfl
       rw [e2]at al;unfold iX at al;split at al
       ·rename_i vs e3;rw [e3]at ry;have:x=.tuple vs:=ry;exact⟨vs,by rw [this]⟩
       ·cases al
    simp [Region.wanted,ay,bx]
  rw [if_neg (by rw [hw];simp)]
  refine hK _ _ ⟨V,bb,?_,?_,?_,hg,by rw [iQ];exact bv⟩
  ·intro l hl;rcases az l hl with h | ⟨i,y,hi,ao,h3,h4⟩
   ·exact .inl h
   ·exact .inr ⟨i,y,hi,by simp [ao],h3,h4⟩
  ·rw [av,hv];exact mD aq rfl
  ·rw [bc]
   have:it.putF (hF D 0 its (toF h0))=hF D 0 its (toF h0):=by
    funext l;refine lE it _ l ?_;simp [Item.puts,bz,b5]
   rw [this];exact a8
theorem yU{p q:Nat->Bool}(h: ∀i,q i=true->p i=true): ∀l:List Nat,(l.filter q).length <=(l.filter p).length
 | []=>Nat.le_refl _
 | x::l=>by
   have ih:=yU h l;rw [List.filter_cons,List.filter_cons];cases hq:q x with
   | true=>rw [h x hq];simp only [if_true,List.length_cons];omega
   | false=>
     cases hp:p x with
     | true=>simp only [Bool.false_eq_true,if_false,if_true,List.length_cons];omega
     | false=>simpa using ih
theorem yV{p q:Nat->Bool}(h: ∀i,q i=true->p i=true){k:Nat}(hp:p k=true)(hq:q k=false): ∀l:List Nat,k∈l->(l.filter q).length <(l.filter p).length
 | [],hk=>by cases hk
 | x::l,hk=>by
   have le:=yU h l;rw [List.filter_cons,List.filter_cons]
   by_cases hx:x=k
   ·subst hx;rw [hp,hq];simp only [Bool.false_eq_true,if_false,if_true,List.length_cons];omega
   ·have hm:k∈l:=by
     rcases List.mem_cons.1 hk with h | h
     ·exact(hx h.symm).elim
     ·exact h
    have ih:=yV h hp hq l hm;cases aa:q x with
    | true=>rw [h x aa];simp only [if_true,List.length_cons];omega
    | false=>
      cases ac:p x with
      | true=>simp only [Bool.false_eq_true,if_false,if_true,List.length_cons];omega
      | false=>simpa using ih
theorem i8.any{ds:List Deferred}(d:i8 E ops tm0 h0 its tmN hN){V0:Val}(hV0:bO V0 h0.length){hR:PHeap}{w0:World}{Q:Exit->Act->World->Prop}(hle:its.length<=ops.size)
 (tot: ∀k,its.length<=k->k<ops.size-> ∀i,i<k->((masks [] ops.toList).getD k 0).testBit i=true)
 (hQ: ∀(fuel:Nat) (listed:Array Bool) (a:Act) (w:World),listed.size=ops.size->(∀i,listed.getD i false=decide (i<its.length))->ops.size<=fuel+its.length->yC E ds tm0 h0 its V0 hR w0 (fun i=>decide (i<its.length)) a w->wpAny P .any ops Q fuel listed a w):
 ∀(fuel:Nat) (listed:Array Bool) (a:Act) (w:World),listed.size=ops.size->
  ((List.range its.length).filter (fun i=>!listed.getD i false)).length +(ops.size - its.length)<=fuel->mR ops.toList (fun i=>listed.getD i false)->(∀i,its.length<=i->listed.getD i false=false)->yC E ds tm0 h0 its V0 hR w0 (fun i=>listed.getD i false) a w->wpAny P .any ops Q fuel listed a w:=by
 have ak: ∀(fuel:Nat) (listed:Array Bool) (a:Act) (w:World),listed.size=ops.size->(∀i,i<its.length->listed.getD i false=true)->ops.size<=fuel+its.length->(∀i,its.length<=i->listed.getD i false=false)->yC E ds tm0 h0 its V0 hR w0 (fun i=>listed.getD i false) a w->wpAny P .any ops Q fuel listed a w:=by
  intro fuel listed a w aa ae ay af hs
  have aj: ∀i,listed.getD i false=decide (i<its.length):=by
   intro i;cases Nat.lt_or_ge i its.length with
   | inl g=>rw [ae i g];simp [g]
   | inr g=>rw [af i g];simp;omega
  refine hQ fuel listed a w aa aj ay ?_;have:(fun i=>listed.getD i false)=fun i=>decide (i<its.length):=funext aj;rw [this]at hs;exact hs
 intro fuel
 induction fuel with
 | zero=>
   intro listed a w aa hf hc af hs;refine ak 0 listed a w aa ?_ omz af hs;intro i hi;cases e:listed.getD i false with
   | true=>rfl
   | false=>
     have:i∈(List.range its.length).filter (fun i=>!listed.getD i false):=by
      rw [List.mem_filter];exact⟨by simpa using hi,by rw [e];rfl⟩
     have hp:=List.length_pos_of_mem this;omega
 | succ fuel ih=>
   intro listed a w aa hf hc af hs
   by_cases ae: ∀i,i<its.length->listed.getD i false=true
   ·refine ak (fuel+1) listed a w aa ae ?_ af hs;omega
   have ⟨i0,a8,ao⟩: ∃i0,i0<its.length/\listed.getD i0 false=false:=by
    refine Classical.byContradiction fun ax=>ae fun i hi=>?_;cases e:listed.getD i false with
    | true=>rfl
    | false=>exact(ax ⟨i,hi,e⟩).elim
   refine⟨fun av=>?_,?_⟩
   ·exfalso
    have ap: ∀i,i<ops.size->listed.getD i false=true:=by
     intro i
     induction i using Nat.strongRecOn with
     | _ i ih2=>
       intro hi;cases e:listed.getD i false with
       | true=>rfl
       | false=>
         exfalso
         have ai:i∈Region.ready .any ops listed:=by
          unfold Region.ready;rw [List.mem_filter];refine⟨by simpa using hi,?_⟩
          have e1:listed.getD i true=false:=by
           rw [Array.getD_eq_getD_getElem?]at e⊢;rw [Array.getElem?_eq_getElem omz]at e⊢;exact e
          rw [e1,Array.getElem?_eq_getElem hi];simp only [Bool.not_false,Option.map_some,Option.getD_some,Bool.true_and];rw [Array.all_eq_true_iff_forall_mem];intro x hx;have az:=d.edges;have h1:=az i ops[i] (by rw [Array.getElem?_toList,Array.getElem?_eq_getElem hi])
          unfold lN at h1;rw [List.all_eq_true]at h1;have h2:=h1 x (by simpa using hx)
          simp only [Bool.or_eq_true,Bool.not_eq_true']at h2⊢;rcases h2 with h2 | h2
          ·exact .inl h2
          ·have a6:x.on<i:=Nat.le_of_ble_eq_true h2;exact .inr (ih2 x.on a6 omz)
         rw [av]at ai;cases ai
    rw [ap i0 omz]at ao;cases ao
   intro k hk;unfold Region.ready at hk;rw [List.mem_filter]at hk;obtain⟨h1,h2⟩:=hk;have ah:k<ops.size:=by simpa using h1
   simp only [Bool.and_eq_true,Bool.not_eq_true']at h2
   have ar:listed.getD k false=false:=by
    have:=h2.1;rw [Array.getD_eq_getD_getElem?]at this⊢;rw [Array.getElem?_eq_getElem omz]at this⊢;exact this
   have al:ops.toList[k]? =some ops[k]:=by rw [Array.getElem?_toList,Array.getElem?_eq_getElem ah]
   have hr: ∀e∈ops[k].after.toList,Region.binds .any e=true->listed.getD e.on false=true:=by
    intro e he hb;have h3:=h2.2;rw [Array.getElem?_eq_getElem ah]at h3;simp only [Option.map_some,Option.getD_some]at h3;rw [Array.all_eq_true_iff_forall_mem]at h3;have:=h3 e (by simpa using he)
    simpa [hb]using this
   have aq:k<its.length:=by
    cases Nat.lt_or_ge k its.length with
    | inl g=>exact g
    | inr g=>
      exfalso;rcases qS hc al hr (tot k g ah i0 omz)with e | e
      ·omega
      ·rw [ao]at e;cases e
   have ac: ∀i,(listed.setIfInBounds k true).getD i false=(decide (i=k)||listed.getD i false):=by
    intro i;rw [Array.getD_eq_getD_getElem?,Array.getD_eq_getD_getElem?,Array.getElem?_setIfInBounds]
    by_cases am:k=i
    ·subst am;simp [aa,ah]
    ·simp [am,Ne.symm am]
   have ag:(fun i=>(listed.setIfInBounds k true).getD i false)=(fun i=>decide (i=k)||listed.getD i false):=funext ac
   refine d.step hV0 hc al aq ar hr hs ?_;intro a' w' au;refine ih _ a' w' (by simp [aa]) ?_ ?_ ?_ (by rw [ag];exact au)
   ·have a7:((List.range its.length).filter (fun i=> !(listed.setIfInBounds k true).getD i false)).length <((List.range its.length).filter (fun i=>!listed.getD i false)).length :=by
     refine yV ?_ (k:=k) ?_ ?_ _ (by simpa using aq)
     ·intro i hi;rw [ac i]at hi;cases e:listed.getD i false with
      | false=>rfl
      | true=>rw [e]at hi;simp at hi
     ·simp only [ar];rfl
     ·simp only [ac k];simp
    omega
   ·rw [ag];intro j o hj hD e he hb;simp only [Bool.or_eq_true,dT']at hD⊢;right;rcases hD with rfl | hD
    ·rw [al]at hj;cases hj;exact hr e he hb
    ·exact hc j o hj hD e he hb
   ·intro i hi;rw [ac i,af i hi];have:i≠k:=by omega
    simp [this]
theorem BZ{Q:Exit->Act->World->Prop}{j0:Nat}(hed:mZ ops.toList)(tot: ∀k,j0<=k->k<ops.size-> ∀i,i<k->((masks [] ops.toList).getD k 0).testBit i=true):
 ∀(rest:List Oper) (k fuel:Nat) (listed:Array Bool) (a:Act) (w:World),ops.toList.drop k=rest->j0<=k->listed.size=ops.size->(∀i,listed.getD i false=decide (i<k))->rest.length<=fuel->wpList P ops Q rest a w->wpAny P .any ops Q fuel listed a w:=by
 intro rest
 induction rest with
 | nil=>
   intro k fuel listed a w ac av af hl ah hw
   have hk:ops.size<=k:=by
    have:=congrArg List.length ac;simp at this;omega
   have ak:Region.ready .any ops listed=[]:=by
    rw [List.eq_nil_iff_forall_not_mem];intro i hi;unfold Region.ready at hi;rw [List.mem_filter]at hi;obtain⟨h1,h2⟩:=hi;have aa:i<ops.size:=by simpa using h1
    simp only [Bool.and_eq_true,Bool.not_eq_true']at h2;have:=h2.1;have h3:=hl i;rw [Array.getD_eq_getD_getElem?]at this h3;rw [Array.getElem?_eq_getElem omz]at this h3;simp only [Option.getD_some]at this h3;rw [this]at h3;simp at h3;omega
   have ai:Q .normal a w:=hw;cases fuel with
   | zero=>exact⟨ak,ai⟩
   | succ fuel=>exact⟨fun _=>ai,fun i hi=>by rw [ak]at hi;cases hi⟩
 | cons o rest ih=>
   intro k fuel listed a w ac av af hl ah hw;cases fuel with
   | zero=>simp at ah
   | succ fuel=>
   have hk:k<ops.size:=by
    have:=congrArg List.length ac;simp at this;omega
   have ag:ops.toList[k]? =some o:=by
    have:=congrArg (fun l=>l[0]?) ac;simp only [List.getElem?_drop,Nat.add_zero,List.getElem?_cons_zero]at this;exact this
   have am:ops.toList.drop (k+1)=rest:=by
    have:=congrArg (List.drop 1) ac;rw [List.drop_drop]at this
    simpa using this
   have az:mR ops.toList (fun i=>listed.getD i false):=by
    intro j o' hj hD e he hb;simp only [hl,dT']at hD⊢;have h1:=hed j o' hj;unfold lN at h1;rw [List.all_eq_true]at h1;have h2:=h1 e he;rw [hb]at h2;have ap:e.on<j:=by simpa using h2
    omega
   refine⟨fun ar=>?_,?_⟩
   ·exfalso
    have ae:k∈Region.ready .any ops listed:=by
     unfold Region.ready;rw [List.mem_filter];refine⟨by simpa using hk,?_⟩
     have e1:listed.getD k true=false:=by
      have h3:=hl k;rw [Array.getD_eq_getD_getElem?]at h3⊢;rw [Array.getElem?_eq_getElem omz]at h3⊢;simp only [Option.getD_some]at h3⊢;rw [h3];simp
     rw [<-Array.getElem?_toList,ag,e1];simp only [Bool.not_false,Option.map_some,Option.getD_some,Bool.true_and];rw [Array.all_eq_true_iff_forall_mem];intro x hx;have h1:=hed k o ag;unfold lN at h1;rw [List.all_eq_true]at h1;have h2:=h1 x (by simpa using hx)
     simp only [Bool.or_eq_true,Bool.not_eq_true']at h2⊢;rcases h2 with h2 | h2
     ·exact .inl h2
     ·have ap:x.on<k:=Nat.le_of_ble_eq_true h2;right;rw [hl];simpa using ap
    rw [ar]at ae;cases ae
   intro i hi;unfold Region.ready at hi;rw [List.mem_filter]at hi;obtain⟨h1,h2⟩:=hi;have aa:i<ops.size:=by simpa using h1
   simp only [Bool.and_eq_true,Bool.not_eq_true']at h2
   have ao:listed.getD i false=false:=by
    have:=h2.1;rw [Array.getD_eq_getD_getElem?]at this⊢;rw [Array.getElem?_eq_getElem omz]at this⊢;exact this
   have a6:k<=i:=by
    rw [hl]at ao;simpa using ao
   have ax:ops.toList[i]? =some ops[i]:=by rw [Array.getElem?_toList,Array.getElem?_eq_getElem aa]
   have hr: ∀e∈ops[i].after.toList,Region.binds .any e=true->listed.getD e.on false=true:=by
    intro e he hb;have h3:=h2.2;rw [Array.getElem?_eq_getElem aa]at h3;simp only [Option.map_some,Option.getD_some]at h3;rw [Array.all_eq_true_iff_forall_mem]at h3;have:=h3 e (by simpa using he)
    simpa [hb]using this
   have ay:i=k:=by
    cases Nat.lt_or_ge k i with
    | inr g=>omega
    | inl g=>
      rcases qS az ax hr (tot i omz aa k g)with e | e
      ·omega
      ·simp only [hl]at e;simp at e
   subst ay
   have aj: ∀j,(listed.setIfInBounds i true).getD j false=decide (j<i+1):=by
    intro j;rw [Array.getD_eq_getD_getElem?,Array.getElem?_setIfInBounds]
    by_cases al:i=j
    ·subst al;simp [af,aa]
    ·have:=hl j;rw [Array.getD_eq_getD_getElem?]at this;rw [if_neg al,this];congr 1;apply propext;omega
   have au:ops[i]? =some o:=by rw [<-Array.getElem?_toList];exact ag
   have aq:wpOp P ops Q i (wpList P ops Q rest) a w:=by
    unfold wpOp;rw [au];exact hw
   exact wpOp_mono (fun a' w' h=>ih (i+1) fuel _ a' w' am omz (by simp [af]) aj (by simpa using ah) h) aq
end
end Go.Sh
namespace Go.Sh
open Go
variable [Con] {A:Type}
def lab(pl:List Nat)(n:Nat)(i:Nat):Nat:=match pl[i]? with
 | some l=>l
 | none=>n+i
theorem aAV{pl:List Nat}{n:Nat}(hnd:pl.Nodup)(hlt: ∀l∈pl,l<n): ∀i j,lab pl n i=lab pl n j->i=j:=by
 intro i j h;unfold lab at h;cases hi:pl[i]? with
 | some a=>
   rw [hi]at h;cases hj:pl[j]? with
   | some b=>
     rw [hj]at h;simp only at h;subst h
     have h1:i<pl.length:=by
      cases Nat.lt_or_ge i pl.length with
      | inl g=>exact g
      | inr g=>rw [List.getElem?_eq_none g]at hi;cases hi
     exact(List.getElem?_inj h1 hnd).1 (hi.trans hj.symm)
   | none=>
     rw [hj]at h;simp only at h;have:=hlt a (List.mem_of_getElem? hi);omega
 | none=>
   rw [hi]at h;cases hj:pl[j]? with
   | some b=>
     rw [hj]at h;simp only at h;have:=hlt b (List.mem_of_getElem? hj);omega
   | none=>
     rw [hj]at h;simp only at h;omega
structure vG (h':aC A) (pl:List Nat) (h'':aC A):Prop where
 nodup:pl.Nodup
 lt: ∀l∈pl,l<h'.length
 len:h''.length=pl.length
 ent: ∀(i l:Nat),pl[i]? =some l-> ∀e,aL h'' i=some e->aL h' l=some (e.ren (lab pl h'.length))
section
variable {P:Program} {I:Itp A}
theorem Inv.pick{V:Val}{h' h'':aC A}{pl:List Nat}(hp:vG h' pl h''){hR:PHeap}{w:World}(hi:Inv I V (toF h') hR w):Inv I (fun i=>V (lab pl h'.length i)) (toF h'') hR w:=by
 have aa: ∀(S:Nat->Bool),Inv I V (fun l=>if S l then toF h' l else none) hR w:=by
  intro S;obtain⟨hs,h1,h2,h3,h4,h5,h6⟩:=hi;refine⟨fun l=>if S l then hs l else .emp,?_,?_,?_,?_,?_,h6⟩
  ·intro l e he;cases hS:S l with
   | true=>simp [hS]at he⊢;exact h1 l e he
   | false=>simp [hS]at he
  ·intro l hl;cases hS:S l with
   | true=>simp [hS]at hl⊢;exact h2 l hl
   | false=>simp [hS]
  ·intro l m af;show PHeap.disj (if S l then hs l else .emp) (if S m then hs m else .emp)
   split
   ·split
    ·exact h3 l m af
    ·exact aLy _
   ·exact(aLy _).symm
  ·intro l;show PHeap.disj (if S l then hs l else .emp) hR
   split
   ·exact h4 l
   ·exact(aLy _).symm
  ·intro l;show(if S l then hs l else PHeap.emp).sub w
   split
   ·exact h5 l
   ·exact aLX _
 let n:=h'.length
 have ae:=aAV hp.nodup hp.lt
 classical
 have hS:=aa (fun l=>decide (∃i e,pl[i]? =some l/\aL h'' i=some e));refine(aL4 (ι:=lab pl h'.length) ae ?_ ?_).1 hS
 ·intro i;cases hi:pl[i]? with
  | some l=>
    have e1:lab pl h'.length i=l:=by unfold lab;rw [hi]
    rw [e1];cases he:aL h'' i with
    | some e=>
      have:(∃i e,pl[i]? =some l/\aL h'' i=some e):=⟨i,e,hi,he⟩;rw [if_pos (by simpa using this)]
      show aL h' l=(aL h'' i).map _;rw [he,hp.ent i l hi e he];rfl
    | none=>
      have: ¬(∃j e,pl[j]? =some l/\aL h'' j=some e):=by
       rintro⟨j,e,hj,ac⟩
       have h1:i<pl.length:=by
        cases Nat.lt_or_ge i pl.length with
        | inl g=>exact g
        | inr g=>rw [List.getElem?_eq_none g]at hi;cases hi
       have:=(List.getElem?_inj h1 hp.nodup).1 (hi.trans hj.symm);subst this;rw [he]at ac;cases ac
      rw [if_neg (by simpa using this)]
      show none=(aL h'' i).map _;rw [he];rfl
  | none=>
    have e1:lab pl h'.length i=h'.length+i:=by unfold lab;rw [hi]
    rw [e1]
    have h2:aL h'' i=none:=by
     refine cC ?_;rw [hp.len];exact List.getElem?_eq_none_iff.1 hi
    show _=(aL h'' i).map _;rw [h2];have:toF h' (h'.length+i)=none:=cC omz;split
    ·exact this
    ·rfl
 ·intro m hm
  have: ¬(∃i e,pl[i]? =some m/\aL h'' i=some e):=by
   rintro⟨i,e,hi,_⟩;refine hm i ?_;unfold lab;rw [hi]
  rw [if_neg (by simpa using this)]
end
def inv(pl:List Nat)(l:Nat):Nat:=match pl with
 | []=>0
 | m::pl=>if m=l then 0 else inv pl l+1
mutual
def AVal.within(pl:List Nat):AVal->Bool
 | .ptr l _=>pl.elem l
 | .slice l _ _ _=>pl.elem l
 | .tslice l _ _ _=>pl.elem l
 | .tptr l _ _ _=>pl.elem l
 | .map l=>pl.elem l
 | .func _ f c=>aLA pl f&&aLA pl c
 | .iface _ a=>AVal.within pl a
 | .agg as=>aLA pl as
 | .tup as=>aLA pl as
 | _=>true
def aLA(pl:List Nat):List AVal->Bool
 | []=>true
 | a::as=>AVal.within pl a&&aLA pl as
end
def nL(pl:List Nat):List Nat->Bool
 | []=>true
 | l::ls=>pl.elem l&&nL pl ls
def aG.within(pl:List Nat):aG A->Bool
 | .cells vs=>aLA pl vs
 | .abs _ ps=>nL pl ps
 | .iter lm _ _ _ _ _=>pl.elem lm
 | _=>true
def gQ(pl:List Nat)(h:aC A):aC A:=
 pl.map fun l=>match aL h l with
  | some e=>cond (e.within pl) (some (e.ren (inv pl))) none
  | none=>none
def lI(pl:List Nat)(v:AVal):AVal:=cond (v.within pl) (v.ren (inv pl)) .O
theorem lS{pl:List Nat}{n l:Nat}(h:pl.elem l=true):lab pl n (inv pl l)=l:=by
 have:pl[inv pl l]? =some l:=by
  have h':l∈pl:=List.elem_iff.1 h;clear h
  induction pl with
  | nil=>cases h'
  | cons m pl ih=>
    unfold inv
    by_cases e:m=l
    ·rw [if_pos e];simp [e]
    ·rw [if_neg e,List.getElem?_cons_succ];refine ih ?_;rcases List.mem_cons.1 h' with h | h
     ·exact(e h.symm).elim
     ·exact h
 unfold lab;rw [this]
mutual
theorem aMj{pl:List Nat}{n:Nat} : ∀(v:AVal),v.within pl=true->(v.ren (inv pl)).ren (lab pl n)=v
 | .bool _,_=>rfl
 | .int _ _,_=>rfl
 | .str _,_=>rfl
 | .ptr l off,h=>by simp only [AVal.ren];rw [lS h]
 | .slice l off len sz,h=>by simp only [AVal.ren];rw [lS h]
 | .map l,h=>by simp only [AVal.ren];rw [lS h]
 | .func fn f c,h=>by
   simp only [AVal.within,Bool.and_eq_true]at h;simp only [AVal.ren];rw [aL2 f h.1,aL2 c h.2]
 | .iface t a,h=>by simp only [AVal.ren];rw [aMj a h]
 | .agg as,h=>by simp only [AVal.ren];rw [aL2 as h]
 | .tup as,h=>by simp only [AVal.ren];rw [aL2 as h]
 | .raw _,_=>rfl
 | .any,_=>rfl
 | .O,_=>rfl
 | .iview _ _,_=>rfl
 | .view _ _ _,_=>rfl
 | .cptr _,_=>rfl
 | .tslice l r n w,h=>by simp only [AVal.ren];rw [lS h]
 | .tptr l r w j,h=>by simp only [AVal.ren];rw [lS h]
 | .empty,_=>rfl
theorem aL2{pl:List Nat}{n:Nat} : ∀(v:List AVal),aLA pl v=true->aLL (lab pl n) (aLL (inv pl) v)=v
 | [],_=>rfl
 | a::as,h=>by
   simp only [aLA,Bool.and_eq_true]at h;simp only [aLL];rw [aMj a h.1,aL2 as h.2]
end
theorem yH{pl:List Nat}{n:Nat} : ∀(ps:List Nat),nL pl ps=true->(ps.map (inv pl)).map (lab pl n)=ps
 | [],_=>rfl
 | p::ps,h=>by
   simp only [nL,Bool.and_eq_true]at h;simp only [List.map_cons];rw [lS h.1,yH ps h.2]
theorem aG.ren_inv{pl:List Nat}{n:Nat}(e:aG A)(h:e.within pl=true):(e.ren (inv pl)).ren (lab pl n)=e:=by
 cases e with
 | cells vs=>simp only [aG.ren];rw [aL2 vs h]
 | ints c xs=>rfl
 | abs t ps=>simp only [aG.ren];rw [yH ps h]
 | tab ks rows=>rfl
 | imap kk vc m=>rfl
 | iter lm kk vc m left cur=>simp only [aG.ren];rw [lS h]
def dW(pl:List Nat)(n:Nat):Bool:=match pl with
 | []=>true
 | l::pl=>!pl.elem l&&Nat.blt l n&&dW pl n
theorem gO: ∀ {pl:List Nat} {n:Nat},dW pl n=true->pl.Nodup/\ ∀l∈pl,l<n
 | [],n,_=>by simp
 | m::pl,n,h=>by
   have h':((!pl.elem m&&Nat.blt m n)&&dW pl n)=true:=h;rw [Bool.and_eq_true,Bool.and_eq_true]at h';have h1:=h'.1.1;have h2:m<n:=by have:=h'.1.2;rwa [Nat.blt_eq]at this
   have h3:=h'.2;obtain⟨g1,g2⟩:=gO h3;refine⟨List.nodup_cons.2 ⟨by simpa using h1,g1⟩,?_⟩
   intro l hl;rcases List.mem_cons.1 hl with rfl | hl
   ·exact h2
   ·exact g2 l hl
theorem oV{pl:List Nat}{h:aC A}(hg:dW pl h.length=true):vG h pl (gQ pl h):=by
 obtain⟨g1,g2⟩:=gO hg;refine⟨g1,g2,by simp [gQ],?_⟩
 intro i l hi e he;have e1:aL (gQ pl h) i=(match aL h l with
  | some e=>cond (e.within pl) (some (e.ren (inv pl))) none
  | none=>none):=by
  unfold gQ;show(List.map _ pl).getD i none=_;rw [gD',List.getElem?_map,hi];rfl
 rw [e1]at he;cases hl:aL h l with
 | none=>rw [hl]at he;cases he
 | some e'=>
   rw [hl]at he;simp only at he;cases hw:e'.within pl with
   | false=>rw [hw]at he;cases he
   | true=>
     rw [hw]at he;simp only [cond_true,sI']at he;subst he;rw [aG.ren_inv e' hw]
theorem pN{V:Val}{pl:List Nat}{n:Nat}{v:AVal}{x:Value}(h:Rep V v x):Rep (fun i=>V (lab pl n i)) (lI pl v) x:=by
 unfold lI;cases hw:v.within pl with
 | false=>exact trivial
 | true=>
   simp only [cond_true];refine(Rep.ren (ι:=lab pl n) _ _).1 ?_;rw [aMj v hw];exact h
def iJ:List Nat->Nat->Nat->Bool
 | _,_,0=>true
 | [],_,_+1=>false
 | l::pl,i,n+1=>Nat.beq l i&&iJ pl (i+1) n
theorem nA: ∀ {pl:List Nat} {j n:Nat},iJ pl j n=true->n<=pl.length/\ ∀i,i<n->pl[i]? =some (j+i)
 | pl,j,0,_=>⟨Nat.zero_le _,fun i hi=>by omega⟩
 | [],_,_+1,h=>by simp [iJ]at h
 | l::pl,j,n+1,h=>by
   simp only [iJ,Bool.and_eq_true]at h;obtain⟨h1,h2⟩:=h;have h1':l=j:=Nat.eq_of_beq_eq_true h1;obtain⟨g1,g2⟩:=nA h2;refine⟨by simp;omega,?_⟩
   intro i hi;cases i with
   | zero=>simp [h1']
   | succ i=>
     rw [List.getElem?_cons_succ,g2 i omz];congr 1;omega
def aBA(pl keep:List Nat):Nat->List AVal->List AVal
 | _,[]=>[]
 | i,v::vs=>cond (keep.elem i) (lI pl v) .O ::aBA pl keep (i+1) vs
theorem sI{V:Val}{pl keep:List Nat}{n:Nat} : ∀(i:Nat) (vs:List AVal) (xs:List Value),aH V vs xs->aH (fun i=>V (lab pl n i)) (aBA pl keep i vs) xs
 | _,[],xs,h=>h
 | i,v::vs,_,⟨x,xs,e,r,s⟩=>by
   refine⟨x,xs,e,?_,sI (i+1) vs xs s⟩;cases keep.elem i with
   | true=>exact pN r
   | false=>exact trivial
mutual
def AVal.labels:AVal->List Nat
 | .ptr l _=>[l]
 | .slice l _ _ _=>[l]
 | .tslice l _ _ _=>[l]
 | .tptr l _ _ _=>[l]
 | .map l=>[l]
 | .func _ f c=>aL1 f++aL1 c
 | .iface _ a=>AVal.labels a
 | .agg as=>aL1 as
 | .tup as=>aL1 as
 | _=>[]
def aL1:List AVal->List Nat
 | []=>[]
 | a::as=>AVal.labels a++aL1 as
end
def aG.labels:aG A->List Nat
 | .cells vs=>aL1 vs
 | .abs _ ps=>ps
 | .iter lm _ _ _ _ _=>[lm]
 | _=>[]
def KW(h:aC A):Nat->List Nat->List Nat->List Nat
 | 0,_,acc=>acc
 | _+1,[],acc=>acc
 | d+1,l::todo,acc=>cond (acc.elem l) (KW h d todo acc) (match aL h l with
   | some e=>KW h d (e.labels++todo) (acc++ [l])
   | none=>KW h d todo (acc++ [l]))
def dD(keep:List Nat):Nat->List AVal->List Nat
 | _,[]=>[]
 | i,v::vs=>cond (keep.elem i) (v.labels++dD keep (i+1) vs) (dD keep (i+1) vs)
def qL:List (Option (aG A))->List Nat
 | []=>[]
 | none::h=>qL h
 | some e::h=>e.labels++qL h
def upto:Nat->Nat->List Nat
 | _,0=>[]
 | i,n+1=>i::upto (i+1) n
def dO(n:Nat)(h:aC A)(more:List Nat):List Nat:=KW h 2000 (qL (h.take n)++more) (upto 0 n)
theorem vG.elim{n:Nat}{h:aC A}{pl:List Nat}(g1:dW pl h.length=true)(g2:iJ pl 0 n=true){I:Itp A}{V:Val}{hR:PHeap}{w:World}
 (hi:Inv I V (toF h) hR w) (hf:bO V h.length):
 (∀l,l<n->V (lab pl h.length l)=V l)/\bO (fun i=>V (lab pl h.length i)) (gQ pl h).length /\n<=(gQ pl h).length /\Inv I (fun i=>V (lab pl h.length i)) (toF (gQ pl h)) hR w:=by
 obtain⟨k1,k2⟩:=nA g2;have hp:=oV (h:=h) g1;refine⟨?_,?_,by rw [hp.len];exact k1,hi.pick hp⟩
 ·intro l hl;have:lab pl h.length l=l:=by unfold lab;rw [k2 l hl];simp
  rw [this]
 ·intro l hl;rw [hp.len]at hl;show V (lab pl h.length l)=none;have:lab pl h.length l=h.length+l:=by unfold lab;rw [List.getElem?_eq_none hl]
  rw [this];exact hf _ omz
end Go.Sh
namespace Go.Sh
open Go
variable [Con] {A:Type}
inductive gS where
 | ints (c:Code1)
 | tab (ks:List Code1)
inductive Place where
 | slot (i:Nat)
 | cell (l j:Nat)
def isNone:AVal->Bool
 | .raw (.slice none 0 0)=>true
 | .empty =>true
 | _=>false
def B8(K:gS)(v:AVal)(h:aC A):Option (AVal×aC A):=
 match K with
 | .ints c=>cond (isNone v) (some (.slice h.length 0 0 1,h++ [some (.ints c [])])) <|
   match v with
   | .slice l 0 n 1=>match aL h l with
     | some (.ints c' _)=>if c=c' then some (v,h)else none
     | some (.cells vs)=>match iE c vs with
       | some ns=>some (v,h.set l (some (.ints c ns)))
       | none=>none
     | _=>none
   | _=>none
 | .tab ks=>cond (isNone v) (some (.tslice h.length 0 0 ks.length,h++ [some (.tab ks [])])) <|
   match v with
   | .tslice l r n w=>some (v,h)
   | .slice l 0 n w=>if w=ks.length then match aL h l with
      | some (.cells vs)=>match nF ks n vs with
        | some rs=>some (.tslice l 0 n w,h.set l (some (.tab ks rs)))
        | none=>none
      | _=>none
     else none
   | _=>none
def B7(pl:Place)(K:gS)(tm:List AVal)(h:aC A):Option (List AVal×aC A):=
 match pl with
 | .slot i=>match tm[i]? with
   | some v=>match B8 K v h with
     | some (v',h')=>some (tm.set i v',h')
     | none=>none
   | none=>none
 | .cell l j=>match aL h l with
   | some (.cells vs)=>match vs[j]? with
     | some v=>match B8 K v h with
       | some (v',h')=>match aL h' l with
         | some (.cells vs')=>some (tm,h'.set l (some (.cells (vs'.set j v'))))
         | _=>none
       | none=>none
     | none=>none
   | _=>none
def gW:List (Place×gS)->List AVal->aC A->Option (List AVal×aC A)
 | [],tm,h=>some (tm,h)
 | (pl,K)::cs,tm,h=>match B7 pl K tm h with
   | some (tm',h')=>gW cs tm' h'
   | none=>gW cs tm h
section
variable {P:Program} {I:Itp A}
theorem Inv.weaken{V:Val}{h:bE A}{hR:PHeap}{w:World}(hi:Inv I V h hR w){l:Nat}{e e':aG A}(hl:h l=some e)(he: ∀g,e.interp I V l g->g.sub w->e'.interp I V l g):Inv I V (h.put l (some e')) hR w:=by
 obtain⟨hs,h1,h2,h3,h4,h5,h6⟩:=hi;refine⟨hs,?_,?_,h3,h4,h5,h6⟩
 ·intro m x hm
  by_cases aa:m=l
  ·subst aa;simp [bE.put]at hm;subst hm;exact he _ (h1 m e hl) (h5 m)
  ·simp [bE.put,aa]at hm;exact h1 m x hm
 ·intro m hm
  by_cases aa:m=l
  ·subst aa;simp [bE.put]at hm
  ·simp [bE.put,aa]at hm;exact h2 m hm
def sP(I:Itp A)(V:Val)(h h':aC A)(hR:PHeap)(w:World)(V':Val):Prop:=
 V.le V'/\bO V' h'.length/\h.length<=h'.length/\Inv I V' (toF h') hR w
theorem EY{V:Val}{v:AVal}{x:Value}(h:isNone v=true)(hx:Rep V v x): ∃base,x=.slice base 0 0:=by
 unfold isNone at h;split at h
 ·exact⟨none,hx⟩
 ·exact hx
 ·cases h
theorem bO.add{V:Val}{n:Nat}(hf:bO V n)(x:Nat×Nat):bO (V.add n x) (n+1):=by
 intro l hl;rw [aMa _ _ omz];exact hf l omz
theorem vZ{K:gS}{v v':AVal}{h h':aC A}{V:Val}{hR:PHeap}{w:World}{x:Value}(hc:B8 K v h=some (v',h'))(hi:Inv I V (toF h) hR w)(hf:bO V h.length)(hx:Rep V v x):
 ∃V',sP I V h h' hR w V'/\Rep V' v' x:=by
 have none: ∀(e:aG A),(∀V':Val,(∃b,V' h.length=some (b,0))->e.interp I V' h.length .emp)->sP I V h (h++ [some e]) hR w (V.add h.length (0,0)):=by
  intro e he;have hV:=hf h.length (Nat.le_refl _);refine⟨aLO hV,?_,by simp,?_⟩
  ·rw [List.length_append];exact hf.add _
  ·rw [fO];exact hi.emptyE hV (cC (Nat.le_refl _)) he
 have stay:sP I V h h hR w V:=⟨V.le_refl,hf,Nat.le_refl _,hi⟩
 have weak: ∀(l:Nat) (e e':aG A),aL h l=some e->(∀g,e.interp I V l g->e'.interp I V l g)->sP I V h (h.set l (some e')) hR w V:=by
  intro l e e' hl he;refine⟨V.le_refl,by rw [List.length_set];exact hf,by simp,?_⟩
  rw [eR _ (cH hl)];exact hi.weaken hl (fun g hg _=>he g hg)
 unfold B8 at hc;cases K with
 | ints c=>
   simp only at hc;cases hn:isNone v with
   | true=>
     rw [hn]at hc;simp only [cond_true,sI',pI']at hc;obtain⟨rfl,rfl⟩:=hc;obtain⟨base,rfl⟩:=EY hn hx;exact⟨_,none (.ints c []) (fun V' hb=>.inl ⟨rfl,rfl,hb⟩),base,0,rfl,Nat.le_refl _,.inr ⟨rfl,rfl⟩⟩
   | false=>
     rw [hn]at hc;simp only [cond_false]at hc;split at hc
     ·rename_i l n;split at hc
      ·split at hc
       ·simp only [sI',pI']at hc;obtain⟨rfl,rfl⟩:=hc;exact⟨V,stay,hx⟩
       ·cases hc
      ·rename_i vs hl;split at hc
       ·rename_i ns ac;simp only [sI',pI']at hc;obtain⟨rfl,rfl⟩:=hc;refine⟨V,weak l (.cells vs) (.ints c ns) hl ?_,hx⟩;rintro g ⟨b,k,e1,cs,T,e2,e3,rs,tail,e4,r⟩;exact .inr ⟨b,k,e1,cs,T,tail,e2,e3,by rw [e4,lV ac r]⟩
       ·cases hc
      ·cases hc
     ·cases hc
 | tab ks=>
   simp only at hc;cases hn:isNone v with
   | true=>
     rw [hn]at hc;simp only [cond_true,sI',pI']at hc;obtain⟨rfl,rfl⟩:=hc;obtain⟨base,rfl⟩:=EY hn hx;exact⟨_,none (.tab ks []) (fun V' hb=>.inl ⟨rfl,rfl,hb⟩),base,0,rfl,Nat.le_refl _,.inr ⟨rfl,rfl⟩⟩
   | false=>
     rw [hn]at hc;simp only [cond_false]at hc;split at hc
     ·simp only [sI',pI']at hc;obtain⟨rfl,rfl⟩:=hc;exact⟨V,stay,hx⟩
     ·rename_i l n w0;split at hc
      case isFalse=>cases hc
      rename_i hw;subst hw;split at hc
      ·rename_i vs hl;split at hc
       ·rename_i rs aa;simp only [sI',pI']at hc;obtain⟨rfl,rfl⟩:=hc;refine⟨V,weak l (.cells vs) (.tab ks rs) hl ?_,lU hx⟩;rintro g ⟨b,k,e1,cs,T,e2,e3,ae,tail,e4,r⟩;exact .inr ⟨b,k,e1,cs,T,tail,e2,e3,by rw [e4,oQ aa r]⟩
       ·cases hc
      ·cases hc
     ·cases hc
theorem vX{pl:Place}{K:gS}{tm tm':List AVal}{h h':aC A}{V:Val}{hR:PHeap}{w:World}{xs:List Value}(hc:B7 pl K tm h=some (tm',h'))(hi:Inv I V (toF h) hR w)(hf:bO V h.length)(hx:aH V tm xs):
 ∃V',sP I V h h' hR w V'/\aH V' tm' xs:=by
 unfold B7 at hc;cases pl with
 | slot i=>
   simp only at hc;split at hc
   ·rename_i v hv;split at hc
    ·rename_i v' h2 ah;simp only [sI',pI']at hc;obtain⟨rfl,rfl⟩:=hc;obtain⟨y,hy,ry⟩:=aH.get hx i v hv;obtain⟨V',k1,k2⟩:=vZ ah hi hf ry;refine⟨V',k1,?_⟩;have:=aH.set (aH.mono k1.1 _ _ hx) i v' y k2
     rwa [mM xs i y hy]at this
    ·cases hc
   ·cases hc
 | cell l j=>
   simp only at hc;split at hc
   ·rename_i vs hl;split at hc
    ·rename_i v hv;split at hc
     ·rename_i v' h2 ah;split at hc
      ·rename_i vs' ag;simp only [sI',pI']at hc;obtain⟨rfl,rfl⟩:=hc;obtain⟨b,k,cs,T,rs,tail,e1,e2,e3,e4,e5⟩:=hi.cells (l:=l) hl;obtain⟨y,hy,ry⟩:=aH.get e5 j v hv;obtain⟨V',⟨k1,k2,k3,k4⟩,k5⟩:=vZ ah hi hf ry;refine⟨V',⟨k1,by rw [List.length_set];exact k2,by rw [List.length_set];exact k3,?_⟩,aH.mono k1 _ _ hx⟩
       rw [eR _ (cH ag)];obtain⟨b',kk,ar,T',aq,al,q1,q2,q3,q4,q5⟩:=k4.cells (l:=l) ag;have hb:=k1 l _ e1;rw [hb]at q1;cases q1;rw [e2]at q2;simp only [sI',Obj.cells.injEq]at q2;obtain⟨rfl,_⟩:=q2;refine k4.weaken ag ?_;rintro g ⟨b1,ai,a1,ae,T1,a2,a3,af,aa,a4,a5⟩ aj
       have ap:j<rs.length:=by
        cases Nat.lt_or_ge j rs.length with
        | inl g=>exact g
        | inr g=>rw [List.getElem?_eq_none g]at hy;cases hy
       by_cases ao:j<vs'.length
       ·refine⟨b1,ai,a1,ae,T1,a2,a3,af,aa,a4,?_⟩
        have ak:ae=cs:=by
         rw [hb]at a1;cases a1
         have ac:w.heap[b]? =some (.cells ae T1):=by
          rw [a2]at aj;exact PHeap.one_sub.1 aj
         rw [e2]at ac;simp only [sI',Obj.cells.injEq]at ac;exact ac.1.symm
        subst ak
        have am:af[j]? =some y:=by
         have h1:ae.toList[j]? =some y:=by
          rw [e4,List.getElem?_append_left ap];exact hy
         rw [a4,List.getElem?_append_left (by rw [aH.length a5];exact ao)]at h1
         exact h1
        have:=aH.set a5 j v' y k5
        rwa [mM af j y am]at this
       ·have:vs'.set j v'=vs':=List.set_eq_of_length_le omz;rw [this];exact⟨b1,ai,a1,ae,T1,a2,a3,af,aa,a4,a5⟩
      ·cases hc
     ·cases hc
    ·cases hc
   ·cases hc
theorem fK: ∀ {cs:List (Place×gS)} {tm tm':List AVal} {h h':aC A} {V:Val} {hR:PHeap} {w:World} {xs:List Value},gW cs tm h=some (tm',h')->Inv I V (toF h) hR w->bO V h.length->aH V tm xs->
 ∃V',sP I V h h' hR w V'/\aH V' tm' xs
 | [],tm,tm',h,h',V,hR,w,xs,hc,hi,hf,hx=>by
   simp only [gW,sI',pI']at hc;obtain⟨rfl,rfl⟩:=hc;exact⟨V,⟨V.le_refl,hf,Nat.le_refl _,hi⟩,hx⟩
 | (pl,K)::cs,tm,tm',h,h',V,hR,w,xs,hc,hi,hf,hx=>by
   simp only [gW]at hc;split at hc
   ·rename_i tm1 h1 h2;obtain⟨V1,⟨a1,a2,a3,a4⟩,b1⟩:=vX h2 hi hf hx;obtain⟨V2,⟨c1,c2,c3,c4⟩,d1⟩:=fK hc a4 a2 b1;exact⟨V2,⟨Val.le_trans a1 c1,c2,Nat.le_trans a3 c3,c4⟩,d1⟩
   ·exact fK hc hi hf hx
end
end Go.Sh
namespace Go.Sh
open Go
variable [Con] {A:Type}
section
variable {P:Program} (E:Env A P)
abbrev FW(ro:Option Nat):Fence:= {Fence.wide with round:=ro}
def K4(ρ:Operand->AVal)(c:Call):Option Nat:=
 match c.callee with
 | .value f=>match ρ f with
   | .func (.yield l) [] []=>some l
   | _=>none
 | _=>none
def yS(inl:vF A)(ρ:Operand->AVal)(op:Op)(h:aC A)(K:AVal->aC A->Prop):Prop:=
 match op with
 | .call c=>match K4 ρ c with
   | some l=>E.yld l (c.args.toList.map ρ) h K
   | none=>x4 E inl ρ (.call c) h K
 | .defer _=>False
 | op=>x4 E inl ρ op h K
def jT(inl:vF A)(base:List AVal)(n:Nat):List Oper->List (Option Tmp)->Nat->List (Nat×AVal)->aC A->(List AVal->aC A->Prop)->Prop
 | [],_,_,δ,h,K=>DJ (rM δ 0 base) fun tm=>K tm h
 | o::rest,seen,i,δ,h,K=>
   cK (dok n o.dst) <|
   match o.guard with
   | none=>yS E inl (gH δ base) o.op h fun v h'=>jT inl base n rest (o.dst::seen) (Nat.succ i) (j9 δ o.dst v) h' K
   | some (j,want)=>
     cK (Nat.blt j i) <|
     match sH seen i j with
     | none=>False
     | some d=>
       match GZ δ base d with
       | .bool b=>cK (Nat.blt d n) <|
         cond b
          (if want then yS E inl (gH ((d,.bool true)::δ) base) o.op h fun v h'=>jT inl base n rest (o.dst::seen) (Nat.succ i) (j9 ((d,.bool true)::δ) o.dst v) h' K
            else jT inl base n rest (o.dst::seen) (Nat.succ i) (j9 ((d,.bool true)::δ) o.dst (.raw undef)) h K)
          (if want then jT inl base n rest (o.dst::seen) (Nat.succ i) (j9 ((d,.bool false)::δ) o.dst (.raw undef)) h K
            else yS E inl (gH ((d,.bool false)::δ) base) o.op h fun v h'=>jT inl base n rest (o.dst::seen) (Nat.succ i) (j9 ((d,.bool false)::δ) o.dst v) h' K)
       | v=>if iX v then jT inl base n rest (o.dst::seen) (Nat.succ i) (j9 δ o.dst (.raw undef)) h K else False
variable {E}
theorem xT{ro:Option Nat}{o:Oper}(hdf: ∀c,o.op≠ .defer c){a:Act}{w:World}{next:Act->World->Prop}{Q:Exit->Act->World->Prop}(h:o.wp P a w next Q):o.wpIn (FW ro) 0 P a w next Q:=by
 refine⟨fun _ _=>trivial,?_⟩;rw [Oper.semAt_eq _ _ _ hdf];unfold Oper.wp at h
 revert h
 generalize (execOp a.eval o).run P w=r;intro h;unfold Oper.upon at h;split at h
 ·exact h
 ·exact h
 ·exact h
 ·exact⟨fun e=>(by cases e),callsIn_wide.2 h⟩
 ·exact⟨fun e=>(by cases e),fun c cs _=>let ⟨v,w',r,s⟩:=h c cs;⟨v,w',r,stepsIn_wide.2 s⟩⟩
 ·exact h
 ·exact h.elim
theorem CY{ro:Option Nat}{inl:vF A}(hinl:lK E inl){a:Act}{o:Oper}{tm:List AVal}{h:aC A}{K:AVal->aC A->Prop}(he:yS E inl (dK tm) o.op h K){V:Val}{hR:PHeap}{w:World}
 (hi:Inv E.I V (toF h) hR w) (hf:bO V h.length) (ht:aH V tm a.tmps.toList) {next:Act->World->Prop} {Q:Exit->Act->World->Prop}
 (hn: ∀v v' V' h' w',K v h'->Rep V' v v'->V.le V'->bO V' h'.length->h.length<=h'.length->Inv E.I V' (toF h') hR w'->bP w w'->next (a.put o.dst v') w'):
 o.wpIn (FW ro) 0 P a w next Q:=by
 unfold yS at he;split at he
 ·rename_i c aa;split at he
  ·rename_i l hy;unfold K4 at hy;split at hy
   ·rename_i f af;split at hy
    ·rename_i l' ag;simp only [sI']at hy;subst hy;have rf:=gM ht f;rw [ag]at rf;obtain⟨fs,cs,e1,r1,r2⟩:=rf;have r1:fs.toList=[]:=r1;have r2:cs.toList=[]:=r2;have r1:fs= #[]:=by apply Array.ext';simpa using r1
     have r2:cs= #[]:=by apply Array.ext';simpa using r2
     subst r1;subst r2
     have ac:aH V (c.args.toList.map (dK tm)) (c.args.map a.eval).toList :=by
      rw [Array.toList_map];exact jN (gM ht) c.args.toList
     obtain⟨fn,tmps,assign,body,y1,y2⟩:=E.yldOk l' _ h K he V hR w _ hi hf ac;refine⟨fun _ _=>trivial,?_⟩;rw [Oper.semAt_eq _ _ _ (fun c' e=>by rw [aa]at e;cases e)]
     have ae:(execOp a.eval o).run P w=.ok (.round l' fn tmps assign body) w:=by
      simp only [execOp,aa,resolve,af,e1,Deferred.ofValue,Sem.run_bind,Sem.run_pure,Result.andThen_ok,invoke]
      simpa using y1
     rw [ae];refine⟨fun e=>(by cases e),y2.mono ?_⟩
     rintro e w' ⟨v,v',V',h',h1,rfl,h3,h4,h5,h6,h7,h8⟩;exact hn v v' V' h' w' h1 h3 h4 h5 h6 h7 h8
    ·cases hy
   ·cases hy
  ·exact xT (fun c' e=>by rw [aa]at e;cases e) (qJ hinl (by rw [aa];exact he) hi hf ht hn)
 ·exact he.elim
 ·rename_i h1 h2;exact xT h2 (qJ hinl he hi hf ht hn)
theorem rP{ds:List Deferred}{ro:Option Nat}{inl:vF A}(hinl:lK E inl){ops:Array Oper}{base:List AVal}{n:Nat}(hbn:base.length=n){Q:Exit->Act->World->Prop} : ∀(rest:List Oper) (seen:List (Option Tmp)) (i:Nat) (δ:List (Nat×AVal)) (h:aC A) (K:List AVal->aC A->Prop) (a:Act) (w:World) (V:Val) (hR:PHeap),
 uM ops rest seen i->jT E inl base n rest seen i δ h K->wC n δ->Inv E.I V (toF h) hR w->bO V h.length->aH V (bU δ base) a.tmps.toList->a.defers=ds->
 (∀a' w',BN E ds V h.length hR w K a' w'->Q .normal a' w')->wpListIn (FW ro) 0 P ops Q rest a w:=by
 intro rest
 induction rest with
 | nil=>
   intro seen i δ h K a w V hR ai he ae hi hf ht hd hQ;unfold jT at he;rw [rT,wD (by rw [hbn];exact ae)]at he
   exact wpListIn_nil (hQ a w ⟨bU δ base,V,h,he,ht,V.le_refl,hf,Nat.le_refl _,hi,aLS w,hd⟩)
 | cons o rest ih=>
   intro seen i δ h K a w V hR ai he ae hi hf ht hd hQ;have he:=bL.1 he;obtain⟨am,he⟩:=he
   have run: ∀δ':List (Nat×AVal),wC n δ'->aH V (bU δ' base) a.tmps.toList->(yS E inl (gH δ' base) o.op h fun v h'=>jT E inl base n rest (o.dst::seen) (Nat.succ i) (j9 δ' o.dst v) h' K)->Region.wanted o (yielded ops a.tmps)=true->wpListIn (FW ro) 0 P ops Q (o::rest) a w:=by
    intro δ' ac ah aj hw;refine wpListIn_step fun K' al=>?_;rw [if_pos hw];rw [sR (by rw [hbn];exact ac)]at aj
    refine CY hinl aj hi hf ah ?_;intro v v' V' h' w' k1 k2 k3 k4 k5 k6 k7;refine al _ _ (ih _ _ _ _ _ _ _ V' hR ai.next k1 (mY ac am) k6 k4 (by rw [<-mX (n:=n)];exact mD (aH.mono k3 _ _ ah) k2) (by rw [iQ];exact hd) ?_)
    intro a' au hT;exact hQ a' au (hT.chain k3 k5 k7)
   have skip: ∀δ':List (Nat×AVal),wC n δ'->aH V (bU δ' base) a.tmps.toList->jT E inl base n rest (o.dst::seen) (Nat.succ i) (j9 δ' o.dst (.raw undef)) h K->Region.wanted o (yielded ops a.tmps)=false->wpListIn (FW ro) 0 P ops Q (o::rest) a w:=by
    intro δ' ac ah aj hw;refine wpListIn_step fun K' al=>?_;rw [if_neg (by rw [hw];simp)]
    exact⟨fun _ _=>trivial,al _ _ (ih _ _ _ _ _ _ _ V hR ai.next aj (mY ac am) hi hf (by rw [<-mX (n:=n)];exact mD ah rfl) (by rw [iQ];exact hd) hQ)⟩
   cases hg:o.guard with
   | none=>
     rw [hg]at he;exact run δ ae ht he (by simp [Region.wanted,hg])
   | some g=>
     obtain⟨j,want⟩:=g;rw [hg]at he;simp only at he;obtain⟨ax,he⟩:=bL.1 he;have ap:=ai.dst ax;cases hj:(ops[j]?).bind (·.dst)with
     | none=>rw [<-ap,hj]at he;exact he.elim
     | some d=>
       rw [<-ap,hj]at he;simp only at he;have ar:=rL δ base d (by rw [hbn];exact ae)
       split at he
       ·rename_i b hb;obtain⟨ay,he⟩:=bL.1 he;rw [ar]at hb;have aq:=tB hb;obtain⟨y,hy,ry⟩:=aH.get ht d _ aq;rw [Array.getElem?_toList]at hy;have av:y=.bool b:=ry;subst av;have ak:yielded ops a.tmps j=some b:=kH hj hy;have hs:bU ((d,.bool b)::δ) base=bU δ base:=mM _ d _ aq;have aa: ∀v,wC n ((d,v)::δ):=fun v=>⟨Nat.le_of_ble_eq_true ay,ae⟩;have ag:Region.wanted o (yielded ops a.tmps)=(b == want):=by simp [Region.wanted,hg,ak]
        cases b with
        | true=>
          simp only [cond_true]at he;cases want with
          | true=>rw [if_pos rfl]at he;exact run _ (aa _) (by rw [hs];exact ht) he (by rw [ag];rfl)
          | false=>rw [if_neg (by simp)]at he;exact skip _ (aa _) (by rw [hs];exact ht) he (by rw [ag];rfl)
        | false=>
          simp only [cond_false]at he;cases want with
          | true=>rw [if_pos rfl]at he;exact skip _ (aa _) (by rw [hs];exact ht) he (by rw [ag];rfl)
          | false=>rw [if_neg (by simp)]at he;exact run _ (aa _) (by rw [hs];exact ht) he (by rw [ag];rfl)
       ·rename_i az;split at he
        ·rename_i af;rw [ar]at af
         have ak:yielded ops a.tmps j=none:=by
          refine mB hj ?_;cases e:a.tmps[d]? with
          | none=>exact .inl rfl
          | some x=>
            right
            have ao:d<(bU δ base).length :=by
             have h1:=aH.length ht;rw [Array.length_toList]at h1;cases Nat.lt_or_ge d a.tmps.size with
             | inl g=>exact Nat.lt_of_lt_of_eq g h1
             | inr g=>rw [Array.getElem?_eq_none g]at e;cases e
            obtain⟨y,hy,ry⟩:=aH.get ht d _ (gE' ao);rw [Array.getElem?_toList,e]at hy;cases hy;have e2:(bU δ base).getD d (.raw undef)=(bU δ base)[d]:=by rw [gD',gE' ao];rfl
            rw [e2]at af;unfold iX at af;split at af
            ·rename_i vs e3;rw [e3]at ry;have:x=.tuple vs:=ry;exact⟨vs,by rw [this]⟩
            ·cases af
         exact skip δ ae ht he (by simp [Region.wanted,hg,ak])
        ·exact he.elim
end
end Go.Sh
namespace Go.Sh
open Go
variable [Con] {A:Type}
inductive Ex where
 | normal
 | exit (id:Nat)
 | ret
abbrev pP(A:Type):=Ex->List AVal->aC A->Prop
def Ex.out:Ex->Exit
 | .normal =>.normal
 | .exit id=>.exit id
 | .ret =>.ret
structure Hint (A:Type) where
 X:Type
 st:X->List AVal×aC A
 ok:X->Prop
 mu:X->Nat
 keep:List Nat
 casts:List (Place×gS):=[]
 sel:List AVal->aC A->Bool:=fun _ _=>true
inductive dE (H:Hint A) (ok:H.X->Prop) (tm:List AVal) (h:aC A):Prop where
 | mk (x:H.X) (h1:H.st x=(tm,h)) (h2:ok x)
theorem aR{H:Hint A}{ok:H.X->Prop}{tm:List AVal}{h:aC A}(x:H.X)(h1:H.st x=(tm,h))(h2:ok x):dE H ok tm h:=⟨x,h1,h2⟩
def aF(I:Itp A)(n:Nat)(v:AVal)(g:aC A)(v2:AVal)(g2:aC A):Prop:=
 ∀V hR w x,Inv I V (toF g) hR w->bO V g.length->n<=g.length->Rep V v x->
  ∃V',(∀l y,l<n->V l=some y->V' l=some y)/\bO V' g2.length/\n<=g2.length/\Rep V' v2 x/\Inv I V' (toF g2) hR w
structure okT (I:Itp A) (n:Nat) (H:Hint A) (ok:H.X->Prop) (tm:List AVal) (h:aC A):Prop where
 ex: ∃tm2 h2,aF I n (.tup tm) h (.tup tm2) h2/\dE H ok tm2 h2
def mQ(H:Hint A)(n:Nat)(tm:List AVal)(h:aC A)(ok:H.X->Prop):Prop:=
 match gW H.casts tm h with
 | some (tm,h)=>
   cK (dW (dO n h (dD H.keep 0 tm)) h.length&&iJ (dO n h (dD H.keep 0 tm)) 0 n) <|
    dE H ok (aBA (dO n h (dD H.keep 0 tm)) H.keep 0 tm) (gQ (dO n h (dD H.keep 0 tm)) h)
 | none=>False
def PS(H:Hint A)(n:Nat)(body:List AVal->aC A->pP A->Prop)(tm:List AVal)(h:aC A)(K:pP A):Prop:=
 mQ H n tm h H.ok/\ ∀x,H.ok x->body (H.st x).1 (H.st x).2 fun e tm' h'=>match e with
  | .normal =>mQ H n tm' h' fun x'=>H.ok x'/\H.mu x'<H.mu x
  | .exit id=>K (.exit id) tm' h'
  | .ret =>K .ret tm' h'
def sO(I:Itp A)(H:Hint A)(n:Nat)(tm:List AVal)(h:aC A)(ok:H.X->Prop):Prop:=
 match gW H.casts tm h with
 | some (tm,h)=>
   cK (dW (dO n h (dD H.keep 0 tm)) h.length&&iJ (dO n h (dD H.keep 0 tm)) 0 n) <|
    okT I n H ok (aBA (dO n h (dD H.keep 0 tm)) H.keep 0 tm) (gQ (dO n h (dD H.keep 0 tm)) h)
 | none=>False
def PT(I:Itp A)(H:Hint A)(n:Nat)(body:List AVal->aC A->pP A->Prop)(tm:List AVal)(h:aC A)(K:pP A):Prop:=
 sO I H n tm h H.ok/\ ∀x,H.ok x->body (H.st x).1 (H.st x).2 fun e tm' h'=>match e with
  | .normal =>sO I H n tm' h' fun x'=>H.ok x'/\H.mu x'<H.mu x
  | .exit id=>K (.exit id) tm' h'
  | .ret =>K .ret tm' h'
def rE:Option Nat->Nat->Prop
 | none,_=>True
 | some m,k=>k<m
def qZ:List (Hint A)->Nat->List AVal->aC A->Option Nat->Prop
 | [],_,_,_,_=>False
 | H::r,n,tm,h,b=>cond (H.sel tm h) (mQ H n tm h (fun x=>H.ok x/\rE b (H.mu x))) (qZ r n tm h b)
def aC0:List (Hint A)->(Hint A->Prop)->Prop
 | [],_=>True
 | H::r,p=>p H/\aC0 r p
theorem BK{p:Hint A->Prop} : ∀ {l:List (Hint A)},aC0 l p-> ∀H,H∈l->p H
 | [],_,_,hm=>by cases hm
 | G::r,h,H,hm=>by
   rcases List.mem_cons.1 hm with rfl | hm
   ·exact h.1
   ·exact BK h.2 H hm
def I5(Hs:List (Hint A))(n:Nat)(body:List AVal->aC A->pP A->Prop)(tm:List AVal)(h:aC A)(K:pP A):Prop:=
 qZ Hs n tm h none/\aC0 Hs fun H=> ∀x,H.ok x->body (H.st x).1 (H.st x).2 fun e tm' h'=>match e with
  | .normal =>qZ Hs n tm' h' (some (H.mu x))
  | .exit id=>K (.exit id) tm' h'
  | .ret =>K .ret tm' h'
def vH(body:List AVal->aC A->pP A->Prop):Nat->List AVal->aC A->pP A->Prop
 | 0,_,_,_=>False
 | m+1,tm,h,K=>body tm h fun e tm' h'=>match e with
   | .normal =>vH body m tm' h' K
   | .exit id=>K (.exit id) tm' h'
   | .ret =>K .ret tm' h'
inductive mS (A:Type) where
 | rounds (m:Nat)
 | states (H:Hint A)
 | statesAt (k:Nat) (F:Int->Hint A)
 | cases (Hs:List (Hint A))
 | told (ks:List Nat) (F:List Int->Hint A)
def oR(tm:List AVal):List Nat->(List Int->Prop)->Prop
 | [],K=>K []
 | k::ks,K=>match tm.getD k .O with
   | .int _ i=>oR tm ks fun r=>K (i::r)
   | _=>False
theorem oS{tm:List AVal} : ∀ {ks:List Nat} {K:List Int->Prop},oR tm ks K-> ∃r,K r
 | [],_,h=>⟨_,h⟩
 | k::ks,K,h=>by
   unfold oR at h;split at h
   ·obtain⟨r,hr⟩:=oS h;exact⟨_,hr⟩
   ·exact h.elim
def gX:Code->Option Nat
 | .region id _ _=>some id
 | .seq x y=>match gX x with
   | some k=>some k
   | none=>gX y
 | .cond _ x y=>match gX x with
   | some k=>some k
   | none=>gX y
 | .block _ c=>gX c
 | .loop c=>gX c
 | .scope c=>gX c
 | .rangeFunc _ _ a c=>match gX a with
   | some k=>some k
   | none=>gX c
 | _=>none
def aFE(L:Nat->Option (mS A))(y:Code):Option (List Nat×(List Int->Hint A)):=match gX y with
 | some k=>match L (k+100000)with
   | some (.told ks F)=>some (ks,F)
   | _=>none
 | none=>none
section
variable {P:Program} (E:Env A P)
def CZ(inl:vF A)(nt:Nat)(ops:Array Oper)(draw:Bool)(tm:List AVal)(h:aC A)(K:List AVal->aC A->Prop):Prop:=
 cK (Nat.beq tm.length nt) (cond draw (m8 E (fun rest seen i δ h pm=>cK (aBO pm i rest) (kW E inl tm nt rest seen i δ h K)) ops tm nt ops.toList [] 0 [] h [] [] K) (jT E inl tm nt ops.toList [] 0 [] h K))
def dM(inl:vF A)(L:Nat->Option (mS A))(nt n0:Nat):Code->List AVal->aC A->pP A->Prop
 | .skip,tm,h,K=>K .normal tm h
 | .region _ ops draw,tm,h,K=>CZ E inl nt ops draw tm h (K .normal)
 | .seq x y,tm,h,K=>match aFE L y with
   | some p=>oR tm p.1 fun is=>(dM inl L nt n0 x tm h fun e tm' h'=>match e with
      | .normal =>sO E.I (p.2 is) n0 tm' h' (p.2 is).ok
      | .exit id=>K (.exit id) tm' h'
      | .ret =>K .ret tm' h')/\ ∀q,(p.2 is).ok q->dM inl L nt n0 y ((p.2 is).st q).1 ((p.2 is).st q).2 K
   | none=>dM inl L nt n0 x tm h fun e tm' h'=>match e with
     | .normal =>dM inl L nt n0 y tm' h' K
     | .exit id=>K (.exit id) tm' h'
     | .ret =>K .ret tm' h'
 | .cond c x y,tm,h,K=>match dK tm c with
    | .bool b=>cond b (dM inl L nt n0 x tm h K) (dM inl L nt n0 y tm h K)
    | _=>False
 | .block id c,tm,h,K=>dM inl L nt n0 c tm h fun e tm' h'=>match e with
    | .normal =>K .normal tm' h'
    | .exit i=>if i=id then K .normal tm' h' else K (.exit i) tm' h'
    | .ret =>K .ret tm' h'
 | .loop c,tm,h,K=>match gX c with
   | some k=>match L k with
     | some (.rounds m)=>vH (dM inl L nt n0 c) m tm h K
     | some (.states H)=>PS H n0 (dM inl L nt n0 c) tm h K
     | some (.statesAt k F)=>(match tm.getD k .O with
       | .int _ i=>PS (F i) n0 (dM inl L nt n0 c) tm h K
       | _=>False)
     | some (.cases Hs)=>I5 Hs n0 (dM inl L nt n0 c) tm h K
     | some (.told ks F)=>oR tm ks fun is=>PT E.I (F is) n0 (dM inl L nt n0 c) tm h K
     | none=>False
   | none=>False
 | .exit id,tm,h,K=>K (.exit id) tm h
 | .label _,tm,h,K=>K .normal tm h
 | .ret,tm,h,K=>K .ret tm h
 | _,_,_,_=>False
def uR(P:Program)(tm:List AVal)(h:aC A):ResultVar->Option (AVal×Option Prop)
 | .tmp t=>some (tm.getD t (.raw undef),none)
 | .cell a t=>match tm.getD a (.raw undef)with
   | .ptr l off=>(yI P t l off h).map fun r=>(r.v,r.need)
   | _=>none
def aCC:Option Prop->Option Prop->Option Prop
 | none,q=>q
 | some p,none=>some p
 | some p,some q=>some (p/\q)
theorem OD{p q:Option Prop} :onp (aCC p q)↔onp p/\onp q:=by
 cases p with
 | none=>exact⟨fun h=>⟨trivial,h⟩,fun h=>h.2⟩
 | some p=>cases q with
   | none=>exact⟨fun h=>⟨h,trivial⟩,fun h=>h.1⟩
   | some q=>exact Iff.rfl
def kT(P:Program)(tm:List AVal)(h:aC A):List ResultVar->Option (List AVal×Option Prop)
 | []=>some ([],none)
 | r::rs=>match uR P tm h r,kT P tm h rs with
   | some (v,p),some (vs,q)=>some (v::vs,aCC p q)
   | _,_=>none
def amk:List AVal->AVal
 | [v]=>v
 | vs=>.tup vs
def SI(inl:vF A)(L:Nat->Option (mS A))(fn:Func)(c:Code)(args:List AVal)(h:aC A)(K:AVal->aC A->Prop):Prop:=
 dM E inl L fn.ntmps h.length c (args++List.replicate (fn.ntmps - args.length) (.raw undef)) h fun e tm h'=>match e with
  | .exit _=>False
  | _=>match kT P tm h' fn.results.toList with
    | some (vs,p)=>AR p (K (amk vs) h')
    | none=>False
def fT(L:FuncId->Nat->Option (mS A)):Nat->vF A
 | 0=>fun _ _ _ _=>False
 | n+1=>fun g args h K=>match P.funcs[g]? with
   | some fn=>match fn.body with
     | some c=>SI E (fT L n) (L g) fn c args h K
     | none=>False
   | none=>False
variable {E}
theorem mI{a b:List Oper}{j:Nat}(hj:j<a.length):(masks [] (a++b)).getD j 0=(masks [] a).getD j 0:=by
 have key: ∀(b acc:List Oper) (h:j<acc.length),(masks [] (acc++b)).getD j 0=(masks [] acc).getD j 0:=by
  intro b
  induction b with
  | nil=>intro acc h;rw [List.append_nil]
  | cons x b ih=>
    intro acc h;have e:acc++x::b=(acc++ [x])++b:=by simp
    rw [e,ih (acc++ [x]) (by simp;omega),lC,gD',List.getElem?_append_left (by rw [fR];simpa using h),<-gD']
 exact key b a hj
theorem zK: ∀(rest done:List Oper) (pm:List Nat),pm=(masks [] done).reverse ->mZ done->aBO pm done.length rest=true->
 mZ (done++rest)/\ ∀k,done.length<=k->k<(done++rest).length -> ∀i,i<k->((masks [] (done++rest)).getD k 0).testBit i=true
 | [],done,pm,hpm,he,_=>⟨by rw [List.append_nil];exact he,fun k h1 h2=>by simp at h2;omega⟩
 | o::rest,done,pm,hpm,he,ht=>by
   unfold aBO at ht;simp only [Bool.and_eq_true]at ht;obtain⟨⟨t1,t2⟩,t3⟩:=ht;have hpl:pm.length=done.length:=by rw [hpm,List.length_reverse,fR];simp
   have hm:maskR pm done.length o=mask (masks [] done) o:=by
    have:=D9 (pm:=pm) (o:=o) (by rw [hpl];exact t1)
    rw [hpl]at this;rw [this,hpm,List.reverse_reverse]
   have ae:mZ (done++ [o]):=by
    intro i o' hi
    by_cases ac:i<done.length
    ·rw [List.getElem?_append_left ac]at hi;exact he i o' hi
    ·rw [List.getElem?_append_right omz]at hi
     have:i=done.length:=by
      cases hq:i - done.length with
      | zero=>omega
      | succ n=>rw [hq]at hi;simp at hi
     subst this;simp at hi;subst hi;exact t1
   have aa:(maskR pm done.length o::pm)=(masks [] (done++ [o])).reverse :=by
    rw [lC,List.reverse_append,hm,hpm];rfl
   obtain⟨r1,r2⟩:=zK rest (done++ [o]) _ aa ae (by simpa using t3)
   have e:done++o::rest=(done++ [o])++rest:=by simp
   rw [e];refine⟨r1,fun k h1 h2 i hi=>?_⟩
   by_cases hk:k=done.length
   ·subst hk;rw [mI (by simp),lC,gD',List.getElem?_append_right (by rw [fR];simp)]
    simp only [fR,List.length_nil,Nat.zero_add,Nat.sub_self,List.getElem?_cons_zero,Option.getD_some];rw [<-hm,Nat.eq_of_beq_eq_true t2];show Nat.testBit (2^done.length - 1) i=true;rw [Nat.testBit_two_pow_sub_one];simpa using hi
   ·exact r2 k (by simp;omega) h2 i hi
def FY(I:Itp A)(V0:Val)(n0:Nat)(hR:PHeap)(H:Hint A)(At:List AVal->aC A->(H.X->Prop)->Prop):Prop:=
 ∀(tm1:List AVal) (h1:aC A) (V1:Val) (a1:Act) (w1:World) (ok:H.X->Prop),At tm1 h1 ok->Inv I V1 (toF h1) hR w1->bO V1 h1.length->aH V1 tm1 a1.tmps.toList->V0.le V1->
  ∃x V2,ok x/\aH V2 (H.st x).1 a1.tmps.toList/\V0.le V2/\bO V2 (H.st x).2.length /\n0<=(H.st x).2.length /\Inv I V2 (toF (H.st x).2) hR w1
theorem yL{I:Itp A}{V0:Val}{n0:Nat}{hR:PHeap}(hf0: ∀l,n0<=l->V0 l=none)(H:Hint A):FY I V0 n0 hR H (mQ H n0):=by
 intro aq h1 V1 a1 w1 ok aa ak al ai ae;unfold mQ at aa;split at aa
 case h_2=>exact aa.elim
 rename_i ah h2 ac;obtain⟨Vc,⟨am,ao,ap,ag⟩,af⟩:=fK ac ak al ai;have ae:=Val.le_trans ae am;obtain⟨g0,⟨x,g3,g4⟩⟩:=bL.1 aa;obtain⟨g1,g2⟩:=Bool.and_eq_true_iff.1 g0;obtain⟨m1,m2,m3,m4⟩:=vG.elim g1 g2 ag ao;refine⟨x,fun i=>Vc (lab (dO n0 h2 (dD H.keep 0 ah)) h2.length i),g4,by rw [g3];exact sI 0 _ _ af,?_,by rw [g3];exact m2,by rw [g3];exact m3,by rw [g3];exact m4⟩
 intro l y hl
 have aj:l<n0:=by
  cases Nat.lt_or_ge l n0 with
  | inl g=>exact g
  | inr g=>rw [hf0 l g]at hl;cases hl
 show Vc (lab _ _ l)=some y;rw [m1 l aj];exact ae l y hl
theorem yM{I:Itp A}{V0:Val}{n0:Nat}{hR:PHeap}(hf0: ∀l,n0<=l->V0 l=none)(H:Hint A):FY I V0 n0 hR H (sO I H n0):=by
 intro ar h1 V1 a1 w1 ok aa aj ak ai ae;unfold sO at aa;split at aa
 case h_2=>exact aa.elim
 rename_i aq h2 ac;obtain⟨Vc,⟨al,am,ao,ah⟩,ag⟩:=fK ac aj ak ai;have ae:=Val.le_trans ae al;obtain⟨g0,⟨ap,h3,ht,⟨x,g3,g4⟩⟩⟩:=bL.1 aa;obtain⟨g1,g2⟩:=Bool.and_eq_true_iff.1 g0;obtain⟨m1,m2,m3,m4⟩:=vG.elim g1 g2 ah am;obtain⟨V2,b1,b2,b3,b4,b5⟩:=ht _ hR w1 (.tuple a1.tmps) m4 m2 m3 ⟨a1.tmps,rfl,sI 0 _ _ ag⟩;obtain⟨ys,hy,b4⟩:=b4;cases hy;refine⟨x,V2,g4,by rw [g3];exact b4,?_,by rw [g3];exact b2,by rw [g3];exact b3,by rw [g3];exact b5⟩
 intro l y hl
 have af:l<n0:=by
  cases Nat.lt_or_ge l n0 with
  | inl g=>exact g
  | inr g=>rw [hf0 l g]at hl;cases hl
 refine b1 l y af ?_;show Vc (lab _ _ l)=some y;rw [m1 l af];exact ae l y hl
theorem AF{ds:List Deferred}{inl:vF A}(hinl:lK E inl)(hm:P.follows .mixedOrders =true){L:Nat->Option (mS A)}{nt n0:Nat}{V0:Val}{hR:PHeap}{w0:World}(hf0:bO V0 n0): ∀(c:Code) (tm:List AVal) (h:aC A) (K:pP A) (a:Act) (w:World) (V:Val) (Q:Exit->Act->World->Prop),
 dM E inl L nt n0 c tm h K->Inv E.I V (toF h) hR w->bO V h.length->aH V tm a.tmps.toList->a.defers=ds->V0.le V->n0<=h.length->bP w0 w->
 (∀e a' w',BN E ds V0 n0 hR w0 (K e) a' w'->Q e.out a' w')->c.wp P Q a w:=by
 intro c
 induction c with
 | skip=>
   intro tm h K a w V Q he hi hf ht hd hV hn hg hQ;exact wp_skip (hQ .normal a w ⟨tm,V,h,he,ht,hV,hf,hn,hi,hg,hd⟩)
 | region id ops draw=>
   intro tm h K a w V Q he hi hf ht hd hV hn hg hQ;simp only [dM,CZ]at he;obtain⟨ay,he⟩:=bL.1 he;cases draw with
   | false=>
     simp only [cond_false]at he;exact wpIn_wide.1 (wpIn_region_list (rP (ro:=none) hinl (Nat.eq_of_beq_eq_true ay) ops.toList [] 0 [] h (K .normal) a w V hR ⟨[],rfl,rfl,rfl⟩ he trivial hi hf ht hd (fun a' w' hT=>hQ .normal a' w' (hT.chain hV hn hg))))
   | true=>
     simp only [cond_true]at he;obtain⟨its,rest2,au,hN,bh,h1,h2,h3,h4⟩:=AG (Nat.eq_of_beq_eq_true ay) ops.toList [] 0 [] h [] [] ⟨[],rfl,rfl,rfl⟩ trivial rfl (nQ.nil ops) he;have h1:gU E ops tm h its au hN:=h1;obtain⟨b1,b2,b3,b4⟩:=h3;simp only [List.append_nil,List.reverse_reverse]at b1 b2 b3 b4;have az:its.length+rest2.length=ops.size:=by have:=congrArg List.length h2;simpa using this
     have bi:its.map (·.o)=ops.toList.take its.length:=by
      rw [<-h2,List.take_append_of_le_length (by simp),List.take_of_length_le (by simp)]
     have br:ops.toList.drop its.length=rest2:=by
      rw [<-h2,List.drop_append_of_le_length (by simp),List.drop_of_length_le (by simp)];rfl
     have aj:mZ ops.toList/\(∀k,its.length<=k->k<ops.size-> ∀i,i<k->((masks [] ops.toList).getD k 0).testBit i=true):=by
      rcases h4 with⟨e,_⟩ | ⟨ap,δ',_,_,_,hS⟩
      ·subst e;simp only [List.append_nil]at h2;refine⟨by rw [<-h2];exact b2,fun k hk bb=>?_⟩
       simp at az;omega
      ·obtain⟨ht,_⟩:=bL.1 hS;rw [Nat.zero_add]at ht;have:=zK rest2 (its.map (·.o)) bh b1 b2 (by rw [List.length_map];exact ht)
       rw [h2]at this;refine⟨this.1,fun k hk bb=>this.2 k (by simpa using hk) (by simpa using bb)⟩
     have bv:F0 ops (masks [] ops.toList) its:=by
      intro i k x y hi hk bp;have:=b4 i k x y hi hk bp;rw [b1,List.reverse_reverse]at this;rw [<-h2,mI (by simp;exact(List.getElem?_eq_some_iff.1 hk).1)]
      exact this
     have d:i8 E ops tm h its au hN:=⟨h1,bi,aj.1,b3,bv⟩;refine wp_region_any hm ?_
     have a8:(fun i=>(Array.replicate ops.size false).getD i false)=fun _=>false:=by
      funext i;rw [Array.getD_eq_getD_getElem?,Array.getElem?_replicate];split<;>rfl
     have ax: ∀(a':Act) (w':World),yC E ds tm h its V hR w (fun i=>decide (i<its.length)) a' w'-> ∃V',V.le V'/\bO V' hN.length/\aH V' au a'.tmps.toList/\Inv E.I V' (toF hN) hR w'/\bP w w'/\a'.defers=ds:=by
      rintro a' w' ⟨V',g1,g2,g3,g4,g5,g6⟩;obtain⟨e1,e2⟩:=h1.end b3 0 (fun i=>decide (i<its.length)) (by intro k hk;simpa using hk)
      rw [e1]at g3;rw [e2]at g4;refine⟨V',g1,?_,g3,g4,g5,g6⟩;intro l hl;cases e:V' l with
      | none=>rfl
      | some x=>
        rcases g2 l (by rw [e];simp)with h | ⟨i,it,hi,_,q1,q2⟩
        ·have:=h1.le;exact(h (hf l omz)).elim
        ·obtain⟨bm,bk,_,_,bz⟩:=h1.at b3 0 i it hi;have:it.n=bm.length:=bk.1;omega
     refine d.any (ds:=ds) hf (hR:=hR) (w0:=w) omz aj.2 ?_ ops.size _ a _ (by simp) ?_ ?_ ?_ ?_
     ·intro fuel listed a' w' bl hl b0 hs;obtain⟨V',g1,g2,g3,g4,g5,g6⟩:=ax a' w' hs;refine BZ aj.1 aj.2 rest2 its.length fuel listed a' w' br (Nat.le_refl _) bl hl omz ?_;rcases h4 with⟨e,hK⟩ | ⟨ap,δ',hδ,bn,bj,hS⟩
      ·subst e;exact hQ .normal a' w' ⟨au,V',hN,hK,g3,Val.le_trans hV g1,g2,Nat.le_trans hn h1.le,g4,hg.trans g5,g6⟩
      ·obtain⟨_,bq⟩:=bL.1 hS;refine AH hinl (Nat.eq_of_beq_eq_true ay) rest2 ap _ δ' hN (K .normal) a' w' V' hR bj bq bn g4 g2 (by rw [<-hδ];exact g3) g6 ?_
       intro bw bg hT;exact hQ .normal bw bg (hT.chain (Val.le_trans hV g1) (Nat.le_trans hn h1.le) (hg.trans g5))
     ·refine Nat.le_trans (Nat.add_le_add_right (List.length_filter_le _ _) _) (by simp;omega)
     ·rw [a8];intro j o _ hj;cases hj
     ·intro i _;exact congrFun a8 i
     ·rw [a8];refine⟨V,V.le_refl,fun l hl=>.inl hl,?_,?_,⟨rfl,rfl,Nat.le_refl _,fun _ _=>rfl⟩,hd⟩
      ·rw [sL _ _ _ (fun _ _=>rfl)];exact ht
      ·rw [rV _ _ _ (fun _ _=>rfl)];exact hi.drew _
 | seq x y ihx ihy=>
   intro tm h K a w V Q he hi hf ht hd hV hn hg hQ;unfold dM at he;split at he
   ·rename_i p hp;obtain⟨is,h1,h2⟩:=oS he;refine wp_seq (ihx tm h _ a w V _ h1 hi hf ht hd hV hn hg ?_);rintro e a' w' ⟨ae,V',h',k1,k2,k3,k4,k5,k6,k7,k8⟩;cases e with
    | normal=>
      obtain⟨q,V2,m1,m2,m3,m4,m5,m6⟩:=yM hf0 (p.2 is) _ _ _ _ _ _ k1 k6 k4 k2 k3;exact ihy _ _ K a' w' V2 Q (h2 q m1) m6 m4 m2 k8 m3 m5 k7 hQ
    | exit id=>exact hQ (.exit id) a' w' ⟨ae,V',h',k1,k2,k3,k4,k5,k6,k7,k8⟩
    | ret=>exact hQ .ret a' w' ⟨ae,V',h',k1,k2,k3,k4,k5,k6,k7,k8⟩
   ·refine wp_seq (ihx tm h _ a w V _ he hi hf ht hd hV hn hg ?_);rintro e a' w' ⟨ae,V',h',k1,k2,k3,k4,k5,k6,k7,k8⟩;cases e with
    | normal=>exact ihy ae h' K a' w' V' Q k1 k6 k4 k2 k8 k3 k5 k7 hQ
    | exit id=>exact hQ (.exit id) a' w' ⟨ae,V',h',k1,k2,k3,k4,k5,k6,k7,k8⟩
    | ret=>exact hQ .ret a' w' ⟨ae,V',h',k1,k2,k3,k4,k5,k6,k7,k8⟩
 | cond c x y ihx ihy=>
   intro tm h K a w V Q he hi hf ht hd hV hn hg hQ;simp only [dM]at he;split at he
   ·rename_i b hb;have hc:=gM ht c;rw [hb]at hc;have bs:a.eval c=.bool b:=hc;refine wp_cond bs ?_;cases b with
    | true=>exact ihx tm h K a w V Q he hi hf ht hd hV hn hg hQ
    | false=>exact ihy tm h K a w V Q he hi hf ht hd hV hn hg hQ
   ·exact he.elim
 | block id c ih=>
   intro tm h K a w V Q he hi hf ht hd hV hn hg hQ;refine wp_block (ih tm h _ a w V _ he hi hf ht hd hV hn hg ?_);rintro e a' w' ⟨ae,V',h',k1,k2,k3,k4,k5,k6,k7,k8⟩;cases e with
   | normal=>exact hQ .normal a' w' ⟨ae,V',h',k1,k2,k3,k4,k5,k6,k7,k8⟩
   | exit i=>
     simp only [Ex.out,Exit.inBlock]
     by_cases bc:i=id
     ·simp only [bc,if_true]at k1⊢;exact hQ .normal a' w' ⟨ae,V',h',k1,k2,k3,k4,k5,k6,k7,k8⟩
     ·simp only [bc,if_false]at k1⊢;exact hQ (.exit i) a' w' ⟨ae,V',h',k1,k2,k3,k4,k5,k6,k7,k8⟩
   | ret=>exact hQ .ret a' w' ⟨ae,V',h',k1,k2,k3,k4,k5,k6,k7,k8⟩
 | loop c ih=>
   intro tm h K a w V Q he hi hf ht hd hV hn hg hQ;have he:(∃m,vH (dM E inl L nt n0 c) m tm h K)\/(∃(H:Hint A) (At:List AVal->aC A->(H.X->Prop)->Prop),FY E.I V0 n0 hR H At/\At tm h H.ok/\ ∀x,H.ok x->dM E inl L nt n0 c (H.st x).1 (H.st x).2 fun e ae h'=>match e with
    | .normal =>At ae h' fun x'=>H.ok x'/\H.mu x'<H.mu x
    | .exit id=>K (.exit id) ae h'
    | .ret =>K .ret ae h')\/(∃Hs,I5 Hs n0 (dM E inl L nt n0 c) tm h K):=by
    simp only [dM]at he;split at he
    ·split at he
     ·exact .inl ⟨_,he⟩
     ·exact .inr (.inl ⟨_,mQ _ n0,yL hf0 _,he.1,he.2⟩)
     ·split at he
      ·exact .inr (.inl ⟨_,mQ _ n0,yL hf0 _,he.1,he.2⟩)
      ·exact he.elim
     ·exact .inr (.inr ⟨_,he⟩)
     ·obtain⟨is,he⟩:=oS he;exact .inr (.inl ⟨_,sO E.I _ n0,yM hf0 _,he.1,he.2⟩)
     ·exact he.elim
    ·exact he.elim
   ·rcases he with⟨m,he⟩ | ⟨H,he⟩ | ⟨Hs,he⟩
    ·skip
     have key: ∀m tm h a w V,vH (dM E inl L nt n0 c) m tm h K->Inv E.I V (toF h) hR w->bO V h.length->aH V tm a.tmps.toList->a.defers=ds->V0.le V->n0<=h.length->bP w0 w->
      ∀(b:Frame) (k:List _root_.Go.Item) (cs:List Frame),∃e a' w',Q e a' w'/\Arrives P (lone (b.at a (.code c:: .inLoop c::k)) cs w) b k cs e a' w':=by
      intro m
      induction m with
      | zero=>intro tm h a w V hr;exact hr.elim
      | succ m ihm=>
        intro tm h a w V hr hi hf ht hd hV hn hg b k cs
        have hb:=ih tm h _ a w V (Exit.then (fun a2 w2=> ∃ac h2 V2,vH (dM E inl L nt n0 c) m ac h2 K/\aH V2 ac a2.tmps.toList/\V0.le V2/\bO V2 h2.length/\n0<=h2.length/\Inv E.I V2 (toF h2) hR w2/\bP w0 w2/\a2.defers=ds) Q) hr hi hf ht hd hV hn hg (by
         rintro e a2 w2 ⟨ac,V2,h2,k1,k2,k3,k4,k5,k6,k7,k8⟩;cases e with
         | normal=>exact⟨ac,h2,V2,k1,k2,k3,k4,k5,k6,k7,k8⟩
         | exit id=>exact hQ (.exit id) a2 w2 ⟨ac,V2,h2,k1,k2,k3,k4,k5,k6,k7,k8⟩
         | ret=>exact hQ .ret a2 w2 ⟨ac,V2,h2,k1,k2,k3,k4,k5,k6,k7,k8⟩)
        obtain⟨e,a2,w2,hq,aa⟩:=hb b (.inLoop c::k) cs;cases e with
        | normal=>
          obtain⟨ac,h2,V2,q1,q3,q4,q5,q6,q7,q8,q9⟩:=hq;obtain⟨e3,a3,w3,aq,ag⟩:=ihm ac h2 a2 w2 V2 q1 q7 q5 q3 q9 q4 q6 q8 b k cs;exact⟨e3,a3,w3,aq,.of_steps (Steps.trans aa (.one step_inLoop)) ag⟩
        | exit id=>exact⟨_,a2,w2,hq,.pass (x:=.inLoop c) rfl (fun _ _=>.inl (by simp)) aa⟩
        | goto l=>exact⟨_,a2,w2,hq,.pass (x:=.inLoop c) rfl (fun _ _=>.inl (by simp)) aa⟩
        | ret=>exact⟨_,a2,w2,hq,.pass (x:=.inLoop c) rfl (fun _ _=>.inl (by simp)) aa⟩
        | panic ch=>exact⟨_,a2,w2,hq,.pass (x:=.inLoop c) rfl (fun _ _=>.inl (by simp)) aa⟩
        | outgrown=>exact⟨_,a2,w2,hq,.pass (x:=.inLoop c) rfl (fun _ _=>.inl (by simp)) aa⟩
     intro b k cs;obtain⟨e,a',w',hq,aa⟩:=key m tm h a w V he hi hf ht hd hV hn hg b k cs;exact⟨e,a',w',hq,.of_steps (.one step_loop) aa⟩
    ·obtain⟨At,head,hstart,ai⟩:=he
     have key: ∀m x V1 a1 w1,H.mu x<m->H.ok x->aH V1 (H.st x).1 a1.tmps.toList->V0.le V1->bO V1 (H.st x).2.length ->n0<=(H.st x).2.length ->Inv E.I V1 (toF (H.st x).2) hR w1->bP w0 w1->a1.defers=ds->
      ∀(b:Frame) (k:List _root_.Go.Item) (cs:List Frame),∃e a' w',Q e a' w'/\Arrives P (lone (b.at a1 (.code c:: .inLoop c::k)) cs w1) b k cs e a' w':=by
      intro m
      induction m with
      | zero=>intro x V1 a1 w1 ar;omega
      | succ m ihm=>
        intro x V1 a1 w1 ar j1 j2 j3 j4 j5 j6 j7 j8 b k cs
        have hb:=ih (H.st x).1 (H.st x).2 _ a1 w1 V1 (Exit.then (fun a2 w2=> ∃x2 V2,H.mu x2<m/\H.ok x2/\aH V2 (H.st x2).1 a2.tmps.toList/\V0.le V2/\bO V2 (H.st x2).2.length /\n0<=(H.st x2).2.length /\Inv E.I V2 (toF (H.st x2).2) hR w2/\bP w0 w2/\a2.defers=ds) Q) (ai x j1) j6 j4 j2 j8 j3 j5 j7 (by
         rintro e a2 w2 ⟨ac,V2,h2,k1,k2,k3,k4,k5,k6,k7,k8⟩;cases e with
         | normal=>
           obtain⟨x3,V3,⟨m1,av⟩,m2,m3,m4,m5,m6⟩:=head _ _ _ _ _ _ k1 k6 k4 k2 k3;exact⟨x3,V3,by omega,m1,m2,m3,m4,m5,m6,k7,k8⟩
         | exit id=>exact hQ (.exit id) a2 w2 ⟨ac,V2,h2,k1,k2,k3,k4,k5,k6,k7,k8⟩
         | ret=>exact hQ .ret a2 w2 ⟨ac,V2,h2,k1,k2,k3,k4,k5,k6,k7,k8⟩)
        obtain⟨e,a2,w2,hq,aa⟩:=hb b (.inLoop c::k) cs;cases e with
        | normal=>
          obtain⟨x2,V2,q1,q2,q3,q4,q5,q6,q7,q8,q9⟩:=hq;obtain⟨e3,a3,w3,aq,ag⟩:=ihm x2 V2 a2 w2 q1 q2 q3 q4 q5 q6 q7 q8 q9 b k cs;exact⟨e3,a3,w3,aq,.of_steps (Steps.trans aa (.one step_inLoop)) ag⟩
        | exit id=>exact⟨_,a2,w2,hq,.pass (x:=.inLoop c) rfl (fun _ _=>.inl (by simp)) aa⟩
        | goto l=>exact⟨_,a2,w2,hq,.pass (x:=.inLoop c) rfl (fun _ _=>.inl (by simp)) aa⟩
        | ret=>exact⟨_,a2,w2,hq,.pass (x:=.inLoop c) rfl (fun _ _=>.inl (by simp)) aa⟩
        | panic ch=>exact⟨_,a2,w2,hq,.pass (x:=.inLoop c) rfl (fun _ _=>.inl (by simp)) aa⟩
        | outgrown=>exact⟨_,a2,w2,hq,.pass (x:=.inLoop c) rfl (fun _ _=>.inl (by simp)) aa⟩
     intro b k cs;obtain⟨x,V2,m1,m2,m3,m4,m5,m6⟩:=head _ _ _ _ _ _ hstart hi hf ht hV;obtain⟨e,a',w',hq,aa⟩:=key (H.mu x+1) x V2 a w (Nat.lt_succ_self _) m1 m2 m3 m4 m5 m6 hg hd b k cs;exact⟨e,a',w',hq,.of_steps (.one step_loop) aa⟩
    ·obtain⟨hstart,ai⟩:=he
     have a6: ∀(H:Hint A) {ah:List AVal} {h1:aC A} {V1:Val} {a1:Act} {w1:World} {ok:H.X->Prop},mQ H n0 ah h1 ok->Inv E.I V1 (toF h1) hR w1->bO V1 h1.length->aH V1 ah a1.tmps.toList->V0.le V1->
      ∃x V2,ok x/\aH V2 (H.st x).1 a1.tmps.toList/\V0.le V2/\bO V2 (H.st x).2.length /\n0<=(H.st x).2.length /\Inv E.I V2 (toF (H.st x).2) hR w1:=by
      intro H ah h1 V1 a1 w1 ok af al am ak ao;unfold mQ at af;split at af
      case h_2=>exact af.elim
      rename_i ac h2 a7;obtain⟨Vc,⟨bt,bu,bx,bf⟩,bd⟩:=fK a7 al am ak;have ao:=Val.le_trans ao bt;clear al am ak;have al:=bf;have am:=bu;have ak:=bd;obtain⟨g0,⟨x,g3,g4⟩⟩:=bL.1 af;obtain⟨g1,g2⟩:=Bool.and_eq_true_iff.1 g0;obtain⟨m1,m2,m3,m4⟩:=vG.elim g1 g2 al am;refine⟨x,fun i=>Vc (lab (dO n0 h2 (dD H.keep 0 ac)) h2.length i),g4,by rw [g3];exact sI 0 _ _ ak,?_,by rw [g3];exact m2,by rw [g3];exact m3,by rw [g3];exact m4⟩
      intro l y hl
      have ar:l<n0:=by
       cases Nat.lt_or_ge l n0 with
       | inl g=>exact g
       | inr g=>rw [hf0 l g]at hl;cases hl
      show Vc (lab _ _ l)=some y;rw [m1 l ar];exact ao l y hl
     have hr':=BK ai
     have head: ∀(Gs:List (Hint A)) {ah:List AVal} {h1:aC A} {V1:Val} {a1:Act} {w1:World} {bo:Option Nat},qZ Gs n0 ah h1 bo->Inv E.I V1 (toF h1) hR w1->bO V1 h1.length->aH V1 ah a1.tmps.toList->V0.le V1->
      ∃H:Hint A,H∈Gs/\ ∃x V2,(H.ok x/\ ∀m,bo=some m->H.mu x<m)/\aH V2 (H.st x).1 a1.tmps.toList/\V0.le V2/\bO V2 (H.st x).2.length /\n0<=(H.st x).2.length /\Inv E.I V2 (toF (H.st x).2) hR w1:=by
      intro Gs
      induction Gs with
      | nil=>intro ah h1 V1 a1 w1 bo af;exact af.elim
      | cons G r ihG=>
        intro ah h1 V1 a1 w1 bo af al am ak ao;unfold qZ at af;cases ba:G.sel ah h1<;>rw [ba]at af
        case true=>
         obtain⟨x,V2,⟨m1,av⟩,m2,m3,m4,m5,m6⟩:=a6 G af al am ak ao;refine⟨G,List.mem_cons_self,x,V2,⟨m1,?_⟩,m2,m3,m4,m5,m6⟩;intro m hm;subst hm;exact av
        case false=>
         obtain⟨H,hH,x,V2,m⟩:=ihG af al am ak ao;exact⟨H,List.mem_cons_of_mem _ hH,x,V2,m⟩
     have key: ∀m (H:Hint A) (_:H∈Hs) (x:H.X) V1 a1 w1,H.mu x<m->H.ok x->aH V1 (H.st x).1 a1.tmps.toList->V0.le V1->bO V1 (H.st x).2.length ->n0<=(H.st x).2.length ->Inv E.I V1 (toF (H.st x).2) hR w1->bP w0 w1->a1.defers=ds->
      ∀(b:Frame) (k:List _root_.Go.Item) (cs:List Frame),∃e a' w',Q e a' w'/\Arrives P (lone (b.at a1 (.code c:: .inLoop c::k)) cs w1) b k cs e a' w':=by
      intro m
      induction m with
      | zero=>intro H hH x V1 a1 w1 ar;omega
      | succ m ihm=>
        intro H hH x V1 a1 w1 ar j1 j2 j3 j4 j5 j6 j7 j8 b k cs
        have hb:=ih (H.st x).1 (H.st x).2 _ a1 w1 V1 (Exit.then (fun a2 w2=> ∃G:Hint A,G∈Hs/\ ∃x2 V2,G.mu x2<m/\G.ok x2/\aH V2 (G.st x2).1 a2.tmps.toList/\V0.le V2/\bO V2 (G.st x2).2.length /\n0<=(G.st x2).2.length /\Inv E.I V2 (toF (G.st x2).2) hR w2/\bP w0 w2/\a2.defers=ds) Q) (hr' H hH x j1) j6 j4 j2 j8 j3 j5 j7 (by
         rintro e a2 w2 ⟨ac,V2,h2,k1,k2,k3,k4,k5,k6,k7,k8⟩;cases e with
         | normal=>
           obtain⟨G,hG,x3,V3,⟨m1,av⟩,m2,m3,m4,m5,m6⟩:=head Hs k1 k6 k4 k2 k3;have:=av _ rfl;exact⟨G,hG,x3,V3,by omega,m1,m2,m3,m4,m5,m6,k7,k8⟩
         | exit id=>exact hQ (.exit id) a2 w2 ⟨ac,V2,h2,k1,k2,k3,k4,k5,k6,k7,k8⟩
         | ret=>exact hQ .ret a2 w2 ⟨ac,V2,h2,k1,k2,k3,k4,k5,k6,k7,k8⟩)
        obtain⟨e,a2,w2,hq,aa⟩:=hb b (.inLoop c::k) cs;cases e with
        | normal=>
          obtain⟨G,hG,x2,V2,q1,q2,q3,q4,q5,q6,q7,q8,q9⟩:=hq;obtain⟨e3,a3,w3,aq,ag⟩:=ihm G hG x2 V2 a2 w2 q1 q2 q3 q4 q5 q6 q7 q8 q9 b k cs;exact⟨e3,a3,w3,aq,.of_steps (Steps.trans aa (.one step_inLoop)) ag⟩
        | exit id=>exact⟨_,a2,w2,hq,.pass (x:=.inLoop c) rfl (fun _ _=>.inl (by simp)) aa⟩
        | goto l=>exact⟨_,a2,w2,hq,.pass (x:=.inLoop c) rfl (fun _ _=>.inl (by simp)) aa⟩
        | ret=>exact⟨_,a2,w2,hq,.pass (x:=.inLoop c) rfl (fun _ _=>.inl (by simp)) aa⟩
        | panic ch=>exact⟨_,a2,w2,hq,.pass (x:=.inLoop c) rfl (fun _ _=>.inl (by simp)) aa⟩
        | outgrown=>exact⟨_,a2,w2,hq,.pass (x:=.inLoop c) rfl (fun _ _=>.inl (by simp)) aa⟩
     intro b k cs;obtain⟨H,hH,x,V2,⟨m1,_⟩,m2,m3,m4,m5,m6⟩:=head Hs hstart hi hf ht hV;obtain⟨e,a',w',hq,aa⟩:=key (H.mu x+1) H hH x V2 a w (Nat.lt_succ_self _) m1 m2 m3 m4 m5 m6 hg hd b k cs;exact⟨e,a',w',hq,.of_steps (.one step_loop) aa⟩
 | exit id=>
   intro tm h K a w V Q he hi hf ht hd hV hn hg hQ;exact wp_exit (hQ (.exit id) a w ⟨tm,V,h,he,ht,hV,hf,hn,hi,hg,hd⟩)
 | label l=>
   intro tm h K a w V Q he hi hf ht hd hV hn hg hQ;exact wp_label (hQ .normal a w ⟨tm,V,h,he,ht,hV,hf,hn,hi,hg,hd⟩)
 | ret=>
   intro tm h K a w V Q he hi hf ht hd hV hn hg hQ;exact wp_ret (hQ .ret a w ⟨tm,V,h,he,ht,hV,hf,hn,hi,hg,hd⟩)
 | _=>intro tm h K a w V Q he;exact he.elim
def rvar(tmps:Array Value):ResultVar->Sem Value
 | .tmp t=>Pure.pure (tmps.getD t undef)
 | .cell a t=>do loadVar t (<-asAddr (tmps.getD a undef))
theorem II(fn:Func)(tmps:Array Value):results fn tmps=(do
 let vs<-fn.results.mapM (rvar tmps)
 Pure.pure (if h:vs.size=1 then vs[0]else .tuple vs)):=by
 unfold results;congr 1
theorem B1{tm:List AVal}{h:aC A}{r:ResultVar}{v:AVal}{p:Option Prop}(hr:uR P tm h r=some (v,p))(hp:onp p){V:Val}{hR:PHeap}{w:World}{tmps:Array Value}(hi:Inv E.I V (toF h) hR w)(ht:aH V tm tmps.toList):
 ∃v',(rvar tmps r).run P w=.ok v' w/\Rep V v v':=by
 have hρ: ∀x,Rep V (dK tm x) (Act.eval ⟨tmps,[]⟩ x):=gM (a:=⟨tmps,[]⟩) ht;cases r with
 | tmp t=>
   simp only [uR,sI',pI']at hr;obtain⟨rfl,rfl⟩:=hr;exact⟨_,rfl,hρ (.tmp t)⟩
 | cell a t=>
   simp only [uR]at hr;split at hr
   ·rename_i l off e;have ra:Rep V (tm.getD a (.raw undef)) (tmps.getD a undef):=hρ (.tmp a);rw [e]at ra;cases hq:yI P t l off h with
    | none=>rw [hq]at hr;cases hr
    | some q=>
      rw [hq]at hr;simp only [Option.map_some,sI',pI']at hr;obtain⟨rfl,rfl⟩:=hr;obtain⟨v',h1,h2,_,_⟩:=yJ hq hp hi ra;obtain⟨b,k,hl,e2⟩:=ra;rw [e2]at h1;refine⟨v',?_,h2⟩;show(do loadVar t (<-asAddr (tmps.getD a undef)):Sem Value).run P w=.ok v' w
      rw [e2]
      simpa [asAddr,Instr.loadAt,Instr.sureAddr]using h1
   ·cases hr
theorem zV{fn:Func}{tm:List AVal}{h:aC A}{V:Val}{hR:PHeap}{w:World}{tmps:Array Value}(hi:Inv E.I V (toF h) hR w)(ht:aH V tm tmps.toList){vs:List AVal}{p:Option Prop}(hr:kT P tm h fn.results.toList=some (vs,p))(hp:onp p):
 ∃v',(results fn tmps).run P w=.ok v' w/\Rep V (amk vs) v':=by
 have key: ∀(rs:List ResultVar) (vs:List AVal) (p:Option Prop),kT P tm h rs=some (vs,p)->onp p->
  ∃ws,(rs.mapM (rvar tmps)).run P w=.ok ws w/\aH V vs ws:=by
  intro rs
  induction rs with
  | nil=>
    intro vs p h1 h2;simp only [kT,sI',pI']at h1;obtain⟨rfl,rfl⟩:=h1;exact⟨[],rfl,rfl⟩
  | cons r rs ih=>
    intro vs p h1 h2;simp only [kT]at h1;split at h1
    ·rename_i v q ae q' e1 e2;simp only [sI',pI']at h1;obtain⟨rfl,rfl⟩:=h1;have h2:=OD.1 h2;obtain⟨v',g1,g2⟩:=B1 e1 h2.1 hi ht;obtain⟨ws,g3,g4⟩:=ih ae q' e2 h2.2;refine⟨v'::ws,?_,⟨v',ws,rfl,g2,g4⟩⟩;rw [List.mapM_cons];simp only [Sem.run_bind];rw [g1];simp only [Result.andThen_ok,Sem.run_bind];rw [g3];rfl
    ·cases h1
 obtain⟨ws,h1,h2⟩:=key _ vs p hr hp
 have ac:(fn.results.mapM (rvar tmps)).run P w=.ok ws.toArray w:=by
  rw [Array.mapM_eq_mapM_toList,Sem.run_map,h1];rfl
 have aa:(results fn tmps).run P w=.ok (if h:ws.toArray.size=1 then ws.toArray[0]else .tuple ws.toArray) w:=by
  rw [II,Sem.run_bind,ac];rfl
 refine⟨_,aa,?_⟩
 match vs,ws,h2 with
 | [],_,r=>have e:_=[]:=r;subst e;exact⟨#[],rfl,rfl⟩
 | [v],_,⟨y,ys,e,r,s⟩=>have e2:ys=[]:=s;subst e2;subst e;exact r
 | v1::v2::vs,_,⟨y,_,e,r,y2,ys,e2,r2,s⟩=>
   subst e2;subst e;exact⟨_,rfl,y,_,rfl,r,y2,ys,rfl,r2,s⟩
theorem AE{inl:vF A}(hinl:lK E inl)(hm:P.follows .mixedOrders =true){g:FuncId}{fn:Func}{c:Code}(hg:P.funcs[g]? =some fn)(hb:fn.body=some c){args:List AVal}{h:aC A}{K:AVal->aC A->Prop}{L:Nat->Option (mS A)}(he:SI E inl L fn c args h K)
 {V:Val} {hR:PHeap} {w:World} {args':Array Value} (hi:Inv E.I V (toF h) hR w) (hf:bO V h.length) (hr:aH V args args'.toList):Calls P g args' w (zR E.I V h.length hR K w):=by
 have aa:args'.size=args.length:=by rw [<-Array.length_toList];exact aH.length hr
 refine calls_of_wp hg hb (AF hinl hm hf c _ h _ _ w V _ he hi hf ?_ rfl V.le_refl (Nat.le_refl _) (aLS w) ?_)
 ·show aH V _ (args'++Array.replicate (fn.ntmps - args'.size) undef).toList;rw [Array.toList_append,Array.toList_replicate,aa];refine aH.append hr ?_
  have: ∀n:Nat,aH V (List.replicate n (.raw undef)) (List.replicate n undef):=by
   intro n
   induction n with
   | zero=>exact rfl
   | succ n ih=>exact⟨undef,_,rfl,rfl,ih⟩
  exact this _
 ·rintro e a' w' ⟨ac,V',h',k1,k2,k3,k4,k5,k6,k7,k8⟩
  have fin:(match kT P ac h' fn.results.toList with | some (vs,p)=>AR p (K (amk vs) h') | none=>False)->a'.defers=[]/\ ∃v,(results fn a'.tmps).run P w'=.ok v w'/\zR E.I V h.length hR K w (.returned v) w':=by
   intro hh;split at hh
   ·rename_i vs p hres;have hh:=oK.1 hh;obtain⟨v',g1,g2⟩:=zV (E:=E) k6 k2 hres hh.1;exact⟨k8,v',g1,amk vs,v',V',h',hh.2,rfl,g2,k3,k4,k5,k6,k7⟩
   ·exact hh.elim
  cases e with
  | normal=>exact fin k1
  | exit id=>exact k1.elim
  | ret=>exact fin k1
theorem lO(hm:P.follows .mixedOrders =true)(L:FuncId->Nat->Option (mS A)): ∀n,lK E (fT E L n)
 | 0=>fun _ _ _ _ he=>he.elim
 | n+1=>by
   intro g args h K he V hR w args' hi hf hr;unfold fT at he;split at he
   ·rename_i fn hg;split at he
    ·rename_i c hb;exact AE (lO hm L n) hm hg hb he hi hf hr
    ·exact he.elim
   ·exact he.elim
end
end Go.Sh
namespace Go.Sh
open Go
variable [Con] {A:Type}
def aA(I:Itp A)(P:Program)(f:FuncId)(args:List AVal)(h:aC A)(K:AVal->aC A->Prop):Prop:=
 ∀V hR w (args':Array Value),Inv I V (toF h) hR w->bO V h.length->aH V args args'.toList->Calls P f args' w (zR I V h.length hR K w)
section
variable {P:Program} {I:Itp A}
def eJ(n:Nat)(K:AVal->aC A->Prop)(v:AVal)(h':aC A):Prop:=
 cK (dW (dO n h' v.labels) h'.length&&iJ (dO n h' v.labels) 0 n) (K (lI (dO n h' v.labels) v) (gQ (dO n h' v.labels) h'))
theorem aLw{f:FuncId}{args:List AVal}{h:aC A}{K:AVal->aC A->Prop}(h0:aA I P f args h (eJ h.length K)):aA I P f args h K:=by
 intro V hR w aa hi hf hr;refine(h0 V hR w aa hi hf hr).mono ?_;rintro e w' ⟨v,v',V',h',ht,k2,k3,k4,k5,k6,k7,k8⟩;obtain⟨g0,hK⟩:=bL.1 ht;obtain⟨g1,g2⟩:=Bool.and_eq_true_iff.1 g0;generalize dO h.length h' v.labels=pl at g1 g2 hK;obtain⟨e1,e2⟩:=nA g2;have hp:=oV (h:=h') g1;refine⟨lI pl v,v',fun i=>V' (lab pl h'.length i),gQ pl h',hK,k2,pN k3,?_,?_,by rw [hp.len];exact e1,k7.pick hp,k8⟩
 ·intro l x hl
  have ac:l<h.length:=by
   cases Nat.lt_or_ge l h.length with
   | inl g=>exact g
   | inr g=>rw [hf l g]at hl;cases hl
  show V' (lab pl h'.length l)=some x;have:lab pl h'.length l=l:=by unfold lab;rw [e2 l ac];simp
  rw [this];exact k4 l x hl
 ·intro l hl;rw [hp.len]at hl;show V' (lab pl h'.length l)=none;have:lab pl h'.length l=h'.length+l:=by unfold lab;rw [List.getElem?_eq_none hl]
  rw [this];exact k5 _ omz
def aB1(cs:List (Place×gS))(K:AVal->aC A->Prop)(v:AVal)(g:aC A):Prop:=
 match gW cs [v] g with
 | some ([v'],g')=>K v' g'
 | _=>False
theorem aMk{f:FuncId}{args:List AVal}{h:aC A}{K:AVal->aC A->Prop}{cs:List (Place×gS)}(h0:aA I P f args h (aB1 cs K)):aA I P f args h K:=by
 intro V hR w aa hi hf hr;refine(h0 V hR w aa hi hf hr).mono ?_;rintro e w' ⟨v,v',V',g,ht,k2,k3,k4,k5,k6,k7,k8⟩;unfold aB1 at ht;split at ht
 ·rename_i v1 g1 hc;obtain⟨V1,⟨c1,c2,c3,c4⟩,c5⟩:=fK hc k7 k5 (xs:=[v']) ⟨v',[],rfl,k3,rfl⟩;obtain⟨y,ys,e1,r1,_⟩:=c5;simp only [lI']at e1;exact⟨v1,v',V1,g1,ht,k2,by rw [e1.1];exact r1,Val.le_trans k4 c1,c2,Nat.le_trans k6 c3,c4,k8⟩
 ·exact ht.elim
def jJ:List Nat->List (Option (aG A))->aC A->aC A
 | l::il,e::es,h=>jJ il es (h.set l e)
 | _,_,h=>h
def iota(il:List Nat)(n i:Nat):Nat:=match il[i]? with
 | some l=>l
 | none=>n+(i - il.length)
theorem kM{il:List Nat}{n i l:Nat}(h:il[i]? =some l):iota il n i=l:=by unfold iota;rw [h]
theorem iP{il:List Nat}{n i:Nat}(h:il[i]? =none):iota il n i=n+(i - il.length):=by unfold iota;rw [h]
def pV(h:aC A)(il:List Nat)(g:aC A):aC A:=
 jJ il ((g.take il.length).map (Option.map (aG.ren (iota il h.length)))) h++(g.drop il.length).map (Option.map (aG.ren (iota il h.length)))
theorem d8: ∀(il:List Nat) (es:List (Option (aG A))) (h:aC A),(jJ il es h).length =h.length
 | [],_,_=>rfl
 | _::_,[],_=>rfl
 | l::il,e::es,h=>by unfold jJ;rw [d8 il es];simp
theorem lR: ∀(il:List Nat) (es:List (Option (aG A))) (h:aC A) (m:Nat),m∉il->aL (jJ il es h) m=aL h m
 | [],_,_,_,_=>rfl
 | _::_,[],_,_,_=>rfl
 | l::il,e::es,h,m,hm=>by
   unfold jJ;rw [lR il es _ m (by simp at hm;exact hm.2)]
   simp only [aL,gD'];rw [List.getElem?_set_ne (by simp at hm;exact fun e=>hm.1 e.symm)]
theorem tC: ∀(il:List Nat) (es:List (Option (aG A))) (h:aC A) (i l:Nat),il.Nodup->(∀l∈il,l<h.length)->il[i]? =some l->i<es.length->aL (jJ il es h) l=es.getD i none
 | [],_,_,i,l,_,_,h,_=>by simp at h
 | _::_,[],_,i,_,_,_,_,h=>by simp at h
 | m::il,e::es,h,0,l,hnd,hlt,hi,_=>by
   simp at hi;subst hi;unfold jJ;rw [lR il es _ m (List.nodup_cons.1 hnd).1];have:m<h.length:=hlt m (by simp)
   simp [aL,gD',this]
 | m::il,e::es,h,i+1,l,hnd,hlt,hi,hes=>by
   simp at hi;unfold jJ;rw [tC il es _ i l (List.nodup_cons.1 hnd).2 (by intro l hl;simp;exact hlt l (by simp [hl])) hi (by simpa using hes)]
   simp
theorem D4{il:List Nat}{n:Nat}(hnd:il.Nodup)(hlt: ∀l∈il,l<n): ∀i j,iota il n i=iota il n j->i=j:=by
 intro i j h
 have aa: ∀ {i a},il[i]? =some a->i<il.length:=by
  intro i a hi;cases Nat.lt_or_ge i il.length with
  | inl g=>exact g
  | inr g=>rw [List.getElem?_eq_none g]at hi;cases hi
 unfold iota at h;cases hi:il[i]? with
 | some a=>
   rw [hi]at h;cases hj:il[j]? with
   | some b=>
     rw [hj]at h;simp only at h;subst h;exact(List.getElem?_inj (aa hi) hnd).1 (hi.trans hj.symm)
   | none=>
     rw [hj]at h;simp only at h;have:=hlt a (List.mem_of_getElem? hi);omega
 | none=>
   rw [hi]at h;cases hj:il[j]? with
   | some b=>
     rw [hj]at h;simp only at h;have:=hlt b (List.mem_of_getElem? hj);omega
   | none=>
     rw [hj]at h;simp only at h;have h1:=List.getElem?_eq_none_iff.1 hi;have h2:=List.getElem?_eq_none_iff.1 hj;omega
theorem aMc{f:FuncId}{args0 args:List AVal}{h0 h:aC A}{K0 K:AVal->aC A->Prop}(hs:aA I P f args0 h0 K0)(il:List Nat)(hlen:il.length=h0.length)(hnd:il.Nodup)
 (hlt: ∀l∈il,l<h.length) (hent: ∀i l,il[i]? =some l->aL h l=(aL h0 i).map (aG.ren (iota il h.length))) (hargs:args=aLL (iota il h.length) args0)
 (hK: ∀v g,K0 v g->h0.length<=g.length->K (v.ren (iota il h.length)) (pV h il g)):aA I P f args h K:=by
 intro V hR w ak hi hf hr
 classical
 have al:=D4 (n:=h.length) hnd hlt
 have ah: ∀ {i a},il[i]? =some a->i<il.length:=by
  intro i a hi;cases Nat.lt_or_ge i il.length with
  | inl g=>exact g
  | inr g=>rw [List.getElem?_eq_none g]at hi;cases hi
 obtain⟨ap,a6,ao⟩:=hi.split (fun l=>decide (l∈il))
 have bb:Inv I (fun i=>V (iota il h.length i)) (toF h0) ap w:=by
  refine(aL4 al ?_ ?_).1 a6
  ·intro i;cases aa:il[i]? with
   | some l=>
     have e1:iota il h.length i=l:=by unfold iota;rw [aa]
     rw [e1,if_pos (by simpa using List.mem_of_getElem? aa)]
     exact hent i l aa
   | none=>
     have e1:iota il h.length i=h.length+(i - il.length):=by unfold iota;rw [aa]
     have ae:=List.getElem?_eq_none_iff.1 aa;rw [e1,if_neg (by simp;intro hm;have:=hlt _ hm;omega)]
     have:toF h0 i=none:=cC omz;rw [this];rfl
  ·intro m hm;rw [if_neg];simp only [dT'];intro ac;obtain⟨i,af,he⟩:=List.getElem_of_mem ac;refine hm i ?_;unfold iota;rw [gE' af,he]
 have a7:bO (fun i=>V (iota il h.length i)) h0.length:=by
  intro i hi;show V (iota il h.length i)=none;have:il[i]? =none:=List.getElem?_eq_none omz;rw [iP this];exact hf _ omz
 have ay:aH (fun i=>V (iota il h.length i)) args0 ak.toList:=by
  rw [hargs]at hr;exact(aH.ren args0 _).1 hr
 refine(hs _ ap w ak bb a7 ay).mono ?_;rintro e w' ⟨v,v',V',g,k1,k2,k3,k4,k5,k6,k7,k8⟩
 let V1:Val:=fun m=>if h.length<=m then V' (il.length+(m - h.length))else if hm: ∃i:Nat,il[i]? =some m then V' (Classical.choose hm)else V m
 have ba: ∀i,V1 (iota il h.length i)=V' i:=by
  intro i;cases aa:il[i]? with
  | some l=>
    have e1:iota il h.length i=l:=by unfold iota;rw [aa]
    have hl:=hlt l (List.mem_of_getElem? aa);have hm: ∃i:Nat,il[i]? =some l:=⟨i,aa⟩;show(if h.length<=iota il h.length i then _ else _)=_
    rw [e1,if_neg omz,dif_pos hm];have hc:=Classical.choose_spec hm;have:=(List.getElem?_inj (ah hc) hnd).1 (hc.trans aa.symm);rw [this]
  | none=>
    have e1:iota il h.length i=h.length+(i - il.length):=by unfold iota;rw [aa]
    have ae:=List.getElem?_eq_none_iff.1 aa;show(if h.length<=iota il h.length i then _ else _)=_
    rw [e1,if_pos omz];congr 1;omega
 have ag:(fun i=>V1 (iota il h.length i))=V':=funext ba
 have av:V.le V1:=by
  intro m x hm
  have aj:m<h.length:=by
   cases Nat.lt_or_ge m h.length with
   | inl g=>exact g
   | inr g=>rw [hf m g]at hm;cases hm
  show(if h.length<=m then _ else _)=some x
  rw [if_neg omz];split
  ·rename_i ar;have hc:=Classical.choose_spec ar;refine k4 _ x ?_;show V (iota il h.length _)=some x;have e1:iota il h.length (Classical.choose ar)=m:=by unfold iota;rw [hc]
   rw [e1];exact hm
  ·exact hm
 let G:bE A:=fun m=>if h.length<=m then(aL g (il.length+(m - h.length))).map (aG.ren (iota il h.length))else if hm: ∃i:Nat,il[i]? =some m then(aL g (Classical.choose hm)).map (aG.ren (iota il h.length))else none
 have hG: ∀i,G (iota il h.length i)=(toF g i).map (aG.ren (iota il h.length)):=by
  intro i;cases aa:il[i]? with
  | some l=>
    have e1:iota il h.length i=l:=by unfold iota;rw [aa]
    have hl:=hlt l (List.mem_of_getElem? aa);have hm: ∃i:Nat,il[i]? =some l:=⟨i,aa⟩;show(if h.length<=iota il h.length i then _ else _)=_
    rw [e1,if_neg omz,dif_pos hm];have hc:=Classical.choose_spec hm;have:=(List.getElem?_inj (ah hc) hnd).1 (hc.trans aa.symm);rw [this];rfl
  | none=>
    have e1:iota il h.length i=h.length+(i - il.length):=by unfold iota;rw [aa]
    have ae:=List.getElem?_eq_none_iff.1 aa;show(if h.length<=iota il h.length i then _ else _)=_
    rw [e1,if_pos omz,show il.length+(h.length+(i - il.length) - h.length)=i from by omega]
    rfl
 have bc: ∀m,(∀l,iota il h.length l≠m)->G m=none:=by
  intro m hm;show(if h.length<=m then _ else _)=none
  by_cases ae:h.length<=m
  ·refine(hm (il.length+(m - h.length)) ?_).elim;rw [iP (List.getElem?_eq_none omz)];omega
  ·rw [if_neg ae,dif_neg];rintro⟨i,hi⟩;refine hm i ?_;unfold iota;rw [hi]
 have aq:Inv I V1 G ap w':=(aL4 al hG bc).2 (by rw [ag];exact k7)
 have am:=ao V1 G w' av aq (by
  intro l hl ai;have az:l∉il:=by simpa using hl
  have aj:l<h.length:=by
   cases Nat.lt_or_ge l h.length with
   | inl g=>exact g
   | inr g=>exact(ai (cC g)).elim
  show(if h.length<=l then _ else _)=none
  rw [if_neg omz,dif_neg];rintro⟨i,hi⟩;exact az (List.mem_of_getElem? hi))
 have au:(pV h il g).length =h.length+(g.length - il.length):=by
  unfold pV;rw [List.length_append,d8,List.length_map,List.length_drop]
 have ax:((g.take il.length).map (Option.map (aG.ren (iota il h.length)))).length =il.length:=by
  rw [List.length_map,List.length_take];omega
 have a8:(fun l=>if (fun l=>decide (l∈il)) l=false/\toF h l≠none then toF h l else G l)=toF (pV h il g):=by
  funext m;show _=aL (pV h il g) m
  by_cases ae:h.length<=m
  ·have e0:toF h m=none:=cC ae;rw [if_neg (by rw [e0];simp)]
   show(if h.length<=m then _ else _)=_
   rw [if_pos ae];unfold pV;simp only [aL,gD'];rw [List.getElem?_append_right (by rw [d8];exact ae),d8,List.getElem?_map,List.getElem?_drop]
   cases hq:g[il.length+(m - h.length)]? with
   | none=>rfl
   | some x=>rfl
  ·have aj:m<h.length:=by omega
   have e1:aL (pV h il g) m=aL (jJ il ((g.take il.length).map (Option.map (aG.ren (iota il h.length)))) h) m:=by
    unfold pV;exact cN (by rw [d8];exact aj)
   rw [e1]
   by_cases ac:m∈il
   ·obtain⟨i,af,he⟩:=List.getElem_of_mem ac;have aa:il[i]? =some m:=by rw [gE' af,he]
    rw [if_neg (by simp [ac]),tC il _ h i m hnd hlt aa (by rw [ax];exact af)]
    have e2:iota il h.length i=m:=by unfold iota;rw [aa]
    have:=hG i;rw [e2]at this;rw [this,gD',List.getElem?_map,List.getElem?_take,if_pos af];show Option.map _ (aL g i)=_;simp only [aL,gD'];cases g[i]? <;>rfl
   ·rw [lR il _ h m ac]
    by_cases ai:toF h m=none
    ·rw [if_neg (by simp [ai])]
     show(if h.length<=m then _ else _)=_
     rw [if_neg ae,dif_neg]
     ·exact ai.symm
     ·rintro⟨i,hi⟩;exact ac (List.mem_of_getElem? hi)
    ·rw [if_pos ⟨by simp [ac],ai⟩];rfl
 rw [a8]at am;refine⟨v.ren (iota il h.length),v',V1,pV h il g,hK v g k1 k6,k2,?_,av,?_,by rw [au];omega,am,k8⟩
 ·refine(Rep.ren v v').2 ?_;rw [ag];exact k3
 ·intro l hl;rw [au]at hl;show(if h.length<=l then _ else _)=none
  rw [if_pos omz];exact k5 _ omz
end
end Go.Sh
namespace Go.Sh
open Go
variable [Con] {A:Type} {P:Program} {I:Itp A}
def PHeap.all(w:World):PHeap:=fun b=>w.heap[b]?
def aC2(W W':World):Prop:=W.keptBut W' (fun _=>False)/\(∀a:Addr,a.block<W.heap.size->W'.frozen? a=W.frozen? a)/\W.heap.size<=W'.heap.size
theorem S1{w w':World}(h:(PHeap.all w).sub w')(g:bP w w'):aC2 w w':=by
 refine⟨⟨g.os,g.output,?_⟩,g.frz,g.size⟩;intro i hi;have e:w.heap[i]? =some w.heap[i]:=Array.getElem?_eq_getElem hi;have e':=h i _ e;rw [e,e'];generalize w.heap[i]=o;cases o with
 | cells c t fr=>exact⟨rfl,rfl,rfl,fun _ _=>rfl⟩
 | map es clock=>exact .inr ⟨rfl,rfl⟩
 | _=>rfl
theorem aAU(w:World)(hc: ∀b o,Con.con b=some o->w.heap[b]? =some o):Inv I (fun _=>none) (toF ([]:aC A)) (PHeap.all w) w:=
 ⟨fun _=>.emp,(fun l e h=>by simp [toF,aL]at h),fun _ _=>rfl,fun _ _ _=>aLy _,fun _=>(aLy _).symm,fun _=>aLX _,fun b o h=>h,hc⟩
theorem aA.grown{f:FuncId}{args:List AVal}{K:AVal->aC A->Prop}(h:aA I P f args [] K){args':Array Value}(hr:aH (fun _=>none) args args'.toList)(w:World)(hc: ∀b o,Con.con b=some o->w.heap[b]? =some o):
 Calls P f args' w fun e w'=> ∃v v' V' h',K v h'/\e=.returned v'/\Rep V' v v'/\aC2 w w':=by
 refine(h _ _ w args' (aAU w hc) (fun _ _=>rfl) hr).mono ?_;rintro e w' ⟨v,v',V',h',k1,k2,k3,k4,k5,k6,k7,k8⟩;obtain⟨hs,_,_,_,_,_,h6,_⟩:=k7;exact⟨v,v',V',h',k1,k2,k3,S1 h6 k8⟩
theorem aA.law{f:FuncId}{args:List AVal}(h:aA I P f args ([]:aC A) fun v _=>v=.bool true){args':Array Value}(hr:aH (fun _=>none) args args'.toList)(w:World)(hc: ∀b o,Con.con b=some o->w.heap[b]? =some o):
 Calls P f args' w fun e w'=>e=.returned (.bool true)/\aC2 w w':=by
 refine(h.grown hr w hc).mono ?_;rintro e w' ⟨v,v',V',h',rfl,rfl,r,g⟩;have:v'=.bool true:=r;subst this;exact⟨rfl,g⟩
mutual
theorem Rep.free{V V':Val} : ∀(a:AVal) (x:Value),a.within []=true->Rep V a x->Rep V' a x
 | .bool _,_,_,r=>r
 | .int _ _,_,_,r=>r
 | .str _,_,_,r=>r
 | .ptr _ _,_,h,_=>by simp [AVal.within]at h
 | .slice _ _ _ _,_,h,_=>by simp [AVal.within]at h
 | .map _,_,h,_=>by simp [AVal.within]at h
 | .func _ f c,_,h,⟨fs,cs,hv,r,s⟩=>by
   simp only [AVal.within,Bool.and_eq_true]at h;exact⟨fs,cs,hv,aH.free f _ h.1 r,aH.free c _ h.2 s⟩
 | .iface _ a,_,h,⟨x,hv,r⟩=>⟨x,hv,Rep.free a _ h r⟩
 | .agg as,_,h,⟨cs,hv,r⟩=>⟨cs,hv,aH.free as _ h r⟩
 | .tup as,_,h,⟨cs,hv,r⟩=>⟨cs,hv,aH.free as _ h r⟩
 | .raw _,_,_,r=>r
 | .any,_,_,r=>r
 | .O,_,_,r=>r
 | .iview _ _,_,_,r=>r
 | .view _ _ _,_,_,r=>r
 | .cptr _,_,_,r=>r
 | .tslice _ _ _ _,_,h,_=>by simp [AVal.within]at h
 | .tptr _ _ _ _,_,h,_=>by simp [AVal.within]at h
 | .empty,_,_,r=>r
theorem aH.free{V V':Val} : ∀(a:List AVal) (x:List Value),aLA [] a=true->aH V a x->aH V' a x
 | [],_,_,r=>r
 | a::as,_,h,⟨v,vs,e,r,s⟩=>by
   simp only [aLA,Bool.and_eq_true]at h;exact⟨v,vs,e,Rep.free a v h.1 r,aH.free as vs h.2 s⟩
end
structure Ev (p:Prop):Prop where
 get:p
theorem aD{E:Env A P}(hm:P.follows .mixedOrders =true){L:FuncId->Nat->Option (mS A)}{n:Nat}{f:FuncId}{args:List AVal}{h:aC A}{K:AVal->aC A->Prop}(he:Ev (fT E L n f args h K)):aA E.I P f args h K:=
 lO hm L n f args h K he.get
theorem aJ{p q:Prop}(h:p=q)(hq:q):Ev p:=⟨h▸hq⟩
theorem aT{b:Bool}{X Y:Prop}(h1:b=true->X)(h2:b=false->Y):cond b X Y:=by
 cases b
 ·exact h2 rfl
 ·exact h1 rfl
end Go.Sh
namespace Go.Sh
open Go
variable [Con] {A:Type}
inductive Out (A:Type):Type 1 where
 | ret (v:AVal) (g:aC A)
 | ite (b:Bool) (x y:Out A)
 | all (X:Type) (ok:X->Prop) (f:X->Out A)
 | pre (p:Prop) (o:Out A)
def Out.run:Out A->(AVal->aC A->Prop)->Prop
 | .ret v g,K=>K v g
 | .ite b x y,K=>cond b (x.run K) (y.run K)
 | .all X ok f,K=> ∀x,ok x->(f x).run K
 | .pre p o,K=>p/\o.run K
abbrev aI(A:Type):=List AVal->aC A->Option (Out A)
def A1(h:aC A):Nat->List Nat->List Nat->List Nat
 | 0,_,acc=>acc
 | _+1,[],acc=>acc
 | d+1,l::todo,acc=>cond (acc.elem l) (A1 h d todo acc) (match aL h l with
   | some e=>A1 h d (e.labels++todo) (acc++ [l])
   | none=>A1 h d todo (acc++ [l]))
def foot(args:List AVal)(h:aC A):List Nat:=A1 h 5000 (aL1 args) []
def nO(pl:List Nat)(h:aC A):List Nat->Option (aC A)
 | []=>some []
 | l::ls=>match aL h l,nO pl h ls with
   | some e,some g=>cond (e.within pl) (some (some (e.ren (inv pl))::g)) none
   | _,_=>none
def OT(ι:Nat->Nat):List Nat->aC A->aC A->aC A
 | l::il,e::g,h=>OT ι il g (h.set l (e.map (aG.ren ι)))
 | [],[],h=>h
 | _,g,h=>h++g.map (Option.map (aG.ren ι))
theorem KV(ι:Nat->Nat): ∀(il:List Nat) (g h:aC A),il.length<=g.length->OT ι il g h=jJ il ((g.take il.length).map (Option.map (aG.ren ι))) h++(g.drop il.length).map (Option.map (aG.ren ι))
 | [],[],h,_=>by simp [OT,jJ]
 | [],e::g,h,_=>by simp [OT,jJ]
 | l::il,[],h,hl=>by simp at hl
 | l::il,e::g,h,hl=>by
   simp only [OT,List.length_cons,List.take_succ_cons,List.drop_succ_cons,List.map_cons];rw [KV ι il g _ (by simpa using hl)]
   rfl
def nZ(F:aI A):yB A:=fun args h K=>
 let il:=foot args h
 cK (dW il h.length&&aLA il args) <|
 match nO il h il with
 | none=>False
 | some h0=>match F (aLL (inv il) args) h0 with
   | none=>False
   | some o=>o.run fun v g=>cK (Nat.ble il.length g.length) (K (v.ren (iota il h.length)) (OT (iota il h.length) il g h))
theorem iR{pl:List Nat}{h:aC A} : ∀ {ls:List Nat} {g:aC A},nO pl h ls=some g->g.length=ls.length/\ ∀(i l:Nat),ls[i]? =some l-> ∃e,aL h l=some e/\e.within pl=true/\aL g i=some (e.ren (inv pl))
 | [],g,h=>by simp [nO]at h;subst h;simp
 | l::ls,g,h=>by
   simp only [nO]at h;split at h
   ·rename_i e g' h1 h2;cases hw:e.within pl with
    | false=>rw [hw]at h;cases h
    | true=>
      rw [hw]at h;simp only [cond_true,sI']at h;subst h;obtain⟨q1,q2⟩:=iR h2;refine⟨by simp [q1],?_⟩
      intro i l' hi;cases i with
      | zero=>simp at hi;subst hi;exact⟨e,h1,hw,rfl⟩
      | succ i=>
        simp at hi;obtain⟨e',a1,a2,a3⟩:=q2 i l' hi;exact⟨e',a1,a2,by simpa [aL]using a3⟩
   ·cases h
theorem lB{il:List Nat}{n l:Nat}(h:il.elem l=true):iota il n (inv il l)=l:=by
 have:=lS (n:=n) h;unfold lab at this;unfold iota;cases hq:il[inv il l]? with
 | some m=>rw [hq]at this;exact this
 | none=>
   exfalso;have hm:l∈il:=List.elem_iff.1 h
   have: ∀(pl:List Nat),l∈pl->pl[inv pl l]? =some l:=by
    intro pl
    induction pl with
    | nil=>intro h;cases h
    | cons m pl ih=>
      intro hm;unfold inv
      by_cases e:m=l
      ·rw [if_pos e];simp [e]
      ·rw [if_neg e,List.getElem?_cons_succ];rcases List.mem_cons.1 hm with h | h
       ·exact(e h.symm).elim
       ·exact ih h
   rw [this il hm]at hq;cases hq
mutual
theorem aMt{pl:List Nat}{n:Nat} : ∀(v:AVal),v.within pl=true->(v.ren (inv pl)).ren (iota pl n)=v
 | .bool _,_=>rfl
 | .int _ _,_=>rfl
 | .str _,_=>rfl
 | .ptr l off,h=>by simp only [AVal.ren];rw [lB h]
 | .slice l off len sz,h=>by simp only [AVal.ren];rw [lB h]
 | .map l,h=>by simp only [AVal.ren];rw [lB h]
 | .func fn f c,h=>by
   simp only [AVal.within,Bool.and_eq_true]at h;simp only [AVal.ren];rw [aLW f h.1,aLW c h.2]
 | .iface t a,h=>by simp only [AVal.ren];rw [aMt a h]
 | .agg as,h=>by simp only [AVal.ren];rw [aLW as h]
 | .tup as,h=>by simp only [AVal.ren];rw [aLW as h]
 | .raw _,_=>rfl
 | .any,_=>rfl
 | .O,_=>rfl
 | .iview _ _,_=>rfl
 | .view _ _ _,_=>rfl
 | .cptr _,_=>rfl
 | .tslice l r n w,h=>by simp only [AVal.ren];rw [lB h]
 | .tptr l r w j,h=>by simp only [AVal.ren];rw [lB h]
 | .empty,_=>rfl
theorem aLW{pl:List Nat}{n:Nat} : ∀(v:List AVal),aLA pl v=true->aLL (iota pl n) (aLL (inv pl) v)=v
 | [],_=>rfl
 | a::as,h=>by
   simp only [aLA,Bool.and_eq_true]at h;simp only [aLL];rw [aMt a h.1,aLW as h.2]
end
theorem vP{pl:List Nat}{n:Nat} : ∀(ps:List Nat),nL pl ps=true->(ps.map (inv pl)).map (iota pl n)=ps
 | [],_=>rfl
 | p::ps,h=>by
   simp only [nL,Bool.and_eq_true]at h;simp only [List.map_cons];rw [lB h.1,vP ps h.2]
theorem aMe{pl:List Nat}{n:Nat}(e:aG A)(h:e.within pl=true):(e.ren (inv pl)).ren (iota pl n)=e:=by
 cases e with
 | cells vs=>simp only [aG.ren];rw [aLW vs h]
 | ints c xs=>rfl
 | abs t ps=>simp only [aG.ren];rw [vP ps h]
 | tab ks rows=>rfl
 | imap kk vc m=>rfl
 | iter lm kk vc m left cur=>simp only [aG.ren];rw [lB h]
section
variable {P:Program} {I:Itp A}
def aI.ok(I:Itp A)(P:Program)(f:FuncId)(F:aI A):Prop:=
 ∀args h o,F args h=some o-> ∀K,o.run K->aA I P f args h K
def rF(cs:List (Place×gS))(F:aI A):aI A:=fun args h=>match gW cs args h with
 | some (a,g)=>F a g
 | none=>none
theorem tT{f:FuncId}{cs:List (Place×gS)}{F:aI A}(hF:aI.ok I P f F):aI.ok I P f (rF cs F):=by
 intro args h o ho K hK;unfold rF at ho;split at ho
 ·rename_i a g hc;intro V hR w aa hi hf hr;obtain⟨V',⟨v1,v2,v3,v4⟩,v5⟩:=fK hc hi hf hr;refine(hF a g o ho K hK V' hR w aa v4 v2 v5).mono ?_;rintro e w' ⟨v,v',V'',h',k1,k2,k3,k4,k5,k6,k7,k8⟩;exact⟨v,v',V'',h',k1,k2,k3,Val.le_trans v1 k4,k5,Nat.le_trans v3 k6,k7,k8⟩
 ·cases ho
theorem kI{f:FuncId}{F:aI A}(hF:aI.ok I P f F):yB.ok I P f (nZ F):=by
 intro args h K hS;unfold nZ at hS;obtain⟨hg,hS⟩:=bL.1 hS;obtain⟨ah,ag⟩:=Bool.and_eq_true_iff.1 hg;split at hS
 ·exact hS.elim
 ·rename_i h0 ht;split at hS
  ·exact hS.elim
  ·rename_i o ho;obtain⟨ae,af⟩:=gO ah;obtain⟨aa,ac⟩:=iR ht;refine aMc (hF _ _ _ ho _ hS) (foot args h) aa.symm ae af ?_ ?_ ?_
   ·intro i l hi;obtain⟨e,e1,e2,e3⟩:=ac i l hi;rw [e1,e3];simp only [Option.map_some];rw [aMe e e2]
   ·exact(aLW args ag).symm
   ·intro v g hK hl;obtain⟨hb,hK⟩:=bL.1 hK;rw [KV _ _ _ _ (Nat.le_of_ble_eq_true hb)]at hK;exact hK
end
end Go.Sh
namespace Go.Sh
open Go
variable [Con] {A:Type}
mutual
theorem aL6{V V':Val}{pl:List Nat}(hV: ∀l,pl.elem l=true->V l=V' l): ∀(a:AVal) (v:Value),a.within pl=true->Rep V a v->Rep V' a v
 | .bool _,_,_,r=>r
 | .int _ _,_,_,r=>r
 | .str _,_,_,r=>r
 | .ptr l off,_,h,⟨b,k,hl,hv⟩=>⟨b,k,by rw [<-hV l h];exact hl,hv⟩
 | .slice l off len sz,_,h,⟨base,cap,hv,hc,r⟩=>⟨base,cap,hv,hc,r.imp (fun⟨b,k,hl,e⟩=>⟨b,k,by rw [<-hV l h];exact hl,e⟩) id⟩
 | .map l,_,h,⟨b,k,hl,hv⟩=>⟨b,k,by rw [<-hV l h];exact hl,hv⟩
 | .func _ f c,_,h,⟨fs,cs,hv,r,s⟩=>by
   simp only [AVal.within,Bool.and_eq_true]at h;exact⟨fs,cs,hv,aLV hV f _ h.1 r,aLV hV c _ h.2 s⟩
 | .iface _ a,_,h,⟨x,hv,r⟩=>⟨x,hv,aL6 hV a _ h r⟩
 | .agg as,_,h,⟨cs,hv,r⟩=>⟨cs,hv,aLV hV as _ h r⟩
 | .tup as,_,h,⟨cs,hv,r⟩=>⟨cs,hv,aLV hV as _ h r⟩
 | .raw _,_,_,r=>r
 | .any,_,_,r=>r
 | .O,_,_,r=>r
 | .iview _ _,_,_,r=>r
 | .view _ _ _,_,_,r=>r
 | .cptr _,_,_,r=>r
 | .tslice l _ _ _,_,h,⟨base,cap,hv,hc,r⟩=>⟨base,cap,hv,hc,r.imp (fun⟨b,k,hl,e⟩=>⟨b,k,by rw [<-hV l h];exact hl,e⟩) id⟩
 | .tptr l _ _ _,_,h,⟨b,k,hl,hv⟩=>⟨b,k,by rw [<-hV l h];exact hl,hv⟩
 | .empty,_,_,r=>r
theorem aLV{V V':Val}{pl:List Nat}(hV: ∀l,pl.elem l=true->V l=V' l): ∀(a:List AVal) (v:List Value),aLA pl a=true->aH V a v->aH V' a v
 | [],_,_,r=>r
 | a::as,_,h,⟨v,vs,e,r,s⟩=>by
   simp only [aLA,Bool.and_eq_true]at h;exact⟨v,vs,e,aL6 hV a v h.1 r,aLV hV as vs h.2 s⟩
end
section
variable {P:Program} {I:Itp A}
theorem sS{pl:List Nat} : ∀ {ps:List Nat},nL pl ps=true-> ∀m∈ps,pl.elem m=true
 | [],_,_,hm=>by cases hm
 | p::ps,h,m,hm=>by
   simp only [nL,Bool.and_eq_true]at h;rcases List.mem_cons.1 hm with rfl | hm
   ·exact h.1
   ·exact sS h.2 m hm
theorem aMr{V V':Val}{pl:List Nat}(hV: ∀l,pl.elem l=true->V l=V' l){h:bE A}{hR:PHeap}{w:World}(hin: ∀l e,h l=some e->pl.elem l=true/\e.within pl=true)(hi:Inv I V h hR w):Inv I V' h hR w:=by
 obtain⟨hs,h1,h2,h3,h4,h5,h6⟩:=hi;refine⟨hs,?_,h2,h3,h4,h5,h6⟩;intro l e he;obtain⟨q1,q2⟩:=hin l e he;have hi:=h1 l e he;cases e with
 | cells vs=>
   obtain⟨b,k,hl,cs,T,e1,e2,rs,tail,e3,r⟩:=hi;exact⟨b,k,by rw [<-hV l q1];exact hl,cs,T,e1,e2,rs,tail,e3,aLV hV _ _ q2 r⟩
 | ints c xs=>
   rcases hi with⟨e1,e2,b,hl⟩ | ⟨b,k,hl,r⟩
   ·exact .inl ⟨e1,e2,b,by rw [<-hV l q1];exact hl⟩
   ·exact .inr ⟨b,k,by rw [<-hV l q1];exact hl,r⟩
 | abs t ps=>
   obtain⟨b,k,hl,bs,hb,r⟩:=hi;exact⟨b,k,by rw [<-hV l q1];exact hl,bs,gG.congr (fun m hm=>hV m (sS q2 m hm)) hb,r⟩
 | tab ks rows=>
   rcases hi with⟨e1,e2,b,hl⟩ | ⟨b,k,hl,r⟩
   ·exact .inl ⟨e1,e2,b,by rw [<-hV l q1];exact hl⟩
   ·exact .inr ⟨b,k,by rw [<-hV l q1];exact hl,r⟩
 | imap kk vc m=>
   obtain⟨b,k,hl,r⟩:=hi;exact⟨b,k,by rw [<-hV l q1];exact hl,r⟩
 | iter lm kk vc m left cur=>
   obtain⟨b,k,hl,bm,km,hm,r⟩:=hi;exact⟨b,k,by rw [<-hV l q1];exact hl,bm,km,by rw [<-hV lm q2];exact hm,r⟩
theorem Inv.dom{V:Val}{h:bE A}{hR:PHeap}{w:World}(hi:Inv I V h hR w){l:Nat}{e:aG A}(he:h l=some e): ∃x,V l=some x:=by
 obtain⟨hs,h1,_⟩:=hi;have:=h1 l e he;cases e with
 | cells vs=>obtain⟨b,k,hl,_⟩:=this;exact⟨_,hl⟩
 | ints c xs=>
   rcases this with⟨_,_,b,hl⟩ | ⟨b,k,hl,_⟩
   ·exact⟨_,hl⟩
   ·exact⟨_,hl⟩
 | abs t ps=>obtain⟨b,k,hl,_⟩:=this;exact⟨_,hl⟩
 | tab ks rows=>
   rcases this with⟨_,_,b,hl⟩ | ⟨b,k,hl,_⟩
   ·exact⟨_,hl⟩
   ·exact⟨_,hl⟩
 | imap kk vc m=>obtain⟨b,k,hl,_⟩:=this;exact⟨_,hl⟩
 | iter lm kk vc m left cur=>obtain⟨b,k,hl,_⟩:=this;exact⟨_,hl⟩
def Out.det:Out A->Option (Option Prop×AVal×aC A)
 | .ret v g=>some (none,v,g)
 | .pre p o=>match o.det with
   | some (q,v,g)=>some (some (p/\onp q),v,g)
   | none=>none
 | _=>none
theorem aMD{K:AVal->aC A->Prop} : ∀ {o:Out A} {q:Option Prop} {v:AVal} {g:aC A},o.det=some (q,v,g)->onp q->K v g->o.run K
 | .ret v g,q,v',g',h,_,hk=>by
   simp only [Out.det,sI',pI']at h;obtain⟨_,rfl,rfl⟩:=h;exact hk
 | .pre p o,q,v',g',h,hq,hk=>by
   simp only [Out.det]at h;split at h
   ·rename_i q' v2 g2 hd;simp only [sI',pI']at h;obtain⟨rfl,rfl,rfl⟩:=h;exact⟨hq.1,aMD hd hq.2 hk⟩
   ·cases h
 | .ite _ _ _,_,_,_,h,_,_=>by simp [Out.det]at h
 | .all _ _ _,_,_,_,h,_,_=>by simp [Out.det]at h
def iT:aC A->Option (List (aG A))
 | []=>some []
 | some e::h=>(iT h).map (e:: ·)
 | none::_=>none
theorem vQ: ∀ {h:aC A} {l:List (aG A)},iT h=some l->h=l.map some
 | [],l,e=>by simp [iT]at e;subst e;rfl
 | some x::h,l,e=>by
   simp only [iT]at e;cases hq:iT h with
   | none=>rw [hq]at e;cases e
   | some l'=>rw [hq]at e;simp at e;subst e;simp [vQ hq]
 | none::h,l,e=>by simp [iT]at e
def cT(n:Nat)(g:aC A):Bool:=g.all fun e=>match e with
 | some e=>e.within (upto 0 n)
 | none=>true
def pO(ι:Nat->Nat):List Nat->aC A->List (Nat×Option (aG A))
 | l::il,e::g=>(l,e.map (aG.ren ι))::pO ι il g
 | _,_=>[]
theorem zQ(ι:Nat->Nat): ∀(il:List Nat) (g h:aC A),hupd h (pO ι il g)=jJ il ((g.take il.length).map (Option.map (aG.ren ι))) h
 | [],_,h=>rfl
 | l::il,[],h=>rfl
 | l::il,e::g,h=>by
   simp only [pO,List.length_cons,List.take_succ_cons,List.map_cons];show hupd (h.set l _) (pO ι il g)=jJ il _ (h.set l _);exact zQ ι il g _
def qF(F:aI A):nR A:=fun args h=>
 let il:=foot args h
 if (dW il h.length&&aLA il args)=true then
  match nO il h il with
  | none=>none
  | some h0=>match F (aLL (inv il) args) h0 with
    | none=>none
    | some o=>match o.det with
      | none=>none
      | some (q,v,g)=>
        match iT (g.drop il.length)with
        | none=>none
        | some new=>
          if (Nat.ble il.length g.length&&v.within (upto 0 g.length)&&cT g.length g)=true then
           some {v:=v.ren (iota il h.length),upd:=pO (iota il h.length) il g,new:=new.map (aG.ren (iota il h.length)),foot:=il,need:=q}
          else none
 else none
theorem iG: ∀(n i l:Nat),(upto i n).elem l=true↔i<=l/\l<i+n
 | 0,i,l=>by simp only [upto,List.elem_eq_mem,List.not_mem_nil,decide_false];constructor
             ·intro h;cases h
             ·intro h;omega
 | n+1,i,l=>by
   simp only [upto,List.elem_eq_mem,List.mem_cons,dT'];have:=iG n (i+1) l;simp only [List.elem_eq_mem,dT']at this;rw [this];omega
theorem sX{f:FuncId}{F:aI A}(hF:aI.ok I P f F):nR.ok I P f (qF F):=by
 intro args h r hS bq V hR w al hi hf hr;unfold qF at hS;simp only at hS;split at hS
 case isFalse=>cases hS
 rename_i hg;obtain⟨bv,bf⟩:=Bool.and_eq_true_iff.1 hg;split at hS
 ·cases hS
 rename_i h0 ht;split at hS
 ·cases hS
 rename_i o ho;split at hS
 ·cases hS
 rename_i q v0 g0 bh;split at hS
 ·cases hS
 rename_i new a7;split at hS
 case isFalse=>cases hS
 rename_i bi;obtain⟨ax,ar⟩:=Bool.and_eq_true_iff.1 bi;obtain⟨ba,bn⟩:=Bool.and_eq_true_iff.1 ax;have b5:=Nat.le_of_ble_eq_true ba;simp only [sI']at hS;subst hS;generalize hil:foot args h=il at*;have az:onp q:=bq;have bd:=vQ a7;obtain⟨au,ag⟩:=gO bv;obtain⟨b4,aj⟩:=iR ht;have ao:=D4 (n:=h.length) au ag
 have a6:new.length=g0.length - il.length:=by
  have:=congrArg List.length bd
  simpa using this.symm
 have bx:gT V h.length (g0.length - il.length):=by
  have:(new.map (aG.ren (iota il h.length))).length =g0.length - il.length:=by rw [List.length_map,a6]
  have bg:gT V h.length (new.map (aG.ren (iota il h.length))).length :=hf;rw [this]at bg;exact bg
 have aq: ∀ {i a},il[i]? =some a->i<il.length:=by
  intro i a hi;cases Nat.lt_or_ge i il.length with
  | inl g=>exact g
  | inr g=>rw [List.getElem?_eq_none g]at hi;cases hi
 classical
 obtain⟨ak,bs,av⟩:=hi.split (fun l=>decide (l∈il))
 let Vr:Val:=fun l=>if l∈il then V l else none
 have bl: ∀l,il.elem l=true->V l=Vr l:=by
  intro l hl;show V l=if l∈il then V l else none
  rw [if_pos (List.elem_iff.1 hl)]
 have bc:Inv I Vr (fun l=>if (fun l=>decide (l∈il)) l then toF h l else none) ak w:=by
  refine aMr bl ?_ bs;intro l e he
  by_cases hl:l∈il
  ·rw [if_pos (by simpa using hl)]at he
   obtain⟨i,bt,ae⟩:=List.getElem_of_mem hl;obtain⟨e',a1,a2,_⟩:=aj i l (by rw [gE' bt,ae])
   have ah:aL h l=some e:=he;rw [a1]at ah;cases ah;exact⟨List.elem_iff.2 hl,a2⟩
  ·rw [if_neg (by simpa using hl)]at he;cases he
 have b2:Inv I (fun i=>Vr (iota il h.length i)) (toF h0) ak w:=by
  refine(aL4 ao ?_ ?_).1 bc
  ·intro i;cases aa:il[i]? with
   | some l=>
     have e1:iota il h.length i=l:=kM aa;obtain⟨e,a1,a2,a3⟩:=aj i l aa;rw [e1,if_pos (by simpa using List.mem_of_getElem? aa)]
     show aL h l=(aL h0 i).map _;rw [a1,a3];simp only [Option.map_some];rw [aMe e a2]
   | none=>
     have e1:=iP (n:=h.length) aa;have ae:=List.getElem?_eq_none_iff.1 aa;rw [e1,if_neg (by simp;intro hm;have:=ag _ hm;omega)]
     have:toF h0 i=none:=cC omz;rw [this];rfl
  ·intro m hm;rw [if_neg];simp only [dT'];intro ac;obtain⟨i,af,he⟩:=List.getElem_of_mem ac;refine hm i ?_;rw [kM (by rw [gE' af,he])]
 have bw:bO (fun i=>Vr (iota il h.length i)) h0.length:=by
  intro i hi;show Vr (iota il h.length i)=none;have:il[i]? =none:=List.getElem?_eq_none omz;rw [iP this];show(if _∈il then _ else none)=none
  rw [if_neg];intro hm;have:=ag _ hm;omega
 have bp:aH (fun i=>Vr (iota il h.length i)) (aLL (inv il) args) al.toList:=by
  refine(aH.ren _ _).1 ?_;rw [aLW args bf];exact aLV bl _ _ bf hr
 refine(hF _ _ _ ho (fun v g=>v=v0/\g=g0) (aMD bh az ⟨rfl,rfl⟩) _ ak w al b2 bw bp).mono ?_;rintro e w' ⟨v,v',V',g,⟨rfl,rfl⟩,k2,k3,k4,k5,k6,k7,k8⟩
 let V1:Val:=fun m=>if h.length<=m/\m<h.length+(g.length - il.length)then V' (il.length+(m - h.length))else V m
 have bb:V.le V1:=by
  intro m x hm;show(if _ then _ else _)=some x
  by_cases hc:h.length<=m/\m<h.length+(g.length - il.length)
  ·rw [bx m hc.1 hc.2]at hm;cases hm
  ·rw [if_neg hc];exact hm
 have b1: ∀i,i<g.length->V1 (iota il h.length i)=V' i:=by
  intro i b6;cases aa:il[i]? with
  | some l=>
    have e1:iota il h.length i=l:=kM aa;have hl:=ag l (List.mem_of_getElem? aa);obtain⟨e,a1,_,_⟩:=aj i l aa;obtain⟨x,hx⟩:=hi.dom (l:=l) a1
    have bm:Vr (iota il h.length i)=some x:=by
     rw [e1];show(if l∈il then V l else none)=some x
     rw [if_pos (List.mem_of_getElem? aa)];exact hx
    rw [k4 i x bm,e1];show(if _ then _ else _)=some x
    rw [if_neg omz];exact hx
  | none=>
    have ae:=List.getElem?_eq_none_iff.1 aa;rw [iP aa];show(if _ then _ else _)=_
    rw [if_pos omz];congr 1;omega
 have bk: ∀l,(upto 0 g.length).elem l=true->V' l=(fun i=>V1 (iota il h.length i)) l:=by
  intro l hl;have:=(iG _ _ _).1 hl;exact(b1 l omz).symm
 have bu:Inv I (fun i=>V1 (iota il h.length i)) (toF g) ak w':=by
  refine aMr bk ?_ k7;intro l e he;have a8:l<g.length:=cH (h:=g) he;refine⟨(iG _ _ _).2 omz,?_⟩;unfold cT at ar;rw [List.all_eq_true]at ar;have ah:aL g l=some e:=he;unfold aL at ah;rw [gD',gE' a8]at ah;have:=ar g[l] (List.getElem_mem a8);have b0:g[l]=some e:=ah;rw [b0]at this;exact this
 let G:bE A:=fun m=>if h.length<=m then(aL g (il.length+(m - h.length))).map (aG.ren (iota il h.length))else if hm: ∃i:Nat,il[i]? =some m then(aL g (Classical.choose hm)).map (aG.ren (iota il h.length))else none
 have hG: ∀i,G (iota il h.length i)=(toF g i).map (aG.ren (iota il h.length)):=by
  intro i;cases aa:il[i]? with
  | some l=>
    have e1:iota il h.length i=l:=kM aa;have hl:=ag l (List.mem_of_getElem? aa);have hm: ∃i:Nat,il[i]? =some l:=⟨i,aa⟩;show(if h.length<=iota il h.length i then _ else _)=_
    rw [e1,if_neg omz,dif_pos hm];have hc:=Classical.choose_spec hm;have:=(List.getElem?_inj (aq hc) au).1 (hc.trans aa.symm);rw [this];rfl
  | none=>
    have e1:=iP (n:=h.length) aa;have ae:=List.getElem?_eq_none_iff.1 aa;show(if h.length<=iota il h.length i then _ else _)=_
    rw [e1,if_pos omz,show il.length+(h.length+(i - il.length) - h.length)=i from by omega]
    rfl
 have b3: ∀m,(∀l,iota il h.length l≠m)->G m=none:=by
  intro m hm;show(if h.length<=m then _ else _)=none
  by_cases ae:h.length<=m
  ·refine(hm (il.length+(m - h.length)) ?_).elim;rw [iP (List.getElem?_eq_none omz)];omega
  ·rw [if_neg ae,dif_neg];rintro⟨i,hi⟩;exact hm i (kM hi)
 have ay:Inv I V1 G ak w':=(aL4 ao hG b3).2 bu
 have ap:=av V1 G w' bb ay (by
  intro l hl ai;have br:l∉il:=by simpa using hl
  have am:l<h.length:=by
   cases Nat.lt_or_ge l h.length with
   | inl g=>exact g
   | inr g=>exact(ai (cC g)).elim
  show(if h.length<=l then _ else _)=none
  rw [if_neg omz,dif_neg];rintro⟨i,hi⟩;exact br (List.mem_of_getElem? hi))
 have bo:((g.take il.length).map (Option.map (aG.ren (iota il h.length)))).length =il.length:=by
  rw [List.length_map,List.length_take];omega
 generalize hap:ORes.apply (A:=A) {v:=v.ren (iota il h.length),upd:=pO (iota il h.length) il g,new:=new.map (aG.ren (iota il h.length)),foot:=il,need:=q} h=apl
 have bj:apl=jJ il ((g.take il.length).map (Option.map (aG.ren (iota il h.length)))) h++(g.drop il.length).map (Option.map (aG.ren (iota il h.length))):=by
  rw [<-hap];show hupd h (pO (iota il h.length) il g)++(new.map (aG.ren (iota il h.length))).map some=_;rw [zQ,bd]
  simp
 have bz:(fun l=>if (fun l=>decide (l∈il)) l=false/\toF h l≠none then toF h l else G l)=toF apl:=by
  rw [bj];funext m;show _=aL (jJ il ((g.take il.length).map (Option.map (aG.ren (iota il h.length)))) h++(g.drop il.length).map (Option.map (aG.ren (iota il h.length)))) m
  by_cases ae:h.length<=m
  ·have e0:toF h m=none:=cC ae;rw [if_neg (by rw [e0];simp)]
   show(if h.length<=m then _ else _)=_
   rw [if_pos ae];simp only [aL,gD'];rw [List.getElem?_append_right (by rw [d8];exact ae),d8,List.getElem?_map,List.getElem?_drop]
   cases hq:g[il.length+(m - h.length)]? with
   | none=>rfl
   | some x=>rfl
  ·have am:m<h.length:=by omega
   rw [cN (by rw [d8];exact am)]
   by_cases ac:m∈il
   ·obtain⟨i,af,he⟩:=List.getElem_of_mem ac;have aa:il[i]? =some m:=by rw [gE' af,he]
    rw [if_neg (by simp [ac]),tC il _ h i m au ag aa (by rw [bo];exact af)]
    have:=hG i;rw [kM aa]at this;rw [this,gD',List.getElem?_map,List.getElem?_take,if_pos af];show Option.map _ (aL g i)=_;simp only [aL,gD'];cases g[i]? <;>rfl
   ·rw [lR il _ h m ac]
    by_cases ai:toF h m=none
    ·rw [if_neg (by simp [ai])]
     show(if h.length<=m then _ else _)=_
     rw [if_neg ae,dif_neg]
     ·exact ai.symm
     ·rintro⟨i,hi⟩;exact ac (List.mem_of_getElem? hi)
    ·rw [if_pos ⟨by simp [ac],ai⟩];rfl
 rw [bz]at ap;refine⟨v',V1,k2,?_,bb,?_,ap,k8⟩
 ·refine(Rep.ren v v').2 ?_;exact aL6 bk _ _ bn k3
 ·intro l e1 e2;show h.length<=l/\l<h.length+(new.map (aG.ren (iota il h.length))).length;rw [List.length_map,a6]
  by_cases hc:h.length<=l/\l<h.length+(g.length - il.length)
  ·exact hc
  ·exfalso;apply e2;show(if _ then _ else _)=none
   rw [if_neg hc];exact e1
def Env.addS(E:Env A P)(f:FuncId)(F:aI A)(h:aI.ok E.I P f F):Env A P where
 I:=E.I
 cps:=fun g=>if g=f then some (nZ F)else E.cps g
 det:=fun g=>if g=f then some (qF F)else E.det g
 meth:=E.meth
 cpsOk:=by
  intro g T hg
  by_cases e:g=f
  ·rw [if_pos e]at hg;cases hg;rw [e];exact kI h
  ·rw [if_neg e]at hg;exact E.cpsOk g T hg
 detOk:=by
  intro g T hg
  by_cases e:g=f
  ·rw [if_pos e]at hg;cases hg;rw [e];exact sX h
  ·rw [if_neg e]at hg;exact E.detOk g T hg
 methOk:=E.methOk
 row:=E.row
 rowOk:=E.rowOk
 fld:=E.fld
 fldOk:=E.fldOk
end
end Go.Sh
namespace Go.Sh
open Go
def H0(P:Program)(t:TypeId)(name:String):Option FuncId:=
 match P.info? t,P.underlying t with
 | some i,some (.pointer _)=>match i.methods.toList.find? (·.name == name)with
   | some m=>match m.path.toList,m.func with
     | [],some (f,true)=>some f
     | _,_=>none
   | none=>none
 | _,_=>none
theorem H1{P:Program}{t:TypeId}{name:String}{f:FuncId}(h:H0 P t name=some f)(v:Value)(w:World):(method (P.types.size+Made.depth) t v name).run P w=.ok (f,v) w:=by
 unfold H0 at h;split at h
 ·rename_i i e hi hu;split at h
  ·rename_i m hm;split at h
   ·rename_i f' hp hf;simp only [sI']at h;subst h;rw [Array.find?_toList]at hm
    have hd:P.types.size+Made.depth=(P.types.size+(Made.depth - 1))+1:=by
     have:Made.depth≠0:=by decide
     omega
    rw [hd];unfold method;have aa:(typeInfo t).run P w=.ok i w:=by simp [typeInfo,hi]
    simp only [Sem.run_bind,aa,Result.andThen_ok,hm,hp,follow,Sem.run_pure,hf,receiverAt,underlying,run_program,hu,Go.Place.get]
   ·cases h
  ·cases h
 ·cases h
end Go.Sh
namespace Go.Sh
open Go
variable [Con] {A:Type}
abbrev aZ(A:Type):=List AVal->aC A->Option (Prop×AVal)
def aZ.spec(F:aZ A):aI A:=fun args h=>match F args h with
 | some (p,v)=>some (.pre p (.ret v h))
 | none=>none
theorem aZ.mk{I:Itp A}{P:Program}{f:FuncId}{F:aZ A}(H: ∀args h p v,F args h=some (p,v)->p-> ∀K:AVal->aC A->Prop,K v h->aA I P f args h K):aI.ok I P f F.spec:=by
 intro args h o ho K hK;unfold aZ.spec at ho;split at ho
 ·rename_i p v hv;cases ho;exact H args h p v hv hK.1 K hK.2
 ·cases ho
def GV(F:aZ A):nR A:=fun args h=>
 let il:=foot args h
 if (dW il h.length&&aLA il args)=true then
  match nO il h il with
  | none=>none
  | some h0=>match F (aLL (inv il) args) h0 with
    | none=>none
    | some (p,v)=>
      if (v.within (upto 0 il.length))=true then
       some {v:=v.ren (iota il h.length),upd:=[],new:=[],foot:=il,need:=some p}
      else none
 else none
theorem A9(pl:List Nat)(h:aC A): ∀(ls:List Nat) (g:aC A),nO pl h ls=some g-> ∀(i:Nat) (e:aG A),aL g i=some e-> ∃e' l,e=aG.ren (inv pl) e'/\e'.within pl=true/\ls[i]? =some l/\aL h l=some e'
 | ls,g,ht,i,e,he=>by
   obtain⟨q1,q2⟩:=iR ht;have hlt:=cH he;have:ls[i]? =some (ls[i]'omz):=gE' omz;obtain⟨e',a1,a2,a3⟩:=q2 i _ this;rw [he]at a3;exact⟨e',_,by simpa using a3,a2,this,a1⟩
theorem tI{h:aC A}{il pl:List Nat}(n:Nat): ∀ {ls:List Nat} {g:aC A},nO il h ls=some g->hupd h (pO (iota il n) ls g)=h
 | [],g,ht=>by cases g<;>rfl
 | l::ls,g,ht=>by
   simp only [nO]at ht;split at ht
   ·rename_i e g' h1 h2;cases hw:e.within il with
    | false=>rw [hw]at ht;cases ht
    | true=>
      rw [hw]at ht;simp only [cond_true,sI']at ht;subst ht;show hupd (h.set l ((some (e.ren (inv il))).map (aG.ren (iota il n)))) (pO (iota il n) ls g')=h
      have:h.set l ((some (e.ren (inv il))).map (aG.ren (iota il n)))=h:=by
       simp only [Option.map_some];rw [aMe e hw,<-h1];apply List.ext_getElem?;intro i
       by_cases hi:l=i
       ·subst hi;have hl:=cH (h:=h) h1;rw [List.getElem?_set_self hl,gE' hl];simp [aL,gD',gE' hl]
       ·rw [List.getElem?_set_ne hi]
      rw [this];exact tI (pl:=pl) n h2
   ·cases ht
theorem BS:iT ([]:aC A)=some []:=rfl
section
variable {P:Program} {I:Itp A}
theorem qP{pl:List Nat}{l:Nat}(h:pl.elem l=true):(upto 0 pl.length).elem (inv pl l)=true:=by
 rw [iG];refine⟨Nat.zero_le _,?_⟩;rw [Nat.zero_add];have hm:l∈pl:=List.elem_iff.1 h;clear h
 induction pl with
 | nil=>cases hm
 | cons m pl ih=>
   unfold inv
   by_cases e:m=l
   ·rw [if_pos e];simp
   ·rw [if_neg e];rcases List.mem_cons.1 hm with h | h
    ·exact(e h.symm).elim
    ·have:=ih h;simp;omega
mutual
theorem aMn{pl:List Nat} : ∀(v:AVal),v.within pl=true->(v.ren (inv pl)).within (upto 0 pl.length)=true
 | .bool _,_=>rfl
 | .int _ _,_=>rfl
 | .str _,_=>rfl
 | .ptr l off,h=>qP (pl:=pl) h
 | .slice l off len sz,h=>qP (pl:=pl) h
 | .map l,h=>qP (pl:=pl) h
 | .func fn f c,h=>by
   simp only [AVal.within,Bool.and_eq_true]at h;simp only [AVal.ren,AVal.within,Bool.and_eq_true];exact⟨aLY f h.1,aLY c h.2⟩
 | .iface t a,h=>aMn a h
 | .agg as,h=>aLY as h
 | .tup as,h=>aLY as h
 | .raw _,_=>rfl
 | .any,_=>rfl
 | .O,_=>rfl
 | .iview _ _,_=>rfl
 | .view _ _ _,_=>rfl
 | .cptr _,_=>rfl
 | .tslice l r n w,h=>qP (pl:=pl) h
 | .tptr l r w j,h=>qP (pl:=pl) h
 | .empty,_=>rfl
theorem aLY{pl:List Nat} : ∀(v:List AVal),aLA pl v=true->aLA (upto 0 pl.length) (aLL (inv pl) v)=true
 | [],_=>rfl
 | a::as,h=>by
   simp only [aLA,Bool.and_eq_true]at h;simp only [aLL,aLA,Bool.and_eq_true];exact⟨aMn a h.1,aLY as h.2⟩
end
theorem yG{pl:List Nat} : ∀(ps:List Nat),nL pl ps=true->nL (upto 0 pl.length) (ps.map (inv pl))=true
 | [],_=>rfl
 | p::ps,h=>by
   simp only [nL,Bool.and_eq_true]at h;simp only [List.map_cons,nL,Bool.and_eq_true];exact⟨qP h.1,yG ps h.2⟩
theorem aG.within_inv{pl:List Nat}(e:aG A)(h:e.within pl=true):(e.ren (inv pl)).within (upto 0 pl.length)=true:=by
 cases e with
 | cells vs=>exact aLY vs h
 | ints c xs=>rfl
 | abs t ps=>exact yG ps h
 | tab ks rows=>rfl
 | imap kk vc m=>rfl
 | iter lm kk vc m left cur=>exact qP h
theorem tN{il:List Nat}{h g:aC A}(ht:nO il h il=some g)(hnd:il.Nodup):cT g.length g=true:=by
 unfold cT;rw [List.all_eq_true];intro e he;cases e with
 | none=>rfl
 | some e=>
   obtain⟨i,hi,aa⟩:=List.getElem_of_mem he;have hx:aL g i=some e:=by simp [aL,gD',gE' hi,aa]
   obtain⟨e',l,a1,a2,_,_⟩:=A9 il h il g ht i e hx;rw [a1,(iR ht).1];exact aG.within_inv e' a2
theorem LI{f:FuncId}{F:aZ A}(hF:aI.ok I P f F.spec):nR.ok I P f (GV F):=by
 intro args h r hS ae V hR w aa hi hf hr
 have hD: ∃r',qF F.spec args h=some r'/\r'.v=r.v/\r'.new=[]/\r.new=[]/\r.upd=[]/\hupd h r'.upd=h/\(r.obl->r'.obl):=by
  unfold GV at hS;simp only at hS;split at hS
  case isFalse=>cases hS
  rename_i hg;split at hS
  ·cases hS
  rename_i h0 ht;split at hS
  ·cases hS
  rename_i p v ho;split at hS
  case isFalse=>cases hS
  rename_i hv;simp only [sI']at hS;subst hS;obtain⟨ag,aj⟩:=Bool.and_eq_true_iff.1 hg;obtain⟨af,ai⟩:=gO ag;obtain⟨ac,ah⟩:=iR ht;have hw:=tN ht af;refine⟨{v:=v.ren (iota (foot args h) h.length),upd:=pO (iota (foot args h) h.length) (foot args h) h0,new:=[],foot:=foot args h,need:=some (p/\True) },?_,rfl,rfl,rfl,rfl,tI (pl:=[]) _ ht,fun hp=>⟨hp,trivial⟩⟩;unfold qF;simp only [hg,if_true,ht,aZ.spec,ho,Out.det];rw [List.drop_eq_nil_of_le omz,BS];simp only;rw [hw,ac,hv];simp [onp]
 obtain⟨r',e1,e2,e3,e4,e5,e6,e7⟩:=hD;have:=sX hF args h r' e1 (e7 ae) V hR w aa hi (by rw [e3];rw [e4]at hf;exact hf) hr
 refine this.mono ?_;rintro e w' ⟨v',V',k1,k2,k3,k4,k5,k6⟩;refine⟨v',V',k1,by rw [<-e2];exact k2,k3,by rw [e4];rw [e3]at k4;exact k4,?_,k6⟩
 have ha:r'.apply h=r.apply h:=by
  unfold ORes.apply;rw [e6,e3,e4,e5];rfl
 rw [<-ha];exact k5
def Env.addR(E:Env A P)(f:FuncId)(F:aZ A)(h:aI.ok E.I P f F.spec):Env A P where
 I:=E.I
 cps:=fun g=>if g=f then some (nZ F.spec)else E.cps g
 det:=fun g=>if g=f then some (GV F)else E.det g
 meth:=E.meth
 cpsOk:=by
  intro g T hg
  by_cases e:g=f
  ·rw [if_pos e]at hg;cases hg;rw [e];exact kI h
  ·rw [if_neg e]at hg;exact E.cpsOk g T hg
 detOk:=by
  intro g T hg
  by_cases e:g=f
  ·rw [if_pos e]at hg;cases hg;rw [e];exact LI h
  ·rw [if_neg e]at hg;exact E.detOk g T hg
 methOk:=E.methOk
 row:=E.row
 rowOk:=E.rowOk
 fld:=E.fld
 fldOk:=E.fldOk
end
end Go.Sh
namespace Go.Sh
open Go
inductive Shp where
 | code (c:Code1)
 | str
 | ints (c:Code1)
 | rows (r:List Shp)
mutual
def Den:Shp->Type
 | .code _=>Int
 | .str =>ByteArray
 | .ints _=>List Int
 | .rows r=>List (DenL r)
def DenL:List Shp->Type
 | []=>Unit
 | s::r=>Den s×DenL r
end
mutual
def dfl:(s:Shp)->Den s
 | .code _=>(0:Int)
 | .str =>ByteArray.empty
 | .ints _=>([]:List Int)
 | .rows r=>([]:List (DenL r))
def YM:(r:List Shp)->DenL r
 | []=>()
 | s::r=>(dfl s,YM r)
end
mutual
def toA:(s:Shp)->Den s->AVal
 | .code c,n=>Code1.aval c n
 | .str,s=>.str s
 | .ints c,xs=>.iview c xs
 | .rows r,xs=>.view (List.length (α:=DenL r) xs) r.length (fun i=>jW r (List.getD (α:=DenL r) xs i (YM r)))
def jW:(r:List Shp)->DenL r->List AVal
 | [],_=>[]
 | s::r,x=>toA s x.1::jW r x.2
end
def v8:Code1->Int->Prop
 | some k,n=>(Lit.int k n).wf =true
 | none,n=>n=0\/n=1
mutual
def okS:(s:Shp)->Den s->Prop
 | .code c,n=>v8 c n
 | .str,s=>ByteArray.size s<=maxLen
 | .ints c,xs=>List.length (α:=Int) xs<=maxLen/\ ∀x:Int,List.Mem x xs->v8 c x
 | .rows r,xs=>List.length (α:=DenL r) xs<=maxLen/\ ∀x:DenL r,List.Mem x xs->OE r x
def OE:(r:List Shp)->DenL r->Prop
 | [],_=>True
 | s::r,x=>okS s x.1/\OE r x.2
end
def kO(P:Program)(rec:TypeId->Option (List Shp)):Nat->List Field->Option (List Shp)
 | _,[]=>some []
 | off,f::fs=>match rec f.type with
   | some r=>if f.offset=off/\P.cellsOf f.type=r.length then(kO P rec (off+r.length) fs).map (r++ ·)else none
   | none=>none
def VA(P:Program):Nat->TypeId->Option (List Shp)
 | 0,_=>none
 | d+1,t=>match P.underlying t with
   | some .bool =>some [.code none]
   | some (.int k)=>some [.code (some k)]
   | some .string =>some [.str]
   | some (.slice e)=>match VA P d e with
     | some [.code c]=>if P.cellsOf e=1 then some [.ints c]else none
     | some r=>if P.cellsOf e=r.length/\0<r.length then some [.rows r]else none
     | none=>none
   | some (.struct fs)=>match kO P (VA P d) 0 fs.toList with
     | some r=>if P.cellsOf t=r.length then some r else none
     | none=>none
   | some (.array n e)=>match VA P d e with
     | some r=>if P.cellsOf e=r.length/\P.cellsOf t=n*r.length then some ((List.replicate n r).flatten)else none
     | none=>none
   | _=>none
theorem uK: ∀(r:List Shp) (x:DenL r),(jW r x).length =r.length
 | [],_=>rfl
 | s::r,x=>by show(toA s x.1::jW r x.2).length =_;simp [uK r x.2]
def LD:(r q:List Shp)->DenL r->DenL q->DenL (r++q)
 | [],_,_,y=>y
 | _::r,q,x,y=>(x.1,LD r q x.2 y)
theorem xN: ∀(r q:List Shp) (x:DenL r) (y:DenL q),jW (r++q) (LD r q x y)=jW r x++jW q y
 | [],_,_,_=>rfl
 | s::r,q,x,y=>by
   show toA s x.1::jW (r++q) (LD r q x.2 y)=toA s x.1::(jW r x.2++jW q y);rw [xN r q]
theorem AS: ∀(r q:List Shp) (x:DenL r) (y:DenL q),OE r x->OE q y->OE (r++q) (LD r q x y)
 | [],_,_,_,_,h=>h
 | s::r,q,x,y,hx,hy=>⟨hx.1,AS r q x.2 y hx.2 hy⟩
theorem oB{α:Type}{p:Nat->α->Prop} : ∀(n:Nat),(∀i,i<n-> ∃x,p i x)-> ∃l:List α,l.length=n/\ ∀i (h:i<l.length),p i l[i]
 | 0,_=>⟨[],rfl,fun i h=>by simp at h⟩
 | n+1,h=>by
   obtain⟨l,h1,h2⟩:=oB n (fun i hi=>h i omz);obtain⟨x,hx⟩:=h n omz;refine⟨l++ [x],by simp [h1],?_⟩
   intro i hi
   by_cases hc:i<l.length
   ·rw [List.getElem_append_left hc];exact h2 i hc
   ·have:i=n:=by simp at hi;omega
    subst this;rw [List.getElem_append_right omz]
    simpa [h1]using hx
section
variable {H:Type} {enc:TypeId×Value->H} {P:Program} {w:World}
theorem add_zero(a:Addr):a.add 0=a:=by simp [Addr.add]
theorem yE(a:Addr)(n:Nat):(a.add n).block =a.block:=by unfold Addr.add;split<;>rfl
theorem I9(a:Addr)(n:Nat):(a.add n).off =a.off+n:=by
 unfold Addr.add;split<;>simp_all
theorem sG{a:Addr}{n:Nat}{cs:List Value}(h:w.cells? 0 a n=some cs)(hn:0<n):
 ∃c T fz,a.spot=none/\w.heap[a.block]? =some (.cells c T fz)/\(c.toList.drop a.off).take n=cs:=by
 obtain⟨_,hl,hc⟩:=World.cells?_some h;have h0:=hc 0 hn;obtain⟨v0,aa⟩: ∃v,cs[0]? =some v:=⟨cs[0],gE' omz⟩;rw [aa]at h0;have ac:a.add 0=a:=by simp [Addr.add]
 rw [ac]at h0;have hs:=World.cell?_spot h0;obtain⟨b,off,sp⟩:=a;simp only at hs;subst hs;unfold World.cell? at h0;split at h0
 ·rename_i c T fz hb;refine⟨c,T,fz,rfl,hb,?_⟩;apply List.ext_getElem?;intro j;rw [List.getElem?_take]
  by_cases hj:j<n
  ·rw [if_pos hj,List.getElem?_drop,<-hc j hj,Addr.add_lit,Array.getElem?_toList];exact(cell_of_row w b (off+j) c T fz hb).symm
  ·rw [if_neg hj,List.getElem?_eq_none omz]
 ·cases h0
theorem RH{V:Val} [Con]{r:List Shp}{x:DenL r}{c:Code1}{cs:List Value}(hr:r=[.code c])(h:aH V (jW r x) cs)(ho:OE r x): ∃n,cs=[Code1.val c n]/\v8 c n:=by
 subst hr;obtain⟨v,vs,rfl,h1,h2⟩:=h;have ac:vs=[]:=h2;subst ac;refine⟨x.1,?_,ho.1⟩;have aa:Rep V (Code1.aval c x.1) v:=h1;cases c with
 | some k=>have:v=.int k x.1:=aa;rw [this];rfl
 | none=>have:v=Code1.val none x.1:=aa;rw [this]
theorem pY [Con]{rec:TypeId->Option (List Shp)}{cs:List Value}{rd:TypeId->List Value->Prop}
 (hrec: ∀t r l,rec t=some r->rd t l-> ∃x:DenL r,OE r x/\aH (fun _=>none) (jW r x) l):
 ∀(fs:List Field) (off:Nat) (r:List Shp),kO P rec off fs=some r->off+r.length<=cs.length->(∀f∈fs,rd f.type ((cs.drop f.offset).take (P.cellsOf f.type)))->
  ∃x:DenL r,OE r x/\aH (fun _=>none) (jW r x) ((cs.drop off).take r.length)
 | [],off,r,h,_,_=>by
   simp [kO]at h;subst h;exact⟨(),trivial,by simp [jW,aH]⟩
 | f::fs,off,r,h,hl,hrd=>by
   simp only [kO]at h;cases hf:rec f.type with
   | none=>rw [hf]at h;cases h
   | some q=>
     rw [hf]at h;simp only at h;split at h
     ·rename_i hc;obtain⟨ho,hq⟩:=hc;cases hfs:kO P rec (off+q.length) fs with
      | none=>rw [hfs]at h;cases h
      | some r'=>
        rw [hfs]at h;simp at h;subst h;rw [List.length_append]at hl;obtain⟨x,ox,rx⟩:=hrec f.type q _ hf (hrd f (by simp))
        obtain⟨y,oy,ry⟩:=pY hrec fs _ r' hfs omz (fun g hg=>hrd g (by simp [hg]))
        refine⟨LD q r' x y,AS q r' x y ox oy,?_⟩;rw [xN,List.length_append,List.take_add,List.drop_drop];rw [ho,hq]at rx;exact aH.append rx ry
     ·cases h
theorem rS [Con]{P':List Value->Prop}{r:List Shp}(hr: ∀l,P' l-> ∃x:DenL r,OE r x/\aH (fun _=>none) (jW r x) l):
 ∀(n:Nat) (cs:List Value),cs.length=n*r.length->(∀i,i<n->P' ((cs.drop (i*r.length)).take r.length))->
  ∃x:DenL ((List.replicate n r).flatten),OE _ x/\aH (fun _=>none) (jW _ x) cs
 | 0,cs,hl,_=>by
   have:cs=[]:=List.length_eq_zero_iff.1 omz;subst this;exact⟨(),trivial,by simp [jW,aH]⟩
 | n+1,cs,hl,h=>by
   obtain⟨x,ox,rx⟩:=hr _ (h 0 omz);rw [Nat.zero_mul,List.drop_zero]at rx
   obtain⟨y,oy,ry⟩:=rS hr n (cs.drop r.length) (by rw [List.length_drop,hl,Nat.succ_mul];omega) (by
    intro i hi;have:=h (i+1) omz;rw [List.drop_drop];rw [show r.length+i*r.length=(i+1)*r.length from by rw [Nat.succ_mul];omega]
    exact this)
   refine⟨LD r _ x y,AS r _ x y ox oy,?_⟩;show aH _ (jW (r++(List.replicate n r).flatten) _) cs;rw [xN];have:=aH.append rx ry
   rwa [List.take_append_drop]at this
theorem VT [Con](hcon: ∀b o,w.heap[b]? =some o->Con.con b=some o): ∀(m n:Nat) (t:TypeId) (cs:List Value) (x:DataW H×List MemPlace) (held:Bool) (r:List Shp),
 DataW.trod enc P w 0 (fun _=>true) held n t cs=some x->VA P m t=some r-> ∃x:DenL r,OE r x/\aH (fun _=>none) (jW r x) cs:=by
 intro m
 induction m with
 | zero=>intro n t cs x held r _ h;simp [VA]at h
 | succ m ih=>
   intro n t cs x held r h hs;unfold VA at hs;split at hs
   ·rename_i ht;obtain⟨b,rfl,_⟩:=DataW.trod_bool ht h;simp at hs;subst hs;refine⟨((cond b 1 0:Int),()),⟨?_,trivial⟩,?_⟩
    ·show(cond b 1 0:Int)=0\/(cond b 1 0:Int)=1;cases b<;>simp
    ·refine⟨.bool b,[],rfl,?_,rfl⟩;show Value.bool b=.bool ((cond b 1 0:Int) !=0);cases b<;>rfl
   ·rename_i k ht;obtain⟨v,rfl,_,hw⟩:=DataW.trod_int ht h;simp at hs;subst hs;exact⟨(v,()),⟨hw,trivial⟩,.int k v,[],rfl,rfl,rfl⟩
   ·rename_i ht;obtain⟨s,rfl,_,hw⟩:=DataW.trod_string ht h;simp at hs;subst hs;exact⟨(s,()),⟨hw,trivial⟩,.string s,[],rfl,rfl,rfl⟩
   ·rename_i e ht;have sl:=DataW.trod_slice ht h;split at hs
    ·rename_i c he;split at hs
     case isFalse=>cases hs
     rename_i ac;simp at hs;subst hs;rcases sl with⟨rfl,_⟩ | ⟨a,len,cap,af,rest,k,_,rfl,_,_,h1,h2,h3,h4,_⟩
     ·refine⟨(([]:List Int),()),⟨⟨Nat.zero_le _,fun x h=>by cases h⟩,trivial⟩,.slice none 0 0,[],rfl,?_,rfl⟩
      exact⟨none,0,rfl,Nat.le_refl _,.inr rfl⟩
     ·have ae: ∀i,i<len-> ∃v:Int,v8 c v/\ ∃c' T fz,(i=0->a.spot=none)/\w.heap[a.block]? =some (.cells c' T fz)/\(c'.toList.drop (a.off+i)).take 1=[Code1.val c v]:=by
       intro i hi;have hb:=h4 i hi;rw [ac,Nat.mul_one]at hb;cases hc:w.cells? 0 (a.add i) 1 with
       | none=>rw [hc,gE' omz]at hb;cases hb
       | some l=>
         rw [hc,gE' omz]at hb;simp only [Option.bind_some]at hb;obtain⟨y,oy,ry⟩:=ih k e l _ held [.code c] hb he;obtain⟨v,rfl,hv⟩:=RH rfl ry oy;obtain⟨c',T,fz,q1,q2,q3⟩:=sG hc omz;have e1:(a.add i).block =a.block:=yE a _;rw [e1]at q2;have e2:(a.add i).off =a.off+i:=I9 a i;rw [e2]at q3;exact⟨v,hv,c',T,fz,fun h0=>by subst h0;rw [add_zero]at q1;exact q1,q2,q3⟩
      obtain⟨xs,aa,hx⟩:=oB len ae;refine⟨(xs,()),⟨⟨by show xs.length<=_;omega,?_⟩,trivial⟩,.slice (some a) len cap,[],rfl,?_,rfl⟩
      ·intro v hv;obtain⟨i,hi,rfl⟩:=List.getElem_of_mem hv;exact(hx i hi).1
      ·show Rep _ (.iview c xs) _;refine⟨some a,cap,by rw [aa],by rw [aa];exact h1,?_⟩
       by_cases h0:len=0
       ·right;exact List.length_eq_zero_iff.1 omz
       ·left;obtain⟨_,c',T,fz,q1,q2,_⟩:=hx 0 omz;obtain⟨b,off,sp⟩:=a;simp only at q1 q2;have q1:=q1 trivial;subst q1;refine⟨b,off,c',T,fz,rfl,hcon _ _ q2,(c'.toList.drop off).drop len,?_⟩
        have:xs.map (Code1.val c)=(c'.toList.drop off).take len:=by
         apply List.ext_getElem?;intro i;rw [List.getElem?_map,List.getElem?_take]
         by_cases hi:i<len
         ·rw [if_pos hi,gE' omz];obtain⟨_,c2,T2,ai,_,p2,p3⟩:=hx i omz;simp only at p2 p3;rw [q2]at p2;simp only [sI',Obj.cells.injEq]at p2;obtain⟨rfl,_⟩:=p2;have:=congrArg (fun l=>l[0]?) p3;simp only [List.getElem?_take,List.getElem?_drop]at this;rw [List.getElem?_drop]
          simpa using this.symm
         ·rw [if_neg hi,List.getElem?_eq_none omz];rfl
        rw [this,List.take_append_drop]
    ·rename_i q hq he;split at hs
     case isFalse=>cases hs
     rename_i ac;simp at hs;subst hs;rcases sl with⟨rfl,_⟩ | ⟨a,len,cap,af,rest,k,_,rfl,_,_,h1,h2,h3,h4,_⟩
     ·refine⟨(([]:List (DenL q)),()),⟨⟨Nat.zero_le _,fun x h=>by cases h⟩,trivial⟩,.slice none 0 0,[],rfl,?_,rfl⟩
      exact⟨none,0,rfl,Nat.le_refl _,.inr rfl⟩
     ·have ae: ∀i,i<len-> ∃y:DenL q,OE q y/\ ∃c' T fz,(i=0->a.spot=none)/\w.heap[a.block]? =some (.cells c' T fz)/\aH (fun _=>none) (jW q y) ((c'.toList.drop (a.off+i*q.length)).take q.length):=by
       intro i hi;have hb:=h4 i hi;rw [ac.1]at hb;cases hc:w.cells? 0 (a.add (i*q.length)) q.length with
       | none=>rw [hc,gE' omz]at hb;cases hb
       | some l=>
         rw [hc,gE' omz]at hb;simp only [Option.bind_some]at hb;obtain⟨y,oy,ry⟩:=ih k e l _ held q hb he;obtain⟨c',T,fz,q1,q2,q3⟩:=sG hc ac.2;have e1:(a.add (i*q.length)).block =a.block:=yE a _;rw [e1]at q2;have e2:(a.add (i*q.length)).off =a.off+i*q.length:=I9 a _;rw [e2]at q3;exact⟨y,oy,c',T,fz,fun h0=>by subst h0;rw [Nat.zero_mul,add_zero]at q1;exact q1,q2,by rw [q3];exact ry⟩
      obtain⟨xs,aa,hx⟩:=oB len ae;refine⟨(xs,()),⟨⟨by show xs.length<=_;omega,?_⟩,trivial⟩,.slice (some a) len cap,[],rfl,?_,rfl⟩
      ·intro v hv;obtain⟨i,hi,rfl⟩:=List.getElem_of_mem hv;exact(hx i hi).1
      ·show Rep _ (.view xs.length q.length fun i=>jW q (xs.getD i (YM q))) _;refine⟨some a,cap,by rw [aa],by rw [aa];exact h1,?_⟩
       by_cases h0:len=0
       ·right;omega
       ·left;obtain⟨_,c',T,fz,q1,q2,_⟩:=hx 0 omz;obtain⟨b,off,sp⟩:=a;simp only at q1 q2;have q1:=q1 trivial;subst q1;refine⟨b,off,c',T,fz,rfl,hcon _ _ q2,?_⟩;intro i hi;refine⟨uK _ _,?_⟩;show aH _ (jW q (xs.getD i (YM q))) _;rw [gD',gE' hi];obtain⟨_,c2,T2,ai,_,p2,p3⟩:=hx i hi;simp only at p2 p3;rw [q2]at p2;simp only [sI',Obj.cells.injEq]at p2;obtain⟨rfl,_⟩:=p2;exact p3
    ·cases hs
   ·rename_i fs ht;split at hs
    ·rename_i q hq;split at hs
     case isFalse=>cases hs
     rename_i aj;simp at hs;subst hs;obtain⟨xs,k,_,_,hl,aa,hf⟩:=DataW.trod_struct ht h
     obtain⟨y,oy,ry⟩:=pY (P:=P) (cs:=cs) (rec:=VA P m) (rd:=fun t l=> ∃z,DataW.trod enc P w 0 (fun _=>true) held k t l=some z)
      (fun t r l ht' ⟨z,hz⟩=>ih k t l z held r hz ht') fs.toList 0 q hq omz (by
        intro f ah;obtain⟨i,hi,rfl⟩:=List.getElem_of_mem ah;have ag:i<fs.size:=by simpa using hi
        have:=hf i fs[i] (Array.getElem?_eq_getElem ag);rw [gE' omz]at this;exact⟨_,by simpa using this⟩)
     refine⟨y,oy,?_⟩;rw [List.drop_zero,List.take_of_length_le omz]at ry;exact ry
    ·cases hs
   ·rename_i k e ht;split at hs
    ·rename_i q hq;split at hs
     case isFalse=>cases hs
     rename_i ac;simp at hs;subst hs;obtain⟨xs,j,_,_,hl,aa,hf⟩:=DataW.trod_array ht h;refine rS (P':=fun l=> ∃z,DataW.trod enc P w 0 (fun _=>true) held j e l=some z) (r:=q) (fun l ⟨z,hz⟩=>ih j e l z held q hz hq) k cs omz ?_;intro i hi;have:=hf i hi;rw [ac.1,gE' omz]at this;exact⟨_,this⟩
    ·cases hs
   ·cases hs
end
end Go.Sh
namespace Go.Sh
open Go Go.ChangeShapes Go.RowKit
def vW(P:Program):List TypeId->Option (List (Bool×List Shp))
 | []=>some []
 | t::ts=>match eZ P t,VA P 40 t,vW P ts with
   | some b,some r,some l=>if b=true\/r.length=1 then some ((b,r)::l)else none
   | _,_,_=>none
def DenA:List (Bool×List Shp)->Type
 | []=>Unit
 | (_,r)::l=>DenL r×DenA l
def tO:(l:List (Bool×List Shp))->DenA l->List AVal
 | [],_=>[]
 | (true,r)::l,x=>.agg (jW r x.1)::tO l x.2
 | (false,r)::l,x=>(jW r x.1).headD .O ::tO l x.2
def okA:(l:List (Bool×List Shp))->DenA l->Prop
 | [],_=>True
 | (_,r)::l,x=>OE r x.1/\okA l x.2
section
variable {H:Type} {enc:TypeId×Value->H} {P:Program} {w:World}
theorem A5{t:TypeId}{v:Value}{base:Nat}(hb:eZ P t=some false)(ho:Value.okWide P w .any base t v)(hs: ∃m r,VA P m t=some r):v.cells= #[v]:=by
 obtain⟨m,r,hs⟩:=hs;cases m with
 | zero=>simp [VA]at hs
 | succ m=>
   unfold VA at hs;unfold eZ at hb;unfold Value.okWide at ho;cases hu:P.underlying t with
   | none=>rw [hu]at hs;cases hs
   | some d=>
     rw [hu]at ho hb hs;cases v with
     | agg cs=>
       exfalso;cases d<;>simp at hb hs<;>simp [Cell.okWide,hu,Cell.ok]at ho
     | _=>rfl
theorem B2 [Con](hcon: ∀b o,w.heap[b]? =some o->Con.con b=some o){base:Nat} : ∀(ts:List TypeId) (vs:List Value) (ds:List (DataW H)) (ps:List MemPlace) (l:List (Bool×List Shp)),
 DataW.TrodAll enc P w 0 (fun _=>true) true ts vs ds ps->(∀(j:Nat) t v,ts[j]? =some t->vs[j]? =some v->Value.okWide P w .any base t v)->vW P ts=some l->
 ∃x:DenA l,okA l x/\aH (fun _=>none) (tO l x) vs
 | [],vs,ds,ps,l,h,_,hl=>by
   obtain⟨rfl,rfl,rfl⟩:=trodAll_nil h;simp [vW]at hl;subst hl;exact⟨(),trivial,by simp [tO,aH]⟩
 | t::ts,vs,ds,ps,l,h,hv,hl=>by
   obtain⟨v,vs',d,ds',p,q,rfl,rfl,rfl,h1,h2⟩:=trodAll_cons h;simp only [vW]at hl;split at hl
   ·rename_i b r l' hb hr hl';split at hl
    case isFalse=>cases hl
    rename_i hc;simp at hl;subst hl;obtain⟨y,oy,ry⟩:=B2 hcon ts vs' ds' q l' h2 (fun j t v a b=>hv (j+1) t v (by simpa using a) (by simpa using b)) hl'
    obtain⟨n,hn⟩:=h1;obtain⟨x,ox,rx⟩:=VT hcon 40 n t _ _ true r hn hr;have hok:=hv 0 t v rfl rfl;cases b with
    | true=>
      refine⟨(x,y),⟨ox,oy⟩,v,vs',rfl,?_,ry⟩
      have: ∃cs,v=.agg cs:=by
       unfold Value.okWide at hok;unfold eZ at hb;cases hu:P.underlying t with
       | none=>rw [hu]at hb;cases hb
       | some d=>
         rw [hu]at hok hb;cases d<;>simp at hb<;>(obtain⟨cs,e,_⟩:=hok;exact⟨cs,e⟩)
      obtain⟨cs,rfl⟩:=this;exact⟨cs,rfl,rx⟩
    | false=>
      refine⟨(x,y),⟨ox,oy⟩,v,vs',rfl,?_,ry⟩;rw [A5 hb hok ⟨40,r,hr⟩]at rx;have aa:r.length=1:=by simpa using hc
      show Rep _ ((jW r x).headD .O) v
      match r,aa,x,rx with
      | [s],_,x,rx=>
        obtain⟨u,us,e,r1,_⟩:=rx;simp only [lI']at e;rw [e.1];exact r1
   ·cases hl
theorem pZ{W W':World}(hl:laidOutB P=true){sp:Nat->Bool} : ∀(ts:List TypeId) (vs:List Value) (ds:List (DataW H)) (ps:List MemPlace),
 (∀t∈ts,P.readableRec t=true/\t<P.types.size)->DataW.TrodAll enc P W 0 (fun _=>true) true ts vs ds ps->(∀p∈ps,W.sameAt W' p)->(∀p∈ps,sp p.block=true)->DataW.TrodAll enc P W' 0 sp true ts vs ds ps
 | [],vs,ds,ps,_,h,_,_=>by
   obtain⟨rfl,rfl,rfl⟩:=trodAll_nil h;exact trodAll_mk0
 | t::ts,vs,ds,ps,ht,h,hs,hp=>by
   obtain⟨v,vs',d,ds',p,q,rfl,rfl,rfl,h1,h2⟩:=trodAll_cons h
   exact trodAll_cons_mk (WideElems.Trod_stays hl (ht t (by simp)).1 (ht t (by simp)).2 h1 (fun x hx=>hs x (by simp [hx])) (fun x hx=>hp x (by simp [hx])))
    (pZ hl ts vs' ds' q (fun u hu=>ht u (by simp [hu])) h2 (fun x hx=>hs x (by simp [hx])) (fun x hx=>hp x (by simp [hx])))
theorem oW{w:World}{sp:Nat->Bool}{b:Nat}{hd:Bool} : ∀(ts:List TypeId) (vs:List Value) (ds:List (DataW H)) (ps:List MemPlace),DataW.TrodAll enc P w b sp hd ts vs ds ps->ds.length=ts.length
 | [],vs,ds,ps,h=>by obtain⟨rfl,rfl,rfl⟩:=trodAll_nil h;rfl
 | t::ts,vs,ds,ps,h=>by
   obtain⟨v,vs',d,ds',p,q,rfl,rfl,rfl,h1,h2⟩:=trodAll_cons h;simp [oW ts vs' ds' q h2]
abbrev aME(W:World):Con:=⟨fun b=>W.heap[b]?⟩
theorem OR{f:Func}{s:ChangeSpec}{apart fresh handsOn again:Bool}{W W':World}{args:Array Value}{v:Value}{ds gs:List (DataW H)}{before pa pv:List MemPlace}
 (hW:DataW.Whole enc P f.params.toList s.vars apart W args.toList ds gs before)
 (h1: ∀(b:Nat) (sp:Nat->Bool) (hd:Bool),DataW.TrodAll enc P W' b sp hd f.resultTypes.toList (v.resultList f.resultTypes.size) (s.fn H (ds++gs)).results [])
 (h2: ∀sp:Nat->Bool,(∀p∈before,sp p.block=true)->DataW.TrodAll enc P W' 0 sp true f.params.toList args.toList (s.fn H (ds++gs)).args pa)
 (h3: ∀sp:Nat->Bool,(∀p∈before,sp p.block=true)->DataW.TrodVars enc P W' sp s.vars (s.fn H (ds++gs)).vars pv)
 (hb:before=pa++pv) (hk:W.keptBut W' (· ∈before)) (hz: ∀a:Addr,a.block<W.heap.size->W'.frozen? a=W.frozen? a)
 (ho: ∀(j:Nat) (t:TypeId) (r:Value),f.resultTypes[j]? =some t->(v.resultList f.resultTypes.size)[j]? =some r->Value.okWide P W' .any 0 t r):
 s.post enc P f apart fresh handsOn again W args v W':=by
 have lt: ∀p∈before,p.block<W.heap.size:=fun p hp=>hW.lt p hp;refine⟨ds,gs,before,[],pa,pv,hW,h1 _ _ _,h2 _ (fun p hp=>by simpa using lt p hp),h3 _ (fun p hp=>by simpa using lt p hp),World.keptBut_mono (fun p hp=>⟨hp,.inr (List.mem_append.1 (hb▸hp))⟩) hk,fun _=>⟨ho,_,_,([]++pa)++pv,⟨[]++pa,pv,trodAll_append (h2 _ (fun _ _=>rfl)) (h1 _ _ _),h3 _ (fun _ _=>rfl),rfl,?_,?_⟩,?_⟩⟩
 ·intro b off hp;have aa:MemPlace.cell b off∈before:=by rw [hb];simpa using hp
  obtain⟨_,_,_,_,_,q,_⟩:=hW;rw [hz _ (lt _ aa)];exact q b off aa
 ·intro ha;obtain⟨_,_,_,_,_,_,q⟩:=hW;have:=q ha;rw [hb]at this
  simpa using this
 ·intro p hp _;rw [hb]
  simpa using hp
theorem TL{A:Type}{F:Func}{f:FuncId}{s:ChangeSpec}{tb:TypeId}{l:List (Bool×List Shp)}(hl:laidOutB P=true)
 (hpar:F.params.toList.all (fun t=>P.readableRec t&&decide (t<P.types.size))=true) (hsh:vW P F.params.toList=some l) (hv:s.vars=[]) (hres:F.resultTypes= #[tb]) (htb:P.underlying tb=some .bool)
 (hfn: ∀ds:List (DataW H),ds.length=F.params.toList.length->s.fn H ds= {results:=[.lit (.bool true)],args:=ds})
 (law: ∀W0:World,∃I:Itp A,∀x:DenA l,okA l x-> @aA (aME W0) A I P f (tO l x) ([]:aC A) (fun v _=>v=.bool true))
 (W:World) (base:Nat) (args:Array Value) (ds gs:List (DataW H)) (before:List MemPlace)
 (hval: ∀(j:Nat) t v,F.params[j]? =some t->args[j]? =some v->Value.okWide P W .any base t v)
 (hW:DataW.Whole enc P F.params.toList s.vars false W args.toList ds gs before):
 Calls P f args W fun e W'=> ∃v,e=.returned v/\s.post enc P F false true false false W args v W':=by
 have hW':=hW;obtain⟨p,q,hA,hV,rfl,al,ak⟩:=hW;rw [hv]at hV;obtain⟨rfl,rfl⟩:=trodVars_none hV;obtain⟨I,hI⟩:=law W
 letI:Con:=aME W
 obtain⟨x,ox,rx⟩:=B2 (enc:=enc) (P:=P) (w:=W) (base:=base) (fun b o h=>h) F.params.toList args.toList ds p l hA (fun j t v a b=>hval j t v (by simpa using a) (by simpa using b)) hsh
 have ag:=oW _ _ _ _ hA;refine(aA.law (hI x ox) rx W (fun b o h=>h)).mono ?_;rintro e W' ⟨rfl,hg⟩
 have ac: ∀p'∈p,W.sameAt W' p':=by
  intro p' hp;have aa:p'.block<W.heap.size:=hW'.lt p' (by simpa using hp)
  have hk:=hg.1.2.2 p'.block aa;cases p' with
  | cell b off=>
    show W'.cell? ⟨b,off,none⟩=W.cell? ⟨b,off,none⟩;simp only [MemPlace.block]at hk aa;unfold World.cell?;simp only;cases h1:W.heap[b]? with
    | none=>rw [Array.getElem?_eq_getElem aa]at h1;cases h1
    | some o=>
      rw [h1]at hk;cases h2:W'.heap[b]? with
      | none=>rw [h2]at hk;cases o<;>simp at hk
      | some o'=>
        rw [h2]at hk;cases o<;>cases o'<;>simp at hk<;>first | rfl | skip
        rename_i c t fr c' t' aj;obtain⟨_,_,ah,hc⟩:=hk;exact hc off
  | map b=>
    show W'.heap[b]? =W.heap[b]?;simp only [MemPlace.block]at hk aa;cases h1:W.heap[b]? with
    | none=>rw [Array.getElem?_eq_getElem aa]at h1;cases h1
    | some o=>
      rw [h1]at hk;cases h2:W'.heap[b]? with
      | none=>rw [h2]at hk;cases o<;>simp at hk
      | some o'=>
        rw [h2]at hk;cases o<;>cases o'<;>simp at hk<;>first | (simp_all;done) | skip
        rename_i c t fr c' t' aj;obtain⟨rfl,rfl,ah,hc⟩:=hk
        have:c=c':=by
         apply Array.ext_getElem?;intro i;exact(hc i).symm
        rw [this]
 have ae: ∀t∈F.params.toList,P.readableRec t=true/\t<P.types.size:=by
  intro t ht;have:=List.all_eq_true.1 hpar t ht
  simpa using this
 have af:s.fn H (ds++ [])= {results:=[.lit (.bool true)],args:=ds} :=by rw [List.append_nil];exact hfn ds ag
 refine⟨_,rfl,OR (pa:=p) (pv:=[]) hW' ?_ ?_ ?_ rfl (World.keptBut_mono (fun _ h=>h.elim) hg.1) hg.2.1 ?_⟩
 ·intro b sp hd;rw [af,hres];exact trodAll_cons_mk (shut_bool htb _) trodAll_mk0
 ·intro sp ai;rw [af];exact pZ hl _ _ _ _ ae hA ac (fun p' hp=>ai p' (by simpa using hp))
 ·intro sp _;rw [af,hv];rfl
 ·exact ok_one hres rfl (okWide_bool_mk htb _)
end
end Go.Sh
namespace Go.Sh
open Go
variable [Con] {A:Type} (tb:A->Nat×aC A)
structure sQ (I:Itp A) (V:Val) (h:bE A) (hs:Nat->PHeap):Prop where
 ent: ∀l e,h l=some e->e.interp I V l (hs l)
 non: ∀l,h l=none->hs l=.emp
 dis: ∀l m,l≠m->(hs l).disj (hs m)
def obN:Nat->Itp A
 | 0,_,_,_,_=>False
 | n+1,t,r,bs,p=> ∃V hs,V 0=some r/\(∀i,i<(tb t).1->V (1+i)=bs[i]?)/\bs.length=(tb t).1/\sQ (obN n) V (toF (tb t).2) hs/\p=aLF hs
def obI:Itp A:=fun t r bs p=> ∃n,obN tb n t r bs p
theorem aLU{I I':Itp A}(hI: ∀t r bs p,I t r bs p->I' t r bs p){V:Val}{l:Nat}{e:aG A}{p:PHeap}(h:e.interp I V l p):e.interp I' V l p:=by
 cases e with
 | abs t ps=>
   obtain⟨b,k,h1,bs,h2,h3⟩:=h;exact⟨b,k,h1,bs,h2,hI _ _ _ _ h3⟩
 | cells vs=>exact h
 | ints c xs=>exact h
 | tab ks rows=>exact h
 | imap kk vc m=>exact h
 | iter lm kk vc m left cur=>exact h
theorem sQ.mono_I{I I':Itp A}(hI: ∀t r bs p,I t r bs p->I' t r bs p){V:Val}{h:bE A}{hs:Nat->PHeap}(q:sQ I V h hs):sQ I' V h hs:=
 ⟨fun l e he=>aLU hI (q.ent l e he),q.non,q.dis⟩
theorem EE: ∀(n:Nat) (t:A) (r:Nat×Nat) (bs:List (Nat×Nat)) (p:PHeap),obN tb n t r bs p->obN tb (n+1) t r bs p
 | 0,_,_,_,_,h=>h.elim
 | n+1,t,r,bs,p,⟨V,hs,h1,h2,h3,h4,h5⟩=>⟨V,hs,h1,h2,h3,h4.mono_I (EE n),h5⟩
theorem oL{n m:Nat}(hnm:n<=m){t:A}{r:Nat×Nat}{bs:List (Nat×Nat)}{p:PHeap}(h:obN tb n t r bs p):obN tb m t r bs p:=by
 induction hnm with
 | refl=>exact h
 | step _ ih=>exact EE tb _ _ _ _ _ ih
theorem CF{V:Val}{hs:Nat->PHeap} : ∀(g:aC A) (k:Nat),(∀l e,aL g l=some e->e.interp (obI tb) V (k+l) (hs (k+l)))-> ∃n,∀l e,aL g l=some e->e.interp (obN tb n) V (k+l) (hs (k+l))
 | [],k,_=>⟨0,fun l e h=>by simp [aL]at h⟩
 | x::g,k,h=>by
   obtain⟨n,hn⟩:=CF g (k+1) (fun l e he=>by
    have:=h (l+1) e (by simpa [aL]using he)
    rw [show k+(l+1)=k+1+l from by omega]at this
    exact this)
   have h0: ∃m,∀e,x=some e->e.interp (obN tb m) V k (hs k):=by
    cases x with
    | none=>exact⟨0,fun e he=>by cases he⟩
    | some e=>
      have:=h 0 e rfl;cases e with
      | abs t ps=>
        obtain⟨b,q,h1,bs,h2,m,h3⟩:=this;exact⟨m,fun e he=>by cases he;exact⟨b,q,h1,bs,h2,h3⟩⟩
      | cells vs=>exact⟨0,fun e he=>by cases he;exact this⟩
      | ints c xs=>exact⟨0,fun e he=>by cases he;exact this⟩
      | tab ks rows=>exact⟨0,fun e he=>by cases he;exact this⟩
      | imap kk vc mm=>exact⟨0,fun e he=>by cases he;exact this⟩
      | iter lm kk vc mm left cur=>exact⟨0,fun e he=>by cases he;exact this⟩
   obtain⟨m,hm⟩:=h0;refine⟨max n m,fun l e he=>?_⟩;cases l with
   | zero=>
     have hx:x=some e:=by simpa [aL]using he
     exact aLU (fun t r bs p=>oL tb (Nat.le_max_right n m)) (hm e hx)
   | succ l=>
     have:=aLU (fun t r bs p=>oL tb (Nat.le_max_left n m)) (hn l e (by simpa [aL]using he))
     rw [show k+1+l=k+(l+1)from by omega]at this
     exact this
theorem aMx{I:Itp A}{V V':Val}{pl:List Nat}(hV: ∀l,pl.elem l=true->V l=V' l){l:Nat}{e:aG A}{p:PHeap}(q1:V l=V' l)(q2:e.within pl=true)(hi:e.interp I V l p):e.interp I V' l p:=by
 cases e with
 | cells vs=>
   obtain⟨b,k,hl,cs,T,e1,e2,rs,tail,e3,r⟩:=hi;exact⟨b,k,by rw [<-q1];exact hl,cs,T,e1,e2,rs,tail,e3,aLV hV _ _ q2 r⟩
 | ints c xs=>
   rcases hi with⟨e1,e2,b,hl⟩ | ⟨b,k,hl,r⟩
   ·exact .inl ⟨e1,e2,b,by rw [<-q1];exact hl⟩
   ·exact .inr ⟨b,k,by rw [<-q1];exact hl,r⟩
 | abs t ps=>
   obtain⟨b,k,hl,bs,hb,r⟩:=hi;exact⟨b,k,by rw [<-q1];exact hl,bs,gG.congr (fun m hm=>hV m (sS q2 m hm)) hb,r⟩
 | tab ks rows=>
   rcases hi with⟨e1,e2,b,hl⟩ | ⟨b,k,hl,r⟩
   ·exact .inl ⟨e1,e2,b,by rw [<-q1];exact hl⟩
   ·exact .inr ⟨b,k,by rw [<-q1];exact hl,r⟩
 | imap kk vc m=>
   obtain⟨b,k,hl,r⟩:=hi;exact⟨b,k,by rw [<-q1];exact hl,r⟩
 | iter lm kk vc m left cur=>
   obtain⟨b,k,hl,bm,km,hm,r⟩:=hi;exact⟨b,k,by rw [<-q1];exact hl,bm,km,by rw [<-hV lm q2];exact hm,r⟩
theorem kJ{n l:Nat} :(upto 0 n).elem l=true↔l<n:=by rw [iG];omega
theorem gG.len{V:Val} : ∀ {ls:List Nat} {bs:List (Nat×Nat)},gG V ls bs->bs.length=ls.length
 | [],_,e=>by rw [e];rfl
 | _::_,_,⟨x,r,h1,h2,h3⟩=>by rw [h2];simp [gG.len h3]
theorem gG.get{V:Val} : ∀ {ls:List Nat} {bs:List (Nat×Nat)},gG V ls bs-> ∀i,i<ls.length->V (ls.getD i 0)=bs[i]?
 | [],_,_,i,hi=>by cases hi
 | l::ls,_,⟨x,r,h1,h2,h3⟩,i,hi=>by
   subst h2;cases i with
   | zero=>simpa using h1
   | succ i=>simpa using gG.get h3 i (by simpa using hi)
theorem gG.mk{V:Val} : ∀ {ls:List Nat},(∀l∈ls,∃x,V l=some x)-> ∃bs,gG V ls bs
 | [],_=>⟨[],rfl⟩
 | l::ls,h=>by
   obtain⟨x,hx⟩:=h l List.mem_cons_self;obtain⟨r,hr⟩:=gG.mk (fun m hm=>h m (List.mem_cons_of_mem _ hm));exact⟨x::r,x,r,hx,rfl,hr⟩
def unI(l:Nat)(ps:List Nat)(n np:Nat)(i:Nat):Nat:=match i with
 | 0=>l
 | j+1=>if j<np then ps.getD j 0 else n+(j - np)
def aP(h:aC A)(l np:Nat)(g:aC A)(ps:List Nat):aC A:=
 h.set l ((aL g 0).map (aG.ren (unI l ps h.length np)))++(g.drop (1+np)).map (Option.map (aG.ren (unI l ps h.length np)))
theorem gR(h:aC A)(l np:Nat)(g:aC A)(ps:List Nat):(aP h l np g ps).length =h.length+(g.length - (1+np)):=by
 unfold aP;simp
def obOk(np:Nat)(g:aC A):Bool:=cT g.length g&&Nat.ble (1+np) g.length&&(g.drop 1 |>.take np).all (·.isNone)&&(aL g 0).isSome
theorem zB{np:Nat}{g:aC A}(h:obOk np g=true):cT g.length g=true/\1+np<=g.length/\(∀i,i<np->aL g (1+i)=none)/\ ∃e,aL g 0=some e:=by
 unfold obOk at h;simp only [Bool.and_eq_true]at h;obtain⟨⟨⟨h1,h2⟩,h3⟩,h4⟩:=h;refine⟨h1,Nat.le_of_ble_eq_true h2,?_,Option.isSome_iff_exists.1 h4⟩;intro i hi;have aa:=Nat.le_of_ble_eq_true h2;rw [List.all_eq_true]at h3
 have hx:=h3 (aL g (1+i)) (by
  rw [List.mem_iff_getElem?];refine⟨i,?_⟩;rw [List.getElem?_take,if_pos hi,List.getElem?_drop];simp only [aL,gD'];rw [gE' omz];rfl)
 simpa using hx
theorem zO{g:aC A}(h:cT g.length g=true){l:Nat}{e:aG A}(he:aL g l=some e):e.within (upto 0 g.length)=true:=by
 unfold cT at h;rw [List.all_eq_true]at h;simp only [aL,gD']at he
 have hl:l<g.length:=by
  cases Nat.lt_or_ge l g.length with
  | inl q=>exact q
  | inr q=>rw [List.getElem?_eq_none q]at he;cases he
 rw [gE' hl]at he;have:=h (g[l]) (List.getElem_mem hl);simp only [Option.getD_some]at he;rw [he]at this;exact this
theorem nI{h:aC A}{l np:Nat}{g:aC A}{ps:List Nat}(hl:l<h.length):aL (aP h l np g ps) l=(aL g 0).map (aG.ren (unI l ps h.length np)):=by
 unfold aP;rw [cN (by simpa using hl)]
 simp only [aL,gD'];rw [List.getElem?_set_self hl];rfl
theorem gC{h:aC A}{l np:Nat}{g:aC A}{ps:List Nat}{m:Nat}(hm:m<h.length)(hlm:m≠l):aL (aP h l np g ps) m=aL h m:=by
 unfold aP;rw [cN (by simpa using hm)]
 simp only [aL,gD'];rw [List.getElem?_set_ne (fun e=>hlm e.symm)]
theorem lW{h:aC A}{l np:Nat}{g:aC A}{ps:List Nat}{j:Nat} :aL (aP h l np g ps) (h.length+j)=(aL g (1+np+j)).map (aG.ren (unI l ps h.length np)):=by
 unfold aP;simp only [aL,gD'];rw [List.getElem?_append_right (by simp),List.length_set,List.getElem?_map,List.getElem?_drop,Nat.add_sub_cancel_left]
 cases g[1+np+j]? <;>rfl
theorem Inv.unpack{V:Val}{h:aC A}{hR:PHeap}{w:World}{t:A}{l np:Nat}{g:aC A}{ps:List Nat}(hi:Inv (obI tb) V (toF h) hR w)(hf:bO V h.length)(hl:aL h l=some (.abs t ps))(ht:tb t=(np,g))(ho:obOk np g=true)(hnp:ps.length=np):
 ∃V',V.le V'/\bO V' (aP h l np g ps).length /\Inv (obI tb) V' (toF (aP h l np g ps)) hR w:=by
 obtain⟨o1,o2,o3,e0,o4⟩:=zB ho;have au:=cH hl;obtain⟨hs,h1,h2,h3,h4,h5,h6⟩:=hi;obtain⟨b,k,hV,bs,aq,n,al⟩:=h1 l _ hl;cases n with
 | zero=>exact al.elim
 | succ n=>
 obtain⟨Vg,gs,g1,g2,g3,⟨g4,g5,g6⟩,g7⟩:=al;rw [ht]at g2 g3 g4 g5;dsimp only at g2 g3 g4 g5
 let V':Val:=fun m=>if m<h.length then V m else if m<(aP h l np g ps).length then Vg (m - h.length+1+np)else none
 have ar:=gR h l np g ps
 have ai:V.le V':=by
  intro m x hm
  have ap:m<h.length:=by
   cases Nat.lt_or_ge m h.length with
   | inl q=>exact q
   | inr q=>rw [hf m q]at hm;cases hm
  show(if m<h.length then V m else _)=some x
  rw [if_pos ap];exact hm
 have hVι: ∀i,(upto 0 g.length).elem i=true->Vg i=V' (unI l ps h.length np i):=by
  intro i hi;rw [kJ]at hi;cases i with
  | zero=>
    show _=V' l;rw [ai l _ hV];exact g1
  | succ j=>
    show _=V' (if j<np then ps.getD j 0 else h.length+(j - np))
    by_cases hj:j<np
    ·rw [if_pos hj];have hg:=aq.get j omz;have ao:j<bs.length:=by omega
     rw [gE' ao]at hg;rw [ai _ _ hg,Nat.add_comm,g2 j hj,gE' ao]
    ·rw [if_neg hj];show _=if h.length+(j - np)<h.length then _ else _
     rw [if_neg omz,if_pos omz];congr 1;omega
 have aj: ∀i e,aL g i=some e->(e.ren (unI l ps h.length np)).interp (obI tb) V' (unI l ps h.length np i) (gs i):=by
  intro i e he;refine aG.interp_ren.2 ?_;have q1:=aLU (I':=(obI tb)) (fun t r bs p hh=>⟨n,hh⟩) (g4 i e he);exact aMx hVι (hVι i (kJ.2 (cH he))) (zO o1 he) q1
 have af: ∀i b' o,gs i b'=some o->hs l b'=some o:=by
  intro i b' o hh;rw [g7];exact aLP g6 hh
 let hs':Nat->PHeap:=fun m=>if m<h.length then(if m=l then gs 0 else hs m)else gs (m - h.length+1+np)
 refine⟨V',ai,?_,hs',?_,?_,?_,?_,?_,h6⟩
 ·intro m hm;show(if m<h.length then _ else _)=none
  rw [if_neg omz,if_neg omz]
 ·intro m e he
  by_cases hm:m<h.length
  ·by_cases ac:m=l
   ·subst ac;have aa:aL (aP h m np g ps) m=some e:=he;rw [nI hm,o4]at aa;simp only [Option.map_some,sI']at aa;show e.interp (obI tb) V' m (if m<h.length then(if m=m then gs 0 else hs m)else _)
    rw [if_pos hm,if_pos rfl,<-aa];exact aj 0 e0 o4
   ·have aa:aL (aP h l np g ps) m=some e:=he;rw [gC hm ac]at aa;show e.interp (obI tb) V' m (if m<h.length then(if m=l then gs 0 else hs m)else _)
    rw [if_pos hm,if_neg ac];exact aLR ai (h1 m e aa)
  ·have aa:aL (aP h l np g ps) m=some e:=he;have ak:m=h.length+(m - h.length):=by omega
   rw [ak,lW]at aa;cases hq:aL g (1+np+(m - h.length))with
   | none=>rw [hq]at aa;cases aa
   | some e1=>
     rw [hq]at aa;simp only [Option.map_some,sI']at aa;have:=aj _ e1 hq;show e.interp (obI tb) V' m (if m<h.length then _ else gs (m - h.length+1+np))
     rw [if_neg hm,<-aa]
     have e3:unI l ps h.length np (1+np+(m - h.length))=m:=by
      have:1+np+(m - h.length)=(np+(m - h.length))+1:=by omega
      rw [this];show(if np+(m - h.length)<np then _ else h.length+(np+(m - h.length) - np))=m
      rw [if_neg omz];omega
     rw [e3]at this;have e4:m - h.length+1+np=1+np+(m - h.length):=by omega
     rw [e4];exact this
 ·intro m he
  by_cases hm:m<h.length
  ·by_cases ac:m=l
   ·subst ac;have aa:aL (aP h m np g ps) m=none:=he;rw [nI hm,o4]at aa;cases aa
   ·have aa:aL (aP h l np g ps) m=none:=he;rw [gC hm ac]at aa;show(if m<h.length then(if m=l then gs 0 else hs m)else _)=_
    rw [if_pos hm,if_neg ac];exact h2 m aa
  ·have aa:aL (aP h l np g ps) m=none:=he;have ak:m=h.length+(m - h.length):=by omega
   rw [ak,lW]at aa;show(if m<h.length then _ else gs (m - h.length+1+np))=_
   rw [if_neg hm];have e4:m - h.length+1+np=1+np+(m - h.length):=by omega
   rw [e4];refine g5 _ ?_;cases hq:aL g (1+np+(m - h.length))with
   | none=>exact hq
   | some e1=>rw [hq]at aa;cases aa
 ·intro m m' am;intro b';show(if m<h.length then(if m=l then gs 0 else hs m)else gs (m - h.length+1+np)) b'=none\/(if m'<h.length then(if m'=l then gs 0 else hs m')else gs (m' - h.length+1+np)) b'=none
  have out: ∀i m,m≠l->gs i b'=none\/hs m b'=none:=by
   intro i m ac;cases hq:gs i b' with
   | none=>exact .inl rfl
   | some o=>
     right;have:=af i b' o hq;rcases h3 l m (fun e=>ac e.symm) b' with q | q
     ·rw [q]at this;cases this
     ·exact q
  by_cases hm:m<h.length
  ·by_cases ah:m'<h.length
   ·rw [if_pos hm,if_pos ah]
    by_cases ac:m=l
    ·have ae:m'≠l:=fun e=>am (ac.trans e.symm);rw [if_pos ac,if_neg ae];exact out 0 m' ae
    ·rw [if_neg ac]
     by_cases ae:m'=l
     ·rw [if_pos ae];exact(out 0 m ac).symm
     ·rw [if_neg ae];exact h3 m m' am b'
   ·rw [if_pos hm,if_neg ah]
    by_cases ac:m=l
    ·rw [if_pos ac];exact g6 0 _ omz b'
    ·rw [if_neg ac];exact(out _ m ac).symm
  ·by_cases ah:m'<h.length
   ·rw [if_neg hm,if_pos ah]
    by_cases ae:m'=l
    ·rw [if_pos ae];exact g6 _ 0 omz b'
    ·rw [if_neg ae];exact out _ m' ae
   ·rw [if_neg hm,if_neg ah];exact g6 _ _ omz b'
 ·intro m b'
  have out: ∀i,gs i b'=none\/hR b'=none:=by
   intro i;cases hq:gs i b' with
   | none=>exact .inl rfl
   | some o=>
     right;have:=af i b' o hq;rcases h4 l b' with q | q
     ·rw [q]at this;cases this
     ·exact q
  show(if m<h.length then(if m=l then gs 0 else hs m)else gs (m - h.length+1+np)) b'=none\/hR b'=none
  split
  ·split
   ·exact out 0
   ·exact h4 m b'
  ·exact out _
 ·intro m b' o hq;have ag:(if m<h.length then(if m=l then gs 0 else hs m)else gs (m - h.length+1+np)) b'=some o:=hq
  split at ag
  ·split at ag
   ·exact h5 l b' o (af 0 b' o ag)
   ·exact h5 m b' o ag
  ·exact h5 l b' o (af _ b' o ag)
def l8(h:aC A)(l:Nat)(ps:List Nat):Bool:=cT h.length h&&ps.all (fun p=>Nat.blt p h.length&& !Nat.beq p l&&(aL h p).isSome)
theorem Inv.pack{V:Val}{h:aC A}{hR:PHeap}{w:World}{t:A}{l np:Nat}{g:aC A}{ps:List Nat}(hi:Inv (obI tb) V (toF (aP h l np g ps)) hR w)(hl:aL h l=some (.abs t ps))(ht:tb t=(np,g))(ho:obOk np g=true)(hnp:ps.length=np)(hp:l8 h l ps=true):
 Inv (obI tb) (fun m=>if m<h.length then V m else none) (toF h) hR w:=by
 obtain⟨o1,o2,o3,e0,o4⟩:=zB ho;have ap:=cH hl;unfold l8 at hp;rw [Bool.and_eq_true,List.all_eq_true]at hp;obtain⟨p1,p2⟩:=hp;have ai: ∀m e,aL (aP h l np g ps) m=some e-> ∃x,V m=some x:=fun m e he=>hi.dom he;obtain⟨hs,h1,h2,h3,h4,h5,h6⟩:=hi;have az:=gR h l np g ps
 have al: ∀p∈ps,p<h.length/\p≠l/\ ∃x,V p=some x:=by
  intro p hp;have:=p2 p hp;simp only [Bool.and_eq_true,Bool.not_eq_true',Nat.blt_eq]at this;obtain⟨⟨q1,q2⟩,q3⟩:=this;have ak:p≠l:=by intro e;rw [e]at q2;simp at q2
  obtain⟨e,he⟩:=Option.isSome_iff_exists.1 q3;exact⟨q1,ak,ai p e (by rw [gC q1 ak];exact he)⟩
 have ay: ∃x,V l=some x:=ai l (e0.ren (unI l ps h.length np)) (by rw [nI ap,o4];rfl)
 obtain⟨⟨b,k⟩,aq⟩:=ay;obtain⟨bs,aj⟩:=gG.mk (V:=V) (ls:=ps) (fun p hp=>(al p hp).2.2)
 let gs:Nat->PHeap:=fun j=>match j with
  | 0=>hs l
  | i+1=>if i<np then .emp else hs (h.length+(i - np))
 have ah: ∀j,gs j=.emp \/ ∃m,(m=l\/h.length<=m)/\gs j=hs m:=by
  intro j;cases j with
  | zero=>exact .inr ⟨l,.inl rfl,rfl⟩
  | succ i=>
    show(if i<np then PHeap.emp else hs (h.length+(i - np)))=.emp \/_
    by_cases hi:i<np
    ·rw [if_pos hi];exact .inl rfl
    ·right;refine⟨h.length+(i - np),.inr omz,?_⟩;show(if i<np then PHeap.emp else hs (h.length+(i - np)))=_
     rw [if_neg hi]
 have av: ∀i j,i≠j->(gs i).disj (gs j):=by
  intro i j ax;cases i with
  | zero=>
    cases j with
    | zero=>exact(ax rfl).elim
    | succ j=>
      show PHeap.disj (hs l) (if j<np then .emp else hs (h.length+(j - np)))
      split
      ·exact aLy _
      ·exact h3 _ _ omz
  | succ i=>
    cases j with
    | zero=>
      show PHeap.disj (if i<np then .emp else hs (h.length+(i - np))) (hs l)
      split
      ·exact(aLy _).symm
      ·exact h3 _ _ omz
    | succ j=>
      show PHeap.disj (if i<np then .emp else hs (h.length+(i - np))) (if j<np then .emp else hs (h.length+(j - np)))
      split
      ·exact(aLy _).symm
      ·split
       ·exact aLy _
       ·exact h3 _ _ omz
 have au: ∀i e,aL g i=some e->e.interp (obI tb) (fun i=>V (unI l ps h.length np i)) i (gs i):=by
  intro i e he;refine aG.interp_ren.1 ?_;cases i with
  | zero=>
    show(e.ren _).interp (obI tb) V l (hs l);exact h1 l _ (by show aL _ _=_;rw [nI ap,he];rfl)
  | succ i=>
    have hi: ¬i<np:=by
     intro hi;have:=o3 i hi;rw [Nat.add_comm,he]at this;cases this
    have e3:unI l ps h.length np (i+1)=h.length+(i - np):=by
     show(if i<np then _ else _)=_
     rw [if_neg hi]
    show(e.ren _).interp (obI tb) V (unI l ps h.length np (i+1)) (if i<np then PHeap.emp else hs (h.length+(i - np)))
    rw [if_neg hi,e3];refine h1 _ _ ?_;show aL _ _=_;rw [lW];have:1+np+(i - np)=i+1:=by omega
    rw [this,he];rfl
 obtain⟨n,hn⟩:=CF tb (hs:=gs) g 0 (by simpa using au)
 have ar: ∀i,toF g i=none->gs i=.emp :=by
  intro i he;cases i with
  | zero=>have:aL g 0=none:=he;rw [o4]at this;cases this
  | succ i=>
    show(if i<np then PHeap.emp else hs (h.length+(i - np)))=.emp
    by_cases hi:i<np
    ·rw [if_pos hi]
    ·rw [if_neg hi];refine h2 _ ?_;show aL _ _=_;rw [lW];have:1+np+(i - np)=i+1:=by omega
     have ac:aL g (i+1)=none:=he;rw [this,ac];rfl
 have ag: ∀b' o,aLF gs b'=some o-> ∃m,(m=l\/h.length<=m)/\hs m b'=some o:=by
  intro b' o hh;obtain⟨j,hj⟩:=aLQ hh;rcases ah j with q | ⟨m,q1,q2⟩
  ·rw [q]at hj;cases hj
  ·exact⟨m,q1,by rw [<-q2];exact hj⟩
 have own: ∀m,m<h.length->(fun m=>if m<h.length then V m else none) m=V m:=fun m hm=>if_pos hm
 refine⟨fun m=>if m=l then aLF gs else if m<h.length then hs m else .emp,?_,?_,?_,?_,?_,h6⟩
 ·intro m e he;have hm:m<h.length:=cH he
  by_cases aa:m=l
  ·subst aa;have ac:aL h m=some e:=he;rw [hl]at ac;simp only [sI']at ac;subst ac;show aG.interp (obI tb) _ m _ (if m=m then aLF gs else _)
   rw [if_pos rfl];refine⟨b,k,by show(if m<h.length then V m else none)=_;rw [if_pos hm];exact aq,bs,aj.congr (fun p hp=>(own p (al p hp).1).symm),n+1,?_⟩
   show∃V1 hs1,V1 0=some (b,k)/\(∀i,i<(tb t).1->V1 (1+i)=bs[i]?)/\bs.length=(tb t).1/\sQ (obN tb n) V1 (toF (tb t).2) hs1/\aLF gs=aLF hs1;rw [ht];refine⟨(fun i=>V (unI m ps h.length np i)),gs,aq,?_,by rw [aj.len];exact hnp,⟨fun l e he=>by have:=hn l e he;simpa using this,ar,av⟩,rfl⟩
   intro i hi;have:=aj.get i omz;rw [<-this];show V (unI m ps h.length np (1+i))=_;rw [Nat.add_comm];show V (if i<np then _ else _)=_
   rw [if_pos hi]
  ·show e.interp (obI tb) _ m (if m=l then _ else if m<h.length then hs m else .emp)
   rw [if_neg aa,if_pos hm];have ac:aL h m=some e:=he;refine aMx (pl:=upto 0 h.length) (V:=V) (fun i hi=>(own i (kJ.1 hi)).symm) (own m hm).symm (zO p1 ac) ?_;exact h1 m e (by show aL _ _=_;rw [gC hm aa];exact ac)
 ·intro m he;have ac:aL h m=none:=he
  by_cases aa:m=l
  ·subst aa;rw [hl]at ac;cases ac
  ·show(if m=l then _ else if m<h.length then hs m else .emp)=_
   rw [if_neg aa]
   by_cases hm:m<h.length
   ·rw [if_pos hm];exact h2 m (by show aL _ _=_;rw [gC hm aa];exact ac)
   ·rw [if_neg hm]
 ·intro m m' am b';show(if m=l then aLF gs else if m<h.length then hs m else .emp) b'=none\/(if m'=l then aLF gs else if m'<h.length then hs m' else .emp) b'=none
  have out: ∀m,m≠l->aLF gs b'=none\/(if m<h.length then hs m else PHeap.emp) b'=none:=by
   intro m aa
   by_cases hm:m<h.length
   ·rw [if_pos hm];cases hq:aLF gs b' with
    | none=>exact .inl rfl
    | some o=>
      right;obtain⟨m2,q1,q2⟩:=ag b' o hq;rcases h3 m2 m (by rcases q1 with q | q<;>omega) b' with q | q
      ·rw [q]at q2;cases q2
      ·exact q
   ·rw [if_neg hm];exact .inr rfl
  by_cases aa:m=l
  ·have ae:m'≠l:=fun e=>am (aa.trans e.symm);rw [if_pos aa,if_neg ae];exact out m' ae
  ·rw [if_neg aa]
   by_cases ae:m'=l
   ·rw [if_pos ae];exact(out m aa).symm
   ·rw [if_neg ae]
    by_cases hm:m<h.length
    ·rw [if_pos hm]
     by_cases ao:m'<h.length
     ·rw [if_pos ao];exact h3 m m' am b'
     ·rw [if_neg ao];exact .inr rfl
    ·rw [if_neg hm];exact .inl rfl
 ·intro m b';show(if m=l then aLF gs else if m<h.length then hs m else .emp) b'=none\/hR b'=none
  by_cases aa:m=l
  ·rw [if_pos aa];cases hq:aLF gs b' with
   | none=>exact .inl rfl
   | some o=>
     right;obtain⟨m2,q1,q2⟩:=ag b' o hq;rcases h4 m2 b' with q | q
     ·rw [q]at q2;cases q2
     ·exact q
  ·rw [if_neg aa]
   by_cases hm:m<h.length
   ·rw [if_pos hm];exact h4 m b'
   ·rw [if_neg hm];exact .inl rfl
 ·intro m b' o hq;have af:(if m=l then aLF gs else if m<h.length then hs m else .emp) b'=some o:=hq
  by_cases aa:m=l
  ·rw [if_pos aa]at af;obtain⟨m2,q1,q2⟩:=ag b' o af;exact h5 m2 b' o q2
  ·rw [if_neg aa]at af
   by_cases hm:m<h.length
   ·rw [if_pos hm]at af;exact h5 m b' o af
   ·rw [if_neg hm]at af;cases af
variable {P:Program}
theorem aA.unpack{f:FuncId}{args:List AVal}{h:aC A}{K:AVal->aC A->Prop}(t:A)(l np:Nat)(g:aC A)(ps:List Nat)(hl:aL h l=some (.abs t ps))(ht:tb t=(np,g))(ho:obOk np g=true)(hnp:ps.length=np)
 (h0:aA (obI tb) P f args (aP h l np g ps) K):aA (obI tb) P f args h K:=by
 intro V hR w aa hi hf hr;obtain⟨V1,v1,v2,v3⟩:=hi.unpack tb hf hl ht ho hnp;refine(h0 V1 hR w aa v3 v2 (aH.mono v1 _ _ hr)).mono ?_;rintro e w' ⟨v,v',V',h',k1,k2,k3,k4,k5,k6,k7,k8⟩;exact⟨v,v',V',h',k1,k2,k3,Val.le_trans v1 k4,k5,Nat.le_trans (by rw [gR];omega) k6,k7,k8⟩
structure BM (n:Nat) (K:AVal->aC A->Prop) (v:AVal) (g':aC A):Prop where
 ex: ∃(pl:List Nat) (h2:aC A) (t:A) (l np:Nat) (g:aC A) (ps:List Nat),(dW pl g'.length&&iJ pl 0 n&&Nat.ble n h2.length&&obOk np g&&l8 h2 l ps&&(lI pl v).within (upto 0 h2.length)&&Nat.beq ps.length np)=true/\gQ pl g'=aP h2 l np g ps/\tb t=(np,g)/\aL h2 l=some (.abs t ps)/\K (lI pl v) h2
theorem aA.pack{f:FuncId}{args:List AVal}{h:aC A}{K:AVal->aC A->Prop}(h0:aA (obI tb) P f args h (BM tb h.length K)):aA (obI tb) P f args h K:=by
 intro V hR w aa hi hf hr;refine(h0 V hR w aa hi hf hr).mono ?_;rintro e w' ⟨v,v',V',g',⟨pl,h2,t,l,np,g,ps,hb,hT,ht,hl,hK⟩,k2,k3,k4,k5,k6,k7,k8⟩;simp only [Bool.and_eq_true]at hb;obtain⟨⟨⟨⟨⟨⟨b1,b2⟩,b3⟩,b4⟩,b5⟩,b6⟩,b7⟩:=hb;obtain⟨e1,e2⟩:=nA b2;have hp:=oV (h:=g') b1;have ac:=k7.pick hp;rw [hT]at ac;have af:=ac.pack tb hl ht b4 (Nat.eq_of_beq_eq_true b7) b5;have hn:h.length<=h2.length:=Nat.le_of_ble_eq_true b3;refine⟨lI pl v,v',_,h2,hK,k2,?_,?_,?_,hn,af,k8⟩
 ·have:=pN (n:=g'.length) (pl:=pl) k3
  exact aL6 (pl:=upto 0 h2.length) (fun i hi=>by
   show _=if i<h2.length then _ else none
   rw [if_pos (kJ.1 hi)]) _ _ b6 this
 ·intro m x hm
  have ae:m<h.length:=by
   cases Nat.lt_or_ge m h.length with
   | inl q=>exact q
   | inr q=>rw [hf m q]at hm;cases hm
  show(if m<h2.length then V' (lab pl g'.length m)else none)=some x
  rw [if_pos omz];have:lab pl g'.length m=m:=by unfold lab;rw [e2 m ae];simp
  rw [this];exact k4 m x hm
 ·intro m hm;show(if m<h2.length then _ else none)=none
  rw [if_neg omz]
def farI(n k i:Nat):Nat:=if i<n then i else i+k
def HE(n k:Nat)(g:aC A):aC A:=(g.take n).map (Option.map (aG.ren (farI n k)))++List.replicate k none++(g.drop n).map (Option.map (aG.ren (farI n k)))
theorem SP{n k:Nat}{g:aC A}(hn:n<=g.length)(i:Nat):aL (HE n k g) (farI n k i)=(aL g i).map (aG.ren (farI n k)):=by
 have hl:((g.take n).map (Option.map (aG.ren (farI n k)))).length =n:=by rw [List.length_map,List.length_take];omega
 unfold HE aL;simp only [gD']
 by_cases hi:i<n
 ·have e:farI n k i=i:=if_pos hi;rw [e,List.append_assoc,List.getElem?_append_left (by rw [hl];exact hi),List.getElem?_map,List.getElem?_take,if_pos hi]
  rw [gE' omz];rfl
 ·have e:farI n k i=i+k:=if_neg hi;rw [e,List.getElem?_append_right (by rw [List.length_append,hl,List.length_replicate];omega),List.getElem?_map,List.getElem?_drop]
  have e2:n+(i+k - ((g.take n).map (Option.map (aG.ren (farI n k)))++List.replicate k (none:Option (aG A))).length)=i:=by
   rw [List.length_append,hl,List.length_replicate];omega
  rw [e2];cases g[i]? <;>rfl
theorem DA{n k:Nat}{g:aC A}(hn:n<=g.length):(HE n k g).length =g.length+k:=by
 unfold HE;rw [List.length_append,List.length_append,List.length_map,List.length_take,List.length_replicate,List.length_map,List.length_drop];omega
theorem MT{n k:Nat}{g:aC A}(hn:n<=g.length){m:Nat}(h1:n<=m)(h2:m<n+k):aL (HE n k g) m=none:=by
 have hl:((g.take n).map (Option.map (aG.ren (farI n k)))).length =n:=by rw [List.length_map,List.length_take];omega
 unfold HE aL;simp only [gD'];rw [List.append_assoc,List.getElem?_append_right (by rw [hl];exact h1),hl,List.getElem?_append_left (by rw [List.length_replicate];omega),List.getElem?_replicate,if_pos omz]
 rfl
theorem SQ{n k:Nat} : ∀i j,farI n k i=farI n k j->i=j:=by
 intro i j h;unfold farI at h;split at h<;>split at h<;>omega
theorem aA.shut{f:FuncId}{args:List AVal}{h':aC A}{K:AVal->aC A->Prop}(h:aC A)(t:A)(l np:Nat)(g:aC A)(ps:List Nat)(he:h'=aP h l np g ps)(hl:aL h l=some (.abs t ps))(ht:tb t=(np,g))
 (hb:(obOk np g&&l8 h l ps&&aLA (upto 0 h.length) args&&Nat.beq ps.length np)=true)
 (h0:aA (obI tb) P f args h (fun v g2=>K (v.ren (farI h.length (h'.length - h.length))) (HE h.length (h'.length - h.length) g2))):aA (obI tb) P f args h' K:=by
 subst he;simp only [Bool.and_eq_true]at hb;obtain⟨⟨⟨b1,b2⟩,b3⟩,b4⟩:=hb;have ah:=gR h l np g ps;generalize hk:(aP h l np g ps).length - h.length=k at h0;intro V hR w aa hi hf hr;have af:=hi.pack tb hl ht b1 (Nat.eq_of_beq_eq_true b4) b2
 have ag:bO (fun m=>if m<h.length then V m else none) h.length:=by
  intro m hm;show(if m<h.length then _ else none)=none
  rw [if_neg omz]
 have ae:aH (fun m=>if m<h.length then V m else none) args aa.toList:=aLV (pl:=upto 0 h.length) (fun i hi=>by
  show _=if i<h.length then _ else none
  rw [if_pos (kJ.1 hi)]) _ _ b3 hr
 refine(h0 _ hR w aa af ag ae).mono ?_;rintro e w' ⟨v,v',V',g2,hK,k2,k3,k4,k5,k6,k7,k8⟩
 let V1:Val:=fun m=>if m<h.length then V' m else if m<h.length+k then V m else V' (m - k)
 have ac:(fun i=>V1 (farI h.length k i))=V':=by
  funext i;show(if farI h.length k i<h.length then _ else _)=_
  by_cases hi:i<h.length
  ·have e:farI h.length k i=i:=if_pos hi;rw [e,if_pos hi]
  ·have e:farI h.length k i=i+k:=if_neg hi;rw [e,if_neg omz,if_neg omz,Nat.add_sub_cancel]
 refine⟨_,v',V1,_,hK,k2,?_,?_,?_,?_,?_,k8⟩
 ·refine(Rep.ren _ _).2 ?_;rw [ac];exact k3
 ·intro m x hm;show(if m<h.length then _ else _)=some x
  by_cases h1:m<h.length
  ·rw [if_pos h1];exact k4 m x (by show(if m<h.length then V m else none)=some x;rw [if_pos h1];exact hm)
  ·rw [if_neg h1]
   have h2:m<h.length+k:=by
    cases Nat.lt_or_ge m (h.length+k)with
    | inl q=>exact q
    | inr q=>rw [hf m omz]at hm;cases hm
   rw [if_pos h2];exact hm
 ·intro m hm;rw [DA k6]at hm;show(if m<h.length then _ else _)=none
  rw [if_neg omz,if_neg omz];exact k5 _ omz
 ·rw [DA k6];omega
 ·refine(aL4 (ι:=farI h.length k) (h0:=toF g2) SQ (fun i=>SP k6 i) ?_).2 (by rw [ac];exact k7)
  intro m hm
  by_cases h1:m<h.length
  ·exact(hm m (if_pos h1)).elim
  ·by_cases h2:m<h.length+k
   ·exact MT k6 omz h2
   ·refine(hm (m - k) ?_).elim;show(if m - k<h.length then _ else _)=m
    rw [if_neg omz];omega
end Go.Sh
namespace Go.Sh
open Go
variable [Con] {A:Type} {P:Program}
def oX:List AVal->List AVal->Prop
 | [],[]=>True
 | v::vs,w::ws=>(w=v\/w=.O)/\oX vs ws
 | _,_=>False
theorem zN{V:Val} : ∀ {vs ws:List AVal} {xs:List Value},oX vs ws->aH V vs xs->aH V ws xs
 | [],[],_,_,r=>r
 | v::vs,w::ws,_,⟨h,h2⟩,⟨x,xs,e,r,r2⟩=>⟨x,xs,e,by rcases h with rfl | rfl;exact r;exact trivial,zN h2 r2⟩
def qA:Option (aG A)->Option (aG A)->Prop
 | _,none=>True
 | some (.cells vs),some (.cells ws)=>oX vs ws
 | x,y=>x=y
def mN:aC A->aC A->Prop
 | [],[]=>True
 | x::g,y::g2=>qA x y/\mN g g2
 | _,_=>False
theorem mO: ∀ {g g2:aC A},mN g g2->g2.length=g.length
 | [],[],_=>rfl
 | x::g,y::g2,h=>by simp [mO h.2]
theorem zM: ∀ {g g2:aC A},mN g g2-> ∀l,qA (aL g l) (aL g2 l)
 | [],[],_,l=>by simp [aL,qA]
 | x::g,y::g2,h,0=>by simpa [aL]using h.1
 | x::g,y::g2,h,l+1=>by
   have:=zM h.2 l
   simpa [aL]using this
theorem Inv.weak{I:Itp A}{V:Val}{g g2:aC A}{hR:PHeap}{w:World}(hw:mN g g2)(hi:Inv I V (toF g) hR w):Inv I V (toF g2) hR w:=by
 classical
 obtain⟨hs,h1,h2,h3,h4,h5,h6⟩:=hi;refine⟨fun l=>if aL g2 l=none then .emp else hs l,?_,?_,?_,?_,?_,h6⟩
 ·intro l e he;have aa:aL g2 l=some e:=he;have hq:=zM hw l;rw [aa]at hq;show e.interp I V l (if aL g2 l=none then PHeap.emp else hs l)
  rw [if_neg (by rw [aa];simp)]
  cases hg:aL g l with
  | none=>rw [hg]at hq;cases e<;>cases hq
  | some e1=>
    rw [hg]at hq;have ac:=h1 l e1 hg;cases e1 with
    | cells vs=>
      cases e with
      | cells ws=>
        obtain⟨b,k,q1,cs,T,q2,q3,rs,tail,q4,q5⟩:=ac;exact⟨b,k,q1,cs,T,q2,q3,rs,tail,q4,zN hq q5⟩
      | _=>simp [qA]at hq
    | _=>
      simp only [qA,sI']at hq;subst hq;exact ac
 ·intro l he;have aa:aL g2 l=none:=he;show(if aL g2 l=none then PHeap.emp else hs l)=_
  rw [if_pos aa]
 ·intro l m ae;show PHeap.disj (if aL g2 l=none then .emp else hs l) (if aL g2 m=none then .emp else hs m)
  split
  ·exact(aLy _).symm
  ·split
   ·exact aLy _
   ·exact h3 l m ae
 ·intro l;show PHeap.disj (if aL g2 l=none then .emp else hs l) hR
  split
  ·exact(aLy _).symm
  ·exact h4 l
 ·intro l;show PHeap.sub (if aL g2 l=none then .emp else hs l) w
  split
  ·exact aLX _
  ·exact h5 l
structure PR (K:AVal->aC A->Prop) (v:AVal) (g:aC A):Prop where
 ex: ∃g2,mN g g2/\K v g2
theorem aA.less{I:Itp A}{f:FuncId}{args:List AVal}{h:aC A}{K:AVal->aC A->Prop}(h0:aA I P f args h (PR K)):aA I P f args h K:=by
 intro V hR w aa hi hf hr;refine(h0 V hR w aa hi hf hr).mono ?_;rintro e w' ⟨v,v',V',g',⟨g2,hw,hK⟩,k2,k3,k4,k5,k6,k7,k8⟩;exact⟨v,v',V',g2,hK,k2,k3,k4,by rw [mO hw];exact k5,by rw [mO hw];exact k6,k7.weak hw,k8⟩
end Go.Sh
namespace Go.Sh
open Go
variable [Con] {A:Type} {P:Program}
theorem aLM{I:Itp A}(n:Nat)(v:AVal)(g:aC A):aF I n v g v g:=fun V hR w x h1 h2 h3 h4=>⟨V,fun _ _ _ h=>h,h2,h3,h4,h1⟩
theorem aF.trans{I:Itp A}{n:Nat}{v v2 v3:AVal}{g g2 g3:aC A}(a:aF I n v g v2 g2)(b:aF I n v2 g2 v3 g3):aF I n v g v3 g3:=by
 intro V hR w x h1 h2 h3 h4;obtain⟨V1,a1,a2,a3,a4,a5⟩:=a V hR w x h1 h2 h3 h4;obtain⟨V2,b1,b2,b3,b4,b5⟩:=b V1 hR w x a5 a2 a3 a4;exact⟨V2,fun l y hl hy=>b1 l y hl (a1 l y hl hy),b2,b3,b4,b5⟩
theorem aF.weak{I:Itp A}{n:Nat}{v:AVal}{g g2:aC A}(h:mN g g2):aF I n v g v g2:=fun V hR w x h1 h2 h3 h4=>⟨V,fun _ _ _ h=>h,by rw [mO h];exact h2,by rw [mO h];exact h3,h4,h1.weak h⟩
theorem aF.pick{I:Itp A}{n:Nat}{v:AVal}{g:aC A}(pl:List Nat)(h:(dW pl g.length&&iJ pl 0 n)=true):aF I n v g (lI pl v) (gQ pl g):=by
 intro V hR w x h1 h2 h3 h4;obtain⟨q1,q2⟩:=Bool.and_eq_true_iff.1 h;obtain⟨p1,p2,p3,p4⟩:=vG.elim q1 q2 h1 h2;exact⟨_,fun l y hl hy=>(p1 l hl).trans hy,p2,p3,pN h4,p4⟩
theorem aF.unpack{tb:A->Nat×aC A}{n:Nat}{v:AVal}{g:aC A}(t:A)(l np:Nat)(e:aC A)(ps:List Nat)(hl:aL g l=some (.abs t ps))(ht:tb t=(np,e))(ho:obOk np e=true)(hnp:ps.length=np):aF (obI tb) n v g v (aP g l np e ps):=by
 intro V hR w x h1 h2 h3 h4;obtain⟨V1,v1,v2,v3⟩:=h1.unpack tb h2 hl ht ho hnp;exact⟨V1,fun l y _ hy=>v1 l y hy,v2,by rw [gR];omega,Rep.mono v1 _ _ h4,v3⟩
theorem aF.pack{tb:A->Nat×aC A}{n:Nat}{v:AVal}{g:aC A}(h2:aC A)(t:A)(l np:Nat)(e:aC A)(ps:List Nat)(hg:g=aP h2 l np e ps)(hl:aL h2 l=some (.abs t ps))(ht:tb t=(np,e))
 (hb:(Nat.ble n h2.length&&obOk np e&&l8 h2 l ps&&v.within (upto 0 h2.length)&&Nat.beq ps.length np)=true):aF (obI tb) n v g v h2:=by
 subst hg;simp only [Bool.and_eq_true]at hb;obtain⟨⟨⟨⟨b3,b4⟩,b5⟩,b6⟩,b7⟩:=hb;have hn:n<=h2.length:=Nat.le_of_ble_eq_true b3;intro V hR w x h1 hf h3 h4;refine⟨_,?_,?_,hn,?_,h1.pack tb hl ht b4 (Nat.eq_of_beq_eq_true b7) b5⟩
 ·intro m y hm hy;show(if m<h2.length then V m else none)=some y
  rw [if_pos omz];exact hy
 ·intro m hm;show(if m<h2.length then _ else none)=none
  rw [if_neg omz]
 ·exact aL6 (pl:=upto 0 h2.length) (fun i hi=>by
   show _=if i<h2.length then _ else none
   rw [if_pos (kJ.1 hi)]) _ _ b6 h4
theorem aLE{I:Itp A}{n:Nat}{v v2:AVal}{g g2:aC A}(h1:v=v2)(h2:g=g2):aF I n v g v2 g2:=by subst h1 h2;exact aLM _ _ _
structure cS (I:Itp A) (n:Nat) (K:AVal->aC A->Prop) (v:AVal) (g:aC A):Prop where
 ex: ∃v2 g2,aF I n v g v2 g2/\K v2 g2
theorem aLG{I:Itp A}{f:FuncId}{args:List AVal}{h:aC A}{K:AVal->aC A->Prop}(h0:aA I P f args h (cS I h.length K)):aA I P f args h K:=by
 intro V hR w aa hi hf hr;refine(h0 V hR w aa hi hf hr).mono ?_;rintro e w' ⟨v,v',V',g',⟨v2,g2,ht,hK⟩,k2,k3,k4,k5,k6,k7,k8⟩;obtain⟨V1,a1,a2,a3,a4,a5⟩:=ht V' hR w' v' k7 k5 k6 k3;refine⟨v2,v',V1,g2,hK,k2,a4,?_,a2,a3,a5,k8⟩;intro l y hl
 have ac:l<h.length:=by
  cases Nat.lt_or_ge l h.length with
  | inl q=>exact q
  | inr q=>rw [hf l q]at hl;cases hl
 exact a1 l y ac (k4 l y hl)
inductive Tr (X:Type) where
 | ret (x:X)
 | ite (b:Bool) (l r:Tr X)
 | pre (p:Prop) (t:Tr X)
def Tr.run{X:Type} :Tr X->(X->Prop)->Prop
 | .ret x,K=>K x
 | .ite b l r,K=>cond b (l.run K) (r.run K)
 | .pre p t,K=>p/\t.run K
def Tr.val{X:Type} :Tr X->X
 | .ret x=>x
 | .ite b l r=>bif b then l.val else r.val
 | .pre _ t=>t.val
def Tr.ok{X:Type} :Tr X->Prop
 | .ret _=>True
 | .ite b l r=>cond b l.ok r.ok
 | .pre p t=>p/\t.ok
theorem aLD{X:Type}{K:X->Prop} : ∀ {t:Tr X},t.ok->K t.val->t.run K
 | .ret x,_,k=>k
 | .ite b l r,o,k=>by
   cases b with
   | true=>exact aLD (t:=l) o k
   | false=>exact aLD (t:=r) o k
 | .pre p t,o,k=>⟨o.1,aLD (t:=t) o.2 k⟩
def aC3{X:Type}(n:Nat)(parse:AVal->aC A->Option (Prop×X))(K:X->Prop)(v:AVal)(g:aC A):Prop:=
 cK (dW (dO n g v.labels) g.length&&iJ (dO n g v.labels) 0 n) (match parse (lI (dO n g v.labels) v) (gQ (dO n g v.labels) g)with
  | some (p,x)=>p/\K x
  | none=>False)
def bQ{X:Type}(I:Itp A)(n:Nat)(parse:AVal->aC A->Option (Prop×X))(fin:X->Out A):Prop:=
 ∀v g p x,parse v g=some (p,x)->p-> ∀K,(fin x).run K->cS I n K v g
theorem aA.leaf{X:Type}{I:Itp A}{f:FuncId}{args:List AVal}{h:aC A}{K:AVal->aC A->Prop}{parse:AVal->aC A->Option (Prop×X)}{fin:X->Out A}(n:Nat)(hn:n<=h.length)(hr:bQ I n parse fin)
 (h0:aA I P f args h (aC3 n parse fun x=>(fin x).run K)): ∀V hR w (args':Array Value),Inv I V (toF h) hR w->bO V h.length->aH V args args'.toList->Calls P f args' w (fun e w'=> ∃v v' V' h',K v h'/\e=.returned v'/\Rep V' v v'/\(∀l y,l<n->V l=some y->V' l=some y)/\bO V' h'.length/\n<=h'.length/\Inv I V' (toF h') hR w'/\bP w w'):=by
 intro V hR w args' hi hf ac;refine(h0 V hR w args' hi hf ac).mono ?_;rintro e w' ⟨v,v',V',g',hL,k2,k3,k4,k5,k6,k7,k8⟩;unfold aC3 at hL;obtain⟨hg,hL⟩:=bL.1 hL;have ht:=aF.pick (I:=I) (v:=v) _ hg;split at hL
 ·rename_i p x hp;obtain⟨v2,g2,aa,hK⟩:=(hr _ _ p x hp hL.1 K hL.2).ex;obtain⟨V1,a1,a2,a3,a4,a5⟩:=(ht.trans aa) V' hR w' v' k7 k5 omz k3;exact⟨v2,v',V1,g2,hK,k2,a4,fun l y hl hy=>a1 l y hl (k4 l y hy),a2,a3,a5,k8⟩
 ·exact hL.elim
theorem aA.plain{X:Type}{I:Itp A}{f:FuncId}{args:List AVal}{h:aC A}{K:AVal->aC A->Prop}{parse:AVal->aC A->Option (Prop×X)}{fin:X->Out A}(hr:bQ I h.length parse fin)
 (h0:aA I P f args h (aC3 h.length parse fun x=>(fin x).run K)):aA I P f args h K:=by
 intro V hR w aa hi hf ac;refine(aA.leaf h.length (Nat.le_refl _) hr h0 V hR w aa hi hf ac).mono ?_;rintro e w' ⟨v,v',V',h',k1,k2,k3,k4,k5,k6,k7,k8⟩;refine⟨v,v',V',h',k1,k2,k3,?_,k5,k6,k7,k8⟩;intro l y hy
 have ae:l<h.length:=by
  cases Nat.lt_or_ge l h.length with
  | inl q=>exact q
  | inr q=>rw [hf l q]at hy;cases hy
 exact k4 l y ae hy
end Go.Sh
namespace Go.Sh
open Go
variable [Con] {A:Type} {P:Program}
def aCV(g:aC A):AVal->Bool
 | .ptr l 0=>(match aL g l with
   | some (.abs _ _)=>false
   | _=>true)
 | _=>true
def VQ(g:aC A)(pos:List Nat):Nat->List AVal->List AVal
 | _,[]=>[]
 | i,v::vs=>cond (pos.elem i&&aCV g v) .O v::VQ g pos (i+1) vs
theorem xO(g:aC A)(pos:List Nat): ∀(i:Nat) (vs:List AVal),oX vs (VQ g pos i vs)
 | _,[]=>trivial
 | i,v::vs=>by
   refine⟨?_,xO g pos (i+1) vs⟩;cases pos.elem i&&aCV g v with
   | true=>exact .inr rfl
   | false=>exact .inl rfl
theorem xR: ∀(vs:List AVal),oX vs vs
 | []=>trivial
 | _::vs=>⟨.inl rfl,xR vs⟩
theorem xQ(e:Option (aG A)):qA e e:=by
 cases e with
 | none=>trivial
 | some e=>cases e with
   | cells vs=>exact xR vs
   | _=>rfl
theorem nJ: ∀(g:aC A),mN g g
 | []=>trivial
 | _::g=>⟨xQ _,nJ g⟩
theorem kQ: ∀(g:aC A) (l:Nat) (e2:Option (aG A)),qA (aL g l) e2->mN g (g.set l e2)
 | [],_,_,_=>trivial
 | x::g,0,e2,h=>⟨by simpa [aL]using h,nJ g⟩
 | x::g,l+1,e2,h=>⟨xQ x,kQ g l e2 (by simpa [aL]using h)⟩
def BC(g:aC A)(root:Nat)(pos:List Nat):aC A:=match aL g root with
 | some (.cells vs)=>g.set root (some (.cells (VQ g pos 0 vs)))
 | _=>g
theorem BD(g:aC A)(root:Nat)(pos:List Nat):mN g (BC g root pos):=by
 unfold BC;split
 ·rename_i vs h;refine kQ g root _ ?_;rw [h];exact xO g pos 0 vs
 ·exact nJ g
theorem aF.cast{I:Itp A}{n:Nat}{cs:List (Place×gS)}{v v2:AVal}{g g2:aC A}(h:gW cs [v] g=some ([v2],g2)):aF I n v g v2 g2:=by
 intro V hR w x h1 h2 h3 h4;obtain⟨V',⟨c1,c2,c3,c4⟩,r⟩:=fK h h1 h2 (xs:=[x]) ⟨x,[],rfl,h4,rfl⟩;obtain⟨y,ys,e,r1,_⟩:=r;simp only [lI']at e;obtain⟨rfl,_⟩:=e;exact⟨V',fun l y _ hy=>c1 l y hy,c2,by omega,r1,c4⟩
def fG{X:Type}(n root:Nat)(pos:List Nat)(cs:List (Place×gS))(parse:AVal->aC A->Option (Prop×X))(K:X->Prop)(v:AVal)(g:aC A):Prop:=
 let pl:=dO n g v.labels
 cK (dW pl g.length&&iJ pl 0 n) (
  match gW cs [lI pl v] (BC (gQ pl g) root pos)with
  | some ([v3],g3)=>
    let pl2:=dO n g3 v3.labels
    cK (dW pl2 g3.length&&iJ pl2 0 n) (match parse (lI pl2 v3) (gQ pl2 g3)with
     | some (p,x)=>p/\K x
     | none=>False)
  | _=>False)
theorem fG.sees{X:Type}{I:Itp A}{n root:Nat}{pos:List Nat}{cs:List (Place×gS)}{parse:AVal->aC A->Option (Prop×X)}{fin:X->Out A}(hr:bQ I n parse fin){K:AVal->aC A->Prop}{v:AVal}{g:aC A}
 (h:fG n root pos cs parse (fun x=>(fin x).run K) v g):cS I n K v g:=by
 unfold fG at h;obtain⟨h1,h⟩:=bL.1 h;have t1:=aF.pick (I:=I) (v:=v) _ h1;split at h
 ·rename_i v3 g3 hc;obtain⟨h2,h⟩:=bL.1 h;have t2:aF I n (lI (dO n g v.labels) v) (gQ (dO n g v.labels) g) v3 g3:=(aF.weak (BD _ root pos)).trans (aF.cast hc);have t3:=aF.pick (I:=I) (v:=v3) _ h2;split at h
  ·rename_i p x hp;obtain⟨v4,g4,t4,hK⟩:=(hr _ _ p x hp h.1 K h.2).ex;exact⟨v4,g4,((t1.trans t2).trans t3).trans t4,hK⟩
  ·exact h.elim
 ·exact h.elim
theorem aMw{X:Type}{I:Itp A}{f:FuncId}{args:List AVal}{h:aC A}{K:AVal->aC A->Prop}{parse:AVal->aC A->Option (Prop×X)}{fin:X->Out A}(n:Nat)(hn:n<=h.length){root:Nat}{pos:List Nat}{cs:List (Place×gS)}(hr:bQ I n parse fin)
 (h0:aA I P f args h (fG n root pos cs parse fun x=>(fin x).run K)): ∀V hR w (args':Array Value),Inv I V (toF h) hR w->bO V h.length->aH V args args'.toList->Calls P f args' w (fun e w'=> ∃v v' V' h',K v h'/\e=.returned v'/\Rep V' v v'/\(∀l y,l<n->V l=some y->V' l=some y)/\bO V' h'.length/\n<=h'.length/\Inv I V' (toF h') hR w'/\bP w w'):=by
 intro V hR w args' hi hf ac;refine(h0 V hR w args' hi hf ac).mono ?_;rintro e w' ⟨v,v',V',g',hL,k2,k3,k4,k5,k6,k7,k8⟩;obtain⟨v2,g2,aa,hK⟩:=(fG.sees hr hL).ex;obtain⟨V1,a1,a2,a3,a4,a5⟩:=aa V' hR w' v' k7 k5 omz k3;exact⟨v2,v',V1,g2,hK,k2,a4,fun l y hl hy=>a1 l y hl (k4 l y hy),a2,a3,a5,k8⟩
theorem aLK{X:Type}{I:Itp A}{f:FuncId}{args:List AVal}{h:aC A}{K:AVal->aC A->Prop}{parse:AVal->aC A->Option (Prop×X)}{fin:X->Out A}{root:Nat}{pos:List Nat}{cs:List (Place×gS)}(hr:bQ I h.length parse fin)
 (h0:aA I P f args h (fG h.length root pos cs parse fun x=>(fin x).run K)):aA I P f args h K:=by
 intro V hR w aa hi hf ac;refine(aMw h.length (Nat.le_refl _) hr h0 V hR w aa hi hf ac).mono ?_;rintro e w' ⟨v,v',V',h',k1,k2,k3,k4,k5,k6,k7,k8⟩;refine⟨v,v',V',h',k1,k2,k3,?_,k5,k6,k7,k8⟩;intro l y hy
 have ae:l<h.length:=by
  cases Nat.lt_or_ge l h.length with
  | inl q=>exact q
  | inr q=>rw [hf l q]at hy;cases hy
 exact k4 l y ae hy
end Go.Sh
namespace Go.Sh
open Go
variable [Con] {A:Type} {P:Program}
theorem aMg{V:Val} : ∀ {av:List AVal} {vs:List Value},av.length=vs.length->(∀(i:Nat) (a:AVal) (v:Value),av[i]? =some a->vs[i]? =some v->Rep V a v)->aH V av vs
 | [],[],_,_=>rfl
 | [],_::_,h,_=>by simp at h
 | _::_,[],h,_=>by simp at h
 | a::av,v::vs,h,hg=>⟨v,vs,rfl,hg 0 a v rfl rfl,aMg (by simpa using h) (fun i a v h1 h2=>hg (i+1) a v (by simpa using h1) (by simpa using h2))⟩
theorem aH.at{V:Val}{av:List AVal}{vs:List Value}(h:aH V av vs){i:Nat}{a:AVal}{v:Value}(ha:av[i]? =some a)(hv:vs[i]? =some v):Rep V a v:=by
 obtain⟨y,hy,r⟩:=aH.get h i a ha;rw [hv]at hy;cases hy;exact r
variable {tb:A->Nat×aC A}
def yT(tb:A->Nat×aC A)(P:Program)(t:TypeId)(o:A)(off:Nat)(h:aC A)(K:AVal->aC A->Prop):Prop:=
 match tb o with
 | (_,some (.cells vs)::_)=>match eZ P t,bW P t with
   | some true,some n=>cK (Nat.ble (off+n) vs.length&&aLA [] ((vs.drop off).take n)) (K (.agg ((vs.drop off).take n)) h)
   | some false,_=>match vs[off]? with
     | some v=>cK (v.within []) (K v h)
     | none=>False
   | _,_=>False
 | _=>False
end Go.Sh
namespace Go.Sh
open Go
variable [Con] {A:Type} {P:Program}
def aQ(I:Itp A)(h h2:aC A):Prop:= ∀V hR w,Inv I V (toF h) hR w->bO V h.length-> ∃V',V.le V'/\bO V' h2.length/\h.length<=h2.length/\Inv I V' (toF h2) hR w
theorem aQ.refl{I:Itp A}(h:aC A):aQ I h h:=fun V hR w h1 h2=>⟨V,V.le_refl,h2,Nat.le_refl _,h1⟩
theorem aQ.trans{I:Itp A}{h h2 h3:aC A}(a:aQ I h h2)(b:aQ I h2 h3):aQ I h h3:=by
 intro V hR w h1 hf;obtain⟨V1,a1,a2,a3,a4⟩:=a V hR w h1 hf;obtain⟨V2,b1,b2,b3,b4⟩:=b V1 hR w a4 a2;exact⟨V2,Val.le_trans a1 b1,b2,Nat.le_trans a3 b3,b4⟩
theorem aQ.unpack{tb:A->Nat×aC A}{h:aC A}(t:A)(l np:Nat)(g:aC A)(ps:List Nat)(hl:aL h l=some (.abs t ps))(ht:tb t=(np,g))(ho:obOk np g=true)(hnp:ps.length=np):aQ (obI tb) h (aP h l np g ps):=by
 intro V hR w h1 hf;obtain⟨V1,v1,v2,v3⟩:=h1.unpack tb hf hl ht ho hnp;exact⟨V1,v1,v2,by rw [gR];omega,v3⟩
theorem aMs{I:Itp A}{h h2:aC A}(e:h=h2):aQ I h h2:=by subst e;exact aQ.refl h
theorem aLB{I:Itp A}{f:FuncId}{args:List AVal}{h h2:aC A}{K:AVal->aC A->Prop}(ho:aQ I h h2)(h0:aA I P f args h2 K):aA I P f args h K:=by
 intro V hR w aa hi hf hr;obtain⟨V1,v1,v2,v3,v4⟩:=ho V hR w hi hf;refine(h0 V1 hR w aa v4 v2 (aH.mono v1 _ _ hr)).mono ?_;rintro e w' ⟨v,v',V',h',k1,k2,k3,k4,k5,k6,k7,k8⟩;exact⟨v,v',V',h',k1,k2,k3,Val.le_trans v1 k4,k5,Nat.le_trans v3 k6,k7,k8⟩
theorem aLx{X:Type}{I:Itp A}{f:FuncId}{args:List AVal}{h h2:aC A}{K:AVal->aC A->Prop}{parse:AVal->aC A->Option (Prop×X)}{fin:X->Out A}{root:Nat}{pos:List Nat}{cs:List (Place×gS)}(hr:bQ I h.length parse fin)(ho:aQ I h h2)
 (h0:aA I P f args h2 (fG h.length root pos cs parse fun x=>(fin x).run K)):aA I P f args h K:=by
 intro V hR w aa hi hf ac;obtain⟨V1,v1,v2,v3,v4⟩:=ho V hR w hi hf;refine(aMw h.length v3 hr h0 V1 hR w aa v4 v2 (aH.mono v1 _ _ ac)).mono ?_;rintro e w' ⟨v,v',V',h',k1,k2,k3,k4,k5,k6,k7,k8⟩;refine⟨v,v',V',h',k1,k2,k3,?_,k5,k6,k7,k8⟩;intro l y hy
 have ae:l<h.length:=by
  cases Nat.lt_or_ge l h.length with
  | inl q=>exact q
  | inr q=>rw [hf l q]at hy;cases hy
 exact k4 l y ae (v1 l y hy)
def aI.or(F G:aI A):aI A:=fun args h=>match F args h with
 | some o=>some o
 | none=>G args h
theorem aL9{I:Itp A}{f:FuncId}{F G:aI A}(hF:aI.ok I P f F)(hG:aI.ok I P f G):aI.ok I P f (F.or G):=by
 intro args h o ho K hK;unfold aI.or at ho;split at ho
 ·rename_i o' h1;simp only [sI']at ho;subst ho;exact hF args h _ h1 K hK
 ·exact hG args h o ho K hK
def aGy(pos:List Nat):Nat->List AVal->List AVal
 | _,[]=>[]
 | i,v::vs=>cond (pos.elem i) .O v::aGy pos (i+1) vs
theorem zJ(pos:List Nat): ∀(i:Nat) (vs:List AVal),oX vs (aGy pos i vs)
 | _,[]=>trivial
 | i,v::vs=>by
   refine⟨?_,zJ pos (i+1) vs⟩;cases pos.elem i with
   | true=>exact .inr rfl
   | false=>exact .inl rfl
def aBN(g:aC A)(root:Nat)(pos:List Nat):aC A:=match aL g root with
 | some (.cells vs)=>g.set root (some (.cells (aGy pos 0 vs)))
 | _=>g
theorem eH(g:aC A)(root:Nat)(pos:List Nat):mN g (aBN g root pos):=by
 unfold aBN;split
 ·rename_i vs h;refine kQ g root _ ?_;rw [h];exact zJ pos 0 vs
 ·exact nJ g
theorem sE{I:Itp A}{n:Nat}{K:AVal->aC A->Prop}{d:Bool}{a b g:aC A}(hK:(Out.ite d (.ret (.bool true) a) (.ret (.bool false) b)).run K)(h1:K (.bool true) a->cS I n K (.bool true) g)(h2:K (.bool false) b->cS I n K (.bool false) g):cS I n K (.bool d) g:=by
 cases d with
 | true=>exact h1 hK
 | false=>exact h2 hK
end Go.Sh
namespace Go.Sh
open Go
variable [Con]
structure kR (P:Program) (l:Nat) (xs:List Int) (Fr:Nat->PHeap->Prop):Prop where
 con: ∀i hF,Fr i hF-> ∀b o,Con.con b=some o->hF b=some o
 step: ∀i x,xs[i]? =some x-> ∀(hF own:PHeap) (w:World),Fr i hF->own.disj hF->own.sub w->hF.sub w->
  YieldAt Fence.wide 0 P l #[.int .i64 x] w fun e w'=>e=.returned (.bool true)/\ ∃hF',Fr (i+1) hF'/\own.disj hF'/\own.sub w'/\hF'.sub w'/\bP w w'
def PHeap.less(h g:PHeap):PHeap:=fun b=>match g b with | some _=>none | none=>h b
theorem aMd{h g:PHeap}{b:Nat}{o:Obj}(e:h.less g b=some o):h b=some o/\g b=none:=by
 unfold PHeap.less at e;cases hg:g b with
 | some o'=>rw [hg]at e;cases e
 | none=>rw [hg]at e;exact⟨e,rfl⟩
theorem PHeap.less_of{h g:PHeap}{b:Nat}{o:Obj}(e:h b=some o)(hg:g b=none):h.less g b=some o:=by unfold PHeap.less;rw [hg];exact e
theorem aLZ{h g:PHeap}{b:Nat}{o:Obj}(e:h.join g b=some o):h b=some o\/(h b=none/\g b=some o):=by
 unfold PHeap.join at e;cases hh:h b with
 | some o'=>rw [hh]at e;exact .inl (by simpa using e)
 | none=>rw [hh]at e;exact .inr ⟨rfl,e⟩
theorem aMo{h g:PHeap}(hg: ∀b o,g b=some o->h b=some o):(h.less g).join g=h:=by
 funext b;unfold PHeap.join PHeap.less;cases e:g b with
 | some o=>simp [hg b o e]
 | none=>cases e2:h b<;>simp
def frI(Fr:Nat->PHeap->Prop):Itp Nat:=fun i _ _ p=>Fr i (p.join Con.con)/\p.disj Con.con
section
variable {P:Program}
theorem dT{h g:PHeap}(d:h.disj g){b:Nat}{o:Obj}(e:h b=some o):g b=none:=by
 rcases d b with h1 | h1
 ·rw [e]at h1;cases h1
 ·exact h1
theorem PL{l:Nat}{xs:List Int}{Fr:Nat->PHeap->Prop}(hY:kR P l xs Fr){i:Nat}{x:Int}(hx:xs[i]? =some x){r:aC Nat}{K:AVal->aC Nat->Prop}(hK:K (.bool true) (some (.abs (i+1) [])::r))
 (V:Val) (hR:PHeap) (w:World) (hi:Inv (frI Fr) V (toF (some (.abs i [])::r)) hR w) (hf: ∀l,(some (aG.abs i [])::r).length <=l->V l=none):
 YieldAt Fence.wide 0 P l #[.int .i64 x] w (zR (frI Fr) V (some (aG.abs i [])::r:aC Nat).length hR K w):=by
 obtain⟨hs,h1,h2,h3,h4,h5,h6,h7⟩:=hi;obtain⟨b0,k0,e1,bs,e2,al,am⟩:=h1 0 (.abs i []) rfl
 let own:PHeap:=fun b=>(aLF (fun m=>if m=0 then .emp else hs m)).join (hR.less Con.con) b
 have aa: ∀b o,own b=some o->(∃m,m≠0/\hs m b=some o)\/(hR b=some o/\Con.con b=none):=by
  intro b o e;rcases aLZ e with h | ⟨_,h⟩
  ·obtain⟨m,hm⟩:=aLQ h
   by_cases h0:m=0
   ·rw [if_pos h0]at hm;cases hm
   ·rw [if_neg h0]at hm;exact .inl ⟨m,h0,hm⟩
  ·exact .inr (aMd h)
 have F_some: ∀b o,(hs 0).join Con.con b=some o->hs 0 b=some o\/Con.con b=some o:=by
  intro b o e;rcases aLZ e with h | ⟨_,h⟩
  ·exact .inl h
  ·exact .inr h
 have aj:own.disj ((hs 0).join Con.con):=by
  intro b;cases e:own b with
  | none=>exact .inl rfl
  | some o=>
    right;cases e3:(hs 0).join Con.con b with
    | none=>rfl
    | some o2=>
      rcases aa b o e with⟨m,hm,e4⟩ | ⟨e4,e5⟩<;>rcases F_some b o2 e3 with e6 | e6
      ·have:=dT (h3 m 0 hm) e4;rw [e6]at this;cases this
      ·have:=dT (h4 m) e4;rw [h7 b o2 e6]at this;cases this
      ·have:=dT (h4 0) e6;rw [e4]at this;cases this
      ·rw [e6]at e5;cases e5
 have ai:own.sub w:=by
  intro b o e;rcases aa b o e with⟨m,hm,e4⟩ | ⟨e4,e5⟩
  ·exact h5 m b o e4
  ·exact h6 b o e4
 have ak:((hs 0).join Con.con).sub w:=by
  intro b o e;rcases F_some b o e with e6 | e6
  ·exact h5 0 b o e6
  ·exact h6 b o (h7 b o e6)
 obtain⟨fn,tmps,assign,body,y1,y2⟩:=hY.step i x hx _ own w al aj ai ak;refine⟨fn,tmps,assign,body,y1,y2.mono ?_⟩;rintro e w' ⟨rfl,ag,g1,g2,g3,g4,g5⟩;have gc:=hY.con _ _ g1;refine⟨.bool true,.bool true,V,_,hK,rfl,rfl,V.le_refl,hf,Nat.le_refl _,?_,g5⟩
 have big_of: ∀m b o,m≠0->hs m b=some o->own b=some o:=by
  intro m b o hm e;show(aLF _).join _ b=_
  have hb:aLF (fun m=>if m=0 then .emp else hs m) b=some o:=by
   refine aLP (l:=m) ?_ ?_
   ·intro p q ah;show PHeap.disj (if p=0 then .emp else hs p) (if q=0 then .emp else hs q)
    split
    ·exact(aLy _).symm
    ·split
     ·exact aLy _
     ·exact h3 p q ah
   ·show(if m=0 then PHeap.emp else hs m) b=some o
    rw [if_neg hm];exact e
  unfold PHeap.join;rw [hb]
 have ac: ∀b o,hR b=some o->Con.con b=none->own b=some o:=by
  intro b o e ec;show(aLF _).join _ b=_;unfold PHeap.join;cases hb:aLF (fun m=>if m=0 then .emp else hs m) b with
  | none=>exact PHeap.less_of e ec
  | some o2=>
    obtain⟨m,hm⟩:=aLQ hb
    by_cases h0:m=0
    ·rw [if_pos h0]at hm;cases hm
    ·rw [if_neg h0]at hm;have:=dT (h4 m) hm;rw [e]at this;cases this
 obtain⟨ae,z,nz⟩: ∃ae:Nat->PHeap,ae 0=ag.less Con.con/\ ∀m,m≠0->ae m=hs m:=⟨fun m=>if m=0 then ag.less Con.con else hs m,if_pos rfl,fun m h=>if_neg h⟩
 refine⟨ae,?_,?_,?_,?_,?_,?_,h7⟩
 ·intro m e he
  by_cases h0:m=0
  ·subst h0;rw [z];have he:some (aG.abs (i+1) [])=some e:=he;cases he;refine⟨b0,k0,e1,bs,e2,?_,?_⟩
   ·rw [aMo gc];exact g1
   ·intro b;cases ec:Con.con b with
    | none=>exact .inr rfl
    | some o=>left;unfold PHeap.less;rw [ec]
  ·rw [nz m h0];refine h1 m e ?_;cases m with
   | zero=>exact absurd rfl h0
   | succ m=>exact he
 ·intro m hm
  by_cases h0:m=0
  ·subst h0;cases hm
  ·rw [nz m h0];refine h2 m ?_;cases m with
   | zero=>exact absurd rfl h0
   | succ m=>exact hm
 ·have key: ∀m,m≠0->(hs m).disj (ag.less Con.con):=by
   intro m hm b;cases e:hs m b with
   | none=>exact .inl rfl
   | some o=>
     right;have:=dT g2 (big_of m b o hm e);unfold PHeap.less;rw [this];split<;>rfl
  intro m q af
  by_cases h0:m=0
  ·subst h0;rw [z,nz q (fun e=>af e.symm)];exact(key q (fun e=>af e.symm)).symm
  ·rw [nz m h0]
   by_cases hq:q=0
   ·subst hq;rw [z];exact key m h0
   ·rw [nz q hq];exact h3 m q af
 ·intro m
  by_cases h0:m=0
  ·subst h0;rw [z];intro b;cases e:hR b with
   | none=>exact .inr rfl
   | some o=>
     left;cases ec:Con.con b with
     | some o2=>unfold PHeap.less;rw [ec]
     | none=>
       have:=dT g2 (ac b o e ec);unfold PHeap.less;rw [ec];exact this
  ·rw [nz m h0];exact h4 m
 ·intro m b o e
  by_cases h0:m=0
  ·subst h0;rw [z]at e;exact g4 b o (aMd e).1
  ·rw [nz m h0]at e;exact g3 b o (big_of m b o h0 e)
 ·intro b o e;cases ec:Con.con b with
  | some o2=>
    have:=h7 b o2 ec;rw [e]at this;cases this;exact g4 b o (gc b o ec)
  | none=>exact g3 b o (ac b o e ec)
structure aB2 (xs:List Int) (i:Nat) (x:Int):Prop where
 h:xs[i]? =some x
def itE(P:Program){l:Nat}{xs:List Int}{Fr:Nat->PHeap->Prop}(hY:kR P l xs Fr):Env Nat P where
 I:=frI Fr
 cps:=fun _=>none
 det:=fun _=>none
 meth:=fun _ _=>none
 cpsOk:=by intro f S h;cases h
 detOk:=by intro f S h;cases h
 methOk:=by intro t n f h;cases h
 rowOk:=by intro ρ o h K hk;exact hk.elim
 yld:=fun l' args h K=>match args,h with
  | [.int .i64 x],some (.abs i [])::r=>(l'=l/\aB2 xs i x)/\K (.bool true) (some (.abs (i+1) [])::r)
  | _,_=>False
 yldOk:=by
  intro l' args h K hk V hR w args' hi hf hr;split at hk
  ·rename_i x i r;obtain⟨⟨rfl,⟨hx⟩⟩,hK⟩:=hk;obtain⟨v,vs,e,hv,e2⟩:=hr;have hv:v=.int .i64 x:=hv;have e2:vs=[]:=e2;subst hv;subst e2;have ha:args'= #[.int .i64 x]:=by apply Array.ext';simpa using e
   subst ha;exact PL hY hx hK V hR w hi hf
  ·exact hk.elim
end
end Go.Sh
namespace Go.Sh
open Go
variable [Con] {A:Type}
section
variable {P:Program} {E:Env A P}
abbrev PU(E:Env A P)(ds:List Deferred)(V:Val)(n:Nat)(hR:PHeap)(w:World)(K:List AVal->aC A->Prop)(a:Act)(w':World):Prop:=BN E ds V n hR w K a w'
end
def bX{P:Program}(E:Env A P)(inl:vF A)(nt:Nat):Code->List AVal->aC A->(List AVal->aC A->Prop)->Prop
 | .skip,tm,h,K=>K tm h
 | .region _ ops draw,tm,h,K=>cK (Nat.beq tm.length nt&& !draw) (jT E inl tm nt ops.toList [] 0 [] h K)
 | .seq x y,tm,h,K=>bX E inl nt x tm h fun tm' h'=>bX E inl nt y tm' h' K
 | .cond c x y,tm,h,K=>match dK tm c with
    | .bool b=>cond b (bX E inl nt x tm h K) (bX E inl nt y tm h K)
    | _=>False
 | .block _ c,tm,h,K=>bX E inl nt c tm h K
 | _,_,_,_=>False
section
variable {P:Program} {E:Env A P}
theorem eX{inl:vF A}(hinl:lK E inl){ro:Option Nat}{ds:List Deferred}{nt:Nat}{hR:PHeap} : ∀(c:Code) (tm:List AVal) (h:aC A) (K:List AVal->aC A->Prop) (a:Act) (w:World) (V:Val) (Q:Exit->Act->World->Prop),
 bX E inl nt c tm h K->Inv E.I V (toF h) hR w->bO V h.length->aH V tm a.tmps.toList->a.defers=ds->
 (∀a' w',PU E ds V h.length hR w K a' w'->Q .normal a' w')->c.wpIn (FW ro) 0 P Q a w:=by
 intro c
 induction c with
 | skip=>
   intro tm h K a w V Q he hi hf ht hd hQ;exact wpIn_skip (hQ a w ⟨tm,V,h,he,ht,V.le_refl,hf,Nat.le_refl _,hi,aLS w,hd⟩)
 | region id ops draw=>
   intro tm h K a w V Q he hi hf ht hd hQ;unfold bX at he;obtain⟨hb,ae⟩:=bL.1 he;obtain⟨ac,af⟩:=Bool.and_eq_true_iff.1 hb;clear he hb;cases draw with
   | true=>cases af
   | false=>exact wpIn_region_list (rP hinl (Nat.eq_of_beq_eq_true ac) ops.toList [] 0 [] h K a w V hR ⟨[],rfl,rfl,rfl⟩ ae trivial hi hf ht hd hQ)
 | seq x y ihx ihy=>
   intro tm h K a w V Q he hi hf ht hd hQ;unfold bX at he;refine wpIn_seq (ihx tm h _ a w V _ he hi hf ht hd ?_);rintro a' w' ⟨aa,V',h',k1,k2,k3,k4,k5,k6,k7,k8⟩;refine ihy aa h' K a' w' V' Q k1 k6 k4 k2 k8 ?_;intro a2 w2 hT;exact hQ a2 w2 (BN.chain hT k3 k5 k7)
 | cond c x y ihx ihy=>
   intro tm h K a w V Q he hi hf ht hd hQ;unfold bX at he;split at he
   ·rename_i b hb;have hv:=gM ht c;rw [hb]at hv;have hv:a.eval c=.bool b:=hv;cases b with
    | true=>exact wpIn_cond hv (ihx tm h K a w V Q he hi hf ht hd hQ)
    | false=>exact wpIn_cond hv (ihy tm h K a w V Q he hi hf ht hd hQ)
   ·exact he.elim
 | block id c ih=>
   intro tm h K a w V Q he hi hf ht hd hQ;unfold bX at he;refine wpIn_block (ih tm h K a w V _ he hi hf ht hd ?_);intro a' w' hT;exact hQ a' w' hT
 | _=>
   intro tm h K a w V Q he hi hf ht hd hQ;exact he.elim
def W6(I:Itp A)(V:Val)(h:bE A)(hR hF:PHeap):Prop:=
 ∃hs:Nat->PHeap,(∀l e,h l=some e->e.interp I V l (hs l))/\(∀l,h l=none->hs l=.emp)/\
  (∀l m,l≠m->(hs l).disj (hs m))/\(∀l,(hs l).disj hR)/\hF=(aLF hs).join hR/\ ∀b o,Con.con b=some o->hR b=some o
theorem pQ{hs:Nat->PHeap}{hR:PHeap}{b:Nat}{o:Obj}(e:(aLF hs).join hR b=some o):(∃l,hs l b=some o)\/hR b=some o:=by
 rcases aLZ e with h | ⟨_,h⟩
 ·exact .inl (aLQ h)
 ·exact .inr h
theorem gN{hs:Nat->PHeap}{hR:PHeap}(d: ∀l m,l≠m->(hs l).disj (hs m))(dR: ∀l,(hs l).disj hR){b:Nat}{o:Obj}(e:(∃l,hs l b=some o)\/hR b=some o):(aLF hs).join hR b=some o:=by
 unfold PHeap.join;rcases e with⟨l,e⟩ | e
 ·rw [aLP d e]
 ·cases hb:aLF hs b with
  | none=>exact e
  | some o2=>
    obtain⟨l,hl⟩:=aLQ hb;have:=dT (dR l) hl;rw [e]at this;cases this
theorem cL{h g:PHeap}{b:Nat}{o:Obj}(e:h b=some o):h.join g b=some o:=by unfold PHeap.join;rw [e]
theorem pT{h g:PHeap}(d:g.disj h){b:Nat}{o:Obj}(e:g b=some o):h.join g b=some o:=by
 unfold PHeap.join;rw [dT d e];exact e
theorem W6.inv{I:Itp A}{V:Val}{h:bE A}{hR hF own:PHeap}{w:World}(hh:W6 I V h hR hF)(hd:own.disj hF)(ho:own.sub w)(hs:hF.sub w):Inv I V h (hR.join own) w:=by
 obtain⟨aa,h1,h2,h3,h4,rfl,h6⟩:=hh
 have ac:own.disj hR:=by
  intro b;cases e:own b with
  | none=>exact .inl rfl
  | some o=>
    right;have:=dT hd e;cases e2:hR b with
    | none=>rfl
    | some o2=>rw [gN h3 h4 (.inr e2)]at this;cases this
 refine⟨aa,h1,h2,h3,?_,fun l b o e=>hs b o (gN h3 h4 (.inl ⟨l,e⟩)),?_,fun b o e=>cL (h6 b o e)⟩
 ·intro l b;cases e:aa l b with
  | none=>exact .inl rfl
  | some o=>
    right;unfold PHeap.join;rw [dT (h4 l) e];cases e2:own b with
    | none=>rfl
    | some o2=>
      have:=dT hd e2;rw [gN h3 h4 (.inl ⟨l,e⟩)]at this;cases this
 ·intro b o e;rcases aLZ e with e | ⟨_,e⟩
  ·exact hs b o (gN h3 h4 (.inr e))
  ·exact ho b o e
theorem Inv.held{I:Itp A}{V:Val}{h:bE A}{hR own:PHeap}{w:World}(hi:Inv I V h (hR.join own) w)(hd:own.disj hR)(hc: ∀b o,Con.con b=some o->hR b=some o):
 ∃hF,W6 I V h hR hF/\own.disj hF/\own.sub w/\hF.sub w:=by
 obtain⟨hs,h1,h2,h3,h4,h5,h6,h7⟩:=hi
 have d1: ∀l,(hs l).disj hR:=by
  intro l b;rcases h4 l b with e | e
  ·exact .inl e
  ·right;cases e2:hR b with
   | none=>rfl
   | some o=>rw [cL e2]at e;cases e
 refine⟨_,⟨hs,h1,h2,h3,d1,rfl,hc⟩,?_,fun b o e=>h6 b o (pT hd e),?_⟩
 ·intro b;cases e:own b with
  | none=>exact .inl rfl
  | some o=>
    right;cases e2:(aLF hs).join hR b with
    | none=>rfl
    | some o2=>
      rcases pQ e2 with⟨l,e3⟩ | e3
      ·have:=dT (h4 l) e3;rw [pT hd e]at this;cases this
      ·have:=dT hd e;rw [e3]at this;cases this
 ·intro b o e;rcases pQ e with⟨l,e⟩ | e
  ·exact h5 l b o e
  ·exact h6 b o (cL e)
end
end Go.Sh
namespace Go.Sh
open Go Go.RowKit
variable [Con] {A:Type}
def FZ(P:Program)(fA:FuncId)(view:AVal)(xs:List Int):Prop:=
 ∀(l:Nat) (Fr:Nat->PHeap->Prop),kR P l xs Fr->aA (frI Fr) P fA [.func (.yield l) [] [],.ptr 1 0] [some (.abs 0 []),some (.cells [view])] (fun v h=>h=[some (.abs xs.length []),some (.cells [view])])
theorem Inv.put{I:Itp A}{V:Val}{h:bE A}{hX hY:PHeap}{w:World}{l:Nat}{o o':Obj}(hi:Inv I V h hX w)(hl:hX l=some o)(hY1:hY l=some o')(hY2: ∀b,b≠l->hY b=hX b)(hc:Con.con l=none):Inv I V h hY (w.putObj l o'):=by
 obtain⟨hs,h1,h2,h3,h4,h5,h6,h7⟩:=hi;have aa:l<w.heap.size:=(Array.getElem?_eq_some_iff.1 (h6 l o hl)).1
 have nl: ∀m,hs m l=none:=fun m=>by
  rcases h4 m l with e | e
  ·exact e
  ·rw [hl]at e;cases e
 refine⟨hs,h1,h2,h3,?_,?_,?_,?_⟩
 ·intro m b
  by_cases e:b=l
  ·subst e;exact .inl (nl m)
  ·rw [hY2 b e];exact h4 m b
 ·intro m b x e;have hb:b≠l:=fun e2=>by subst e2;rw [nl m]at e;cases e
  rw [World.putObj_heap_other hb];exact h5 m b x e
 ·intro b x e
  by_cases hb:b=l
  ·subst hb;rw [hY1]at e;cases e;exact World.putObj_heap_same aa
  ·rw [World.putObj_heap_other hb];rw [hY2 b hb]at e;exact h6 b x e
 ·intro b x e;have hb:b≠l:=fun e2=>by subst e2;rw [hc]at e;cases e
  rw [hY2 b hb];exact h7 b x e
theorem Inv.shrink{I:Itp A}{V:Val}{h:bE A}{hX hY:PHeap}{w:World}(hi:Inv I V h hX w)(hs: ∀b o,hY b=some o->hX b=some o)(hc: ∀b o,Con.con b=some o->hY b=some o):Inv I V h hY w:=by
 obtain⟨aa,h1,h2,h3,h4,h5,h6,h7⟩:=hi;refine⟨aa,h1,h2,h3,?_,h5,fun b o e=>h6 b o (hs b o e),hc⟩;intro m b;rcases h4 m b with e | e
 ·exact .inl e
 ·right;cases e2:hY b with
  | none=>rfl
  | some o=>rw [hs b o e2]at e;cases e
theorem bP.put{w:World}{l:Nat}{r r':Loop}(h:w.heap[l]? =some (.loop r)):bP w (w.putObj l (.loop r')):=by
 have aa:l<w.heap.size:=(Array.getElem?_eq_some_iff.1 h).1;refine⟨rfl,rfl,?_,?_⟩
 ·show w.heap.size<=(w.heap.setIfInBounds l _).size
  simp
 ·intro a _;unfold World.frozen?
  by_cases e:a.block=l
  ·rw [e,h,World.putObj_heap_same aa]
  ·rw [World.putObj_heap_other e]
theorem aMy(w:World)(o:Obj):bP w (w.alloc o):=by
 refine⟨rfl,rfl,?_,?_⟩
 ·rw [World.size_alloc];omega
 ·intro a ha;unfold World.frozen?
  have:(w.alloc o).heap[a.block]? =w.heap[a.block]? :=by
   show(w.heap.push o)[a.block]? =_;rw [Array.getElem?_push,if_neg omz]
  rw [this]
section
variable {P:Program} {E:Env A P}
def rgH(hR:PHeap)(D l:Nat)(r:Loop):PHeap:=fun b=>if b=l then some (.loop r)else if b=D then some (.deferred (some []))else hR b
theorem zH(hR:PHeap)(D l:Nat)(r:Loop):rgH hR D l r l=some (.loop r):=if_pos rfl
theorem aCN{hR:PHeap}{D l:Nat}{r r':Loop}{b:Nat}(h:b≠l):rgH hR D l r' b=rgH hR D l r b:=by
 unfold rgH;rw [if_neg h,if_neg h]
theorem OU{inl:vF A}(hinl:lK E inl){fA:FuncId}{view:AVal}{xs:List Int}(hA:FZ P fA view xs){nt m m0:Nat}(hmm:m0<=m){g:Operand}{p:Tmp}{assign body:Code}{tm:List AVal}{S:Nat->aC A}
 (hS: ∀j,(S j).length =m) (hwv:view.within []=true) (hSw:cT m (S 0)=true)
 (hb: ∀j x,xs[j]? =some x->bX E inl nt assign (tm.set p (.int .i64 x)) (S j) (fun tm1 h1=>bX E inl nt body tm1 h1 (fun _ h2=>aF E.I m0 (.bool true) h2 (.bool true) (S (j+1)))))
 {V:Val} {hR:PHeap} {w:World} {a:Act} {blk k:Nat} (hi:Inv E.I V (toF (S 0++ [some (.cells [view])])) hR w) (hf:bO V (m+1)) (hVm:V m=some (blk,k))
 (ht:aH V tm a.tmps.toList) (hwt:aLA (upto 0 m0) tm=true) (hd:a.defers=[])
 (hg:a.eval g=.func (.func fA) #[] #[.pointer (some ⟨blk,0,none⟩)]) (hpl:nD P fA=true)
 {Q:Exit->Act->World->Prop}
 (hQ: ∀(w':World) (D:Nat) (V':Val),(∀l y,l<m0->V l=some y->V' l=some y)->bO V' m->hR D=none->w'.heap[D]? =some (.deferred (some []))->
   Inv E.I V' (toF (S xs.length)) (fun b=>if b=D then some (.deferred (some []))else hR b) w'->bP w w'->Q .normal {a with defers:=[{target:=.collected D,args:= #[] }] } w'):
 (Code.rangeFunc g #[p] assign body).wp P Q a w:=by
 have ce:(S 0).length =m:=hS 0;refine(wpIn_wide (n:=0)).1 (wpIn_rangeFunc ?_);intro fn c2;obtain⟨D,hD⟩: ∃D,D=w.heap.size:=⟨_,rfl⟩;obtain⟨l,hl⟩: ∃l,l=w.heap.size+1:=⟨_,rfl⟩;have bu:l≠D:=by omega
 obtain⟨rec,aa⟩: ∃rec:LoopState->Loop,rec=fun st=> {state:=st,pending:=none,fn,tmps:=a.tmps,params:= #[p],assign,body,defers:=D} :=⟨_,rfl⟩;obtain⟨W1,aj⟩: ∃W1,(w.alloc (.deferred (some []))).alloc (.loop (rec .ready))=W1:=⟨_,rfl⟩
 have hold: ∀(b:Nat) (o:Obj),w.heap[b]? =some o->W1.heap[b]? =some o:=by
  intro b o e;have cf:=(Array.getElem?_eq_some_iff.1 e).1;rw [<-aj];exact(Below.heap_alloc _ _ b (by rw [World.size_alloc];omega)).trans ((Below.heap_alloc _ _ b cf).trans e)
 have cm:W1.heap[l]? =some (.loop (rec .ready)):=by
  rw [<-aj,hl];have:=World.alloc_heap_new (w.alloc (.deferred (some []))) (.loop (rec .ready))
  rwa [World.size_alloc]at this
 have co:W1.heap[D]? =some (.deferred (some [])):=by
  rw [<-aj,hD];exact(Below.heap_alloc _ _ _ (by simp)).trans (World.alloc_heap_new w _)
 have cr:bP w W1:=by rw [<-aj];exact(aMy _ _).trans (aMy _ _)
 have ao: ∀ {h:PHeap} {b:Nat},h.sub w->w.heap.size<=b->h b=none:=by
  intro h b hs hb;cases e:h b with
  | none=>rfl
  | some o=>
    have:=(Array.getElem?_eq_some_iff.1 (hs b o e)).1;omega
 obtain⟨hs,h1,h2,h3,h4,h5,h6,h7⟩:=hi;have bi:hR D=none:=ao h6 omz;have bh:hR l=none:=ao h6 omz
 have a8:Con.con D=none:=by
  cases e:Con.con D with
  | none=>rfl
  | some o=>rw [h7 D o e]at bi;cases bi
 have am:Con.con l=none:=by
  cases e:Con.con l with
  | none=>rfl
  | some o=>rw [h7 l o e]at bh;cases bh
 obtain⟨Vm,ay⟩: ∃Vm:Val,Vm=fun i=>if i<m then V i else none:=⟨_,rfl⟩
 have ah: ∀i,i<m->V i=Vm i:=fun i h=>by rw [ay];exact(if_pos h).symm
 have ba: ∀i,(upto 0 m).elem i=true->V i=Vm i:=fun i h=>ah i (by have:=(iG m 0 i).1 h;omega)
 obtain⟨Vz,b0⟩: ∃Vz:Val,Vz=fun i=>if i<m0 then V i else none:=⟨_,rfl⟩
 have cb:aH Vz tm a.tmps.toList:=aLV (fun i h=>by have:=(iG m0 0 i).1 h;rw [b0];exact(if_pos omz).symm) _ _ hwt ht
 have af: ∀i y,Vz i=some y->i<m0/\Vm i=some y:=by
  intro i y e;rw [b0]at e
  by_cases h:i<m0
  ·have e:(if i<m0 then V i else none)=some y:=e
   rw [if_pos h]at e;exact⟨h,by rw [<-ah i omz];exact e⟩
  ·have e:(if i<m0 then V i else none)=some y:=e
   rw [if_neg h]at e;cases e
 have ci:bO Vm m:=fun i h=>by rw [ay];exact if_neg omz
 have bc: ∀st,∀b o,Con.con b=some o->rgH hR D l (rec st) b=some o:=by
  intro st b o e;unfold rgH;rw [if_neg (fun e2=>by subst e2;rw [am]at e;cases e),if_neg (fun e2=>by subst e2;rw [a8]at e;cases e)]
  exact h7 b o e
 have ac: ∀i,i<m->aL (S 0++ [some (.cells [view])]) i=aL (S 0) i:=by
  intro i h;unfold aL;rw [gD',gD',List.getElem?_append_left omz]
 have ap:aL (S 0++ [some (.cells [view])]) m=some (.cells [view]):=by
  unfold aL;rw [gD',List.getElem?_append_right omz,ce]
  simp
 have ae: ∀i,m<=i->aL (S 0) i=none:=by
  intro i h;unfold aL;rw [gD',List.getElem?_eq_none omz];rfl
 have cy:(hs m).sub w:=fun b o e=>h5 m b o e;have bs: ∀i,hs i l=none:=fun i=>ao (fun b o e=>h5 i b o e) omz;have bt: ∀i,hs i D=none:=fun i=>ao (fun b o e=>h5 i b o e) omz
 have ag: ∀st b o,rgH hR D l (rec st) b=some o->(b=l/\o=.loop (rec st))\/(b=D/\o=.deferred (some []))\/hR b=some o:=by
  intro st b o e;unfold rgH at e
  by_cases e1:b=l
  ·rw [if_pos e1]at e;cases e;exact .inl ⟨e1,rfl⟩
  ·rw [if_neg e1]at e
   by_cases e2:b=D
   ·rw [if_pos e2]at e;cases e;exact .inr (.inl ⟨e2,rfl⟩)
   ·rw [if_neg e2]at e;exact .inr (.inr e)
 have b6: ∀i,(hs i).disj (rgH hR D l (rec .ready)):=by
  intro i b;cases e:hs i b with
  | none=>exact .inl rfl
  | some o=>
    right;cases e2:rgH hR D l (rec .ready) b with
    | none=>rfl
    | some o2=>
      rcases ag _ b o2 e2 with⟨e3,_⟩ | ⟨e3,_⟩ | e3
      ·rw [e3,bs i]at e;cases e
      ·rw [e3,bt i]at e;cases e
      ·have:=dT (h4 i) e;rw [e3]at this;cases this
 have bk:Inv E.I V (toF (S 0)) ((rgH hR D l (rec .ready)).join (hs m)) W1:=by
  refine⟨fun i=>if i<m then hs i else .emp,?_,?_,?_,?_,?_,?_,fun b o e=>cL (bc _ b o e)⟩
  ·intro i e he
   by_cases hi:i<m
   ·show e.interp E.I V i (if i<m then hs i else .emp)
    rw [if_pos hi];exact h1 i e (by show aL _ i=_;rw [ac i hi];exact he)
   ·have:aL (S 0) i=some e:=he;rw [ae i omz]at this;cases this
  ·intro i he;show(if i<m then hs i else .emp)=_
   by_cases hi:i<m
   ·rw [if_pos hi];exact h2 i (by show aL _ i=_;rw [ac i hi];exact he)
   ·rw [if_neg hi]
  ·intro i j bf;show PHeap.disj (if i<m then hs i else .emp) (if j<m then hs j else .emp)
   by_cases hi:i<m
   ·rw [if_pos hi]
    by_cases hj:j<m
    ·rw [if_pos hj];exact h3 i j bf
    ·rw [if_neg hj];exact aLy _
   ·rw [if_neg hi];exact(aLy _).symm
  ·intro i;show PHeap.disj (if i<m then hs i else .emp) _
   by_cases hi:i<m
   ·rw [if_pos hi];intro b;cases e:hs i b with
    | none=>exact .inl rfl
    | some o=>
      right;unfold PHeap.join;rw [dT (b6 i) e];exact dT (h3 i m omz) e
   ·rw [if_neg hi];exact(aLy _).symm
  ·intro i b o e;have e:(if i<m then hs i else PHeap.emp) b=some o:=e
   by_cases hi:i<m
   ·rw [if_pos hi]at e;exact hold b o (h5 i b o e)
   ·rw [if_neg hi]at e;cases e
  ·intro b o e;rcases aLZ e with e | ⟨_,e⟩
   ·rcases ag _ b o e with⟨rfl,rfl⟩ | ⟨rfl,rfl⟩ | e
    ·exact cm
    ·exact co
    ·exact hold b o (h6 b o e)
   ·exact hold b o (h5 m b o e)
 have bj:Inv E.I Vm (toF (S 0)) ((rgH hR D l (rec .ready)).join (hs m)) W1:=by
  refine aMr (pl:=upto 0 m) ba ?_ bk;intro i e he;have ai:aL (S 0) i=some e:=he
  have hi:i<m:=by
   cases Nat.lt_or_ge i m with
   | inl h=>exact h
   | inr h=>rw [ae i h]at ai;cases ai
  refine⟨(iG m 0 i).2 omz,?_⟩;unfold cT at hSw;rw [List.all_eq_true]at hSw
  have br:some e∈S 0:=by
   unfold aL at ai;rw [gD',gE' omz]at ai;have ai:(S 0)[i]'omz=some e:=ai;rw [<-ai];exact List.getElem_mem _
  exact hSw _ br
 have b9:(hs m).disj (rgH hR D l (rec .ready)):=b6 m;obtain⟨hF0,cq,ca,b8,cc⟩:=bj.held b9 (bc _);obtain⟨Fr,al⟩: ∃Fr:Nat->PHeap->Prop,Fr=fun j hF=> ∃V2:Val,(∀i y,i<m0->Vm i=some y->V2 i=some y)/\bO V2 m/\W6 E.I V2 (toF (S j)) (rgH hR D l (rec .ready)) hF:=⟨_,rfl⟩;have a7:Fr 0 hF0:=by rw [al];exact⟨Vm,fun _ _ _ h=>h,ci,cq⟩
 have hY:kR P l xs Fr:=by
  constructor
  ·intro i hF hh b o e;rw [al]at hh;obtain⟨V2,_,_,bd,_,_,g3,g4,rfl,g6⟩:=hh;exact gN g3 g4 (.inr (g6 b o e))
  ·intro i x hx hF own w0 b5 bq cd ct;rw [al]at b5;obtain⟨V2,bo,cj,ak⟩:=b5;have az:Inv E.I V2 (toF (S i)) ((rgH hR D l (rec .ready)).join own) w0:=ak.inv bq cd ct
   have bm: ∀ {V':Val} {h':bE A} {st:LoopState} {w':World},Inv E.I V' h' ((rgH hR D l (rec st)).join own) w'->w'.heap[l]? =some (.loop (rec st)):=by
    rintro V' h' st w' ⟨_,_,_,_,_,_,g6,_⟩;exact g6 l _ (cL (zH _ _ _ _))
   have bn:own.disj (rgH hR D l (rec .ready)):=by
    intro b;cases e:own b with
    | none=>exact .inl rfl
    | some o=>
      right;cases e2:rgH hR D l (rec .ready) b with
      | none=>rfl
      | some o2=>
        obtain⟨bd,_,_,g3,g4,rfl,_⟩:=ak;have:=dT bq e;rw [gN g3 g4 (.inr e2)]at this;cases this
   have cg:Vz.le V2:=fun i y e=>bo i y (af i y e).1 (af i y e).2
   have av: ∀(st bb:LoopState) {V':Val} {h':bE A} {w':World},Inv E.I V' h' ((rgH hR D l (rec st)).join own) w'->Inv E.I V' h' ((rgH hR D l (rec bb)).join own) (w'.putObj l (.loop (rec bb))):=by
    intro st bb V' h' w' hh;refine hh.put (cL (zH _ _ _ _)) (cL (zH _ _ _ _)) ?_ am;intro b hb;unfold PHeap.join;rw [aCN hb]
   have ar:=bm az;have hy:=run_yield (P:=P) (args:= #[.int .i64 x]) ar (by rw [aa];rfl)
   refine⟨fn,a.tmps.setIfInBounds p (.int .i64 x),assign,body,?_,?_⟩
   ·rw [aa]at hy
    simpa using hy
   refine roundIn_of_wpIn trivial ?_;refine eX hinl (ro:=some l) (ds:=[]) assign (tm.set p (.int .i64 x)) (S i) _ _ w0 V2 _ (hb i x hx) az (by rw [hS];exact cj) ?_ rfl ?_
   ·show aH V2 _ (a.tmps.setIfInBounds p _).toList;rw [Array.toList_setIfInBounds];exact aH.set (aH.mono cg _ _ cb) p _ _ rfl
   rintro a1 w1 ⟨tm1,V3,g1,k1,k2,k3,k4,k5,k6,k7,k8⟩;have hL1':=bm k6;have bz:=run_beginRound (P:=P) hL1' (by rw [aa])
   have bl: {rec .ready with state:=.busy } =rec .busy :=by rw [aa]
   rw [bl]at bz;refine⟨_,bz,?_⟩;refine eX hinl (ro:=some l) (ds:=[]) body tm1 g1 _ a1 _ V3 _ k1 (av _ .busy k6) k4 k2 k8 ?_;rintro a2 w3 ⟨c0,V4,g2,q1,q2,q3,q4,q5,q6,q7,q8⟩;have b1:=bm q6;have bx:=run_endRound (P:=P) none b1;have au: {rec .busy with state:=if (none:Option Code).isNone then .ready else .done,pending:=none} =rec .ready :=by rw [aa];rfl
   rw [au]at bx;have q6':=av _ .ready q6;obtain⟨V5,t1,t2,t3,t4,t5⟩:=q1 V4 _ _ (.bool true) q6' q4 (by rw [hS]at k5;omega) rfl
   obtain⟨cv,z1,z2,z3,z4⟩:=t5.held bn (bc _);refine⟨_,_,bx,rfl,cv,?_,z2,z3,z4,?_⟩
   ·rw [al];refine⟨V5,?_,by rw [hS]at t2;exact t2,z1⟩
    intro i' y bv e;exact t1 i' y bv (q3 _ _ (k3 _ _ (bo i' y bv e)))
   ·exact k7.trans ((bP.put hL1').trans (q7.trans (bP.put b1)))
 obtain⟨V',aq⟩: ∃V':Val,V'=fun i=>if i=0 then some (0,0)else if i=1 then V m else none:=⟨_,rfl⟩
 have cp:Inv (frI Fr) V' (toF [some (.abs 0 []),some (.cells [view])]) Con.con W1:=by
  refine⟨fun i=>if i=0 then hF0.less Con.con else if i=1 then hs m else .emp,?_,?_,?_,?_,?_,?_,fun b o e=>e⟩
  ·intro i e he
   match i,he with
   | 0,he=>
     have he:some (aG.abs 0 [])=some e:=he;cases he;refine⟨0,0,by rw [aq];rfl,[],rfl,?_,?_⟩
     ·show Fr 0 ((hF0.less Con.con).join Con.con);rw [aMo (hY.con 0 hF0 a7)];exact a7
     ·intro b;cases ec:Con.con b with
      | none=>exact .inr rfl
      | some o=>left;show hF0.less Con.con b=none;unfold PHeap.less;rw [ec]
   | 1,he=>
     have he:some (aG.cells [view])=some e:=he;cases he;obtain⟨b',k',e1,cs,T,e2,e3,rs,tail,e4,e5⟩:=h1 m (.cells [view]) ap;exact⟨b',k',by rw [aq];exact e1,cs,T,e2,e3,rs,tail,e4,aH.free [view] rs (by unfold aLA;rw [hwv];rfl) e5⟩
   | i+2,he=>cases he
  ·intro i he
   match i,he with
   | 0,he=>cases he
   | 1,he=>cases he
   | i+2,he=>rfl
  ·have b7:(hF0.less Con.con).disj (hs m):=by
    intro b;cases e:hs m b with
    | none=>exact .inr rfl
    | some o=>
      left;have:=dT ca e;unfold PHeap.less;rw [this];split<;>rfl
   intro i j bf
   match i,j,bf with
   | 0,0,h=>exact absurd rfl h
   | 0,1,_=>exact b7
   | 0,j+2,_=>exact aLy _
   | 1,0,_=>exact b7.symm
   | 1,1,h=>exact absurd rfl h
   | 1,j+2,_=>exact aLy _
   | i+2,_,_=>exact(aLy _).symm
  ·intro i b
   match i with
   | 0=>
     cases ec:Con.con b with
     | none=>exact .inr rfl
     | some o=>left;show hF0.less Con.con b=none;unfold PHeap.less;rw [ec]
   | 1=>
     rcases h4 m b with e | e
     ·exact .inl e
     ·right;cases ec:Con.con b with
      | none=>rfl
      | some o=>rw [h7 b o ec]at e;cases e
   | i+2=>exact .inl rfl
  ·intro i b o e
   match i,e with
   | 0,e=>exact cc b o (aMd e).1
   | 1,e=>exact b8 b o e
   | i+2,e=>cases e
  ·intro b o e;exact hold b o (h6 b o (h7 b o e))
 have bw:bO V' ([some (.abs 0 []),some (.cells [view])]:aC Nat).length :=by
  intro i hi;have hi:2<=i:=hi;rw [aq];show(if i=0 then _ else if i=1 then _ else _)=_
  rw [if_neg omz,if_neg omz]
 have bg:=hA l Fr hY V' Con.con W1 (#[.func (.yield l) #[] #[]]++ #[.pointer (some ⟨blk,0,none⟩)]) cp bw ⟨_,_,rfl,⟨#[], #[],rfl,rfl,rfl⟩,_,_,rfl,⟨blk,k,by rw [aq];exact hVm,rfl⟩,rfl⟩
 refine⟨l,[{target:=.collected D,args:= #[] }],W1,{target:=.fn (.func fA) #[.pointer (some ⟨blk,0,none⟩)],args:= #[.func (.yield l) #[] #[]] },W1,fA, #[.func (.yield l) #[] #[]]++ #[.pointer (some ⟨blk,0,none⟩)],W1,?_,?_,?_,?_,(fun e=>by cases e),?_⟩
 ·rw [<-aj,aa,hl,hD];exact run_enterLoop_outer _ _ _ _ _
 ·simp only [resolve,hg];simp [go_sem]
 ·intro f' _;trivial
 ·simp [invoke,go_sem,gV hpl]
 ·refine callsIn_wide.2 (bg.mono ?_);rintro e w' ⟨v,v',V2,c3,rfl,rfl,_,_,_,_,hI,hG⟩;obtain⟨bd,i1,i2,i3,i4,i5,i6,i7⟩:=hI;obtain⟨b2,k2,_,c4,_,a6,cz⟩:=i1 0 (.abs xs.length []) rfl;rw [al]at a6;obtain⟨V3,u1,u2,u3⟩:=a6
  have bp:((bd 0).join Con.con).sub w':=by
   intro b o e;rcases aLZ e with e | ⟨_,e⟩
   ·exact i5 0 b o e
   ·exact i6 b o e
  have b4:Inv E.I V3 (toF (S xs.length)) ((rgH hR D l (rec .ready)).join .emp) w':=u3.inv (fun b=>.inl rfl) (fun b o e=>by cases e) bp
  have ar:w'.heap[l]? =some (.loop (rec .ready)):=by
   obtain⟨_,_,_,_,_,_,g6,_⟩:=b4;exact g6 l _ (cL (zH _ _ _ _))
  have ax:=run_endLoop (P:=P) ar (by rw [aa];intro e;cases e)
  have cx: {rec .ready with state:=.exhausted } =rec .exhausted :=by rw [aa]
  rw [cx,show(rec .ready).pending =none by rw [aa]]at ax
  refine⟨none,_,ax,?_⟩
  have b3:Inv E.I V3 (toF (S xs.length)) ((rgH hR D l (rec .exhausted)).join .emp) (w'.putObj l (.loop (rec .exhausted))):=by
   refine b4.put (cL (zH _ _ _ _)) (cL (zH _ _ _ _)) ?_ am;intro b hb;unfold PHeap.join;rw [aCN hb]
  have cn:(w'.putObj l (.loop (rec .exhausted))).heap[D]? =some (.deferred (some [])):=by
   obtain⟨_,_,_,_,_,_,g6,_⟩:=b3;refine g6 D _ (cL ?_);unfold rgH;rw [if_neg (fun e=>bu e.symm),if_pos rfl]
  rw [hd];refine hQ _ D V3 (fun i y h e=>u1 i y h (by rw [<-ah i omz];exact e)) u2 bi cn ?_ (cr.trans (hG.trans (bP.put ar)))
  refine b3.shrink ?_ ?_
  ·intro b o e;refine cL ?_;unfold rgH
   have ck:b≠l:=by
    intro e2;subst e2;rw [if_neg bu,bh]at e;cases e
   rw [if_neg ck];exact e
  ·intro b o e;show(if b=D then _ else _)=_
   rw [if_neg (fun e2=>by subst e2;rw [a8]at e;cases e)]
   exact h7 b o e
end
end Go.Sh
namespace Go.Sh
open Go Go.RowKit
variable [Con] {A:Type}
section
variable {P:Program} {E:Env A P}
theorem PI{inl:vF A}(hinl:lK E inl){ro:Option Nat}{ds:List Deferred}{nt:Nat}{hR:PHeap}{x y z b r c:Code}(hc:c=.seq x (.seq y z)){tm:List AVal}{h:aC A}{K:List AVal->aC A->Prop}(he:Ev (bX E inl nt c tm h K))
 {a:Act} {w:World} {V:Val} {Q:Exit->Act->World->Prop} (hi:Inv E.I V (toF h) hR w) (hf:bO V h.length) (ht:aH V tm a.tmps.toList) (hd:a.defers=ds)
 (hQ: ∀a' w',PU E ds V h.length hR w K a' w'->b.wpIn (FW ro) 0 P (Exit.then (r.wpIn (FW ro) 0 P Q) Q) a' w'):
 (Code.seq x (.seq y (.seq (.seq z b) r))).wpIn (FW ro) 0 P Q a w:=by
 subst hc;have he:=he.get;unfold bX at he;refine wpIn_seq (eX hinl _ _ _ _ _ w V _ he hi hf ht hd ?_);rintro q1 w1 ⟨ac,V1,g1,k1,k2,k3,k4,k5,k6,k7,k8⟩;unfold bX at k1;refine wpIn_seq (eX hinl _ _ _ _ _ w1 V1 _ k1 k6 k4 k2 k8 ?_);rintro q2 w2 ⟨aa,V2,g2,j1,j2,j3,j4,j5,j6,j7,j8⟩;refine wpIn_seq (wpIn_seq (eX hinl _ _ _ _ _ w2 V2 _ j1 j6 j4 j2 j8 ?_));intro q3 w3 hT;exact hQ q3 w3 ((hT.chain j3 j5 j7).chain k3 k5 k7)
theorem PH{inl:vF A}(hinl:lK E inl){ro:Option Nat}{ds:List Deferred}{nt:Nat}{hR:PHeap}{z r:Code}{tm:List AVal}{h:aC A}{K:List AVal->aC A->Prop}(he:Ev (bX E inl nt z tm h K))
 {a:Act} {w:World} {V:Val} {Q:Exit->Act->World->Prop} (hi:Inv E.I V (toF h) hR w) (hf:bO V h.length) (ht:aH V tm a.tmps.toList) (hd:a.defers=ds)
 (hQ: ∀a' w',PU E ds V h.length hR w K a' w'->r.wpIn (FW ro) 0 P Q a' w'):
 (Code.seq z r).wpIn (FW ro) 0 P Q a w:=by
 exact wpIn_seq (eX hinl _ _ _ _ _ w V _ he.get hi hf ht hd hQ)
theorem IF{inl:vF A}(hinl:lK E inl){fA:FuncId}{view:AVal}{xs:List Int}(hA:FZ P fA view xs){nt m m0:Nat}(hmm:m0<=m){g:Operand}{p:Tmp}{assign body:Code}{tm:List AVal}{S:Nat->aC A}
 (hS: ∀j,(S j).length =m) (hwv:view.within []=true) (hSw:cT m (S 0)=true)
 (hb: ∀j x,xs[j]? =some x->Ev (bX E inl nt assign (tm.set p (.int .i64 x)) (S j) (fun tm1 h1=>bX E inl nt body tm1 h1 (fun _ h2=>aF E.I m0 (.bool true) h2 (.bool true) (S (j+1))))))
 {V:Val} {hR:PHeap} {w:World} {a:Act} {blk k:Nat} (hi:Inv E.I V (toF (S 0++ [some (.cells [view])])) hR w) (hf:bO V (m+1)) (hVm:V m=some (blk,k))
 (ht:aH V tm a.tmps.toList) (hwt:aLA (upto 0 m0) tm=true) (hd:a.defers=[])
 (hg:a.eval g=.func (.func fA) #[] #[.pointer (some ⟨blk,0,none⟩)]) (hpl:nD P fA=true)
 {Q:Exit->Act->World->Prop}
 (hQ: ∀(w':World) (D:Nat) (V':Val),(∀l y,l<m0->V l=some y->V' l=some y)->bO V' m->hR D=none->w'.heap[D]? =some (.deferred (some []))->
   Inv E.I V' (toF (S xs.length)) (fun b=>if b=D then some (.deferred (some []))else hR b) w'->bP w w'->Q .normal {a with defers:=[{target:=.collected D,args:= #[] }] } w'):
 (Code.rangeFunc g #[p] assign body).wpIn (FW none) 0 P Q a w:=
 wpIn_wide.2 (OU hinl hA hmm hS hwv hSw (fun j x hx=>(hb j x hx).get) hi hf hVm ht hwt hd hg hpl hQ)
end
end Go.Sh
namespace Go.Sh
open Go
variable {A:Type}
mutual
def AVal.noV:AVal->Bool
 | .func _ f c=>aL0 f&&aL0 c
 | .iface _ a=>AVal.noV a
 | .agg av=>aL0 av
 | .tup av=>aL0 av
 | .iview _ _=>false
 | .view _ _ _=>false
 | .cptr _=>false
 | .bool _=>true
 | .int _ _=>true
 | .str _=>true
 | .ptr _ _=>true
 | .slice _ _ _ _=>true
 | .map _=>true
 | .raw _=>true
 | .any =>true
 | .O =>true
 | .tslice _ _ _ _=>true
 | .tptr _ _ _ _=>true
 | .empty =>true
def aL0:List AVal->Bool
 | []=>true
 | a::av=>AVal.noV a&&aL0 av
end
def Con.sub(c c':Con):Prop:= ∀b o,c.con b=some o->c'.con b=some o
mutual
theorem Rep.con{c c':Con}(h:Con.sub c c'){V:Val} : ∀(a:AVal) (v:Value),@Rep c V a v-> @Rep c' V a v
 | .bool _,_,r=>r
 | .int _ _,_,r=>r
 | .str _,_,r=>r
 | .ptr _ _,_,r=>r
 | .slice _ _ _ _,_,r=>r
 | .map _,_,r=>r
 | .func _ f g,_,⟨fs,cs,hv,r,s⟩=>⟨fs,cs,hv,aH.con h f _ r,aH.con h g _ s⟩
 | .iface _ a,_,⟨x,hv,r⟩=>⟨x,hv,Rep.con h a _ r⟩
 | .agg av,_,⟨cs,hv,r⟩=>⟨cs,hv,aH.con h av _ r⟩
 | .tup av,_,⟨cs,hv,r⟩=>⟨cs,hv,aH.con h av _ r⟩
 | .raw _,_,r=>r
 | .any,_,r=>r
 | .O,_,r=>r
 | .iview _ _,_,⟨base,cap,hv,hc,r⟩=>⟨base,cap,hv,hc,r.imp (fun⟨b,off,cs,T,fz,e,f,g⟩=>⟨b,off,cs,T,fz,e,h _ _ f,g⟩) id⟩
 | .view _ _ row,_,⟨base,cap,hv,hc,r⟩=>⟨base,cap,hv,hc,r.imp (fun⟨b,off,cs,T,fz,e,f,g⟩=>⟨b,off,cs,T,fz,e,h _ _ f,fun i hi=>⟨(g i hi).1,aH.con h (row i) _ (g i hi).2⟩⟩) id⟩
 | .tslice _ _ _ _,_,r=>r
 | .tptr _ _ _ _,_,r=>r
 | .empty,_,r=>r
 | .cptr av,_,⟨b,off,cs,T,fz,e,f,g⟩=>⟨b,off,cs,T,fz,e,h _ _ f,aH.con h av _ g⟩
theorem aH.con{c c':Con}(h:Con.sub c c'){V:Val} : ∀(a:List AVal) (v:List Value),@aH c V a v-> @aH c' V a v
 | [],_,r=>r
 | a::av,_,⟨v,vs,e,r,s⟩=>⟨v,vs,e,Rep.con h a v r,aH.con h av vs s⟩
end
mutual
theorem aMp{c c':Con}{V:Val} : ∀(a:AVal) (v:Value),a.noV=true-> @Rep c V a v-> @Rep c' V a v
 | .bool _,_,_,r=>r
 | .int _ _,_,_,r=>r
 | .str _,_,_,r=>r
 | .ptr _ _,_,_,r=>r
 | .slice _ _ _ _,_,_,r=>r
 | .map _,_,_,r=>r
 | .func _ f g,_,n,⟨fs,cs,hv,r,s⟩=>⟨fs,cs,hv,aL5 f _ (Bool.and_eq_true_iff.1 n).1 r,aL5 g _ (Bool.and_eq_true_iff.1 n).2 s⟩
 | .iface _ a,_,n,⟨x,hv,r⟩=>⟨x,hv,aMp a _ n r⟩
 | .agg av,_,n,⟨cs,hv,r⟩=>⟨cs,hv,aL5 av _ n r⟩
 | .tup av,_,n,⟨cs,hv,r⟩=>⟨cs,hv,aL5 av _ n r⟩
 | .raw _,_,_,r=>r
 | .any,_,_,r=>r
 | .O,_,_,r=>r
 | .iview _ _,_,n,_=>Bool.noConfusion (show false=true from n)
 | .view _ _ _,_,n,_=>Bool.noConfusion (show false=true from n)
 | .tslice _ _ _ _,_,_,r=>r
 | .tptr _ _ _ _,_,_,r=>r
 | .empty,_,_,r=>r
 | .cptr _,_,n,_=>Bool.noConfusion (show false=true from n)
theorem aL5{c c':Con}{V:Val} : ∀(a:List AVal) (v:List Value),aL0 a=true-> @aH c V a v-> @aH c' V a v
 | [],_,_,r=>r
 | a::av,_,n,⟨v,vs,e,r,s⟩=>⟨v,vs,e,aMp a v (Bool.and_eq_true_iff.1 n).1 r,aL5 av vs (Bool.and_eq_true_iff.1 n).2 s⟩
end
def aG.noV:aG A->Bool
 | .cells vs=>aL0 vs
 | _=>true
def cO(h:aC A):Bool:=h.all fun e=>match e with
 | some e=>e.noV
 | none=>true
theorem uD{h:aC A}(hn:cO h=true){l:Nat}{e:aG A}(he:aL h l=some e):e.noV=true:=by
 letI:Con:=⟨fun _=>none⟩
 have hl:=cH he;unfold cO at hn;rw [List.all_eq_true]at hn
 have hm:(some e:Option (aG A))∈h:=by
  have:h[l]'hl=some e:=by
   have:=he;unfold aL at this;rw [gD',gE' hl]at this;exact this
  rw [<-this];exact List.getElem_mem hl
 exact hn _ hm
theorem aMl{c c':Con}(h:Con.sub c c'){I:Itp A}{V:Val}{l:Nat}{e:aG A}{p:PHeap}(hi: @aG.interp c A I V l e p): @aG.interp c' A I V l e p:=by
 cases e with
 | cells vs=>
   obtain⟨b,k,hl,cs,T,e1,e2,rs,tail,e3,r⟩:=hi;exact⟨b,k,hl,cs,T,e1,e2,rs,tail,e3,aH.con h _ _ r⟩
 | ints c xs=>exact hi
 | abs t ps=>exact hi
 | tab ks rows=>exact hi
 | imap kk vc m=>exact hi
 | iter lm kk vc m left cur=>exact hi
theorem aMi{c c':Con}{I:Itp A}{V:Val}{l:Nat}{e:aG A}{p:PHeap}(hn:e.noV=true)(hi: @aG.interp c A I V l e p): @aG.interp c' A I V l e p:=by
 cases e with
 | cells vs=>
   obtain⟨b,k,hl,cs,T,e1,e2,rs,tail,e3,r⟩:=hi;exact⟨b,k,hl,cs,T,e1,e2,rs,tail,e3,aL5 _ _ hn r⟩
 | ints c xs=>exact hi
 | abs t ps=>exact hi
 | tab ks rows=>exact hi
 | imap kk vc m=>exact hi
 | iter lm kk vc m left cur=>exact hi
section
variable {tb:A->Nat×aC A}
theorem EC(c c':Con)(htb: ∀t,cO (tb t).2=true)(n:Nat): ∀(t:A) (r:Nat×Nat) (bs:List (Nat×Nat)) (p:PHeap),@obN c A tb n t r bs p-> @obN c' A tb n t r bs p:=by
 induction n with
 | zero=>intro t r bs p h;exact h
 | succ n ih=>
   intro t r bs p h;obtain⟨V,hs,h1,h2,h3,⟨q1,q2,q3⟩,h5⟩:=h;refine⟨V,hs,h1,h2,h3,@sQ.mk c' A (@obN c' A tb n) V (toF (tb t).2) hs (fun l e he=>?_) q2 q3,h5⟩;have h6:=q1 l e he;have h7: @aG.interp c' A (@obN c A tb n) V l e (hs l):=aMi (uD (htb t) he) h6;exact @aLU c' A _ _ ih V l e (hs l) h7
theorem TZ(c c':Con)(htb: ∀t,cO (tb t).2=true): @obI c A tb= @obI c' A tb:=by
 funext t r bs p;exact propext ⟨fun⟨n,h⟩=>⟨n,EC c c' htb n t r bs p h⟩,fun⟨n,h⟩=>⟨n,EC c' c htb n t r bs p h⟩⟩
end
theorem Inv.split2 [Con]{I:Itp A}{V:Val}{h:bE A}{hR:PHeap}{w:World}(hi:Inv I V h hR w)(S:Nat->Bool):
 ∃hR',Inv I V (fun l=>if S l then h l else none) hR' w/\(∀b o,hR b=some o->hR' b=some o)/\(∀l e,S l=false->h l=some e-> ∃p,e.interp I V l p/\ ∀b o,p b=some o->hR' b=some o)/\
  ∀V' g w',V.le V'->Inv I V' g hR' w'->(∀l,S l=false->h l≠none->g l=none)->
   Inv I V' (fun l=>if S l=false/\h l≠none then h l else g l) hR w':=by
 obtain⟨hs,h1,h2,h3,h4,h5,h6⟩:=hi
 let rs:Nat->PHeap:=fun l=>if S l then .emp else hs l
 have rd: ∀l m,l≠m->(rs l).disj (rs m):=by
  intro l m ac;show PHeap.disj (if S l then .emp else hs l) (if S m then .emp else hs m)
  split
  ·exact(aLy _).symm
  ·split
   ·exact aLy _
   ·exact h3 l m ac
 have ah: ∀b,aLF rs b=none\/hR b=none:=by
  intro b;cases e:aLF rs b with
  | none=>exact .inl rfl
  | some o=>
    obtain⟨l,hl⟩:=aLQ e
    have:hs l b≠none:=by
     have aa:(if S l then PHeap.emp else hs l) b=some o:=hl
     split at aa
     ·cases aa
     ·rw [aa];simp
    rcases h4 l b with d | d
    ·exact(this d).elim
    ·exact .inr d
 refine⟨PHeap.join hR (aLF rs),⟨fun l=>if S l then hs l else .emp,?_,?_,?_,?_,?_,?_⟩,fun b o e=>aL3 e,?_,?_⟩
 ·intro l e he;cases hS:S l with
  | true=>simp [hS]at he⊢;exact h1 l e he
  | false=>simp [hS]at he
 ·intro l hl;cases hS:S l with
  | true=>simp [hS]at hl⊢;exact h2 l hl
  | false=>simp [hS]
 ·intro l m ac;show PHeap.disj (if S l then hs l else .emp) (if S m then hs m else .emp)
  split
  ·split
   ·exact h3 l m ac
   ·exact aLy _
  ·exact(aLy _).symm
 ·intro l b;show(if S l then hs l else PHeap.emp) b=none\/_
  cases hS:S l with
  | false=>exact .inl rfl
  | true=>
    simp only [if_true];cases e:hs l b with
    | none=>exact .inl rfl
    | some o=>
      refine .inr (PHeap.join_none.2 ⟨?_,aL8 fun m=>?_⟩)
      ·rcases h4 l b with d | d
       ·rw [e]at d;cases d
       ·exact d
      ·show(if S m then PHeap.emp else hs m) b=none
       by_cases hm:S m=true
       ·rw [if_pos hm];rfl
       ·rw [if_neg hm];have:l≠m:=fun e'=>hm (e'▸hS);rcases h3 l m this b with d | d
        ·rw [e]at d;cases d
        ·exact d
 ·intro l;show(if S l then hs l else PHeap.emp).sub w
  split
  ·exact h5 l
  ·exact aLX _
 ·refine⟨?_,fun b o e=>aL3 (h6.2 b o e)⟩;intro b o e;unfold PHeap.join at e;cases er:hR b with
  | some p=>rw [er]at e;cases e;exact h6.1 b _ er
  | none=>
    rw [er]at e;obtain⟨l,hl⟩:=aLQ e;have aa:(if S l then PHeap.emp else hs l) b=some o:=hl
    split at aa
    ·cases aa
    ·exact h5 l b o aa
 ·intro l e hS he;refine⟨hs l,h1 l e he,fun b o eb=>?_⟩
  have e1:rs l b=some o:=by
   show(if S l then PHeap.emp else hs l) b=some o
   rw [if_neg (by rw [hS];simp)];exact eb
  have e2:=aLP rd e1;rcases ah b with d | d
  ·rw [e2]at d;cases d
  ·rw [aMb d];exact e2
 ·intro V' g w' hV hg hz;obtain⟨gs,g1,g2,g3,g4,g5,g6⟩:=hg
  have af: ∀l,(rs l).sub w':=by
   intro l b o e;have:=aLP rd e;refine g6.1 b o ?_;rcases ah b with d | d
   ·rw [this]at d;cases d
   ·rw [aMb d];exact this
  have ae:hR.sub w':=fun b o e=>g6.1 b o (aL3 e)
  have ai: ∀l m,(gs l).disj (rs m):=by
   intro l m b;rcases g4 l b with d | d
   ·exact .inl d
   ·cases e:rs m b with
    | none=>exact .inr rfl
    | some o=>rw [(PHeap.join_none.1 d).2.symm,aLP rd e];exact .inr rfl
  have aj: ∀l,(gs l).disj hR:=fun l b=>(g4 l b).imp id (fun d=>(PHeap.join_none.1 d).1)
  have ag: ∀l,(rs l).disj hR:=by
   intro l;show PHeap.disj (if S l then .emp else hs l) hR
   split
   ·exact(aLy _).symm
   ·exact h4 l
  classical
  refine⟨fun l=>if S l=false/\h l≠none then rs l else gs l,?_,?_,?_,?_,?_,⟨ae,h6.2⟩⟩
  ·intro l e he
   by_cases hc:S l=false/\h l≠none
   ·simp only [if_pos hc]at he⊢;show e.interp I V' l (if S l then .emp else hs l)
    rw [if_neg (by simp [hc.1])]
    exact aLR hV (h1 l e he)
   ·simp only [if_neg hc]at he⊢;exact g1 l e he
  ·intro l hl
   by_cases hc:S l=false/\h l≠none
   ·simp only [if_pos hc]at hl;exact(hc.2 hl).elim
   ·simp only [if_neg hc]at hl⊢;exact g2 l hl
  ·intro l m ac
   by_cases hc:S l=false/\h l≠none
   ·simp only [if_pos hc]
    by_cases hd:S m=false/\h m≠none
    ·simp only [if_pos hd];exact rd l m ac
    ·simp only [if_neg hd];exact(ai m l).symm
   ·simp only [if_neg hc]
    by_cases hd:S m=false/\h m≠none
    ·simp only [if_pos hd];exact ai l m
    ·simp only [if_neg hd];exact g3 l m ac
  ·intro l
   by_cases hc:S l=false/\h l≠none
   ·simp only [if_pos hc];exact ag l
   ·simp only [if_neg hc];exact aj l
  ·intro l
   by_cases hc:S l=false/\h l≠none
   ·simp only [if_pos hc];exact af l
   ·simp only [if_neg hc];exact g5 l
def thaw(S:Nat->Bool):Nat->aC A->aC A
 | _,[]=>[]
 | i,e::h=>(cond (S i) e none)::thaw S (i+1) h
def back(S:Nat->Bool):Nat->aC A->aC A->aC A
 | _,[],g=>g
 | i,e::h,[]=>e::h
 | i,e::h,x::g=>(cond (S i) x e)::back S (i+1) h g
theorem xM(S:Nat->Bool): ∀(h:aC A) (i:Nat),(thaw S i h).length =h.length
 | [],_=>rfl
 | e::h,i=>congrArg (· +1) (xM S h (i+1))
theorem FM(S:Nat->Bool): ∀(h:aC A) (i l:Nat),toF (thaw S i h) l=if S (i+l)then toF h l else none
 | [],i,l=>by
   show none=if _ then none else none
   split<;>rfl
 | e::h,i,0=>by
   show(cond (S i) e none)=if S (i+0)then e else none
   rw [Nat.add_zero];cases S i<;>rfl
 | e::h,i,l+1=>by
   show toF (thaw S (i+1) h) l=if S (i+(l+1))then toF h l else none
   rw [FM S h (i+1) l,show i+1+l=i+(l+1)from by omega]
theorem B5(S:Nat->Bool): ∀(h g:aC A) (i:Nat),h.length<=g.length->(back S i h g).length =g.length
 | [],g,_,_=>rfl
 | e::h,[],_,hl=>by simp at hl
 | e::h,x::g,i,hl=>congrArg (· +1) (B5 S h g (i+1) (by simpa using hl))
theorem FK(S:Nat->Bool): ∀(h g:aC A) (i l:Nat),h.length<=g.length->(∀m,S (i+m)=false->toF h m=none->m<h.length->toF g m=none)->
 toF (back S i h g) l=if S (i+l)=false/\toF h l≠none then toF h l else toF g l
 | [],g,i,l,_,_=>by
   show toF g l=_;split
   ·rename_i hq;exact(hq.2 rfl).elim
   ·rfl
 | e::h,[],_,_,hl,_=>by simp at hl
 | e::h,x::g,i,0,hl,hz=>by
   show(cond (S i) x e)=if S (i+0)=false/\e≠none then e else x
   rw [Nat.add_zero];cases hS:S i with
   | true=>simp
   | false=>
     cases e with
     | some e=>simp
     | none=>
       have:=hz 0 (by rw [Nat.add_zero];exact hS) rfl (by simp)
       have this:x=none:=this;simp [this]
 | e::h,x::g,i,l+1,hl,hz=>by
   show toF (back S (i+1) h g) l=if S (i+(l+1))=false/\toF h l≠none then toF h l else toF g l
   rw [FK S h g (i+1) l (by simpa using hl) (fun m h1 h2 h3=>hz (m+1) (by rw [<-h1];congr 1;omega) h2 (by simpa using h3)),show i+1+l=i+(l+1)from by omega]
structure aJu (S:Nat->Bool) (h:aC A) (K:AVal->aC A->Prop) (v:AVal) (g:aC A):Prop where
 hv:v.noV=true
 hg:cO g=true
 hz: ∀l,l<h.length->S l=false->aL g l=none
 hk:K v (back S 0 h g)
theorem aMu [c:Con]{tb:A->Nat×aC A}(htb: ∀t,cO (tb t).2=true){P:Program}{f:FuncId}{args args2:List AVal}{h:aC A}{K:AVal->aC A->Prop}(S:Nat->Bool)
 (ha: ∀(c':Con),Con.sub c c'-> ∀(V:Val) (l:List Value),(∀m e,S m=false->aL h m=some e-> ∃p,@aG.interp c' A (@obI c' A tb) V m e p/\ ∀b o,p b=some o->c'.con b=some o)-> @aH c V args l-> @aH c' V args2 l)
 (h0: ∀c':Con,@aA c' A (@obI c' A tb) P f args2 (thaw S 0 h) (aJu S h K)):aA (obI tb) P f args h K:=by
 intro V hR w aa hi hf hr;obtain⟨ae,i1,i2,i3,i4⟩:=hi.split2 S
 let c':Con:=⟨ae⟩
 have ac:Con.sub c c':=by
  obtain⟨_,_,_,_,_,_,h6⟩:=hi;exact fun b o e=>i2 b o (h6.2 b o e)
 have hI: @obI c' A tb= @obI c A tb:=TZ c' c htb
 have hT:(fun l=>if S l then toF h l else none)=toF (thaw S 0 h):=by
  funext l;rw [FM,Nat.zero_add]
 rw [hT]at i1
 have j1: @Inv c' A (@obI c' A tb) V (toF (thaw S 0 h)) ae w:=by
  obtain⟨hs,k1,k2,k3,k4,k5,k6⟩:=i1;refine⟨hs,fun l e he=>?_,k2,k3,k4,k5,⟨k6.1,fun b o e=>e⟩⟩;rw [hI];exact aMl ac (k1 l e he)
 have j2: @aH c' V args2 aa.toList:=by
  refine ha c' ac V _ ?_ hr;intro m e hS he;obtain⟨p,p1,p2⟩:=i3 m e hS he;refine⟨p,?_,p2⟩;rw [hI];exact aMl ac p1
 refine(h0 c' V ae w aa j1 (by rw [xM];exact hf) j2).mono ?_
 rintro e w' ⟨v,v',V',g,⟨hv,hg,hz,hk⟩,rfl,q3,q4,q5,q6,q7,q8⟩;rw [xM]at q6;have af:=B5 S h g 0 q6;refine⟨v,v',V',_,hk,rfl,aMp v v' hv q3,q4,by rw [af];exact q5,by rw [af];exact q6,?_,q8⟩
 have j3: @Inv c A (@obI c A tb) V' (toF g) ae w':=by
  obtain⟨hs,k1,k2,k3,k4,k5,k6⟩:=q7;refine⟨hs,fun l e he=>?_,k2,k3,k4,k5,⟨k6.1,ac⟩⟩;rw [<-hI];exact aMi (uD hg he) (k1 l e he)
 have j4:=i4 V' (toF g) w' q4 j3 (fun l hS hn=>hz l (by
  cases hq:toF h l with
  | none=>exact(hn hq).elim
  | some e=>exact cH hq) hS)
 have:(fun l=>if S l=false/\toF h l≠none then toF h l else toF g l)=toF (back S 0 h g):=by
  funext l;rw [FK S h g 0 l q6 (fun m h1 _ h3=>hz m h3 (by rw [<-h1,Nat.zero_add])),Nat.zero_add]
 rw [this]at j4;exact j4
theorem sM{c:Con}{I:Itp A}{V:Val}{l n k:Nat}{vs:List AVal}{p:PHeap}{v:Value}{row:Nat->List AVal}
 (hv: @Rep c V (.slice l 0 n k) v) (he: @aG.interp c A I V l (.cells vs) p) (hp: ∀b o,p b=some o->c.con b=some o)
 (hrow: ∀i,i<n->(row i).length =k/\ ∀rs,@aH c V ((vs.drop (i*k)).take k) rs-> @aH c (fun _=>none) (row i) rs) (hlen:n*k<=vs.length): @Rep c V (.view n k row) v:=by
 obtain⟨base,cap,e1,e2,e3⟩:=hv;refine⟨base,cap,e1,e2,?_⟩;rcases e3 with⟨b,kk,g1,g2,g3⟩ | ⟨g1,g2⟩
 ·left;obtain⟨b',k',a1,cs,T,a2,a3,rs,tail,a4,a5⟩:=he;rw [g1]at a1;cases a1;refine⟨b,0,cs,T,_,g2,hp b (.cells cs T) (by rw [a2];exact if_pos rfl),fun i hi=>⟨(hrow i hi).1,?_⟩⟩
  refine(hrow i hi).2 _ ?_;rw [Nat.zero_add,a4];have aa:=aH.length a5
  have ac:i*k+k<=vs.length:=by
   have:(i+1)*k<=n*k:=Nat.mul_le_mul_right k hi;rw [Nat.add_mul,Nat.one_mul]at this;omega
  rw [List.drop_append_of_le_length omz,List.take_append_of_le_length (by rw [List.length_drop];omega)]
  exact aH.take (aH.drop a5 (i*k)) k
 ·right;omega
end Go.Sh
namespace Go.Sh
open Go
variable [Con] {A:Type} {tb:A->Nat×aC A} {P:Program}
def KN(P:Program)(t:TypeId)(off:Nat)(vs:List AVal):Option AVal:=match eZ P t,bW P t with
 | some true,some n=>cond (Nat.ble (off+n) vs.length&&aLA [] ((vs.drop off).take n)) (some (.agg ((vs.drop off).take n))) none
 | some false,_=>match vs[off]? with
   | some v=>cond (v.within []) (some v) none
   | none=>none
 | _,_=>none
def w6(tb:A->Nat×aC A)(P:Program)(t:TypeId)(l off:Nat)(h:aC A):Option AVal:=
 match aL h l with
 | some (.abs o _)=>match tb o with
   | (_,some (.cells vs)::_)=>KN P t off vs
   | _=>none
 | _=>none
theorem OC(t:TypeId)(l off:Nat)(h:aC A)(v:AVal)(hk:w6 tb P t l off h=some v)(V:Val)(hR:PHeap)(w:World)(b k:Nat)(hi:Inv (obI tb) V (toF h) hR w)(hV:V l=some (b,k)): ∃v',(Instr.loadAt t (.pointer (some ⟨b,off,none⟩))).run P w=.ok v' w/\Rep V v v':=by
 unfold w6 at hk;split at hk
 case h_2=>cases hk
 rename_i ob ps hl;split at hk
 case h_2=>cases hk
 rename_i np vs rest ai;obtain⟨hs,h1,h2,h3,h4,h5,h6⟩:=id hi;obtain⟨b',k',af,bs,ar,N,ah⟩:=h1 l _ hl;rw [hV]at af;simp only [sI',pI']at af;obtain⟨rfl,rfl⟩:=af;cases N with
 | zero=>exact ah.elim
 | succ N=>
 obtain⟨Vg,gs,g1,g2,g3,⟨g4,g5,g6⟩,g7⟩:=ah;rw [ai]at g4;have hc:=g4 0 (.cells vs) rfl;obtain⟨b2,k2,c1,cs,T,c2,c3,rs,tail,c4,c5⟩:=hc;have ao:b2=b:=by have ag:Vg 0=some (b2,k2):=c1;rw [g1]at ag;simp at ag;exact ag.1.symm
 subst ao
 have ae:w.heap[b2]? =some (.cells cs T):=by
  refine h5 l b2 _ ?_;rw [g7];refine aLP g6 (l:=0) ?_;rw [c2];simp [PHeap.one]
 have ap:=aH.length c5
 have drop1:off<=vs.length->cs.toList.drop off=rs.drop off++tail:=by
  intro ak;rw [c4,List.drop_append_of_le_length omz]
 unfold KN at hk;split at hk
 ·rename_i n e1 e2;cases aa:(Nat.ble (off+n) vs.length&&aLA [] ((vs.drop off).take n))with
  | false=>rw [aa]at hk;cases hk
  | true=>
  rw [aa]at hk;simp only [cond_true,sI']at hk;subst hk;obtain⟨am,al⟩:=Bool.and_eq_true_iff.1 aa;have ak:off+n<=vs.length:=Nat.le_of_ble_eq_true am;have ac:aH V ((vs.drop off).take n) ((rs.drop off).take n):=aLV (pl:=[]) (fun i hi=>by cases hi) _ _ al (aH.take (aH.drop c5 off) n)
  obtain⟨v',g8,g9⟩:=hJ (P:=P) (V:=V) (t:=t) (av:=(vs.drop off).take n) (v:=.agg (((vs.drop off).take n).take n)) ae (seg:=(rs.drop off).take n) (rest:=(rs.drop off).drop n++tail) (by rw [drop1 omz,<-List.append_assoc,List.take_append_drop]) ac (by
   unfold fI;rw [e1,e2];simp only;rw [if_pos (by rw [List.length_take,List.length_drop];omega)])
  rw [List.take_take,Nat.min_self]at g9;exact⟨v',g8,g9⟩
 ·rename_i e2 e1;split at hk
  case h_2=>cases hk
  rename_i v1 hv;cases aa:v1.within []with
  | false=>rw [aa]at hk;cases hk
  | true=>
  rw [aa]at hk;simp only [cond_true,sI']at hk;subst hk;have aq:off<vs.length:=(List.getElem?_eq_some_iff.1 hv).1;have aj:=aH.at c5 (i:=off) (a:=v1) (v:=rs[off]'omz) hv (gE' omz);have ac:Rep V v1 (rs[off]'omz):=aL6 (pl:=[]) (fun i hi=>by cases hi) _ _ aa aj
  obtain⟨v',g8,g9⟩:=hJ (P:=P) (V:=V) (t:=t) (av:=[v1]) (v:=v1) ae (seg:=[rs[off]'omz]) (rest:=rs.drop (off+1)++tail) (by
   rw [drop1 omz,List.drop_eq_getElem_cons omz];rfl) ⟨_,[],rfl,ac,rfl⟩ (by unfold fI;rw [e1];rfl)
  exact⟨v',g8,g9⟩
 ·cases hk
end Go.Sh
namespace Go.Sh
open Go
variable [Con] {A:Type} {P:Program}
structure uQ (A:Type) where
 X:Type
 hd:Nat->X->AVal
 en:X->aG A
variable {E:uQ A}
def fN(E:uQ A):Nat->List E.X->List AVal
 | _,[]=>[]
 | k,x::r=>E.hd k x::fN E (k+1) r
def FC(E:uQ A)(ws:List E.X):aC A:=ws.map fun x=>some (E.en x)
def eI(E:uQ A)(ws:List E.X):aC A:=some (.cells (fN E 1 ws))::FC E ws
def hd1S(E:uQ A)(ws:List E.X)(i:Nat):AVal:=match ws[i]? with
 | some x=>E.hd 1 x
 | none=>.O
def gI(E:uQ A)(ws:List E.X)(i:Nat):aC A:=some (.cells ((fN E 2 ws).set i (hd1S E ws i)))::none::(FC E ws).set i none
theorem fS: ∀(ws:List E.X) (k j:Nat),(fN E k ws)[j]? =(ws[j]?).map (E.hd (k+j))
 | [],_,_=>by simp [fN]
 | x::r,k,0=>by simp [fN]
 | x::r,k,j+1=>by simp only [fN,List.getElem?_cons_succ];rw [fS r (k+1) j];rw [show k+1+j=k+(j+1)from by omega]
theorem dZ(k:Nat)(ws:List E.X):(fN E k ws).length =ws.length:=by
 induction ws generalizing k with
 | nil=>rfl
 | cons o r ih=>simp [fN,ih]
theorem cJ(ws:List E.X)(j:Nat):aL (eI E ws) (j+1)=(ws[j]?).map E.en:=by
 simp only [eI,aL,List.getD_cons_succ,FC];rw [gD',List.getElem?_map];cases ws[j]? <;>rfl
theorem fQ(ws:List E.X)(i j:Nat):aL (gI E ws i) (j+2)=if i=j then none else(ws[j]?).map E.en:=by
 simp only [gI,aL,List.getD_cons_succ,FC];rw [gD',List.getElem?_set];split
 ·split<;>rfl
 ·rw [List.getElem?_map];cases ws[j]? <;>rfl
variable {tb:A->Nat×aC A}
def EnAt(tb:A->Nat×aC A)(N:Nat)(e:aG A)(x:Nat×Nat)(q:PHeap):Prop:= ∀(V:Val) (l:Nat),V l=some x->aG.interp (obN tb N) V l e q
theorem qO{I:Itp A}{V:Val}{l:Nat}{e:aG A}{p:PHeap}(h:aG.interp I V l e p): ∃x,V l=some x:=by
 cases e with
 | cells vs=>obtain⟨b,k,h,_⟩:=h;exact⟨_,h⟩
 | ints c xs=>
   rcases h with⟨_,_,b,h⟩ | ⟨b,k,h,_⟩
   ·exact⟨_,h⟩
   ·exact⟨_,h⟩
 | abs t ps=>obtain⟨b,k,h,_⟩:=h;exact⟨_,h⟩
 | tab ks rows=>
   rcases h with⟨_,_,b,h⟩ | ⟨b,k,h,_⟩
   ·exact⟨_,h⟩
   ·exact⟨_,h⟩
 | imap kk vc m=>obtain⟨b,k,h,_⟩:=h;exact⟨_,h⟩
 | iter lm kk vc m left cur=>obtain⟨b,k,h,_⟩:=h;exact⟨_,h⟩
structure RowS (tb:A->Nat×aC A) (E:uQ A) where
 row:List E.X->A
 hole:List E.X->Nat->A
 isRow:A->Option (List E.X)
 isHole:A->Option (List E.X×Nat)
 rd:aG A->Option E.X
 isRow_eq: ∀t r,isRow t=some r->t=row r
 isHole_eq: ∀t r i,isHole t=some (r,i)->t=hole r i
 rd_eq: ∀e x,rd e=some x->e=E.en x
 tbRow: ∀r,tb (row r)=(0,eI E r)
 tbHole: ∀r i,tb (hole r i)=(1,gI E r i)
 hdRep: ∀(V V':Val) (k k':Nat) (x:E.X) (v:Value),V k=V' k'->Rep V (E.hd k x) v->Rep V' (E.hd k' x) v
 enLoc: ∀(N:Nat) (V V':Val) (l l':Nat) (x:E.X) (p:PHeap),V l=V' l'->aG.interp (obN tb N) V l (E.en x) p->aG.interp (obN tb N) V' l' (E.en x) p
theorem RowS.lend(R:RowS tb E){ws:List E.X}{i:Nat}{t:E.X}{r:Nat×Nat}{p:PHeap}{N:Nat}(h:obN tb (N+1) (R.row ws) r [] p)(hw:ws[i]? =some t):
 ∃x q p',EnAt tb N (E.en t) x q/\obN tb (N+1) (R.hole ws i) r [x] p'/\q.disj p'/\(∀b o,q b=some o->p b=some o)/\(∀b o,p' b=some o->p b=some o)/\
  ∃cs T v,p r.1=some (.cells cs T)/\cs.toList[i]? =some v/\ ∀(V:Val) (l:Nat),V l=some x->Rep V (E.hd l t) v:=by
 obtain⟨V,gs,g1,g2,g3,⟨g4,g5,g6⟩,g7⟩:=h;have aj:=R.tbHole ws i;rw [R.tbRow]at g2 g3 g4 g5;dsimp only at g2 g3 g4 g5;have hi:aL (eI E ws) (i+1)=some (E.en t):=by rw [cJ,hw];rfl
 have hq:=g4 _ _ hi;obtain⟨x,hx⟩:=qO hq;have hc:=g4 0 _ (show aL (eI E ws) 0=some (.cells (fN E 1 ws))from rfl)
 obtain⟨b,k,c1,cs,T,c2,c3,rs,tail,c4,c5⟩:=hc;have az:r=(b,k):=by have au:V 0=some (b,k):=c1;rw [g1]at au;simpa using au
 have am:=aH.length c5
 have ak:i<rs.length:=by
  rw [am,dZ];exact(List.getElem?_eq_some_iff.1 hw).1
 have av:=aH.at c5 (i:=i) (a:=E.hd (1+i) t) (v:=rs[i]) (by rw [fS,hw];rfl) (gE' ak)
 have al: ∀(V2:Val) (l:Nat),V2 l=some x->Rep V2 (E.hd l t) rs[i]:=fun V2 l h2=>R.hdRep V V2 (1+i) l t _ (by rw [Nat.add_comm,h2];exact hx) av
 let V':Val:=fun m=>match m with
  | 0=>V 0
  | 1=>some x
  | j+2=>V (j+1)
 let gs':Nat->PHeap:=fun m=>match m with
  | 0=>gs 0
  | 1=>.emp
  | j+2=>if i=j then .emp else gs (j+1)
 have ai: ∀j b o,gs j b=some o->p b=some o:=by
  intro j b o hh;rw [g7];exact aLP g6 hh
 have af: ∀m b o,gs' m b=some o-> ∃j,j≠i+1/\gs j b=some o:=by
  intro m b o hh
  match m,hh with
  | 0,hh=>exact⟨0,by omega,hh⟩
  | 1,hh=>cases hh
  | j+2,hh=>
    have ap:(if i=j then PHeap.emp else gs (j+1)) b=some o:=hh
    split at ap
    ·cases ap
    ·exact⟨j+1,by omega,ap⟩
 have ar: ∀l m,l≠m->(gs' l).disj (gs' m):=by
  intro l m ao b;cases h1:gs' l b with
  | none=>exact .inl rfl
  | some o=>
    right;cases h2:gs' m b with
    | none=>rfl
    | some o2=>
      exfalso
      have key: ∀l m,l≠m-> ∀o o2,gs' l b=some o->gs' m b=some o2->False:=by
       intro l m ao o o2 h1 h2
       match l,m,h1,h2 with
       | 0,0,_,_=>exact ao rfl
       | 1,_,h1,_=>cases h1
       | _,1,_,h2=>cases h2
       | 0,j+2,h1,h2=>
         have ac:(if i=j then PHeap.emp else gs (j+1)) b=some o2:=h2
         split at ac
         ·cases ac
         ·rcases g6 0 (j+1) omz b with d | d
          ·have ae:gs 0 b=some o:=h1;rw [d]at ae;cases ae
          ·rw [d]at ac;cases ac
       | j+2,0,h1,h2=>
         have ae:(if i=j then PHeap.emp else gs (j+1)) b=some o:=h1
         split at ae
         ·cases ae
         ·rcases g6 0 (j+1) omz b with d | d
          ·have ac:gs 0 b=some o2:=h2;rw [d]at ac;cases ac
          ·rw [d]at ae;cases ae
       | j+2,j2+2,h1,h2=>
         have ae:(if i=j then PHeap.emp else gs (j+1)) b=some o:=h1
         have ac:(if i=j2 then PHeap.emp else gs (j2+1)) b=some o2:=h2
         split at ae
         ·cases ae
         ·split at ac
          ·cases ac
          ·rcases g6 (j+1) (j2+1) omz b with d | d
           ·rw [d]at ae;cases ae
           ·rw [d]at ac;cases ac
      exact key l m ao o o2 h1 h2
 have aq:aL (gI E ws i) 0=some (.cells ((fN E 2 ws).set i (hd1S E ws i))):=rfl;refine⟨x,gs (i+1),aLF gs',fun V2 l h2=>R.enLoc N V V2 (i+1) l t _ (hx.trans h2.symm) hq,⟨V',gs',g1,?_,?_,⟨?_,?_,ar⟩,rfl⟩,?_,ai _,?_,cs,T,rs[i],?_,?_,al⟩
 ·intro j hj;rw [aj]at hj;have:j=0:=by dsimp only at hj;omega
  subst this;rfl
 ·rw [aj];rfl
 ·intro l e he;rw [aj]at he
  match l,he with
  | 0,he=>
    have aa:aL (gI E ws i) 0=some e:=he;rw [aq]at aa;simp only [sI']at aa;subst aa;refine⟨b,k,c1,cs,T,c2,c3,rs,tail,c4,?_⟩;refine aMg (by rw [List.length_set,dZ,am,dZ]) ?_
    intro j a v ha hv;rw [List.getElem?_set]at ha;split at ha
    ·rename_i ag;subst ag;split at ha
     ·simp only [sI']at ha;subst ha;rw [gE' ak]at hv;simp only [sI']at hv;subst hv;unfold hd1S;rw [hw];exact al V' 1 rfl
     ·cases ha
    ·rw [fS]at ha;cases ah:ws[j]? with
     | none=>rw [ah]at ha;cases ha
     | some o=>
       rw [ah]at ha;simp only [Option.map_some,sI']at ha;have hr:=aH.at c5 (i:=j) (a:=E.hd (1+j) o) (v:=v) (by rw [fS,ah];rfl) hv
       subst ha;exact R.hdRep V V' (1+j) (2+j) o v (by rw [Nat.add_comm 1 j,Nat.add_comm 2 j]) hr
  | 1,he=>cases he
  | j+2,he=>
    have aa:aL (gI E ws i) (j+2)=some e:=he;rw [fQ]at aa;split at aa
    ·cases aa
    ·rename_i ag;have ax:aL (eI E ws) (j+1)=some e:=by rw [cJ];exact aa
     have ay:=g4 _ _ ax;show aG.interp (obN tb N) V' (j+2) e (if i=j then PHeap.emp else gs (j+1))
     rw [if_neg ag];cases ah:ws[j]? with
     | none=>rw [ah]at aa;cases aa
     | some s=>
       rw [ah]at aa;simp only [Option.map_some,sI']at aa;subst aa;exact R.enLoc N V V' (j+1) (j+2) s _ rfl ay
 ·intro l he;rw [aj]at he
  match l,he with
  | 0,he=>cases he
  | 1,he=>rfl
  | j+2,he=>
    have aa:aL (gI E ws i) (j+2)=none:=he;rw [fQ]at aa;show(if i=j then PHeap.emp else gs (j+1))=_
    split at aa
    ·rename_i ag;rw [if_pos ag]
    ·rename_i ag;rw [if_neg ag];refine g5 _ ?_;show aL (eI E ws) (j+1)=none;rw [cJ];exact aa
 ·intro b';cases h1:gs (i+1) b' with
  | none=>exact .inl rfl
  | some o=>
    right;refine aL8 fun m=>?_;cases h2:gs' m b' with
    | none=>rfl
    | some o2=>
      exfalso;obtain⟨j,hj,h3⟩:=af m b' o2 h2;rcases g6 j (i+1) hj b' with d | d
      ·rw [d]at h3;cases h3
      ·rw [d]at h1;cases h1
 ·intro b' o hh;obtain⟨m,hm⟩:=aLQ hh;obtain⟨j,_,h3⟩:=af m b' o hm;exact ai j b' o h3
 ·refine ai 0 r.1 _ ?_;rw [c2,az];simp [PHeap.one]
 ·rw [c4,List.getElem?_append_left ak,gE' ak]
theorem RowS.back(R:RowS tb E){ws:List E.X}{i:Nat}{t0 t:E.X}{r x:Nat×Nat}{p' q:PHeap}{N:Nat}(hp:obN tb (N+1) (R.hole ws i) r [x] p')(hq:EnAt tb N (E.en t) x q)(hd:q.disj p')(hi:i<ws.length)(h0:ws[i]? =some t0)(hh: ∀l,E.hd l t=E.hd l t0):
 ∃p,obN tb (N+1) (R.row (ws.set i t)) r [] p/\(∀b o,p b=some o->q b=some o\/p' b=some o):=by
 obtain⟨V,gs,g1,g2,g3,⟨g4,g5,g6⟩,g7⟩:=hp;have ai:=R.tbRow (ws.set i t);rw [R.tbHole]at g2 g3 g4 g5;dsimp only at g2 g3 g4 g5;have hx:V 1=some x:=by have:=g2 0 omz;simpa using this
 have hc:=g4 0 _ (show aL (gI E ws i) 0=some (.cells ((fN E 2 ws).set i (hd1S E ws i)))from rfl)
 obtain⟨b,k,c1,cs,T,c2,c3,rs,tail,c4,c5⟩:=hc;have ak:=aH.length c5;rw [List.length_set,dZ]at ak
 let V':Val:=fun m=>match m with
  | 0=>V 0
  | j+1=>if i=j then some x else V (j+2)
 let gs':Nat->PHeap:=fun m=>match m with
  | 0=>gs 0
  | j+1=>if i=j then q else gs (j+2)
 have ah: ∀j b o,gs j b=some o->p' b=some o:=by
  intro j b o hh;rw [g7];exact aLP g6 hh
 have aj: ∀j b o o2,gs j b=some o->q b=some o2->False:=by
  intro j b o o2 h1 h2;have:=ah j b o h1;rcases hd b with d | d
  ·rw [d]at h2;cases h2
  ·rw [d]at this;cases this
 have key: ∀l m b,l≠m-> ∀o o2,gs' l b=some o->gs' m b=some o2->False:=by
  intro l m b am o o2 h1 h2
  match l,m,h1,h2 with
  | 0,0,_,_=>exact am rfl
  | 0,j+1,h1,h2=>
    have ae:(if i=j then q else gs (j+2)) b=some o2:=h2
    split at ae
    ·exact aj 0 b o o2 h1 ae
    ·rcases g6 0 (j+2) omz b with d | d
     ·have af:gs 0 b=some o:=h1;rw [d]at af;cases af
     ·rw [d]at ae;cases ae
  | j+1,0,h1,h2=>
    have af:(if i=j then q else gs (j+2)) b=some o:=h1
    split at af
    ·exact aj 0 b o2 o h2 af
    ·rcases g6 0 (j+2) omz b with d | d
     ·have ae:gs 0 b=some o2:=h2;rw [d]at ae;cases ae
     ·rw [d]at af;cases af
  | j+1,j2+1,h1,h2=>
    have af:(if i=j then q else gs (j+2)) b=some o:=h1
    have ae:(if i=j2 then q else gs (j2+2)) b=some o2:=h2
    split at af
    ·split at ae
     ·omega
     ·exact aj _ b o2 o ae af
    ·split at ae
     ·exact aj _ b o o2 af ae
     ·rcases g6 (j+2) (j2+2) omz b with d | d
      ·rw [d]at af;cases af
      ·rw [d]at ae;cases ae
 have ao: ∀l m,l≠m->(gs' l).disj (gs' m):=by
  intro l m am b;cases h1:gs' l b with
  | none=>exact .inl rfl
  | some o=>
    right;cases h2:gs' m b with
    | none=>rfl
    | some o2=>exact(key l m b am o o2 h1 h2).elim
 refine⟨aLF gs',⟨V',gs',g1,?_,?_,⟨?_,?_,ao⟩,rfl⟩,?_⟩
 ·intro j hj;rw [ai]at hj;dsimp only at hj;omega
 ·rw [ai];rfl
 ·intro l e he;rw [ai]at he
  match l,he with
  | 0,he=>
    have aa:some (aG.cells (fN E 1 (ws.set i t)))=some e:=he;simp only [sI']at aa;subst aa;refine⟨b,k,c1,cs,T,c2,c3,rs,tail,c4,?_⟩;refine aMg (by rw [dZ,List.length_set,ak]) ?_
    intro j a v ha hv;rw [fS,List.getElem?_set]at ha;split at ha
    ·rename_i ac;subst ac;simp only [Option.map_some,sI']at ha;subst ha;have hr:=aH.at c5 (i:=i) (a:=hd1S E ws i) (v:=v) (by rw [List.getElem?_set,if_pos rfl,if_pos (by rw [dZ];exact hi)]) hv
     unfold hd1S at hr;rw [h0]at hr;have hr:Rep V (E.hd 1 t0) v:=hr;rw [hh];refine R.hdRep V V' 1 (1+i) t0 v ?_ hr;show V 1=V' (1+i);rw [Nat.add_comm];show V 1=(if i=i then some x else _)
     rw [if_pos rfl,hx]
    ·rename_i ac;cases ag:ws[j]? with
     | none=>rw [ag]at ha;cases ha
     | some o=>
       rw [ag]at ha;simp only [Option.map_some,sI']at ha;have hr:=aH.at c5 (i:=j) (a:=E.hd (2+j) o) (v:=v) (by rw [List.getElem?_set,if_neg ac,fS,ag];rfl) hv
       subst ha;refine R.hdRep V V' (2+j) (1+j) o v ?_ hr;show V (2+j)=V' (1+j);rw [Nat.add_comm 1 j];show V (2+j)=(if i=j then some x else V (j+2))
       rw [if_neg ac,Nat.add_comm]
  | j+1,he=>
    have aa:aL (eI E (ws.set i t)) (j+1)=some e:=he;rw [cJ,List.getElem?_set]at aa;show aG.interp (obN tb N) V' (j+1) e (if i=j then q else gs (j+2))
    split at aa
    ·rename_i ac;subst ac;simp only [Option.map_some,sI']at aa;subst aa;rw [if_pos rfl];exact hq V' (i+1) (by show(if i=i then some x else _)=_;rw [if_pos rfl])
    ·rename_i ac;rw [if_neg ac];have ap:aL (gI E ws i) (j+2)=some e:=by rw [fQ,if_neg ac];exact aa
     have aq:=g4 _ _ ap;cases ag:ws[j]? with
     | none=>rw [ag]at aa;cases aa
     | some s=>
       rw [ag]at aa;simp only [Option.map_some,sI']at aa;subst aa;refine R.enLoc N V V' (j+2) (j+1) s _ ?_ aq;show V (j+2)=(if i=j then some x else V (j+2))
       rw [if_neg ac]
 ·intro l he;rw [ai]at he
  match l,he with
  | 0,he=>cases he
  | j+1,he=>
    have aa:aL (eI E (ws.set i t)) (j+1)=none:=he;rw [cJ,List.getElem?_set]at aa;show(if i=j then q else gs (j+2))=_
    split at aa
    ·rename_i ac;subst ac;cases aa
    ·rename_i ac;rw [if_neg ac];refine g5 _ ?_;show aL (gI E ws i) (j+2)=none;rw [fQ,if_neg ac];exact aa
 ·intro b' o hh;obtain⟨m,hm⟩:=aLQ hh
  match m,hm with
  | 0,hm=>exact .inr (ah 0 b' o hm)
  | j+1,hm=>
    have al:(if i=j then q else gs (j+2)) b'=some o:=hm
    split at al
    ·exact .inl al
    ·exact .inr (ah _ b' o al)
theorem Inv.lendS1(R:RowS tb E){V:Val}{h:aC A}{hR:PHeap}{w:World}{l i:Nat}{ws:List E.X}{t:E.X}(hi:Inv (obI tb) V (toF h) hR w)(hn:V h.length=none)(hl:aL h l=some (.abs (R.row ws) []))(hw:ws[i]? =some t):
 ∃V' x b k cs T v,V.le V'/\V'=V.add h.length x/\Inv (obI tb) V' (toF (h.set l (some (.abs (R.hole ws i) [h.length]))++ [some (E.en t)])) hR w/\V' h.length=some x/\V l=some (b,k)/\w.heap[b]? =some (.cells cs T)/\cs.toList[i]? =some v/\(∀(V:Val) (l:Nat),V l=some x->Rep V (E.hd l t) v):=by
 have aq:=cH hl;obtain⟨hs,h1,h2,h3,h4,h5,h6⟩:=hi;obtain⟨b,k,hV,bs,av,N,ap⟩:=h1 l _ hl;have ax:bs=[]:=av;subst ax;cases N with
 | zero=>exact ap.elim
 | succ N=>
 obtain⟨x,q,p',o1,o2,o3,o4,o5,cs,T,v,o6,o7,o8⟩:=R.lend ap hw;have ao:=aLO (x:=x) hn
 let hs':Nat->PHeap:=fun m=>if m=l then p' else if m=h.length then q else hs m
 have ai: ∀m,m<h.length->m≠l->aL (h.set l (some (.abs (R.hole ws i) [h.length]))++ [some (E.en t)]) m=aL h m:=by
  intro m hm ac;rw [cN (by simpa using hm)]
  simp only [aL,gD'];rw [List.getElem?_set_ne (fun e=>ac e.symm)]
 have ah:aL (h.set l (some (.abs (R.hole ws i) [h.length]))++ [some (E.en t)]) l=some (.abs (R.hole ws i) [h.length]):=by
  rw [cN (by simpa using aq)]
  simp only [aL,gD'];rw [List.getElem?_set_self aq];rfl
 have ag:aL (h.set l (some (.abs (R.hole ws i) [h.length]))++ [some (E.en t)]) h.length=some (E.en t):=by
  simp only [aL,gD'];rw [List.getElem?_append_right (by simp)];simp
 have ar: ∀m,h.length<m->aL (h.set l (some (.abs (R.hole ws i) [h.length]))++ [some (E.en t)]) m=none:=fun m hm=>cC (by simp;omega)
 have ak: ∀b o,p' b=some o->hs l b=some o:=o5;have aj: ∀b o,q b=some o->hs l b=some o:=o4;have au: ∀m,h.length<=m->hs m=.emp :=fun m hm=>h2 m (cC hm);refine⟨V.add h.length x,x,b,k,cs,T,v,ao,rfl,⟨hs',?_,?_,?_,?_,?_,h6⟩,aLI _ _ _,hV,?_,o7,o8⟩
 ·intro m e he;have aa:aL (h.set l (some (.abs (R.hole ws i) [h.length]))++ [some (E.en t)]) m=some e:=he
  by_cases ac:m=l
  ·subst ac;rw [ah]at aa;simp only [sI']at aa;subst aa;show aG.interp _ _ _ _ (if m=m then p' else _)
   rw [if_pos rfl];exact⟨b,k,ao _ _ hV,[x],⟨x,[],aLI _ _ _,rfl,rfl⟩,N+1,o2⟩
  ·by_cases ae:m=h.length
   ·subst ae;rw [ag]at aa;simp only [sI']at aa;subst aa;show aG.interp _ _ _ _ (if h.length=l then p' else if h.length=h.length then q else _)
    rw [if_neg ac,if_pos rfl];exact aLU (fun t r bs p h=>⟨N,h⟩) (o1 _ _ (aLI _ _ _))
   ·by_cases am:m<h.length
    ·rw [ai m am ac]at aa;show aG.interp _ _ _ _ (if m=l then p' else if m=h.length then q else hs m)
     rw [if_neg ac,if_neg ae];exact aLR ao (h1 m e aa)
    ·rw [ar m omz]at aa;cases aa
 ·intro m he;have aa:aL (h.set l (some (.abs (R.hole ws i) [h.length]))++ [some (E.en t)]) m=none:=he;show(if m=l then p' else if m=h.length then q else hs m)=_
  by_cases ac:m=l
  ·subst ac;rw [ah]at aa;cases aa
  ·by_cases ae:m=h.length
   ·subst ae;rw [ag]at aa;cases aa
   ·rw [if_neg ac,if_neg ae]
    by_cases am:m<h.length
    ·rw [ai m am ac]at aa;exact h2 m aa
    ·exact au m omz
 ·intro m m' al b';show(if m=l then p' else if m=h.length then q else hs m) b'=none\/(if m'=l then p' else if m'=h.length then q else hs m') b'=none
  have part: ∀m,m≠l->m≠h.length->(p' b'=none/\q b'=none)\/hs m b'=none:=by
   intro m ac ae;rcases h3 l m (fun e=>ac e.symm) b' with d | d
   ·left;constructor
    ·cases hp:p' b' with
     | none=>rfl
     | some o=>rw [ak b' o hp]at d;cases d
    ·cases hp:q b' with
     | none=>rfl
     | some o=>rw [aj b' o hp]at d;cases d
   ·exact .inr d
  by_cases a1:m=l
  ·rw [if_pos a1]
   by_cases a2:m'=l
   ·exact(al (a1.trans a2.symm)).elim
   ·rw [if_neg a2]
    by_cases a3:m'=h.length
    ·rw [if_pos a3];exact(o3 b').symm
    ·rw [if_neg a3];rcases part m' a2 a3 with d | d
     ·exact .inl d.1
     ·exact .inr d
  ·rw [if_neg a1]
   by_cases a0:m=h.length
   ·rw [if_pos a0]
    by_cases a2:m'=l
    ·rw [if_pos a2];exact o3 b'
    ·rw [if_neg a2]
     by_cases a3:m'=h.length
     ·exact(al (a0.trans a3.symm)).elim
     ·rw [if_neg a3];rcases part m' a2 a3 with d | d
      ·exact .inl d.2
      ·exact .inr d
   ·rw [if_neg a0]
    by_cases a2:m'=l
    ·rw [if_pos a2];rcases part m a1 a0 with d | d
     ·exact .inr d.1
     ·exact .inl d
    ·rw [if_neg a2]
     by_cases a3:m'=h.length
     ·rw [if_pos a3];rcases part m a1 a0 with d | d
      ·exact .inr d.2
      ·exact .inl d
     ·rw [if_neg a3];exact h3 m m' al b'
 ·intro m b';show(if m=l then p' else if m=h.length then q else hs m) b'=none\/hR b'=none
  split
  ·rcases h4 l b' with d | d
   ·cases hp:p' b' with
    | none=>exact .inl rfl
    | some o=>rw [ak b' o hp]at d;cases d
   ·exact .inr d
  ·split
   ·rcases h4 l b' with d | d
    ·cases hp:q b' with
     | none=>exact .inl rfl
     | some o=>rw [aj b' o hp]at d;cases d
    ·exact .inr d
   ·exact h4 m b'
 ·intro m b' o hh;have af:(if m=l then p' else if m=h.length then q else hs m) b'=some o:=hh
  split at af
  ·exact h5 l b' o (ak b' o af)
  ·split at af
   ·exact h5 l b' o (aj b' o af)
   ·exact h5 m b' o af
 ·exact h5 l b _ o6
theorem Inv.lendS(R:RowS tb E){V:Val}{h:aC A}{hR:PHeap}{w:World}{l i:Nat}{ws:List E.X}{t:E.X}(hi:Inv (obI tb) V (toF h) hR w)(hf:bO V h.length)(hl:aL h l=some (.abs (R.row ws) []))(hw:ws[i]? =some t):
 ∃V' x b k cs T v,V.le V'/\bO V' (h.length+1)/\Inv (obI tb) V' (toF (h.set l (some (.abs (R.hole ws i) [h.length]))++ [some (E.en t)])) hR w/\V' h.length=some x/\V l=some (b,k)/\w.heap[b]? =some (.cells cs T)/\cs.toList[i]? =some v/\(∀(V:Val) (l:Nat),V l=some x->Rep V (E.hd l t) v):=by
 obtain⟨V',x,b,k,cs,T,v,h1,rfl,h3⟩:=hi.lendS1 R (hf _ (Nat.le_refl _)) hl hw;refine⟨_,x,b,k,cs,T,v,h1,?_,h3⟩;intro m hm;rw [aMa _ _ omz];exact hf m omz
theorem m9{V:Val}{l:Nat}{e:aG A}{p:PHeap}(h:aG.interp (obI tb) V l e p): ∃n,aG.interp (obN tb n) V l e p:=by
 cases e with
 | cells vs=>exact⟨0,h⟩
 | ints c xs=>exact⟨0,h⟩
 | abs t ps=>obtain⟨b,k,h1,bs,h2,n,h3⟩:=h;exact⟨n,b,k,h1,bs,h2,h3⟩
 | tab ks rows=>exact⟨0,h⟩
 | imap kk vc m=>exact⟨0,h⟩
 | iter lm kk vc m left cur=>exact⟨0,h⟩
theorem Inv.backS(R:RowS tb E){V:Val}{h:aC A}{hR:PHeap}{w:World}{l i k:Nat}{ws:List E.X}{t0 t:E.X}(h0:ws[i]? =some t0)(hh: ∀l,E.hd l t=E.hd l t0)(hi:Inv (obI tb) V (toF h) hR w)(hl:aL h l=some (.abs (R.hole ws i) [k]))(hk:aL h k=some (E.en t))(hkl:k≠l):
 Inv (obI tb) V (toF ((h.set l (some (.abs (R.row (ws.set i t)) []))).set k none)) hR w:=by
 have ar:=cH hl;have au:=cH hk;obtain⟨hs,h1,h2,h3,h4,h5,h6⟩:=hi;obtain⟨b,kk,hV,bs,aq,N,aj⟩:=h1 l _ hl;obtain⟨x,r,hx,rfl,hr⟩:=aq;have ao:r=[]:=hr;subst ao;have ap:i<ws.length:=(List.getElem?_eq_some_iff.1 h0).1;obtain⟨N2,ai⟩:=m9 (h1 k _ hk);have am:V k=some x:=hx;cases N with
 | zero=>exact aj.elim
 | succ N=>
 have q1:EnAt tb (max N N2) (E.en t) x (hs k):=fun V2 l2 e2=>R.enLoc _ V V2 k l2 t _ (am.trans e2.symm) (aLU (fun t r bs p h=>oL tb (Nat.le_max_right N N2) h) ai);have q2:=oL tb (show N+1<=max N N2+1 by omega) aj
 obtain⟨p,p1,p2⟩:=R.back q2 q1 (h3 k l hkl) ap h0 hh
 let hs':Nat->PHeap:=fun m=>if m=l then p else if m=k then .emp else hs m
 have ah: ∀m,m≠l->m≠k->aL ((h.set l (some (.abs (R.row (ws.set i t)) []))).set k none) m=aL h m:=by
  intro m ac ae;simp only [aL,gD'];rw [List.getElem?_set_ne (fun e=>ae e.symm),List.getElem?_set_ne (fun e=>ac e.symm)]
 have ag:aL ((h.set l (some (.abs (R.row (ws.set i t)) []))).set k none) l=some (.abs (R.row (ws.set i t)) []):=by
  simp only [aL,gD'];rw [List.getElem?_set_ne hkl,List.getElem?_set_self ar];rfl
 have al:aL ((h.set l (some (.abs (R.row (ws.set i t)) []))).set k none) k=none:=by
  simp only [aL,gD'];rw [List.getElem?_set_self (by simpa using au)];rfl
 refine⟨hs',?_,?_,?_,?_,?_,h6⟩
 ·intro m e he;have aa:aL ((h.set l (some (.abs (R.row (ws.set i t)) []))).set k none) m=some e:=he;show aG.interp _ _ _ _ (if m=l then p else if m=k then .emp else hs m)
  by_cases ac:m=l
  ·subst ac;rw [ag]at aa;simp only [sI']at aa;subst aa;rw [if_pos rfl];exact⟨b,kk,hV,[],rfl,_,p1⟩
  ·by_cases ae:m=k
   ·subst ae;rw [al]at aa;cases aa
   ·rw [if_neg ac,if_neg ae];rw [ah m ac ae]at aa;exact h1 m e aa
 ·intro m he;have aa:aL ((h.set l (some (.abs (R.row (ws.set i t)) []))).set k none) m=none:=he;show(if m=l then p else if m=k then .emp else hs m)=_
  by_cases ac:m=l
  ·subst ac;rw [ag]at aa;cases aa
  ·rw [if_neg ac]
   by_cases ae:m=k
   ·rw [if_pos ae]
   ·rw [if_neg ae];rw [ah m ac ae]at aa;exact h2 m aa
 ·intro m m' ak b';show(if m=l then p else if m=k then .emp else hs m) b'=none\/(if m'=l then p else if m'=k then .emp else hs m') b'=none
  have part: ∀m,m≠l->m≠k->p b'=none\/hs m b'=none:=by
   intro m ac ae;cases hp:p b' with
   | none=>exact .inl rfl
   | some o=>
     right;rcases p2 b' o hp with d | d
     ·rcases h3 k m (fun e=>ae e.symm) b' with f | f
      ·rw [f]at d;cases d
      ·exact f
     ·rcases h3 l m (fun e=>ac e.symm) b' with f | f
      ·rw [f]at d;cases d
      ·exact f
  by_cases a1:m=l
  ·rw [if_pos a1]
   by_cases a2:m'=l
   ·exact(ak (a1.trans a2.symm)).elim
   ·rw [if_neg a2]
    by_cases a3:m'=k
    ·rw [if_pos a3];exact .inr rfl
    ·rw [if_neg a3];exact part m' a2 a3
  ·rw [if_neg a1]
   by_cases a0:m=k
   ·rw [if_pos a0];exact .inl rfl
   ·rw [if_neg a0]
    by_cases a2:m'=l
    ·rw [if_pos a2];exact(part m a1 a0).symm
    ·rw [if_neg a2]
     by_cases a3:m'=k
     ·rw [if_pos a3];exact .inr rfl
     ·rw [if_neg a3];exact h3 m m' ak b'
 ·intro m b';show(if m=l then p else if m=k then .emp else hs m) b'=none\/hR b'=none
  split
  ·cases hp:p b' with
   | none=>exact .inl rfl
   | some o=>
     right;rcases p2 b' o hp with d | d
     ·rcases h4 k b' with f | f
      ·rw [f]at d;cases d
      ·exact f
     ·rcases h4 l b' with f | f
      ·rw [f]at d;cases d
      ·exact f
  ·split
   ·exact .inl rfl
   ·exact h4 m b'
 ·intro m b' o hh;have af:(if m=l then p else if m=k then .emp else hs m) b'=some o:=hh
  split at af
  ·rcases p2 b' o af with d | d
   ·exact h5 k b' o d
   ·exact h5 l b' o d
  ·split at af
   ·cases af
   ·exact h5 m b' o af
end Go.Sh
namespace Go.Sh
open Go
variable [Con] {A:Type} {P:Program} {E:uQ A} {tb:A->Nat×aC A}
theorem RowS.nil0(R:RowS tb E){b k:Nat}{cs:Array Value}{T:TypeId}(N:Nat)(hk:cs.size=k):obN tb (N+1) (R.row []) (b,k) [] (PHeap.one b (.cells cs T)):=by
 have aa:=R.tbRow []
 let gs':Nat->PHeap:=fun m=>match m with
  | 0=>.one b (.cells cs T)
  | _+1=>.emp
 have ae: ∀l m,l≠m->(gs' l).disj (gs' m):=by
  intro l m af
  match l,m,af with
  | 0,0,h=>exact(h rfl).elim
  | 0,_+1,_=>exact aLy _
  | _+1,0,_=>exact(aLy _).symm
  | _+1,_+1,_=>exact aLy _
 refine⟨fun m=>if m=0 then some (b,k)else none,gs',rfl,?_,?_,⟨?_,?_,ae⟩,?_⟩
 ·intro j hj;rw [aa]at hj;dsimp only at hj;omega
 ·rw [aa];rfl
 ·intro l e he;rw [aa]at he
  match l,he with
  | 0,he=>
    have ac:some (aG.cells [])=some e:=he;cases ac;exact⟨b,k,rfl,cs,T,rfl,hk,[],cs.toList,rfl,rfl⟩
  | j+1,he=>
    have ac:aL (eI E []) (j+1)=some e:=he;rw [cJ]at ac;cases ac
 ·intro l he;rw [aa]at he
  match l,he with
  | 0,he=>cases he
  | j+1,_=>rfl
 ·funext c;cases h:PHeap.one b (.cells cs T) c with
  | some o=>exact(aLP ae (l:=0) h).symm
  | none=>
    refine(aL8 fun m=>?_).symm
    match m with
    | 0=>exact h
    | _+1=>rfl
theorem RowS.glue(R:RowS tb E){ws us:List E.X}{r:Nat×Nat}{p q:PHeap}{N:Nat}(h:obN tb (N+1) (R.row ws) r [] p){U:Val}{fs:Nat->PHeap}{rs2:List Value}(k0:Nat)
 (hU: ∀j y,us[j]? =some y->aG.interp (obN tb N) U (k0+j) (E.en y) (fs (k0+j))) (hr2:rs2.length=us.length) (hhd: ∀j y v,us[j]? =some y->rs2[j]? =some v->Rep U (E.hd (k0+j) y) v)
 (hdis: ∀i j,i≠j->(fs i).disj (fs j)) (hfs: ∀j c o,fs j c=some o->q c=some o) (hqp:q.disj p):
 ∃cs T rs tail,p r.1=some (.cells cs T)/\cs.size=r.2/\cs.toList=rs++tail/\rs.length=ws.length/\
  ∀(b' k':Nat) (cs':Array Value) (T':TypeId) (tail':List Value),cs'.toList=(rs++rs2)++tail'->cs'.size=k'->(b'=r.1\/p b'=none)->q b'=none->
   ∃p',obN tb (N+1) (R.row (ws++us)) (b',k') [] p'/\ ∀c o,p' c=some o->(c=b'/\o=.cells cs' T')\/(c≠r.1/\p c=some o)\/q c=some o:=by
 obtain⟨V,gs,g1,g2,g3,⟨g4,g5,g6⟩,g7⟩:=h;rw [R.tbRow]at g2 g3 g4 g5;dsimp only at g2 g3 g4 g5;have hc:=g4 0 _ (show aL (eI E ws) 0=some (.cells (fN E 1 ws))from rfl)
 obtain⟨b,k,c1,cs,T,c2,c3,rs,tail,c4,c5⟩:=hc;have az:r=(b,k):=by have au:V 0=some (b,k):=c1;rw [g1]at au;simpa using au
 subst az;have ag:=aH.length c5;rw [dZ]at ag
 have af: ∀j b o,gs j b=some o->p b=some o:=by
  intro j b o hh;rw [g7];exact aLP g6 hh
 refine⟨cs,T,rs,tail,af 0 b _ (by rw [c2];simp [PHeap.one]),c3,c4,ag,?_⟩
 intro b' k' cs' T' tail' ay hk a6 ao;have ak:=R.tbRow (ws++us)
 let V':Val:=fun m=>match m with
  | 0=>some (b',k')
  | j+1=>if j<ws.length then V (j+1)else U (k0+(j - ws.length))
 let gs':Nat->PHeap:=fun m=>match m with
  | 0=>.one b' (.cells cs' T')
  | j+1=>if j<ws.length then gs (j+1)else if j - ws.length<us.length then fs (k0+(j - ws.length))else .emp
 have aq: ∀j,j<ws.length->V' (j+1)=V (j+1):=fun j hj=>if_pos hj;have ap: ∀j,¬j<ws.length->V' (j+1)=U (k0+(j - ws.length)):=fun j hj=>if_neg hj
 have ae: ∀m c o,gs' m c=some o->(m=0/\c=b'/\o=.cells cs' T')\/(∃j,m=j+1/\j<ws.length/\gs (j+1) c=some o)\/(∃j,m=j+1/\ ¬j<ws.length/\fs (k0+(j - ws.length)) c=some o):=by
  intro m c o hh
  match m,hh with
  | 0,hh=>
    left;have hh:PHeap.one b' (.cells cs' T') c=some o:=hh;unfold PHeap.one at hh;split at hh
    ·rename_i e;cases hh;exact⟨rfl,e,rfl⟩
    ·cases hh
  | j+1,hh=>
    right;have ah:(if j<ws.length then gs (j+1)else if j - ws.length<us.length then fs (k0+(j - ws.length))else PHeap.emp) c=some o:=hh
    clear hh;split at ah
    ·rename_i hj;exact .inl ⟨j,rfl,hj,ah⟩
    ·rename_i hj;split at ah
     ·exact .inr ⟨j,rfl,hj,ah⟩
     ·cases ah
 have al: ∀j c o,gs (j+1) c=some o->c≠b:=by
  intro j c o hh e;subst e;rcases g6 0 (j+1) omz c with d | d
  ·rw [c2]at d;simp [PHeap.one]at d
  ·rw [d]at hh;cases hh
 have nb: ∀j o,gs (j+1) b'=some o->False:=by
  intro j o hh;rcases a6 with e | e
  ·exact al j b' o hh e
  ·rw [af _ _ _ hh]at e;cases e
 have am: ∀j o,fs j b'=some o->False:=by
  intro j o hh;rw [hfs _ _ _ hh]at ao;cases ao
 have nq: ∀i j c o o2,gs i c=some o->fs j c=some o2->False:=by
  intro i j c o o2 h1 h2;rcases hqp c with d | d
  ·rw [hfs _ _ _ h2]at d;cases d
  ·rw [af _ _ _ h1]at d;cases d
 have ar: ∀l m,l≠m->(gs' l).disj (gs' m):=by
  intro l m a7 c;cases h1:gs' l c with
  | none=>exact .inl rfl
  | some o1=>
    right;cases h2:gs' m c with
    | none=>rfl
    | some o2=>
      exfalso;rcases ae l c o1 h1 with⟨a1,a2,_⟩ | ⟨j,a1,a2,a3⟩ | ⟨j,a1,a2,a3⟩
      ·rcases ae m c o2 h2 with⟨e1,_⟩ | ⟨j2,e1,e2,e3⟩ | ⟨j2,e1,e2,e3⟩
       ·omega
       ·subst a2;exact nb _ _ e3
       ·subst a2;exact am _ _ e3
      ·rcases ae m c o2 h2 with⟨e1,e2,_⟩ | ⟨j2,e1,e2,e3⟩ | ⟨j2,e1,e2,e3⟩
       ·subst e2;exact nb _ _ a3
       ·rcases g6 (j+1) (j2+1) omz c with d | d
        ·rw [d]at a3;cases a3
        ·rw [d]at e3;cases e3
       ·exact nq _ _ _ _ _ a3 e3
      ·rcases ae m c o2 h2 with⟨e1,e2,_⟩ | ⟨j2,e1,e2,e3⟩ | ⟨j2,e1,e2,e3⟩
       ·subst e2;exact am _ _ a3
       ·exact nq _ _ _ _ _ e3 a3
       ·rcases hdis (k0+(j - ws.length)) (k0+(j2 - ws.length)) omz c with d | d
        ·rw [d]at a3;cases a3
        ·rw [d]at e3;cases e3
 have ai: ∀j,aL (eI E (ws++us)) (j+1)=if j<ws.length then aL (eI E ws) (j+1)else(us[j - ws.length]?).map E.en:=by
  intro j;rw [cJ,cJ];split
  ·rename_i hj;rw [List.getElem?_append_left hj]
  ·rw [List.getElem?_append_right omz]
 refine⟨aLF gs',⟨V',gs',rfl,?_,?_,⟨?_,?_,ar⟩,rfl⟩,?_⟩
 ·intro j hj;rw [ak]at hj;dsimp only at hj;omega
 ·rw [ak];rfl
 ·intro l e he;rw [ak]at he
  match l,he with
  | 0,he=>
    have aa:some (aG.cells (fN E 1 (ws++us)))=some e:=he;cases aa;refine⟨b',k',rfl,cs',T',rfl,hk,rs++rs2,tail',ay,?_⟩;refine aMg (by rw [dZ,List.length_append,List.length_append,ag,hr2]) ?_
    intro j a v2 ha aj;rw [fS]at ha
    by_cases hj:j<ws.length
    ·rw [List.getElem?_append_left hj]at ha;rw [List.getElem?_append_left omz]at aj;cases ac:ws[j]? with
     | none=>rw [ac]at ha;cases ha
     | some y=>
       rw [ac]at ha;cases ha;have hr:=aH.at c5 (i:=j) (a:=E.hd (1+j) y) (v:=v2) (by rw [fS,ac];rfl) aj
       refine R.hdRep V V' (1+j) (1+j) y v2 ?_ hr;rw [Nat.add_comm 1 j,aq j hj]
    ·rw [List.getElem?_append_right omz]at ha;rw [List.getElem?_append_right omz,ag]at aj;cases ac:us[j - ws.length]? with
     | none=>rw [ac]at ha;cases ha
     | some y=>
       rw [ac]at ha;cases ha;refine R.hdRep U V' _ (1+j) y v2 ?_ (hhd _ y v2 ac aj);rw [Nat.add_comm 1 j,ap j hj]
  | j+1,he=>
    have aa:aL (eI E (ws++us)) (j+1)=some e:=he;rw [ai]at aa;show aG.interp (obN tb N) V' (j+1) e (if j<ws.length then gs (j+1)else if j - ws.length<us.length then fs (k0+(j - ws.length))else PHeap.emp)
    split at aa
    ·rename_i hj;rw [if_pos hj];have ax:=g4 _ _ aa;rw [cJ]at aa;cases ac:ws[j]? with
     | none=>rw [ac]at aa;cases aa
     | some s=>
       rw [ac]at aa;cases aa;exact R.enLoc N V V' (j+1) (j+1) s _ (aq j hj).symm ax
    ·rename_i hj;rw [if_neg hj];cases ac:us[j - ws.length]? with
     | none=>rw [ac]at aa;cases aa
     | some s=>
       rw [ac]at aa;cases aa;rw [if_pos (List.getElem?_eq_some_iff.1 ac).1];exact R.enLoc N U V' _ (j+1) s _ (ap j hj).symm (hU _ s ac)
 ·intro l he;rw [ak]at he
  match l,he with
  | 0,he=>cases he
  | j+1,he=>
    have aa:aL (eI E (ws++us)) (j+1)=none:=he;rw [ai]at aa;show(if j<ws.length then gs (j+1)else if j - ws.length<us.length then fs (k0+(j - ws.length))else PHeap.emp)=_
    split at aa
    ·rename_i hj;rw [if_pos hj];exact g5 _ aa
    ·rename_i hj;rw [if_neg hj];split
     ·rename_i av;rw [gE' av]at aa;cases aa
     ·rfl
 ·intro c o hh;obtain⟨m,hm⟩:=aLQ hh;rcases ae m c o hm with⟨_,a2,a3⟩ | ⟨j,_,_,a3⟩ | ⟨j,_,_,a3⟩
  ·exact .inl ⟨a2,a3⟩
  ·exact .inr (.inl ⟨al j c o a3,af _ _ _ a3⟩)
  ·exact .inr (.inr (hfs _ _ _ a3))
theorem RowS.snoc(R:RowS tb E){ws:List E.X}{y:E.X}{r x:Nat×Nat}{p q:PHeap}{N:Nat}(h:obN tb (N+1) (R.row ws) r [] p)(hx:EnAt tb N (E.en y) x q)(hqp:q.disj p){v:Value}(hv: ∀(V:Val) (l:Nat),V l=some x->Rep V (E.hd l y) v):
 ∃cs T rs tail,p r.1=some (.cells cs T)/\cs.size=r.2/\cs.toList=rs++tail/\rs.length=ws.length/\
  ∀(b' k':Nat) (cs':Array Value) (T':TypeId) (tail':List Value),cs'.toList=(rs++ [v])++tail'->cs'.size=k'->(b'=r.1\/p b'=none)->q b'=none->
   ∃p',obN tb (N+1) (R.row (ws++ [y])) (b',k') [] p'/\ ∀c o,p' c=some o->(c=b'/\o=.cells cs' T')\/(c≠r.1/\p c=some o)\/q c=some o:=by
 refine R.glue (us:=[y]) (U:=fun _=>some x) (fs:=fun m=>if m=0 then q else .emp) (rs2:=[v]) h 0 ?_ rfl ?_ ?_ ?_ hqp
 ·intro j z hz
  match j,hz with
  | 0,hz=>cases hz;exact hx _ _ rfl
  | j+1,hz=>cases hz
 ·intro j z u hz hu
  match j,hz,hu with
  | 0,hz,hu=>cases hz;cases hu;exact hv _ _ rfl
  | j+1,hz,_=>cases hz
 ·intro i j aa c
  by_cases e:i=0
  ·right;show(if j=0 then q else PHeap.emp) c=none;rw [if_neg omz];rfl
  ·left;show(if i=0 then q else PHeap.emp) c=none;rw [if_neg e];rfl
 ·intro j c o hh;have hh:(if j=0 then q else PHeap.emp) c=some o:=hh
  split at hh
  ·exact hh
  ·cases hh
end Go.Sh
