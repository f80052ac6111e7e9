import Derived.ControlIn
import Derived.TacticsIn
import Derived.RangeFuncIn
import Derived.RowKit3
import Derived.WideKeyArgs
import Derived.OpenShut
import Derived.Test.YteindpciaceeeaaGreatZSh7ctoSh13
set_option linter.all false
set_option maxHeartbeats 8000000
namespace Go.Sh
open Go
variable [Con] {A:Type}
section
variable {P:Program} {E:Env A P}
theorem pE{ops:Array Oper}{x y:Item A}(h:eU ops x y=true):
 (∀d,x.o.dst=some d->d∉y.o.looksAt ops/\y.o.dst≠some d)/\(∀d,y.o.dst=some d->d∉x.o.looksAt ops/\x.o.dst≠some d)/\(∀l∈y.foot,x.puts l=false)/\(∀l∈x.foot,y.puts l=false):=by
 unfold eU at h;simp only [Bool.and_eq_true,List.all_eq_true,Bool.not_eq_true']at h;obtain⟨⟨⟨h1,h2⟩,h3⟩,h4⟩:=h;refine⟨?_,?_,h3,h4⟩
 ·intro d hd;simp only [lH,hd,Bool.and_eq_true,Bool.not_eq_true',bne_iff_ne,ne_eq]at h1;exact⟨by have:=h1.1;simpa using this,h1.2⟩
 ·intro d hd;simp only [lH,hd,Bool.and_eq_true,Bool.not_eq_true',bne_iff_ne,ne_eq]at h2;exact⟨by have:=h2.1;simpa using this,h2.2⟩
theorem qJ(foot:List Nat): ∀(h:aC A) (i l:Nat),aL (hres foot i h) l=if foot.contains (i+l)then aL h l else none
 | [],i,l=>by simp [hres,aL]
 | e::h,i,0=>by
   simp only [hres,aL,List.getD_cons_zero,Nat.add_zero];cases foot.contains i<;>rfl
 | e::h,i,l+1=>by
   have:=qJ foot h (i+1) l;simp only [aL]at this;simp only [hres,aL,List.getD_cons_succ];rw [this,show i+1+l=i+(l+1)from by omega]
theorem sW(foot:List Nat): ∀(h:aC A) (i:Nat),(hres foot i h).length =h.length
 | [],_=>rfl
 | e::h,i=>by simp [hres,sW foot h]
structure iB (E:Env A P) (ops:Array Oper) (tm0:List AVal) (h0:aC A) (its:List (Item A)) (tmN:List AVal) (hN:aC A):Prop where
 trace:f6 E ops tm0 h0 its tmN hN
 opers:its.map (·.o)=ops.toList.take its.length
 edges:l4 ops.toList
 wells:its.all iQ=true
 pairs:D6 ops (masks [] ops.toList) its
variable {ops:Array Oper} {tm0:List AVal} {h0:aC A} {its:List (Item A)} {tmN:List AVal} {hN:aC A}
theorem iB.oper(d:iB E ops tm0 h0 its tmN hN){k:Nat}{it:Item A}(hk:its[k]? =some it):ops.toList[k]? =some it.o:=by
 have hlt:k<its.length:=(List.getElem?_eq_some_iff.1 hk).1;have h1:(its.map (·.o))[k]? =some it.o:=by rw [List.getElem?_map,hk];rfl
 rw [d.opers,List.getElem?_take,if_pos hlt]at h1;exact h1
theorem iB.item(d:iB E ops tm0 h0 its tmN hN){k:Nat}{o:Oper}(hk:ops.toList[k]? =some o)(hkl:k<its.length): ∃it,its[k]? =some it/\it.o=o:=by
 have h1:(its.map (·.o))[k]? =some o:=by rw [d.opers,List.getElem?_take,if_pos hkl];exact hk
 rw [List.getElem?_map]at h1;cases h:its[k]? with
 | none=>rw [h]at h1;cases h1
 | some it=>rw [h]at h1;cases h1;exact⟨it,rfl,rfl⟩
theorem iB.pair(d:iB E ops tm0 h0 its tmN hN){i j:Nat}{x y:Item A}(hi:its[i]? =some x)(hj:its[j]? =some y)(hij:i<j):
 (((masks [] ops.toList).getD j 0).testBit i=true)\/eU ops x y=true:=by
 exact d.pairs i j x y hi hj hij
theorem iB.well(d:iB E ops tm0 h0 its tmN hN){k:Nat}{it:Item A}(hk:its[k]? =some it):iQ it=true:=by
 have:=List.all_eq_true.1 d.wells;exact this it (List.mem_of_getElem? hk)
theorem iB.ordered(d:iB E ops tm0 h0 its tmN hN){D:Nat->Bool}(hc:lU ops.toList D){k:Nat}{it:Item A}(hk:its[k]? =some it)(hD:D k=false)
 (hr: ∀e∈it.o.after.toList,Region.binds .any e=true->D e.on=true) {i:Nat} {x:Item A} (hi:its[i]? =some x) (hik:i≠k)
 (hdep:eU ops x it=false\/eU ops it x=false) (hsym:eU ops x it=false->eU ops it x=false) (hsym2:eU ops it x=false->eU ops x it=false):D i=decide (i<k):=by
 rcases Nat.lt_or_gt_of_ne hik with hlt | hgt
 ·rcases d.pair hi hk hlt with h | h
  ·rcases pK hc (d.oper hk) hr h with h | h
   ·exact(hik h).elim
   ·rw [h];simp [hlt]
  ·rcases hdep with e | e
   ·rw [e]at h;cases h
   ·rw [hsym2 e]at h;cases h
 ·rcases d.pair hk hi hgt with h | h
  ·have:D i=false:=by
    cases e:D i with
    | false=>rfl
    | true=>rw [J7 hc e h]at hD;cases hD
   rw [this];simp;omega
  ·rcases hdep with e | e
   ·rw [hsym e]at h;cases h
   ·rw [e]at h;cases h
theorem pF{x y:Item A} :eU ops x y=eU ops y x:=by
 unfold eU;cases lH ops x.o y.o<;>cases lH ops y.o x.o<;>cases y.foot.all (fun l=>!x.puts l)<;>cases x.foot.all (fun l=>!y.puts l)<;>rfl
theorem iB.order(d:iB E ops tm0 h0 its tmN hN){D:Nat->Bool}(hc:lU ops.toList D){k:Nat}{it:Item A}(hk:its[k]? =some it)(hD:D k=false)
 (hr: ∀e∈it.o.after.toList,Region.binds .any e=true->D e.on=true) {i:Nat} {x:Item A} (hi:its[i]? =some x) (hik:i≠k) (hdep:eU ops x it=false):D i=decide (i<k):=
 d.ordered hc hk hD hr hi hik (.inl hdep) (fun h=>by rw [pF];exact h) (fun h=>by rw [pF];exact h)
theorem O2{x y:Item A}{t:Nat}(hx:x.o.dst=some t)(hy:t∈y.o.looksAt ops):eU ops x y=false:=by
 cases h:eU ops x y with
 | false=>rfl
 | true=>exact((pE h).1 t hx |>.1 hy).elim
theorem VS{x y:Item A}{t:Nat}(hx:x.o.dst=some t)(hy:y.o.dst=some t):eU ops x y=false:=by
 cases h:eU ops x y with
 | false=>rfl
 | true=>exact((pE h).1 t hx |>.2 hy).elim
theorem uQ{x y:Item A}{l:Nat}(hx:x.puts l=true)(hy:l∈y.foot):eU ops x y=false:=by
 cases h:eU ops x y with
 | false=>rfl
 | true=>have:=(pE h).2.2.1 l hy;rw [hx]at this;cases this
def wU(E:Env A P)(tm0:List AVal)(h0:aC A)(its:List (Item A))(V0:Val)(hR:PHeap)(w0:World)(D:Nat->Bool)(a:Act)(w:World):Prop:=
 ∃V,V0.le V/\(∀l,V l≠none->V0 l≠none\/ ∃i it,its[i]? =some it/\D i=true/\it.n<=l/\l<it.n+it.new.length)/\
  aI V (tmF D 0 its tm0) a.tmps.toList/\Inv E.I V (hF D 0 its (toF h0)) hR w/\bX w0 w/\a.defers=[]
theorem L1{o:Oper}{t:Nat}(h:Operand.tmp t∈o.op.operands):t∈o.looksAt ops:=by
 unfold Oper.looksAt;refine List.mem_append_left _ (List.mem_filterMap.2 ⟨.tmp t,by simpa using h,rfl⟩)
theorem sS{o:Oper}{j d:Nat}{want:Bool}(h:o.guard=some (j,want))(hd:(ops[j]?).bind (·.dst)=some d):d∈o.looksAt ops:=by
 unfold Oper.looksAt;refine List.mem_append_right _ ?_;rw [h];simp only;rw [hd];simp
theorem iB.step(d:iB E ops tm0 h0 its tmN hN){V0:Val}(hV0:bU V0 h0.length){hR:PHeap}{w0:World}{D:Nat->Bool}(hc:lU ops.toList D){k:Nat}{o:Oper}(hko:ops.toList[k]? =some o)(hkl':k<its.length)(hD:D k=false)
 (hr: ∀e∈o.after.toList,Region.binds .any e=true->D e.on=true) {a:Act} {w:World} (hs:wU E tm0 h0 its V0 hR w0 D a w) {Q:Exit->Act->World->Prop} {K:Act->World->Prop}
 (hK: ∀a' w',wU E tm0 h0 its V0 hR w0 (fun i=>decide (i=k)||D i) a' w'->K a' w'):wpOp P ops Q k K a w:=by
 obtain⟨it,hk,rfl⟩:=d.item hko hkl';obtain⟨V,hVle,hdom,htm,hinv,hg,hdf⟩:=hs;obtain⟨hk',hok,hkF,hkl,hkn⟩:=d.trace.at d.wells 0 k it hk;simp only [Nat.zero_add]at hok hkF
 have look: ∀t∈it.o.looksAt ops,(tmF D 0 its tm0)[t]? =(tmF (fun i=>decide (i<k)) 0 its tm0)[t]? :=by
  intro t ht;refine oH its 0 tm0 tm0 rfl rfl ?_;intro i x hi hx;rw [Nat.zero_add]
  by_cases hik:i=k
  ·subst hik;rw [hD];simp
  ·exact d.order hc hk hD hr hi hik (O2 hx ht)
 have seen: ∀l∈it.foot,hF D 0 its (toF h0) l=toF hk' l:=by
  intro l hl;rw [hkF];refine nA its 0 _ _ rfl ?_;intro i x hi hx;rw [Nat.zero_add]
  by_cases hik:i=k
  ·subst hik;rw [hD];simp
  ·exact d.order hc hk hD hr hi hik (uQ hx hl)
 have evals: ∀x∈it.o.op.operands,dL (tmF D 0 its tm0) x=dL (tmF (fun i=>decide (i<k)) 0 its tm0) x:=by
  intro x hx;cases x with
  | tmp t=>
    show(tmF D 0 its tm0).getD t _=(tmF _ 0 its tm0).getD t _;rw [gD',gD',look t (L1 hx)]
  | _=>rfl
 have hwell:=d.well hk
 have tmNew:tmF (fun i=>decide (i=k)||D i) 0 its tm0=uK (tmF D 0 its tm0) it.o.dst it.v:=by
  apply List.ext_getElem?;intro t;rw [mU,pO]
  by_cases hd:it.o.dst=some t
  ·have e1:(tmF (fun i=>decide (i=k)||D i) 0 its tm0)[t]? =(tmF (fun i=>decide (i<k+1)) 0 its tm0)[t]? :=by
    refine oH its 0 tm0 tm0 rfl rfl ?_;intro i x hi hx;rw [Nat.zero_add]
    by_cases hik:i=k
    ·subst hik;simp
    ·have:=d.order hc hk hD hr hi hik (VS hx hd);rw [this];have:decide (i=k)=false:=by simpa using hik
     rw [this,Bool.false_or];congr 1;apply propext;omega
   have e2:(tmF (fun i=>decide (i<k+1)) 0 its tm0)[t]? =if it.o.dst=some t/\t<tm0.length then some it.v else none:=by
    have gen: ∀(its:List (Item A)) (base k:Nat) (tm:List AVal),its[k]? =some it->(tmF (fun i=>decide (i<base+k+1)) base its tm)[t]? =if it.o.dst=some t/\t<tm.length then some it.v else none:=by
     intro its
     induction its with
     | nil=>intro base k tm h;simp at h
     | cons x its ih=>
       intro base k tm h;unfold tmF;rw [if_pos (by simp;omega)]
       cases k with
       | zero=>
         simp at h;subst h;rw [rA _ _ _ (by intro j hj;simp;omega),mU]
         by_cases hlt:t<tm.length
         ·simp [hd,hlt]
         ·simp [hlt]
       | succ k=>
         simp at h;have:=ih (base+1) k (uK tm x.o.dst x.v) h;rw [mV]at this;rw [<-this];congr 3;funext i;congr 1;apply propext;omega
    have:=gen its 0 k tm0 hk;rw [Nat.zero_add]at this;exact this
   rw [e1,e2]
   by_cases hlt:t<tm0.length
   ·simp [hd,hlt]
   ·rw [if_neg (by simp [hlt]),if_neg (by simp [hlt]),List.getElem?_eq_none (by rw [pO];omega)]
  ·rw [if_neg (by simp [hd])]
   refine oH its 0 tm0 tm0 rfl rfl ?_;intro i x hi hx;rw [Nat.zero_add]
   by_cases hik:i=k
   ·subst hik;rw [hk]at hi;cases hi;exact(hd hx).elim
   ·simp [hik]
 have putsLast: ∀l,it.puts l=true-> ∀i x,its[i]? =some x->i≠k->x.puts l=true->D i=true->i<k/\l∈it.foot:=by
  intro l hl i x hi hik hx hDi
  have upd_foot: ∀(it:Item A),iQ it=true-> ∀l,it.upd.any (fun x=>x.1 == l)=true->l∈it.foot/\l<it.n:=by
   intro it hw l hl;obtain⟨u,hu,he⟩:=List.any_eq_true.1 hl;have:=List.all_eq_true.1 hw u hu;simp only [Bool.and_eq_true,dT']at this;have e:u.1=l:=by simpa using he
   rw [e]at this;exact⟨by simpa using this.1,this.2⟩
  simp only [Item.puts,Bool.or_eq_true,Bool.and_eq_true,dT']at hl hx;have hpk:it.puts l=true:=by simp only [Item.puts,Bool.or_eq_true,Bool.and_eq_true,dT'];exact hl
  have hpi:x.puts l=true:=by simp only [Item.puts,Bool.or_eq_true,Bool.and_eq_true,dT'];exact hx
  have byOrder:eU ops x it=false->i<k:=by
   intro h;have:=d.order hc hk hD hr hi hik h;rw [hDi]at this
   simpa using this.symm
  rcases hl with hl | hl
  ·obtain⟨f1,f2⟩:=upd_foot it hwell l hl;exact⟨byOrder (uQ hpi f1),f1⟩
  ·rcases hx with hx | hx
   ·obtain⟨f1,f2⟩:=upd_foot x (d.well hi) l hx;have hlt:=byOrder (by rw [pF];exact uQ hpk f1)
    have:=d.trace.news i k x it hi hk hlt;omega
   ·rcases Nat.lt_or_gt_of_ne hik with hlt | hgt
    ·have:=d.trace.news i k x it hi hk hlt;omega
    ·have:=d.trace.news k i it x hk hi hgt;omega
 have hNew:hF (fun i=>decide (i=k)||D i) 0 its (toF h0)=it.putF (hF D 0 its (toF h0)):=by
  funext l;cases hp:it.puts l with
  | false=>
    rw [kE it _ l hp];refine nA its 0 _ _ rfl ?_;intro i x hi hx;rw [Nat.zero_add]
    by_cases hik:i=k
    ·subst hik;rw [hk]at hi;cases hi;rw [hp]at hx;cases hx
    ·simp [hik]
  | true=>
    have gen: ∀(js:List (Item A)) (base k:Nat) (D':Nat->Bool) (h g:bH A),js[k]? =some it->D' (base+k)=true->(∀i x,js[i]? =some x->x.puts l=true->D' (base+i)=true->i<=k)->hF D' base js h l=it.putF g l:=by
     intro js
     induction js with
     | nil=>intro base k D' h g hj;simp at hj
     | cons x js ih=>
       intro base k D' h g hj hDk hle;unfold hF;cases k with
       | zero=>
         simp at hj;subst hj;rw [Nat.add_zero]at hDk;rw [if_pos hDk]
         have e1:hF D' (base+1) js (x.putF h) l=hF (fun _=>false) (base+1) js (x.putF h) l:=by
          refine nA js (base+1) _ _ rfl ?_;intro i y hi hy;cases e:D' (base+1+i)with
          | false=>rfl
          | true=>
            have:=hle (i+1) y (by simpa using hi) hy (by rw [show base+(i+1)=base+1+i from by omega];exact e)
            omega
         rw [e1,qI _ _ _ (fun _ _=>rfl)];exact sA x h g l (.inl hp)
       | succ k=>
         simp at hj;refine ih (base+1) k D' _ g hj (by rw [show base+1+k=base+(k+1)from by omega];exact hDk) ?_
         intro i y hi hy he;have:=hle (i+1) y (by simpa using hi) hy (by rw [show base+(i+1)=base+1+i from by omega];exact he)
         omega
    refine gen its 0 k _ _ _ hk (by simp) ?_
    intro i x hi hx he;rw [Nat.zero_add]at he
    by_cases hik:i=k
    ·omega
    ·simp only [hik,decide_false,Bool.false_or]at he;have:=(putsLast l hp i x hi hik hx he).1;omega
 have hko':ops[k]? =some it.o:=by rw [<-Array.getElem?_toList];exact hko
 unfold wpOp;rw [hko'];simp only;rcases hok.2 with⟨hran,⟨r,hr1,hr2,hr3,hr4,hr5⟩,hgd⟩ | ⟨hran,hv,hu0,hn0,j,want,dd,hgd,hjd,hval⟩
 ·
  have hw:Region.wanted it.o (yielded ops a.tmps)=true:=by
   cases hgu:it.o.guard with
   | none=>simp [Region.wanted,hgu]
   | some g=>
     obtain⟨j,want⟩:=g;obtain⟨dd,hjd,hv⟩:=hgd j want hgu;rw [<-look dd (sS hgu hjd)]at hv;obtain⟨y,hy,ry⟩:=aI.get htm dd _ hv;rw [Array.getElem?_toList]at hy;have ry':y=.bool want:=ry;subst ry';simp [Region.wanted,hgu,jH hjd hy]
  rw [if_pos hw];left;obtain⟨hR',hin,hcont⟩:=hinv.split (fun l=>it.foot.contains l)
  have hheap:(fun l=>if it.foot.contains l then hF D 0 its (toF h0) l else none)=toF (hres it.foot 0 hk'):=by
   funext l;show _=aL (hres it.foot 0 hk') l;rw [qJ,Nat.zero_add]
   by_cases hl:it.foot.contains l=true
   ·rw [if_pos hl,if_pos hl];exact seen l (by simpa using hl)
   ·rw [if_neg hl,if_neg hl]
  rw [hheap]at hin;have hlen:(hres it.foot 0 hk').length =it.n:=by rw [sW,hok.1]
  have hfr:i5 V (hres it.foot 0 hk').length r.new.length:=by
   intro l h1 h2;rw [hlen]at h1 h2;cases e:V l with
   | none=>rfl
   | some x=>
     rcases hdom l (by rw [e];simp)with h | ⟨i,y,hi,hDi,h3,h4⟩
     ·have:it.n=hk'.length:=hok.1;exact(h (hV0 l (by omega))).elim
     ·by_cases hik:i=k
      ·subst hik;rw [hD]at hDi;cases hDi
      ·rw [hr5]at h2;rcases Nat.lt_or_gt_of_ne hik with hlt | hgt
       ·have:=d.trace.news i k y it hi hk hlt;omega
       ·have:=d.trace.news k i it y hk hi hgt;omega
  have hr1':dop E (dL (tmF D 0 its tm0)) it.o.op (hres it.foot 0 hk')=some r:=by rw [J8 _ _ evals];exact hr1
  refine J9 hr1' hr2 hin hfr htm ?_;intro v' V' w' k1 k2 k3 k4 k5;refine hK _ _ ⟨V',Val.le_trans hVle k2,?_,?_,?_,hg.trans k5,by rw [gV];exact hdf⟩
  ·intro l hl
   by_cases hVl:V l=none
   ·have:=k3 l hVl hl;rw [hlen,hr5]at this;exact .inr ⟨k,it,hk,by simp,this.1,this.2⟩
   ·rcases hdom l hVl with h | ⟨i,y,hi,hDi,h3,h4⟩
    ·exact .inl h
    ·exact .inr ⟨i,y,hi,by simp [hDi],h3,h4⟩
  ·rw [tmNew];exact lG (aI.mono k2 _ _ htm) (by rw [<-hr3];exact k1)
  ·have hz: ∀l,it.foot.contains l=false->hF D 0 its (toF h0) l≠none->toF (r.apply (hres it.foot 0 hk')) l=none:=by
    intro l hl hne;have hnotfoot:l∉it.foot:=by simpa using hl
    have happ:r.apply (hres it.foot 0 hk')=it.applyH (hres it.foot 0 hk'):=by unfold ORes.apply Item.applyH;rw [hr4,hr5]
    rw [happ,mT hlen.symm hwell];cases hp:it.puts l with
    | false=>
      rw [kE it _ l hp];show aL (hres it.foot 0 hk') l=none;rw [qJ,Nat.zero_add,if_neg (by simpa using hl)]
    | true=>
      exfalso
      have hall:hF D 0 its (toF h0) l=hF (fun _=>false) 0 its (toF h0) l:=by
       refine nA its 0 _ _ rfl ?_;intro i x hi hx;rw [Nat.zero_add]
       by_cases hik:i=k
       ·subst hik;exact hD
       ·cases e:D i with
        | false=>rfl
        | true=>exact(hnotfoot (putsLast l hp i x hi hik hx e).2).elim
      rw [qI _ _ _ (fun _ _=>rfl)]at hall;rw [hall]at hne
      have hl0:l<h0.length:=by
       cases Nat.lt_or_ge l h0.length with
       | inl h=>exact h
       | inr h=>exact(hne (cA h)).elim
      have hnk:it.n=hk'.length:=hok.1;simp only [Item.puts,Bool.or_eq_true,Bool.and_eq_true,dT']at hp;rcases hp with hp | hp
      ·obtain⟨u,hu,he⟩:=List.any_eq_true.1 hp;have:=List.all_eq_true.1 hwell u hu;simp only [Bool.and_eq_true,dT']at this;have e:u.1=l:=by simpa using he
       rw [e]at this;exact hnotfoot (by simpa using this.1)
      ·omega
   have hfin:=hcont V' _ w' k2 k4 hz;rw [hNew]
   have heq:(fun l=>if it.foot.contains l=false/\hF D 0 its (toF h0) l≠none then hF D 0 its (toF h0) l else toF (r.apply (hres it.foot 0 hk')) l)=it.putF (hF D 0 its (toF h0)):=by
    funext l;have happ:r.apply (hres it.foot 0 hk')=it.applyH (hres it.foot 0 hk'):=by unfold ORes.apply Item.applyH;rw [hr4,hr5]
    by_cases hcnd:it.foot.contains l=false/\hF D 0 its (toF h0) l≠none
    ·rw [if_pos hcnd];cases hp:it.puts l with
     | false=>rw [kE it _ l hp]
     | true=>
       exfalso;have:=hz l hcnd.1 hcnd.2;rw [happ,mT hlen.symm hwell]at this;simp only [Item.puts,Bool.or_eq_true,Bool.and_eq_true,dT']at hp;have hnotfoot:l∉it.foot:=by simpa using hcnd.1
       rcases hp with hp | hp
       ·obtain⟨u,hu,he⟩:=List.any_eq_true.1 hp;have:=List.all_eq_true.1 hwell u hu;simp only [Bool.and_eq_true,dT']at this;have e:u.1=l:=by simpa using he
        rw [e]at this;exact hnotfoot (by simpa using this.1)
       ·unfold Item.putF at this;rw [if_pos hp,gE' (by omega)]at this
        cases this
    ·rw [if_neg hcnd,happ,mT hlen.symm hwell];refine sA it _ _ l ?_;cases hp:it.puts l with
     | true=>exact .inl rfl
     | false=>
       right;show aL (hres it.foot 0 hk') l=_;rw [qJ,Nat.zero_add]
       by_cases hl:it.foot.contains l=true
       ·rw [if_pos hl];exact(seen l (by simpa using hl)).symm
       ·rw [if_neg hl];have hl':it.foot.contains l=false:=by simpa using hl
        cases e:hF D 0 its (toF h0) l with
        | none=>rfl
        | some x=>exact(hcnd ⟨hl',by rw [e];simp⟩).elim
   rw [<-heq];exact hfin
 ·
  have hw:Region.wanted it.o (yielded ops a.tmps)=false:=by
   have hlk:=look dd (sS hgd hjd);rcases hval with hval | hval
   ·rw [<-hlk]at hval;obtain⟨y,hy,ry⟩:=aI.get htm dd _ hval;rw [Array.getElem?_toList]at hy;have ry':y=.bool (!want):=ry;subst ry';have:Region.wanted it.o (yielded ops a.tmps)=((!want) == want):=by simp [Region.wanted,hgd,jH hjd hy]
    rw [this];cases want<;>rfl
   ·have hval':hX ((tmF D 0 its tm0).getD dd (.raw undef))=true:=by
     rw [gD',hlk,<-gD'];exact hval
    have hyl:yielded ops a.tmps j=none:=by
     refine lD hjd ?_;cases e:a.tmps[dd]? with
     | none=>exact .inl rfl
     | some x=>
       right
       have hlt:dd<(tmF D 0 its tm0).length :=by
        have h1:=aI.length htm;rw [Array.length_toList]at h1;cases Nat.lt_or_ge dd a.tmps.size with
        | inl g=>exact Nat.lt_of_lt_of_eq g h1
        | inr g=>rw [Array.getElem?_eq_none g]at e;cases e
       obtain⟨y,hy,ry⟩:=aI.get htm dd _ (gE' hlt);rw [Array.getElem?_toList,e]at hy;cases hy;have e2:(tmF D 0 its tm0).getD dd (.raw undef)=(tmF D 0 its tm0)[dd]:=by rw [gD',gE' hlt];rfl
       rw [e2]at hval';unfold hX at hval';split at hval'
       ·rename_i vs e3;rw [e3]at ry;have:x=.tuple vs:=ry;exact⟨vs,by rw [this]⟩
       ·cases hval'
    simp [Region.wanted,hgd,hyl]
  rw [if_neg (by rw [hw];simp)]
  refine hK _ _ ⟨V,hVle,?_,?_,?_,hg,by rw [gV];exact hdf⟩
  ·intro l hl;rcases hdom l hl with h | ⟨i,y,hi,hDi,h3,h4⟩
   ·exact .inl h
   ·exact .inr ⟨i,y,hi,by simp [hDi],h3,h4⟩
  ·rw [tmNew,hv];exact lG htm rfl
  ·rw [hNew]
   have:it.putF (hF D 0 its (toF h0))=hF D 0 its (toF h0):=by
    funext l;refine kE it _ l ?_;simp [Item.puts,hu0,hn0]
   rw [this];exact hinv
theorem xJ{p q:Nat->Bool}(h: ∀i,q i=true->p i=true): ∀l:List Nat,(l.filter q).length <=(l.filter p).length
 | []=>Nat.le_refl _
 | x::l=>by
   have ih:=xJ h l;rw [List.filter_cons,List.filter_cons];cases hq:q x with
   | true=>rw [h x hq];simp only [if_true,List.length_cons];omega
   | false=>
     cases hp:p x with
     | true=>simp only [Bool.false_eq_true,if_false,if_true,List.length_cons];omega
     | false=>simpa using ih
theorem xK{p q:Nat->Bool}(h: ∀i,q i=true->p i=true){k:Nat}(hp:p k=true)(hq:q k=false): ∀l:List Nat,k∈l->(l.filter q).length <(l.filter p).length
 | [],hk=>by cases hk
 | x::l,hk=>by
   have le:=xJ h l;rw [List.filter_cons,List.filter_cons]
   by_cases hx:x=k
   ·subst hx;rw [hp,hq];simp only [Bool.false_eq_true,if_false,if_true,List.length_cons];omega
   ·have hm:k∈l:=by
     rcases List.mem_cons.1 hk with h | h
     ·exact(hx h.symm).elim
     ·exact h
    have ih:=xK h hp hq l hm;cases hqx:q x with
    | true=>rw [h x hqx];simp only [if_true,List.length_cons];omega
    | false=>
      cases hpx:p x with
      | true=>simp only [Bool.false_eq_true,if_false,if_true,List.length_cons];omega
      | false=>simpa using ih
theorem iB.any(d:iB E ops tm0 h0 its tmN hN){V0:Val}(hV0:bU V0 h0.length){hR:PHeap}{w0:World}{Q:Exit->Act->World->Prop}(hle:its.length<=ops.size)
 (tot: ∀k,its.length<=k->k<ops.size-> ∀i,i<k->((masks [] ops.toList).getD k 0).testBit i=true)
 (hQ: ∀(fuel:Nat) (listed:Array Bool) (a:Act) (w:World),listed.size=ops.size->(∀i,listed.getD i false=decide (i<its.length))->ops.size<=fuel+its.length->wU E tm0 h0 its V0 hR w0 (fun i=>decide (i<its.length)) a w->wpAny P .any ops Q fuel listed a w):
 ∀(fuel:Nat) (listed:Array Bool) (a:Act) (w:World),listed.size=ops.size->
  ((List.range its.length).filter (fun i=>!listed.getD i false)).length +(ops.size - its.length)<=fuel->lU ops.toList (fun i=>listed.getD i false)->(∀i,its.length<=i->listed.getD i false=false)->wU E tm0 h0 its V0 hR w0 (fun i=>listed.getD i false) a w->wpAny P .any ops Q fuel listed a w:=by
 have full: ∀(fuel:Nat) (listed:Array Bool) (a:Act) (w:World),listed.size=ops.size->(∀i,i<its.length->listed.getD i false=true)->ops.size<=fuel+its.length->(∀i,its.length<=i->listed.getD i false=false)->wU E tm0 h0 its V0 hR w0 (fun i=>listed.getD i false) a w->wpAny P .any ops Q fuel listed a w:=by
  intro fuel listed a w hls hall hfu hno hs
  have hdec: ∀i,listed.getD i false=decide (i<its.length):=by
   intro i;cases Nat.lt_or_ge i its.length with
   | inl g=>rw [hall i g];simp [g]
   | inr g=>rw [hno i g];simp;omega
  refine hQ fuel listed a w hls hdec hfu ?_;have:(fun i=>listed.getD i false)=fun i=>decide (i<its.length):=funext hdec;rw [this]at hs;exact hs
 intro fuel
 induction fuel with
 | zero=>
   intro listed a w hls hf hc hno hs;refine full 0 listed a w hls ?_ (by omega) hno hs
   intro i hi;cases e:listed.getD i false with
   | true=>rfl
   | false=>
     have:i∈(List.range its.length).filter (fun i=>!listed.getD i false):=by
      rw [List.mem_filter];exact⟨by simpa using hi,by rw [e];rfl⟩
     have hp:=List.length_pos_of_mem this;omega
 | succ fuel ih=>
   intro listed a w hls hf hc hno hs
   by_cases hall: ∀i,i<its.length->listed.getD i false=true
   ·refine full (fuel+1) listed a w hls hall ?_ hno hs;omega
   have ⟨i0,hi0,hd0⟩: ∃i0,i0<its.length/\listed.getD i0 false=false:=by
    refine Classical.byContradiction fun hne=>hall fun i hi=>?_;cases e:listed.getD i false with
    | true=>rfl
    | false=>exact(hne ⟨i,hi,e⟩).elim
   refine⟨fun hrd=>?_,?_⟩
   ·exfalso
    have hall2: ∀i,i<ops.size->listed.getD i false=true:=by
     intro i
     induction i using Nat.strongRecOn with
     | _ i ih2=>
       intro hi;cases e:listed.getD i false with
       | true=>rfl
       | false=>
         exfalso
         have hmem:i∈Region.ready .any ops listed:=by
          unfold Region.ready;rw [List.mem_filter];refine⟨by simpa using hi,?_⟩
          have e1:listed.getD i true=false:=by
           rw [Array.getD_eq_getD_getElem?]at e⊢;rw [Array.getElem?_eq_getElem (by omega)]at e⊢
           exact e
          rw [e1,Array.getElem?_eq_getElem hi];simp only [Bool.not_false,Option.map_some,Option.getD_some,Bool.true_and];rw [Array.all_eq_true_iff_forall_mem];intro x hx;have hed:=d.edges;have h1:=hed i ops[i] (by rw [Array.getElem?_toList,Array.getElem?_eq_getElem hi])
          unfold kM at h1;rw [List.all_eq_true]at h1;have h2:=h1 x (by simpa using hx)
          simp only [Bool.or_eq_true,Bool.not_eq_true']at h2⊢;rcases h2 with h2 | h2
          ·exact .inl h2
          ·have h2':x.on<i:=Nat.le_of_ble_eq_true h2;exact .inr (ih2 x.on h2' (by omega))
         rw [hrd]at hmem;cases hmem
    rw [hall2 i0 (by omega)]at hd0;cases hd0
   intro k hk;unfold Region.ready at hk;rw [List.mem_filter]at hk;obtain⟨h1,h2⟩:=hk;have hk':k<ops.size:=by simpa using h1
   simp only [Bool.and_eq_true,Bool.not_eq_true']at h2
   have hDk:listed.getD k false=false:=by
    have:=h2.1;rw [Array.getD_eq_getD_getElem?]at this⊢;rw [Array.getElem?_eq_getElem (by omega)]at this⊢
    exact this
   have hko:ops.toList[k]? =some ops[k]:=by rw [Array.getElem?_toList,Array.getElem?_eq_getElem hk']
   have hr: ∀e∈ops[k].after.toList,Region.binds .any e=true->listed.getD e.on false=true:=by
    intro e he hb;have h3:=h2.2;rw [Array.getElem?_eq_getElem hk']at h3;simp only [Option.map_some,Option.getD_some]at h3;rw [Array.all_eq_true_iff_forall_mem]at h3;have:=h3 e (by simpa using he)
    simpa [hb]using this
   have hkl:k<its.length:=by
    cases Nat.lt_or_ge k its.length with
    | inl g=>exact g
    | inr g=>
      exfalso;rcases pK hc hko hr (tot k g hk' i0 (by omega))with e | e
      ·omega
      ·rw [hd0]at e;cases e
   have hset: ∀i,(listed.setIfInBounds k true).getD i false=(decide (i=k)||listed.getD i false):=by
    intro i;rw [Array.getD_eq_getD_getElem?,Array.getD_eq_getD_getElem?,Array.getElem?_setIfInBounds]
    by_cases hik:k=i
    ·subst hik;simp [hls,hk']
    ·simp [hik,Ne.symm hik]
   have hset':(fun i=>(listed.setIfInBounds k true).getD i false)=(fun i=>decide (i=k)||listed.getD i false):=funext hset
   refine d.step hV0 hc hko hkl hDk hr hs ?_;intro a' w' hs';refine ih _ a' w' (by simp [hls]) ?_ ?_ ?_ (by rw [hset'];exact hs')
   ·have hlt:((List.range its.length).filter (fun i=> !(listed.setIfInBounds k true).getD i false)).length <((List.range its.length).filter (fun i=>!listed.getD i false)).length :=by
     refine xK ?_ (k:=k) ?_ ?_ _ (by simpa using hkl)
     ·intro i hi;rw [hset i]at hi;cases e:listed.getD i false with
      | false=>rfl
      | true=>rw [e]at hi;simp at hi
     ·simp only [hDk];rfl
     ·simp only [hset k];simp
    omega
   ·rw [hset'];intro j o hj hD e he hb;simp only [Bool.or_eq_true,dT']at hD⊢;right;rcases hD with rfl | hD
    ·rw [hko]at hj;cases hj;exact hr e he hb
    ·exact hc j o hj hD e he hb
   ·intro i hi;rw [hset i,hno i hi];have:i≠k:=by omega
    simp [this]
theorem AO{Q:Exit->Act->World->Prop}{j0:Nat}(hed:l4 ops.toList)(tot: ∀k,j0<=k->k<ops.size-> ∀i,i<k->((masks [] ops.toList).getD k 0).testBit i=true):
 ∀(rest:List Oper) (k fuel:Nat) (listed:Array Bool) (a:Act) (w:World),ops.toList.drop k=rest->j0<=k->listed.size=ops.size->(∀i,listed.getD i false=decide (i<k))->rest.length<=fuel->wpList P ops Q rest a w->wpAny P .any ops Q fuel listed a w:=by
 intro rest
 induction rest with
 | nil=>
   intro k fuel listed a w hdr hjk hls hl hfu hw
   have hk:ops.size<=k:=by
    have:=congrArg List.length hdr;simp at this;omega
   have hnr:Region.ready .any ops listed=[]:=by
    rw [List.eq_nil_iff_forall_not_mem];intro i hi;unfold Region.ready at hi;rw [List.mem_filter]at hi;obtain⟨h1,h2⟩:=hi;have hi':i<ops.size:=by simpa using h1
    simp only [Bool.and_eq_true,Bool.not_eq_true']at h2;have:=h2.1;have h3:=hl i;rw [Array.getD_eq_getD_getElem?]at this h3;rw [Array.getElem?_eq_getElem (by omega)]at this h3
    simp only [Option.getD_some]at this h3;rw [this]at h3;simp at h3;omega
   have hw':Q .normal a w:=hw;cases fuel with
   | zero=>exact⟨hnr,hw'⟩
   | succ fuel=>exact⟨fun _=>hw',fun i hi=>by rw [hnr]at hi;cases hi⟩
 | cons o rest ih=>
   intro k fuel listed a w hdr hjk hls hl hfu hw;cases fuel with
   | zero=>simp at hfu
   | succ fuel=>
   have hk:k<ops.size:=by
    have:=congrArg List.length hdr;simp at this;omega
   have hko:ops.toList[k]? =some o:=by
    have:=congrArg (fun l=>l[0]?) hdr;simp only [List.getElem?_drop,Nat.add_zero,List.getElem?_cons_zero]at this;exact this
   have hdr2:ops.toList.drop (k+1)=rest:=by
    have:=congrArg (List.drop 1) hdr;rw [List.drop_drop]at this
    simpa using this
   have hcl:lU ops.toList (fun i=>listed.getD i false):=by
    intro j o' hj hD e he hb;simp only [hl,dT']at hD⊢;have h1:=hed j o' hj;unfold kM at h1;rw [List.all_eq_true]at h1;have h2:=h1 e he;rw [hb]at h2;have h2':e.on<j:=by simpa using h2
    omega
   refine⟨fun hrd=>?_,?_⟩
   ·exfalso
    have hmem:k∈Region.ready .any ops listed:=by
     unfold Region.ready;rw [List.mem_filter];refine⟨by simpa using hk,?_⟩
     have e1:listed.getD k true=false:=by
      have h3:=hl k;rw [Array.getD_eq_getD_getElem?]at h3⊢;rw [Array.getElem?_eq_getElem (by omega)]at h3⊢
      simp only [Option.getD_some]at h3⊢;rw [h3];simp
     rw [<-Array.getElem?_toList,hko,e1];simp only [Bool.not_false,Option.map_some,Option.getD_some,Bool.true_and];rw [Array.all_eq_true_iff_forall_mem];intro x hx;have h1:=hed k o hko;unfold kM at h1;rw [List.all_eq_true]at h1;have h2:=h1 x (by simpa using hx)
     simp only [Bool.or_eq_true,Bool.not_eq_true']at h2⊢;rcases h2 with h2 | h2
     ·exact .inl h2
     ·have h2':x.on<k:=Nat.le_of_ble_eq_true h2;right;rw [hl];simpa using h2'
    rw [hrd]at hmem;cases hmem
   intro i hi;unfold Region.ready at hi;rw [List.mem_filter]at hi;obtain⟨h1,h2⟩:=hi;have hi':i<ops.size:=by simpa using h1
   simp only [Bool.and_eq_true,Bool.not_eq_true']at h2
   have hDi:listed.getD i false=false:=by
    have:=h2.1;rw [Array.getD_eq_getD_getElem?]at this⊢;rw [Array.getElem?_eq_getElem (by omega)]at this⊢
    exact this
   have hge:k<=i:=by
    rw [hl]at hDi;simpa using hDi
   have hio:ops.toList[i]? =some ops[i]:=by rw [Array.getElem?_toList,Array.getElem?_eq_getElem hi']
   have hr: ∀e∈ops[i].after.toList,Region.binds .any e=true->listed.getD e.on false=true:=by
    intro e he hb;have h3:=h2.2;rw [Array.getElem?_eq_getElem hi']at h3;simp only [Option.map_some,Option.getD_some]at h3;rw [Array.all_eq_true_iff_forall_mem]at h3;have:=h3 e (by simpa using he)
    simpa [hb]using this
   have hik:i=k:=by
    cases Nat.lt_or_ge k i with
    | inr g=>omega
    | inl g=>
      rcases pK hcl hio hr (tot i (by omega) hi' k g)with e | e
      ·omega
      ·simp only [hl]at e;simp at e
   subst hik
   have hset: ∀j,(listed.setIfInBounds i true).getD j false=decide (j<i+1):=by
    intro j;rw [Array.getD_eq_getD_getElem?,Array.getElem?_setIfInBounds]
    by_cases hij:i=j
    ·subst hij;simp [hls,hi']
    ·have:=hl j;rw [Array.getD_eq_getD_getElem?]at this;rw [if_neg hij,this];congr 1;apply propext;omega
   have hop:ops[i]? =some o:=by rw [<-Array.getElem?_toList];exact hko
   have hw2:wpOp P ops Q i (wpList P ops Q rest) a w:=by
    unfold wpOp;rw [hop];exact hw
   exact wpOp_mono (fun a' w' h=>ih (i+1) fuel _ a' w' hdr2 (by omega) (by simp [hls]) hset (by simpa using hfu) h) hw2
end
end Go.Sh
namespace Go.Sh
open Go
variable [Con] {A:Type}
def lab(pl:List Nat)(n:Nat)(i:Nat):Nat:=match pl[i]? with
 | some l=>l
 | none=>n+i
theorem Y1{pl:List Nat}{n:Nat}(hnd:pl.Nodup)(hlt: ∀l∈pl,l<n): ∀i j,lab pl n i=lab pl n j->i=j:=by
 intro i j h;unfold lab at h;cases hi:pl[i]? with
 | some a=>
   rw [hi]at h;cases hj:pl[j]? with
   | some b=>
     rw [hj]at h;simp only at h;subst h
     have h1:i<pl.length:=by
      cases Nat.lt_or_ge i pl.length with
      | inl g=>exact g
      | inr g=>rw [List.getElem?_eq_none g]at hi;cases hi
     exact(List.getElem?_inj h1 hnd).1 (hi.trans hj.symm)
   | none=>
     rw [hj]at h;simp only at h;have:=hlt a (List.mem_of_getElem? hi);omega
 | none=>
   rw [hi]at h;cases hj:pl[j]? with
   | some b=>
     rw [hj]at h;simp only at h;have:=hlt b (List.mem_of_getElem? hj);omega
   | none=>
     rw [hj]at h;simp only at h;omega
structure t8 (h':aC A) (pl:List Nat) (h'':aC A):Prop where
 nodup:pl.Nodup
 lt: ∀l∈pl,l<h'.length
 len:h''.length=pl.length
 ent: ∀(i l:Nat),pl[i]? =some l-> ∀e,aL h'' i=some e->aL h' l=some (e.ren (lab pl h'.length))
section
variable {P:Program} {I:Itp A}
theorem Inv.pick{V:Val}{h' h'':aC A}{pl:List Nat}(hp:t8 h' pl h''){hR:PHeap}{w:World}(hi:Inv I V (toF h') hR w):Inv I (fun i=>V (lab pl h'.length i)) (toF h'') hR w:=by
 have hkill: ∀(S:Nat->Bool),Inv I V (fun l=>if S l then toF h' l else none) hR w:=by
  intro S;obtain⟨hs,h1,h2,h3,h4,h5,h6⟩:=hi;refine⟨fun l=>if S l then hs l else .emp,?_,?_,?_,?_,?_,h6⟩
  ·intro l e he;cases hS:S l with
   | true=>simp [hS]at he⊢;exact h1 l e he
   | false=>simp [hS]at he
  ·intro l hl;cases hS:S l with
   | true=>simp [hS]at hl⊢;exact h2 l hl
   | false=>simp [hS]
  ·intro l m hlm;show PHeap.disj (if S l then hs l else .emp) (if S m then hs m else .emp)
   split
   ·split
    ·exact h3 l m hlm
    ·exact aJ3 _
   ·exact(aJ3 _).symm
  ·intro l;show PHeap.disj (if S l then hs l else .emp) hR
   split
   ·exact h4 l
   ·exact(aJ3 _).symm
  ·intro l;show(if S l then hs l else PHeap.emp).sub w
   split
   ·exact h5 l
   ·exact aKt _
 let n:=h'.length
 have hinj:=Y1 hp.nodup hp.lt
 classical
 have hS:=hkill (fun l=>decide (∃i e,pl[i]? =some l/\aL h'' i=some e));refine(aKz (ι:=lab pl h'.length) hinj ?_ ?_).1 hS
 ·intro i;cases hi:pl[i]? with
  | some l=>
    have e1:lab pl h'.length i=l:=by unfold lab;rw [hi]
    rw [e1];cases he:aL h'' i with
    | some e=>
      have:(∃i e,pl[i]? =some l/\aL h'' i=some e):=⟨i,e,hi,he⟩;rw [if_pos (by simpa using this)]
      show aL h' l=(aL h'' i).map _;rw [he,hp.ent i l hi e he];rfl
    | none=>
      have: ¬(∃j e,pl[j]? =some l/\aL h'' j=some e):=by
       rintro⟨j,e,hj,hje⟩
       have h1:i<pl.length:=by
        cases Nat.lt_or_ge i pl.length with
        | inl g=>exact g
        | inr g=>rw [List.getElem?_eq_none g]at hi;cases hi
       have:=(List.getElem?_inj h1 hp.nodup).1 (hi.trans hj.symm);subst this;rw [he]at hje;cases hje
      rw [if_neg (by simpa using this)]
      show none=(aL h'' i).map _;rw [he];rfl
  | none=>
    have e1:lab pl h'.length i=h'.length+i:=by unfold lab;rw [hi]
    rw [e1]
    have h2:aL h'' i=none:=by
     refine cA ?_;rw [hp.len];exact List.getElem?_eq_none_iff.1 hi
    show _=(aL h'' i).map _;rw [h2];have:toF h' (h'.length+i)=none:=cA (by omega)
    split
    ·exact this
    ·rfl
 ·intro m hm
  have: ¬(∃i e,pl[i]? =some m/\aL h'' i=some e):=by
   rintro⟨i,e,hi,_⟩;refine hm i ?_;unfold lab;rw [hi]
  rw [if_neg (by simpa using this)]
end
def inv(pl:List Nat)(l:Nat):Nat:=match pl with
 | []=>0
 | m::pl=>if m=l then 0 else inv pl l+1
mutual
def AVal.within(pl:List Nat):AVal->Bool
 | .ptr l _=>pl.elem l
 | .slice l _ _ _=>pl.elem l
 | .tslice l _ _ _=>pl.elem l
 | .tptr l _ _ _=>pl.elem l
 | .map l=>pl.elem l
 | .func _ f c=>aKb pl f&&aKb pl c
 | .iface _ a=>AVal.within pl a
 | .agg as=>aKb pl as
 | .tup as=>aKb pl as
 | _=>true
def aKb(pl:List Nat):List AVal->Bool
 | []=>true
 | a::as=>AVal.within pl a&&aKb pl as
end
def mI(pl:List Nat):List Nat->Bool
 | []=>true
 | l::ls=>pl.elem l&&mI pl ls
def aG.within(pl:List Nat):aG A->Bool
 | .cells vs=>aKb pl vs
 | .abs _ ps=>mI pl ps
 | .iter lm _ _ _ _ _=>pl.elem lm
 | _=>true
def fZ(pl:List Nat)(h:aC A):aC A:=
 pl.map fun l=>match aL h l with
  | some e=>cond (e.within pl) (some (e.ren (inv pl))) none
  | none=>none
def kI(pl:List Nat)(v:AVal):AVal:=cond (v.within pl) (v.ren (inv pl)) .O
theorem kR{pl:List Nat}{n l:Nat}(h:pl.elem l=true):lab pl n (inv pl l)=l:=by
 have:pl[inv pl l]? =some l:=by
  have h':l∈pl:=List.elem_iff.1 h;clear h
  induction pl with
  | nil=>cases h'
  | cons m pl ih=>
    unfold inv
    by_cases e:m=l
    ·rw [if_pos e];simp [e]
    ·rw [if_neg e,List.getElem?_cons_succ];refine ih ?_;rcases List.mem_cons.1 h' with h | h
     ·exact(e h.symm).elim
     ·exact h
 unfold lab;rw [this]
mutual
theorem aKM{pl:List Nat}{n:Nat} : ∀(v:AVal),v.within pl=true->(v.ren (inv pl)).ren (lab pl n)=v
 | .bool _,_=>rfl
 | .int _ _,_=>rfl
 | .str _,_=>rfl
 | .ptr l off,h=>by simp only [AVal.ren];rw [kR h]
 | .slice l off len sz,h=>by simp only [AVal.ren];rw [kR h]
 | .map l,h=>by simp only [AVal.ren];rw [kR h]
 | .func fn f c,h=>by
   simp only [AVal.within,Bool.and_eq_true]at h;simp only [AVal.ren];rw [aKx f h.1,aKx c h.2]
 | .iface t a,h=>by simp only [AVal.ren];rw [aKM a h]
 | .agg as,h=>by simp only [AVal.ren];rw [aKx as h]
 | .tup as,h=>by simp only [AVal.ren];rw [aKx as h]
 | .raw _,_=>rfl
 | .any,_=>rfl
 | .O,_=>rfl
 | .iview _ _,_=>rfl
 | .view _ _ _,_=>rfl
 | .cptr _,_=>rfl
 | .tslice l r n w,h=>by simp only [AVal.ren];rw [kR h]
 | .tptr l r w j,h=>by simp only [AVal.ren];rw [kR h]
 | .empty,_=>rfl
theorem aKx{pl:List Nat}{n:Nat} : ∀(v:List AVal),aKb pl v=true->aKg (lab pl n) (aKg (inv pl) v)=v
 | [],_=>rfl
 | a::as,h=>by
   simp only [aKb,Bool.and_eq_true]at h;simp only [aKg];rw [aKM a h.1,aKx as h.2]
end
theorem wZ{pl:List Nat}{n:Nat} : ∀(ps:List Nat),mI pl ps=true->(ps.map (inv pl)).map (lab pl n)=ps
 | [],_=>rfl
 | p::ps,h=>by
   simp only [mI,Bool.and_eq_true]at h;simp only [List.map_cons];rw [kR h.1,wZ ps h.2]
theorem aG.ren_inv{pl:List Nat}{n:Nat}(e:aG A)(h:e.within pl=true):(e.ren (inv pl)).ren (lab pl n)=e:=by
 cases e with
 | cells vs=>simp only [aG.ren];rw [aKx vs h]
 | ints c xs=>rfl
 | abs t ps=>simp only [aG.ren];rw [wZ ps h]
 | tab ks rows=>rfl
 | imap kk vc m=>rfl
 | iter lm kk vc m left cur=>simp only [aG.ren];rw [kR h]
def dO(pl:List Nat)(n:Nat):Bool:=match pl with
 | []=>true
 | l::pl=>!pl.elem l&&Nat.blt l n&&dO pl n
theorem fU: ∀ {pl:List Nat} {n:Nat},dO pl n=true->pl.Nodup/\ ∀l∈pl,l<n
 | [],n,_=>by simp
 | m::pl,n,h=>by
   have h':((!pl.elem m&&Nat.blt m n)&&dO pl n)=true:=h;rw [Bool.and_eq_true,Bool.and_eq_true]at h';have h1:=h'.1.1;have h2:m<n:=by have:=h'.1.2;rwa [Nat.blt_eq]at this
   have h3:=h'.2;obtain⟨g1,g2⟩:=fU h3;refine⟨List.nodup_cons.2 ⟨by simpa using h1,g1⟩,?_⟩
   intro l hl;rcases List.mem_cons.1 hl with rfl | hl
   ·exact h2
   ·exact g2 l hl
theorem nS{pl:List Nat}{h:aC A}(hg:dO pl h.length=true):t8 h pl (fZ pl h):=by
 obtain⟨g1,g2⟩:=fU hg;refine⟨g1,g2,by simp [fZ],?_⟩
 intro i l hi e he;have e1:aL (fZ pl h) i=(match aL h l with
  | some e=>cond (e.within pl) (some (e.ren (inv pl))) none
  | none=>none):=by
  unfold fZ;show(List.map _ pl).getD i none=_;rw [gD',List.getElem?_map,hi];rfl
 rw [e1]at he;cases hl:aL h l with
 | none=>rw [hl]at he;cases he
 | some e'=>
   rw [hl]at he;simp only at he;cases hw:e'.within pl with
   | false=>rw [hw]at he;cases he
   | true=>
     rw [hw]at he;simp only [cond_true,sI']at he;subst he;rw [aG.ren_inv e' hw]
theorem oI{V:Val}{pl:List Nat}{n:Nat}{v:AVal}{x:Value}(h:Rep V v x):Rep (fun i=>V (lab pl n i)) (kI pl v) x:=by
 unfold kI;cases hw:v.within pl with
 | false=>exact trivial
 | true=>
   simp only [cond_true];refine(Rep.ren (ι:=lab pl n) _ _).1 ?_;rw [aKM v hw];exact h
def gO:List Nat->Nat->Nat->Bool
 | _,_,0=>true
 | [],_,_+1=>false
 | l::pl,i,n+1=>Nat.beq l i&&gO pl (i+1) n
theorem l7: ∀ {pl:List Nat} {j n:Nat},gO pl j n=true->n<=pl.length/\ ∀i,i<n->pl[i]? =some (j+i)
 | pl,j,0,_=>⟨Nat.zero_le _,fun i hi=>by omega⟩
 | [],_,_+1,h=>by simp [gO]at h
 | l::pl,j,n+1,h=>by
   simp only [gO,Bool.and_eq_true]at h;obtain⟨h1,h2⟩:=h;have h1':l=j:=Nat.eq_of_beq_eq_true h1;obtain⟨g1,g2⟩:=l7 h2;refine⟨by simp;omega,?_⟩
   intro i hi;cases i with
   | zero=>simp [h1']
   | succ i=>
     rw [List.getElem?_cons_succ,g2 i (by omega)]
     congr 1;omega
def ZZ(pl keep:List Nat):Nat->List AVal->List AVal
 | _,[]=>[]
 | i,v::vs=>cond (keep.elem i) (kI pl v) .O ::ZZ pl keep (i+1) vs
theorem qX{V:Val}{pl keep:List Nat}{n:Nat} : ∀(i:Nat) (vs:List AVal) (xs:List Value),aI V vs xs->aI (fun i=>V (lab pl n i)) (ZZ pl keep i vs) xs
 | _,[],xs,h=>h
 | i,v::vs,_,⟨x,xs,e,r,s⟩=>by
   refine⟨x,xs,e,?_,qX (i+1) vs xs s⟩;cases keep.elem i with
   | true=>exact oI r
   | false=>exact trivial
mutual
def AVal.labels:AVal->List Nat
 | .ptr l _=>[l]
 | .slice l _ _ _=>[l]
 | .tslice l _ _ _=>[l]
 | .tptr l _ _ _=>[l]
 | .map l=>[l]
 | .func _ f c=>aKw f++aKw c
 | .iface _ a=>AVal.labels a
 | .agg as=>aKw as
 | .tup as=>aKw as
 | _=>[]
def aKw:List AVal->List Nat
 | []=>[]
 | a::as=>AVal.labels a++aKw as
end
def aG.labels:aG A->List Nat
 | .cells vs=>aKw vs
 | .abs _ ps=>ps
 | .iter lm _ _ _ _ _=>[lm]
 | _=>[]
def JG(h:aC A):Nat->List Nat->List Nat->List Nat
 | 0,_,acc=>acc
 | _+1,[],acc=>acc
 | d+1,l::todo,acc=>cond (acc.elem l) (JG h d todo acc) (match aL h l with
   | some e=>JG h d (e.labels++todo) (acc++ [l])
   | none=>JG h d todo (acc++ [l]))
def dA(keep:List Nat):Nat->List AVal->List Nat
 | _,[]=>[]
 | i,v::vs=>cond (keep.elem i) (v.labels++dA keep (i+1) vs) (dA keep (i+1) vs)
def pD:List (Option (aG A))->List Nat
 | []=>[]
 | none::h=>pD h
 | some e::h=>e.labels++pD h
def upto:Nat->Nat->List Nat
 | _,0=>[]
 | i,n+1=>i::upto (i+1) n
def dI(n:Nat)(h:aC A)(more:List Nat):List Nat:=JG h 2000 (pD (h.take n)++more) (upto 0 n)
theorem t8.elim{n:Nat}{h:aC A}{pl:List Nat}(g1:dO pl h.length=true)(g2:gO pl 0 n=true){I:Itp A}{V:Val}{hR:PHeap}{w:World}
 (hi:Inv I V (toF h) hR w) (hf:bU V h.length):
 (∀l,l<n->V (lab pl h.length l)=V l)/\bU (fun i=>V (lab pl h.length i)) (fZ pl h).length /\n<=(fZ pl h).length /\Inv I (fun i=>V (lab pl h.length i)) (toF (fZ pl h)) hR w:=by
 obtain⟨k1,k2⟩:=l7 g2;have hp:=nS (h:=h) g1;refine⟨?_,?_,by rw [hp.len];exact k1,hi.pick hp⟩
 ·intro l hl;have:lab pl h.length l=l:=by unfold lab;rw [k2 l hl];simp
  rw [this]
 ·intro l hl;rw [hp.len]at hl;show V (lab pl h.length l)=none;have:lab pl h.length l=h.length+l:=by unfold lab;rw [List.getElem?_eq_none hl]
  rw [this];exact hf _ (by omega)
end Go.Sh
namespace Go.Sh
open Go
variable [Con] {A:Type}
inductive f5 where
 | ints (c:Code1)
 | tab (ks:List Code1)
inductive Place where
 | slot (i:Nat)
 | cell (l j:Nat)
def isNone:AVal->Bool
 | .raw (.slice none 0 0)=>true
 | .empty =>true
 | _=>false
def AV(K:f5)(v:AVal)(h:aC A):Option (AVal×aC A):=
 match K with
 | .ints c=>cond (isNone v) (some (.slice h.length 0 0 1,h++ [some (.ints c [])])) <|
   match v with
   | .slice l 0 n 1=>match aL h l with
     | some (.ints c' _)=>if c=c' then some (v,h)else none
     | some (.cells vs)=>match gK c vs with
       | some ns=>some (v,h.set l (some (.ints c ns)))
       | none=>none
     | _=>none
   | _=>none
 | .tab ks=>cond (isNone v) (some (.tslice h.length 0 0 ks.length,h++ [some (.tab ks [])])) <|
   match v with
   | .tslice l r n w=>some (v,h)
   | .slice l 0 n w=>if w=ks.length then match aL h l with
      | some (.cells vs)=>match mD ks n vs with
        | some rs=>some (.tslice l 0 n w,h.set l (some (.tab ks rs)))
        | none=>none
      | _=>none
     else none
   | _=>none
def AU(pl:Place)(K:f5)(tm:List AVal)(h:aC A):Option (List AVal×aC A):=
 match pl with
 | .slot i=>match tm[i]? with
   | some v=>match AV K v h with
     | some (v',h')=>some (tm.set i v',h')
     | none=>none
   | none=>none
 | .cell l j=>match aL h l with
   | some (.cells vs)=>match vs[j]? with
     | some v=>match AV K v h with
       | some (v',h')=>match aL h' l with
         | some (.cells vs')=>some (tm,h'.set l (some (.cells (vs'.set j v'))))
         | _=>none
       | none=>none
     | none=>none
   | _=>none
def f7:List (Place×f5)->List AVal->aC A->Option (List AVal×aC A)
 | [],tm,h=>some (tm,h)
 | (pl,K)::cs,tm,h=>match AU pl K tm h with
   | some (tm',h')=>f7 cs tm' h'
   | none=>f7 cs tm h
section
variable {P:Program} {I:Itp A}
theorem Inv.weaken{V:Val}{h:bH A}{hR:PHeap}{w:World}(hi:Inv I V h hR w){l:Nat}{e e':aG A}(hl:h l=some e)(he: ∀g,e.interp I V l g->g.sub w->e'.interp I V l g):Inv I V (h.put l (some e')) hR w:=by
 obtain⟨hs,h1,h2,h3,h4,h5,h6⟩:=hi;refine⟨hs,?_,?_,h3,h4,h5,h6⟩
 ·intro m x hm
  by_cases hml:m=l
  ·subst hml;simp [bH.put]at hm;subst hm;exact he _ (h1 m e hl) (h5 m)
  ·simp [bH.put,hml]at hm;exact h1 m x hm
 ·intro m hm
  by_cases hml:m=l
  ·subst hml;simp [bH.put]at hm
  ·simp [bH.put,hml]at hm;exact h2 m hm
def rE(I:Itp A)(V:Val)(h h':aC A)(hR:PHeap)(w:World)(V':Val):Prop:=
 V.le V'/\bU V' h'.length/\h.length<=h'.length/\Inv I V' (toF h') hR w
theorem DC{V:Val}{v:AVal}{x:Value}(h:isNone v=true)(hx:Rep V v x): ∃base,x=.slice base 0 0:=by
 unfold isNone at h;split at h
 ·exact⟨none,hx⟩
 ·exact hx
 ·cases h
theorem bU.add{V:Val}{n:Nat}(hf:bU V n)(x:Nat×Nat):bU (V.add n x) (n+1):=by
 intro l hl;rw [aKC _ _ (by omega)]
 exact hf l (by omega)
theorem uN{K:f5}{v v':AVal}{h h':aC A}{V:Val}{hR:PHeap}{w:World}{x:Value}(hc:AV K v h=some (v',h'))(hi:Inv I V (toF h) hR w)(hf:bU V h.length)(hx:Rep V v x):
 ∃V',rE I V h h' hR w V'/\Rep V' v' x:=by
 have none: ∀(e:aG A),(∀V':Val,(∃b,V' h.length=some (b,0))->e.interp I V' h.length .emp)->rE I V h (h++ [some e]) hR w (V.add h.length (0,0)):=by
  intro e he;have hV:=hf h.length (Nat.le_refl _);refine⟨aKh hV,?_,by simp,?_⟩
  ·rw [List.length_append];exact hf.add _
  ·rw [fK];exact hi.emptyE hV (cA (Nat.le_refl _)) he
 have stay:rE I V h h hR w V:=⟨V.le_refl,hf,Nat.le_refl _,hi⟩
 have weak: ∀(l:Nat) (e e':aG A),aL h l=some e->(∀g,e.interp I V l g->e'.interp I V l g)->rE I V h (h.set l (some e')) hR w V:=by
  intro l e e' hl he;refine⟨V.le_refl,by rw [List.length_set];exact hf,by simp,?_⟩
  rw [fP _ (cB hl)];exact hi.weaken hl (fun g hg _=>he g hg)
 unfold AV at hc;cases K with
 | ints c=>
   simp only at hc;cases hn:isNone v with
   | true=>
     rw [hn]at hc;simp only [cond_true,sI',pI']at hc;obtain⟨rfl,rfl⟩:=hc;obtain⟨base,rfl⟩:=DC hn hx;exact⟨_,none (.ints c []) (fun V' hb=>.inl ⟨rfl,rfl,hb⟩),base,0,rfl,Nat.le_refl _,.inr ⟨rfl,rfl⟩⟩
   | false=>
     rw [hn]at hc;simp only [cond_false]at hc;split at hc
     ·rename_i l n;split at hc
      ·split at hc
       ·simp only [sI',pI']at hc;obtain⟨rfl,rfl⟩:=hc;exact⟨V,stay,hx⟩
       ·cases hc
      ·rename_i vs hl;split at hc
       ·rename_i ns hns;simp only [sI',pI']at hc;obtain⟨rfl,rfl⟩:=hc;refine⟨V,weak l (.cells vs) (.ints c ns) hl ?_,hx⟩;rintro g ⟨b,k,e1,cs,T,e2,e3,rs,tail,e4,r⟩;exact .inr ⟨b,k,e1,cs,T,tail,e2,e3,by rw [e4,kU hns r]⟩
       ·cases hc
      ·cases hc
     ·cases hc
 | tab ks=>
   simp only at hc;cases hn:isNone v with
   | true=>
     rw [hn]at hc;simp only [cond_true,sI',pI']at hc;obtain⟨rfl,rfl⟩:=hc;obtain⟨base,rfl⟩:=DC hn hx;exact⟨_,none (.tab ks []) (fun V' hb=>.inl ⟨rfl,rfl,hb⟩),base,0,rfl,Nat.le_refl _,.inr ⟨rfl,rfl⟩⟩
   | false=>
     rw [hn]at hc;simp only [cond_false]at hc;split at hc
     ·simp only [sI',pI']at hc;obtain⟨rfl,rfl⟩:=hc;exact⟨V,stay,hx⟩
     ·rename_i l n w0;split at hc
      case isFalse=>cases hc
      rename_i hw;subst hw;split at hc
      ·rename_i vs hl;split at hc
       ·rename_i rs hrs;simp only [sI',pI']at hc;obtain⟨rfl,rfl⟩:=hc;refine⟨V,weak l (.cells vs) (.tab ks rs) hl ?_,kT hx⟩;rintro g ⟨b,k,e1,cs,T,e2,e3,rs',tail,e4,r⟩;exact .inr ⟨b,k,e1,cs,T,tail,e2,e3,by rw [e4,nN hrs r]⟩
       ·cases hc
      ·cases hc
     ·cases hc
theorem uM{pl:Place}{K:f5}{tm tm':List AVal}{h h':aC A}{V:Val}{hR:PHeap}{w:World}{xs:List Value}(hc:AU pl K tm h=some (tm',h'))(hi:Inv I V (toF h) hR w)(hf:bU V h.length)(hx:aI V tm xs):
 ∃V',rE I V h h' hR w V'/\aI V' tm' xs:=by
 unfold AU at hc;cases pl with
 | slot i=>
   simp only at hc;split at hc
   ·rename_i v hv;split at hc
    ·rename_i v' h2 hcv;simp only [sI',pI']at hc;obtain⟨rfl,rfl⟩:=hc;obtain⟨y,hy,ry⟩:=aI.get hx i v hv;obtain⟨V',k1,k2⟩:=uN hcv hi hf ry;refine⟨V',k1,?_⟩;have:=aI.set (aI.mono k1.1 _ _ hx) i v' y k2
     rwa [lP xs i y hy]at this
    ·cases hc
   ·cases hc
 | cell l j=>
   simp only at hc;split at hc
   ·rename_i vs hl;split at hc
    ·rename_i v hv;split at hc
     ·rename_i v' h2 hcv;split at hc
      ·rename_i vs' hl';simp only [sI',pI']at hc;obtain⟨rfl,rfl⟩:=hc;obtain⟨b,k,cs,T,rs,tail,e1,e2,e3,e4,e5⟩:=hi.cells (l:=l) hl;obtain⟨y,hy,ry⟩:=aI.get e5 j v hv;obtain⟨V',⟨k1,k2,k3,k4⟩,k5⟩:=uN hcv hi hf ry;refine⟨V',⟨k1,by rw [List.length_set];exact k2,by rw [List.length_set];exact k3,?_⟩,aI.mono k1 _ _ hx⟩
       rw [fP _ (cB hl')];obtain⟨b',kk,cs',T',rs',tail',q1,q2,q3,q4,q5⟩:=k4.cells (l:=l) hl';have hb:=k1 l _ e1;rw [hb]at q1;cases q1;rw [e2]at q2;simp only [sI',Obj.cells.injEq]at q2;obtain⟨rfl,_⟩:=q2;refine k4.weaken hl' ?_;rintro g ⟨b1,k1',a1,cs1,T1,a2,a3,rs1,tail1,a4,a5⟩ hgs
       have hjl:j<rs.length:=by
        cases Nat.lt_or_ge j rs.length with
        | inl g=>exact g
        | inr g=>rw [List.getElem?_eq_none g]at hy;cases hy
       by_cases hjv:j<vs'.length
       ·refine⟨b1,k1',a1,cs1,T1,a2,a3,rs1,tail1,a4,?_⟩
        have hcs1:cs1=cs:=by
         rw [hb]at a1;cases a1
         have hsub:w.heap[b]? =some (.cells cs1 T1):=by
          rw [a2]at hgs;exact PHeap.one_sub.1 hgs
         rw [e2]at hsub;simp only [sI',Obj.cells.injEq]at hsub;exact hsub.1.symm
        subst hcs1
        have hr1:rs1[j]? =some y:=by
         have h1:cs1.toList[j]? =some y:=by
          rw [e4,List.getElem?_append_left hjl];exact hy
         rw [a4,List.getElem?_append_left (by rw [aI.length a5];exact hjv)]at h1
         exact h1
        have:=aI.set a5 j v' y k5
        rwa [lP rs1 j y hr1]at this
       ·have:vs'.set j v'=vs':=List.set_eq_of_length_le (by omega)
        rw [this];exact⟨b1,k1',a1,cs1,T1,a2,a3,rs1,tail1,a4,a5⟩
      ·cases hc
     ·cases hc
    ·cases hc
   ·cases hc
theorem eR: ∀ {cs:List (Place×f5)} {tm tm':List AVal} {h h':aC A} {V:Val} {hR:PHeap} {w:World} {xs:List Value},f7 cs tm h=some (tm',h')->Inv I V (toF h) hR w->bU V h.length->aI V tm xs->
 ∃V',rE I V h h' hR w V'/\aI V' tm' xs
 | [],tm,tm',h,h',V,hR,w,xs,hc,hi,hf,hx=>by
   simp only [f7,sI',pI']at hc;obtain⟨rfl,rfl⟩:=hc;exact⟨V,⟨V.le_refl,hf,Nat.le_refl _,hi⟩,hx⟩
 | (pl,K)::cs,tm,tm',h,h',V,hR,w,xs,hc,hi,hf,hx=>by
   simp only [f7]at hc;split at hc
   ·rename_i tm1 h1 h2;obtain⟨V1,⟨a1,a2,a3,a4⟩,b1⟩:=uM h2 hi hf hx;obtain⟨V2,⟨c1,c2,c3,c4⟩,d1⟩:=eR hc a4 a2 b1;exact⟨V2,⟨Val.le_trans a1 c1,c2,Nat.le_trans a3 c3,c4⟩,d1⟩
   ·exact eR hc hi hf hx
end
end Go.Sh
namespace Go.Sh
open Go
variable [Con] {A:Type}
section
variable {P:Program} (E:Env A P)
abbrev FW(ro:Option Nat):Fence:= {Fence.wide with round:=ro}
def JN(ρ:Operand->AVal)(c:Call):Option Nat:=
 match c.callee with
 | .value f=>match ρ f with
   | .func (.yield l) [] []=>some l
   | _=>none
 | _=>none
def xH(inl:AA A)(ρ:Operand->AVal)(op:Op)(h:aC A)(K:AVal->aC A->Prop):Prop:=
 match op with
 | .call c=>match JN ρ c with
   | some l=>E.yld l (c.args.toList.map ρ) h K
   | none=>wN E inl ρ (.call c) h K
 | .defer _=>False
 | op=>wN E inl ρ op h K
def jW(inl:AA A)(base:List AVal)(n:Nat):List Oper->List (Option Tmp)->Nat->List (Nat×AVal)->aC A->(List AVal->aC A->Prop)->Prop
 | [],_,_,δ,h,K=>B4 (qA δ 0 base) fun tm=>K tm h
 | o::rest,seen,i,δ,h,K=>
   cK (dok n o.dst) <|
   match o.guard with
   | none=>xH E inl (fR δ base) o.op h fun v h'=>jW inl base n rest (o.dst::seen) (Nat.succ i) (i9 δ o.dst v) h' K
   | some (j,want)=>
     cK (Nat.blt j i) <|
     match qW seen i j with
     | none=>False
     | some d=>
       match FH δ base d with
       | .bool b=>cK (Nat.blt d n) <|
         cond b
          (if want then xH E inl (fR ((d,.bool true)::δ) base) o.op h fun v h'=>jW inl base n rest (o.dst::seen) (Nat.succ i) (i9 ((d,.bool true)::δ) o.dst v) h' K
            else jW inl base n rest (o.dst::seen) (Nat.succ i) (i9 ((d,.bool true)::δ) o.dst (.raw undef)) h K)
          (if want then jW inl base n rest (o.dst::seen) (Nat.succ i) (i9 ((d,.bool false)::δ) o.dst (.raw undef)) h K
            else xH E inl (fR ((d,.bool false)::δ) base) o.op h fun v h'=>jW inl base n rest (o.dst::seen) (Nat.succ i) (i9 ((d,.bool false)::δ) o.dst v) h' K)
       | v=>if hX v then jW inl base n rest (o.dst::seen) (Nat.succ i) (i9 δ o.dst (.raw undef)) h K else False
variable {E}
theorem wF{ro:Option Nat}{o:Oper}(hdf: ∀c,o.op≠ .defer c){a:Act}{w:World}{next:Act->World->Prop}{Q:Exit->Act->World->Prop}(h:o.wp P a w next Q):o.wpIn (FW ro) 0 P a w next Q:=by
 refine⟨fun _ _=>trivial,?_⟩;rw [Oper.semAt_eq _ _ _ hdf];unfold Oper.wp at h
 revert h
 generalize (execOp a.eval o).run P w=r;intro h;unfold Oper.upon at h;split at h
 ·exact h
 ·exact h
 ·exact h
 ·exact⟨fun e=>(by cases e),callsIn_wide.2 h⟩
 ·exact⟨fun e=>(by cases e),fun c cs _=>let ⟨v,w',r,s⟩:=h c cs;⟨v,w',r,stepsIn_wide.2 s⟩⟩
 ·exact h
 ·exact h.elim
theorem BI{ro:Option Nat}{inl:AA A}(hinl:sF E inl){a:Act}{o:Oper}{tm:List AVal}{h:aC A}{K:AVal->aC A->Prop}(he:xH E inl (dL tm) o.op h K){V:Val}{hR:PHeap}{w:World}
 (hi:Inv E.I V (toF h) hR w) (hf:bU V h.length) (ht:aI V tm a.tmps.toList) {next:Act->World->Prop} {Q:Exit->Act->World->Prop}
 (hn: ∀v v' V' h' w',K v h'->Rep V' v v'->V.le V'->bU V' h'.length->h.length<=h'.length->Inv E.I V' (toF h') hR w'->bX w w'->next (a.put o.dst v') w'):
 o.wpIn (FW ro) 0 P a w next Q:=by
 unfold xH at he;split at he
 ·rename_i c hop;split at he
  ·rename_i l hy;unfold JN at hy;split at hy
   ·rename_i f hcal;split at hy
    ·rename_i l' hfv;simp only [sI']at hy;subst hy;have rf:=jI ht f;rw [hfv]at rf;obtain⟨fs,cs,e1,r1,r2⟩:=rf;have r1:fs.toList=[]:=r1;have r2:cs.toList=[]:=r2;have r1:fs= #[]:=by apply Array.ext';simpa using r1
     have r2:cs= #[]:=by apply Array.ext';simpa using r2
     subst r1;subst r2
     have hargs:aI V (c.args.toList.map (dL tm)) (c.args.map a.eval).toList :=by
      rw [Array.toList_map];exact gE (jI ht) c.args.toList
     obtain⟨fn,tmps,assign,body,y1,y2⟩:=E.yldOk l' _ h K he V hR w _ hi hf hargs;refine⟨fun _ _=>trivial,?_⟩;rw [Oper.semAt_eq _ _ _ (fun c' e=>by rw [hop]at e;cases e)]
     have hrun:(execOp a.eval o).run P w=.ok (.round l' fn tmps assign body) w:=by
      simp only [execOp,hop,resolve,hcal,e1,Deferred.ofValue,Sem.run_bind,Sem.run_pure,Result.andThen_ok,invoke]
      simpa using y1
     rw [hrun];refine⟨fun e=>(by cases e),y2.mono ?_⟩
     rintro e w' ⟨v,v',V',h',h1,rfl,h3,h4,h5,h6,h7,h8⟩;exact hn v v' V' h' w' h1 h3 h4 h5 h6 h7 h8
    ·cases hy
   ·cases hy
  ·exact wF (fun c' e=>by rw [hop]at e;cases e) (pB hinl (by rw [hop];exact he) hi hf ht hn)
 ·exact he.elim
 ·rename_i h1 h2;exact wF h2 (pB hinl he hi hf ht hn)
theorem yV{ro:Option Nat}{inl:AA A}(hinl:sF E inl){ops:Array Oper}{base:List AVal}{n:Nat}(hbn:base.length=n){Q:Exit->Act->World->Prop} : ∀(rest:List Oper) (seen:List (Option Tmp)) (i:Nat) (δ:List (Nat×AVal)) (h:aC A) (K:List AVal->aC A->Prop) (a:Act) (w:World) (V:Val) (hR:PHeap),
 tD ops rest seen i->jW E inl base n rest seen i δ h K->uR n δ->Inv E.I V (toF h) hR w->bU V h.length->aI V (bT δ base) a.tmps.toList->a.defers=[]->
 (∀a' w',JO E V h.length hR w K a' w'->Q .normal a' w')->wpListIn (FW ro) 0 P ops Q rest a w:=by
 intro rest
 induction rest with
 | nil=>
   intro seen i δ h K a w V hR hsn he hin hi hf ht hd hQ;unfold jW at he;rw [qG,uS (by rw [hbn];exact hin)]at he
   exact wpListIn_nil (hQ a w ⟨bT δ base,V,h,he,ht,V.le_refl,hf,Nat.le_refl _,hi,aKp w,hd⟩)
 | cons o rest ih=>
   intro seen i δ h K a w V hR hsn he hin hi hf ht hd hQ;have he:=bM.1 he;obtain⟨hok,he⟩:=he
   have run: ∀δ':List (Nat×AVal),uR n δ'->aI V (bT δ' base) a.tmps.toList->(xH E inl (fR δ' base) o.op h fun v h'=>jW E inl base n rest (o.dst::seen) (Nat.succ i) (i9 δ' o.dst v) h' K)->Region.wanted o (yielded ops a.tmps)=true->wpListIn (FW ro) 0 P ops Q (o::rest) a w:=by
    intro δ' hin' ht' hev hw;refine wpListIn_step fun K' hK'=>?_;rw [if_pos hw];rw [rG (by rw [hbn];exact hin')]at hev
    refine BI hinl hev hi hf ht' ?_;intro v v' V' h' w' k1 k2 k3 k4 k5 k6 k7;refine hK' _ _ (ih _ _ _ _ _ _ _ V' hR hsn.next k1 (lZ hin' hok) k6 k4 (by rw [<-lY (n:=n)];exact lG (aI.mono k3 _ _ ht') k2) (by rw [gV];exact hd) ?_)
    intro a' w'' hT;exact hQ a' w'' (hT.chain k3 k5 k7)
   have skip: ∀δ':List (Nat×AVal),uR n δ'->aI V (bT δ' base) a.tmps.toList->jW E inl base n rest (o.dst::seen) (Nat.succ i) (i9 δ' o.dst (.raw undef)) h K->Region.wanted o (yielded ops a.tmps)=false->wpListIn (FW ro) 0 P ops Q (o::rest) a w:=by
    intro δ' hin' ht' hev hw;refine wpListIn_step fun K' hK'=>?_;rw [if_neg (by rw [hw];simp)]
    exact⟨fun _ _=>trivial,hK' _ _ (ih _ _ _ _ _ _ _ V hR hsn.next hev (lZ hin' hok) hi hf (by rw [<-lY (n:=n)];exact lG ht' rfl) (by rw [gV];exact hd) hQ)⟩
   cases hg:o.guard with
   | none=>
     rw [hg]at he;exact run δ hin ht he (by simp [Region.wanted,hg])
   | some g=>
     obtain⟨j,want⟩:=g;rw [hg]at he;simp only at he;obtain⟨hji,he⟩:=bM.1 he;have hjd:=hsn.dst hji;cases hj:(ops[j]?).bind (·.dst)with
     | none=>rw [<-hjd,hj]at he;exact he.elim
     | some d=>
       rw [<-hjd,hj]at he;simp only at he;have hdg:=p9 δ base d (by rw [hbn];exact hin)
       split at he
       ·rename_i b hb;obtain⟨hdn,he⟩:=bM.1 he;rw [hdg]at hb;have hgd:=rR hb;obtain⟨y,hy,ry⟩:=aI.get ht d _ hgd;rw [Array.getElem?_toList]at hy;have ry':y=.bool b:=ry;subst ry';have hyl:yielded ops a.tmps j=some b:=jH hj hy;have hs:bT ((d,.bool b)::δ) base=bT δ base:=lP _ d _ hgd;have hin2: ∀v,uR n ((d,v)::δ):=fun v=>⟨Nat.le_of_ble_eq_true hdn,hin⟩;have hwb:Region.wanted o (yielded ops a.tmps)=(b == want):=by simp [Region.wanted,hg,hyl]
        cases b with
        | true=>
          simp only [cond_true]at he;cases want with
          | true=>rw [if_pos rfl]at he;exact run _ (hin2 _) (by rw [hs];exact ht) he (by rw [hwb];rfl)
          | false=>rw [if_neg (by simp)]at he;exact skip _ (hin2 _) (by rw [hs];exact ht) he (by rw [hwb];rfl)
        | false=>
          simp only [cond_false]at he;cases want with
          | true=>rw [if_pos rfl]at he;exact skip _ (hin2 _) (by rw [hs];exact ht) he (by rw [hwb];rfl)
          | false=>rw [if_neg (by simp)]at he;exact run _ (hin2 _) (by rw [hs];exact ht) he (by rw [hwb];rfl)
       ·rename_i hnb;split at he
        ·rename_i htp;rw [hdg]at htp
         have hyl:yielded ops a.tmps j=none:=by
          refine lD hj ?_;cases e:a.tmps[d]? with
          | none=>exact .inl rfl
          | some x=>
            right
            have hlt:d<(bT δ base).length :=by
             have h1:=aI.length ht;rw [Array.length_toList]at h1;cases Nat.lt_or_ge d a.tmps.size with
             | inl g=>exact Nat.lt_of_lt_of_eq g h1
             | inr g=>rw [Array.getElem?_eq_none g]at e;cases e
            obtain⟨y,hy,ry⟩:=aI.get ht d _ (gE' hlt);rw [Array.getElem?_toList,e]at hy;cases hy;have e2:(bT δ base).getD d (.raw undef)=(bT δ base)[d]:=by rw [gD',gE' hlt];rfl
            rw [e2]at htp;unfold hX at htp;split at htp
            ·rename_i vs e3;rw [e3]at ry;have:x=.tuple vs:=ry;exact⟨vs,by rw [this]⟩
            ·cases htp
         exact skip δ hin ht he (by simp [Region.wanted,hg,hyl])
        ·exact he.elim
end
end Go.Sh
namespace Go.Sh
open Go
variable [Con] {A:Type}
inductive Ex where
 | normal
 | exit (id:Nat)
 | ret
abbrev oL(A:Type):=Ex->List AVal->aC A->Prop
def Ex.out:Ex->Exit
 | .normal =>.normal
 | .exit id=>.exit id
 | .ret =>.ret
structure Hint (A:Type) where
 X:Type
 st:X->List AVal×aC A
 ok:X->Prop
 mu:X->Nat
 keep:List Nat
 casts:List (Place×f5):=[]
 sel:List AVal->aC A->Bool:=fun _ _=>true
inductive dJ (H:Hint A) (ok:H.X->Prop) (tm:List AVal) (h:aC A):Prop where
 | mk (x:H.X) (h1:H.st x=(tm,h)) (h2:ok x)
theorem aR{H:Hint A}{ok:H.X->Prop}{tm:List AVal}{h:aC A}(x:H.X)(h1:H.st x=(tm,h))(h2:ok x):dJ H ok tm h:=⟨x,h1,h2⟩
def aF(I:Itp A)(n:Nat)(v:AVal)(g:aC A)(v2:AVal)(g2:aC A):Prop:=
 ∀V hR w x,Inv I V (toF g) hR w->bU V g.length->n<=g.length->Rep V v x->
  ∃V',(∀l y,l<n->V l=some y->V' l=some y)/\bU V' g2.length/\n<=g2.length/\Rep V' v2 x/\Inv I V' (toF g2) hR w
structure GN (I:Itp A) (n:Nat) (H:Hint A) (ok:H.X->Prop) (tm:List AVal) (h:aC A):Prop where
 ex: ∃tm2 h2,aF I n (.tup tm) h (.tup tm2) h2/\dJ H ok tm2 h2
def lT(H:Hint A)(n:Nat)(tm:List AVal)(h:aC A)(ok:H.X->Prop):Prop:=
 match f7 H.casts tm h with
 | some (tm,h)=>
   cK (dO (dI n h (dA H.keep 0 tm)) h.length&&gO (dI n h (dA H.keep 0 tm)) 0 n) <|
    dJ H ok (ZZ (dI n h (dA H.keep 0 tm)) H.keep 0 tm) (fZ (dI n h (dA H.keep 0 tm)) h)
 | none=>False
def NW(H:Hint A)(n:Nat)(body:List AVal->aC A->oL A->Prop)(tm:List AVal)(h:aC A)(K:oL A):Prop:=
 lT H n tm h H.ok/\ ∀x,H.ok x->body (H.st x).1 (H.st x).2 fun e tm' h'=>match e with
  | .normal =>lT H n tm' h' fun x'=>H.ok x'/\H.mu x'<H.mu x
  | .exit id=>K (.exit id) tm' h'
  | .ret =>K .ret tm' h'
def rD(I:Itp A)(H:Hint A)(n:Nat)(tm:List AVal)(h:aC A)(ok:H.X->Prop):Prop:=
 match f7 H.casts tm h with
 | some (tm,h)=>
   cK (dO (dI n h (dA H.keep 0 tm)) h.length&&gO (dI n h (dA H.keep 0 tm)) 0 n) <|
    GN I n H ok (ZZ (dI n h (dA H.keep 0 tm)) H.keep 0 tm) (fZ (dI n h (dA H.keep 0 tm)) h)
 | none=>False
def NX(I:Itp A)(H:Hint A)(n:Nat)(body:List AVal->aC A->oL A->Prop)(tm:List AVal)(h:aC A)(K:oL A):Prop:=
 rD I H n tm h H.ok/\ ∀x,H.ok x->body (H.st x).1 (H.st x).2 fun e tm' h'=>match e with
  | .normal =>rD I H n tm' h' fun x'=>H.ok x'/\H.mu x'<H.mu x
  | .exit id=>K (.exit id) tm' h'
  | .ret =>K .ret tm' h'
def pY:Option Nat->Nat->Prop
 | none,_=>True
 | some m,k=>k<m
def pS:List (Hint A)->Nat->List AVal->aC A->Option Nat->Prop
 | [],_,_,_,_=>False
 | H::r,n,tm,h,b=>cond (H.sel tm h) (lT H n tm h (fun x=>H.ok x/\pY b (H.mu x))) (pS r n tm h b)
def aBx:List (Hint A)->(Hint A->Prop)->Prop
 | [],_=>True
 | H::r,p=>p H/\aBx r p
theorem z7{p:Hint A->Prop} : ∀ {l:List (Hint A)},aBx l p-> ∀H,H∈l->p H
 | [],_,_,hm=>by cases hm
 | G::r,h,H,hm=>by
   rcases List.mem_cons.1 hm with rfl | hm
   ·exact h.1
   ·exact z7 h.2 H hm
def HP(Hs:List (Hint A))(n:Nat)(body:List AVal->aC A->oL A->Prop)(tm:List AVal)(h:aC A)(K:oL A):Prop:=
 pS Hs n tm h none/\aBx Hs fun H=> ∀x,H.ok x->body (H.st x).1 (H.st x).2 fun e tm' h'=>match e with
  | .normal =>pS Hs n tm' h' (some (H.mu x))
  | .exit id=>K (.exit id) tm' h'
  | .ret =>K .ret tm' h'
def uA(body:List AVal->aC A->oL A->Prop):Nat->List AVal->aC A->oL A->Prop
 | 0,_,_,_=>False
 | m+1,tm,h,K=>body tm h fun e tm' h'=>match e with
   | .normal =>uA body m tm' h' K
   | .exit id=>K (.exit id) tm' h'
   | .ret =>K .ret tm' h'
inductive mM (A:Type) where
 | rounds (m:Nat)
 | states (H:Hint A)
 | statesAt (k:Nat) (F:Int->Hint A)
 | cases (Hs:List (Hint A))
 | told (ks:List Nat) (F:List Int->Hint A)
def nO(tm:List AVal):List Nat->(List Int->Prop)->Prop
 | [],K=>K []
 | k::ks,K=>match tm.getD k .O with
   | .int _ i=>nO tm ks fun r=>K (i::r)
   | _=>False
theorem nP{tm:List AVal} : ∀ {ks:List Nat} {K:List Int->Prop},nO tm ks K-> ∃r,K r
 | [],_,h=>⟨_,h⟩
 | k::ks,K,h=>by
   unfold nO at h;split at h
   ·obtain⟨r,hr⟩:=nP h;exact⟨_,hr⟩
   ·exact h.elim
def f8:Code->Option Nat
 | .region id _ _=>some id
 | .seq x y=>match f8 x with
   | some k=>some k
   | none=>f8 y
 | .cond _ x y=>match f8 x with
   | some k=>some k
   | none=>f8 y
 | .block _ c=>f8 c
 | .loop c=>f8 c
 | .scope c=>f8 c
 | .rangeFunc _ _ a c=>match f8 a with
   | some k=>some k
   | none=>f8 c
 | _=>none
def aD7(L:Nat->Option (mM A))(y:Code):Option (List Nat×(List Int->Hint A)):=match f8 y with
 | some k=>match L (k+100000)with
   | some (.told ks F)=>some (ks,F)
   | _=>none
 | none=>none
section
variable {P:Program} (E:Env A P)
def BJ(inl:AA A)(nt:Nat)(ops:Array Oper)(draw:Bool)(tm:List AVal)(h:aC A)(K:List AVal->aC A->Prop):Prop:=
 cK (Nat.beq tm.length nt) (cond draw (l5 E (fun rest seen i δ h pm=>cK (aAe pm i rest) (jV E inl tm nt rest seen i δ h K)) ops tm nt ops.toList [] 0 [] h [] [] K) (jW E inl tm nt ops.toList [] 0 [] h K))
def dH(inl:AA A)(L:Nat->Option (mM A))(nt n0:Nat):Code->List AVal->aC A->oL A->Prop
 | .skip,tm,h,K=>K .normal tm h
 | .region _ ops draw,tm,h,K=>BJ E inl nt ops draw tm h (K .normal)
 | .seq x y,tm,h,K=>match aD7 L y with
   | some p=>nO tm p.1 fun is=>(dH inl L nt n0 x tm h fun e tm' h'=>match e with
      | .normal =>rD E.I (p.2 is) n0 tm' h' (p.2 is).ok
      | .exit id=>K (.exit id) tm' h'
      | .ret =>K .ret tm' h')/\ ∀q,(p.2 is).ok q->dH inl L nt n0 y ((p.2 is).st q).1 ((p.2 is).st q).2 K
   | none=>dH inl L nt n0 x tm h fun e tm' h'=>match e with
     | .normal =>dH inl L nt n0 y tm' h' K
     | .exit id=>K (.exit id) tm' h'
     | .ret =>K .ret tm' h'
 | .cond c x y,tm,h,K=>match dL tm c with
    | .bool b=>cond b (dH inl L nt n0 x tm h K) (dH inl L nt n0 y tm h K)
    | _=>False
 | .block id c,tm,h,K=>dH inl L nt n0 c tm h fun e tm' h'=>match e with
    | .normal =>K .normal tm' h'
    | .exit i=>if i=id then K .normal tm' h' else K (.exit i) tm' h'
    | .ret =>K .ret tm' h'
 | .loop c,tm,h,K=>match f8 c with
   | some k=>match L k with
     | some (.rounds m)=>uA (dH inl L nt n0 c) m tm h K
     | some (.states H)=>NW H n0 (dH inl L nt n0 c) tm h K
     | some (.statesAt k F)=>(match tm.getD k .O with
       | .int _ i=>NW (F i) n0 (dH inl L nt n0 c) tm h K
       | _=>False)
     | some (.cases Hs)=>HP Hs n0 (dH inl L nt n0 c) tm h K
     | some (.told ks F)=>nO tm ks fun is=>NX E.I (F is) n0 (dH inl L nt n0 c) tm h K
     | none=>False
   | none=>False
 | .exit id,tm,h,K=>K (.exit id) tm h
 | .label _,tm,h,K=>K .normal tm h
 | .ret,tm,h,K=>K .ret tm h
 | _,_,_,_=>False
def tK(P:Program)(tm:List AVal)(h:aC A):ResultVar->Option (AVal×Option Prop)
 | .tmp t=>some (tm.getD t (.raw undef),none)
 | .cell a t=>match tm.getD a (.raw undef)with
   | .ptr l off=>(w6 P t l off h).map fun r=>(r.v,r.need)
   | _=>none
def aA3:Option Prop->Option Prop->Option Prop
 | none,q=>q
 | some p,none=>some p
 | some p,some q=>some (p/\q)
theorem L7{p q:Option Prop} :onp (aA3 p q)↔onp p/\onp q:=by
 cases p with
 | none=>exact⟨fun h=>⟨trivial,h⟩,fun h=>h.2⟩
 | some p=>cases q with
   | none=>exact⟨fun h=>⟨h,trivial⟩,fun h=>h.1⟩
   | some q=>exact Iff.rfl
def jU(P:Program)(tm:List AVal)(h:aC A):List ResultVar->Option (List AVal×Option Prop)
 | []=>some ([],none)
 | r::rs=>match tK P tm h r,jU P tm h rs with
   | some (v,p),some (vs,q)=>some (v::vs,aA3 p q)
   | _,_=>none
def amk:List AVal->AVal
 | [v]=>v
 | vs=>.tup vs
def PU(inl:AA A)(L:Nat->Option (mM A))(fn:Func)(c:Code)(args:List AVal)(h:aC A)(K:AVal->aC A->Prop):Prop:=
 dH E inl L fn.ntmps h.length c (args++List.replicate (fn.ntmps - args.length) (.raw undef)) h fun e tm h'=>match e with
  | .exit _=>False
  | _=>match jU P tm h' fn.results.toList with
    | some (vs,p)=>zA p (K (amk vs) h')
    | none=>False
def H3(L:FuncId->Nat->Option (mM A)):Nat->AA A
 | 0=>fun _ _ _ _=>False
 | n+1=>fun g args h K=>match P.funcs[g]? with
   | some fn=>match fn.body with
     | some c=>PU E (H3 L n) (L g) fn c args h K
     | none=>False
   | none=>False
variable {E}
theorem lL{a b:List Oper}{j:Nat}(hj:j<a.length):(masks [] (a++b)).getD j 0=(masks [] a).getD j 0:=by
 have key: ∀(b acc:List Oper) (h:j<acc.length),(masks [] (acc++b)).getD j 0=(masks [] acc).getD j 0:=by
  intro b
  induction b with
  | nil=>intro acc h;rw [List.append_nil]
  | cons x b ih=>
    intro acc h;have e:acc++x::b=(acc++ [x])++b:=by simp
    rw [e,ih (acc++ [x]) (by simp;omega),kC,gD',List.getElem?_append_left (by rw [eZ];simpa using h),<-gD']
 exact key b a hj
theorem x1: ∀(rest done:List Oper) (pm:List Nat),pm=(masks [] done).reverse ->l4 done->aAe pm done.length rest=true->
 l4 (done++rest)/\ ∀k,done.length<=k->k<(done++rest).length -> ∀i,i<k->((masks [] (done++rest)).getD k 0).testBit i=true
 | [],done,pm,hpm,he,_=>⟨by rw [List.append_nil];exact he,fun k h1 h2=>by simp at h2;omega⟩
 | o::rest,done,pm,hpm,he,ht=>by
   unfold aAe at ht;simp only [Bool.and_eq_true]at ht;obtain⟨⟨t1,t2⟩,t3⟩:=ht;have hpl:pm.length=done.length:=by rw [hpm,List.length_reverse,eZ];simp
   have hm:maskR pm done.length o=mask (masks [] done) o:=by
    have:=CS (pm:=pm) (o:=o) (by rw [hpl];exact t1)
    rw [hpl]at this;rw [this,hpm,List.reverse_reverse]
   have he2:l4 (done++ [o]):=by
    intro i o' hi
    by_cases hlt:i<done.length
    ·rw [List.getElem?_append_left hlt]at hi;exact he i o' hi
    ·rw [List.getElem?_append_right (by omega)]at hi
     have:i=done.length:=by
      cases hq:i - done.length with
      | zero=>omega
      | succ n=>rw [hq]at hi;simp at hi
     subst this;simp at hi;subst hi;exact t1
   have hpm2:(maskR pm done.length o::pm)=(masks [] (done++ [o])).reverse :=by
    rw [kC,List.reverse_append,hm,hpm];rfl
   obtain⟨r1,r2⟩:=x1 rest (done++ [o]) _ hpm2 he2 (by simpa using t3)
   have e:done++o::rest=(done++ [o])++rest:=by simp
   rw [e];refine⟨r1,fun k h1 h2 i hi=>?_⟩
   by_cases hk:k=done.length
   ·subst hk;rw [lL (by simp),kC,gD',List.getElem?_append_right (by rw [eZ];simp)]
    simp only [eZ,List.length_nil,Nat.zero_add,Nat.sub_self,List.getElem?_cons_zero,Option.getD_some];rw [<-hm,Nat.eq_of_beq_eq_true t2];show Nat.testBit (2^done.length - 1) i=true;rw [Nat.testBit_two_pow_sub_one];simpa using hi
   ·exact r2 k (by simp;omega) h2 i hi
def D5(I:Itp A)(V0:Val)(n0:Nat)(hR:PHeap)(H:Hint A)(At:List AVal->aC A->(H.X->Prop)->Prop):Prop:=
 ∀(tm1:List AVal) (h1:aC A) (V1:Val) (a1:Act) (w1:World) (ok:H.X->Prop),At tm1 h1 ok->Inv I V1 (toF h1) hR w1->bU V1 h1.length->aI V1 tm1 a1.tmps.toList->V0.le V1->
  ∃x V2,ok x/\aI V2 (H.st x).1 a1.tmps.toList/\V0.le V2/\bU V2 (H.st x).2.length /\n0<=(H.st x).2.length /\Inv I V2 (toF (H.st x).2) hR w1
theorem xA{I:Itp A}{V0:Val}{n0:Nat}{hR:PHeap}(hf0: ∀l,n0<=l->V0 l=none)(H:Hint A):D5 I V0 n0 hR H (lT H n0):=by
 intro tm1 h1 V1 a1 w1 ok hat hi1 hf1 ht1 hV1;unfold lT at hat;split at hat
 case h_2=>exact hat.elim
 rename_i tm2 h2 hcast;obtain⟨Vc,⟨cle,cfr,clen,cinv⟩,crep⟩:=eR hcast hi1 hf1 ht1;have hV1:=Val.le_trans hV1 cle;obtain⟨g0,⟨x,g3,g4⟩⟩:=bM.1 hat;obtain⟨g1,g2⟩:=Bool.and_eq_true_iff.1 g0;obtain⟨m1,m2,m3,m4⟩:=t8.elim g1 g2 cinv cfr;refine⟨x,fun i=>Vc (lab (dI n0 h2 (dA H.keep 0 tm2)) h2.length i),g4,by rw [g3];exact qX 0 _ _ crep,?_,by rw [g3];exact m2,by rw [g3];exact m3,by rw [g3];exact m4⟩
 intro l y hl
 have hlt:l<n0:=by
  cases Nat.lt_or_ge l n0 with
  | inl g=>exact g
  | inr g=>rw [hf0 l g]at hl;cases hl
 show Vc (lab _ _ l)=some y;rw [m1 l hlt];exact hV1 l y hl
theorem xB{I:Itp A}{V0:Val}{n0:Nat}{hR:PHeap}(hf0: ∀l,n0<=l->V0 l=none)(H:Hint A):D5 I V0 n0 hR H (rD I H n0):=by
 intro tm1 h1 V1 a1 w1 ok hat hi1 hf1 ht1 hV1;unfold rD at hat;split at hat
 case h_2=>exact hat.elim
 rename_i tm2 h2 hcast;obtain⟨Vc,⟨cle,cfr,clen,cinv⟩,crep⟩:=eR hcast hi1 hf1 ht1;have hV1:=Val.le_trans hV1 cle;obtain⟨g0,⟨tm3,h3,ht,⟨x,g3,g4⟩⟩⟩:=bM.1 hat;obtain⟨g1,g2⟩:=Bool.and_eq_true_iff.1 g0;obtain⟨m1,m2,m3,m4⟩:=t8.elim g1 g2 cinv cfr;obtain⟨V2,b1,b2,b3,b4,b5⟩:=ht _ hR w1 (.tuple a1.tmps) m4 m2 m3 ⟨a1.tmps,rfl,qX 0 _ _ crep⟩;obtain⟨ys,hy,b4⟩:=b4;cases hy;refine⟨x,V2,g4,by rw [g3];exact b4,?_,by rw [g3];exact b2,by rw [g3];exact b3,by rw [g3];exact b5⟩
 intro l y hl
 have hlt:l<n0:=by
  cases Nat.lt_or_ge l n0 with
  | inl g=>exact g
  | inr g=>rw [hf0 l g]at hl;cases hl
 refine b1 l y hlt ?_;show Vc (lab _ _ l)=some y;rw [m1 l hlt];exact hV1 l y hl
theorem yS{inl:AA A}(hinl:sF E inl)(hm:P.follows .mixedOrders =true){L:Nat->Option (mM A)}{nt n0:Nat}{V0:Val}{hR:PHeap}{w0:World}(hf0:bU V0 n0): ∀(c:Code) (tm:List AVal) (h:aC A) (K:oL A) (a:Act) (w:World) (V:Val) (Q:Exit->Act->World->Prop),
 dH E inl L nt n0 c tm h K->Inv E.I V (toF h) hR w->bU V h.length->aI V tm a.tmps.toList->a.defers=[]->V0.le V->n0<=h.length->bX w0 w->
 (∀e a' w',JO E V0 n0 hR w0 (K e) a' w'->Q e.out a' w')->c.wp P Q a w:=by
 intro c
 induction c with
 | skip=>
   intro tm h K a w V Q he hi hf ht hd hV hn hg hQ;exact wp_skip (hQ .normal a w ⟨tm,V,h,he,ht,hV,hf,hn,hi,hg,hd⟩)
 | region id ops draw=>
   intro tm h K a w V Q he hi hf ht hd hV hn hg hQ;simp only [dH,BJ]at he;obtain⟨hnt,he⟩:=bM.1 he;cases draw with
   | false=>
     simp only [cond_false]at he;exact wpIn_wide.1 (wpIn_region_list (yV (ro:=none) hinl (Nat.eq_of_beq_eq_true hnt) ops.toList [] 0 [] h (K .normal) a w V hR ⟨[],rfl,rfl,rfl⟩ he trivial hi hf ht hd (fun a' w' hT=>hQ .normal a' w' (hT.chain hV hn hg))))
   | true=>
     simp only [cond_true]at he;obtain⟨its,rest2,tmN,hN,pm',h1,h2,h3,h4⟩:=yT (Nat.eq_of_beq_eq_true hnt) ops.toList [] 0 [] h [] [] ⟨[],rfl,rfl,rfl⟩ trivial rfl (mO.nil ops) he;have h1:f6 E ops tm h its tmN hN:=h1;obtain⟨b1,b2,b3,b4⟩:=h3;simp only [List.append_nil,List.reverse_reverse]at b1 b2 b3 b4;have hlenO:its.length+rest2.length=ops.size:=by have:=congrArg List.length h2;simpa using this
     have htk:its.map (·.o)=ops.toList.take its.length:=by
      rw [<-h2,List.take_append_of_le_length (by simp),List.take_of_length_le (by simp)]
     have hdr:ops.toList.drop its.length=rest2:=by
      rw [<-h2,List.drop_append_of_le_length (by simp),List.drop_of_length_le (by simp)];rfl
     have hrest:l4 ops.toList/\(∀k,its.length<=k->k<ops.size-> ∀i,i<k->((masks [] ops.toList).getD k 0).testBit i=true):=by
      rcases h4 with⟨e,_⟩ | ⟨seen',δ',_,_,_,hS⟩
      ·subst e;simp only [List.append_nil]at h2;refine⟨by rw [<-h2];exact b2,fun k hk hk2=>?_⟩
       simp at hlenO;omega
      ·obtain⟨ht,_⟩:=bM.1 hS;rw [Nat.zero_add]at ht;have:=x1 rest2 (its.map (·.o)) pm' b1 b2 (by rw [List.length_map];exact ht)
       rw [h2]at this;refine⟨this.1,fun k hk hk2=>this.2 k (by simpa using hk) (by simpa using hk2)⟩
     have b4':D6 ops (masks [] ops.toList) its:=by
      intro i k x y hi hk hik;have:=b4 i k x y hi hk hik;rw [b1,List.reverse_reverse]at this;rw [<-h2,lL (by simp;exact(List.getElem?_eq_some_iff.1 hk).1)]
      exact this
     have d:iB E ops tm h its tmN hN:=⟨h1,htk,hrest.1,b3,b4'⟩;refine wp_region_any hm ?_
     have hD0:(fun i=>(Array.replicate ops.size false).getD i false)=fun _=>false:=by
      funext i;rw [Array.getD_eq_getD_getElem?,Array.getElem?_replicate];split<;>rfl
     have at_end: ∀(a':Act) (w':World),wU E tm h its V hR w (fun i=>decide (i<its.length)) a' w'-> ∃V',V.le V'/\bU V' hN.length/\aI V' tmN a'.tmps.toList/\Inv E.I V' (toF hN) hR w'/\bX w w'/\a'.defers=[]:=by
      rintro a' w' ⟨V',g1,g2,g3,g4,g5,g6⟩;obtain⟨e1,e2⟩:=h1.end b3 0 (fun i=>decide (i<its.length)) (by intro k hk;simpa using hk)
      rw [e1]at g3;rw [e2]at g4;refine⟨V',g1,?_,g3,g4,g5,g6⟩;intro l hl;cases e:V' l with
      | none=>rfl
      | some x=>
        rcases g2 l (by rw [e];simp)with h | ⟨i,it,hi,_,q1,q2⟩
        ·have:=h1.le;exact(h (hf l (by omega))).elim
        ·obtain⟨hk',hok,_,_,hkn⟩:=h1.at b3 0 i it hi;have:it.n=hk'.length:=hok.1;omega
     refine d.any hf (hR:=hR) (w0:=w) (by omega) hrest.2 ?_ ops.size _ a _ (by simp) ?_ ?_ ?_ ?_
     ·intro fuel listed a' w' hls hl hfu hs;obtain⟨V',g1,g2,g3,g4,g5,g6⟩:=at_end a' w' hs;refine AO hrest.1 hrest.2 rest2 its.length fuel listed a' w' hdr (Nat.le_refl _) hls hl (by omega) ?_
      rcases h4 with⟨e,hK⟩ | ⟨seen',δ',hδ,hin,hsn,hS⟩
      ·subst e;exact hQ .normal a' w' ⟨tmN,V',hN,hK,g3,Val.le_trans hV g1,g2,Nat.le_trans hn h1.le,g4,hg.trans g5,g6⟩
      ·obtain⟨_,hev⟩:=bM.1 hS;refine yU hinl (Nat.eq_of_beq_eq_true hnt) rest2 seen' _ δ' hN (K .normal) a' w' V' hR hsn hev hin g4 g2 (by rw [<-hδ];exact g3) g6 ?_
       intro a'' w'' hT;exact hQ .normal a'' w'' (hT.chain (Val.le_trans hV g1) (Nat.le_trans hn h1.le) (hg.trans g5))
     ·refine Nat.le_trans (Nat.add_le_add_right (List.length_filter_le _ _) _) (by simp;omega)
     ·rw [hD0];intro j o _ hj;cases hj
     ·intro i _;exact congrFun hD0 i
     ·rw [hD0];refine⟨V,V.le_refl,fun l hl=>.inl hl,?_,?_,⟨rfl,rfl,Nat.le_refl _,fun _ _=>rfl⟩,hd⟩
      ·rw [rA _ _ _ (fun _ _=>rfl)];exact ht
      ·rw [qI _ _ _ (fun _ _=>rfl)];exact hi.drew _
 | seq x y ihx ihy=>
   intro tm h K a w V Q he hi hf ht hd hV hn hg hQ;unfold dH at he;split at he
   ·rename_i p hp;obtain⟨is,h1,h2⟩:=nP he;refine wp_seq (ihx tm h _ a w V _ h1 hi hf ht hd hV hn hg ?_);rintro e a' w' ⟨tm',V',h',k1,k2,k3,k4,k5,k6,k7,k8⟩;cases e with
    | normal=>
      obtain⟨q,V2,m1,m2,m3,m4,m5,m6⟩:=xB hf0 (p.2 is) _ _ _ _ _ _ k1 k6 k4 k2 k3;exact ihy _ _ K a' w' V2 Q (h2 q m1) m6 m4 m2 k8 m3 m5 k7 hQ
    | exit id=>exact hQ (.exit id) a' w' ⟨tm',V',h',k1,k2,k3,k4,k5,k6,k7,k8⟩
    | ret=>exact hQ .ret a' w' ⟨tm',V',h',k1,k2,k3,k4,k5,k6,k7,k8⟩
   ·refine wp_seq (ihx tm h _ a w V _ he hi hf ht hd hV hn hg ?_);rintro e a' w' ⟨tm',V',h',k1,k2,k3,k4,k5,k6,k7,k8⟩;cases e with
    | normal=>exact ihy tm' h' K a' w' V' Q k1 k6 k4 k2 k8 k3 k5 k7 hQ
    | exit id=>exact hQ (.exit id) a' w' ⟨tm',V',h',k1,k2,k3,k4,k5,k6,k7,k8⟩
    | ret=>exact hQ .ret a' w' ⟨tm',V',h',k1,k2,k3,k4,k5,k6,k7,k8⟩
 | cond c x y ihx ihy=>
   intro tm h K a w V Q he hi hf ht hd hV hn hg hQ;simp only [dH]at he;split at he
   ·rename_i b hb;have hc:=jI ht c;rw [hb]at hc;have hc':a.eval c=.bool b:=hc;refine wp_cond hc' ?_;cases b with
    | true=>exact ihx tm h K a w V Q he hi hf ht hd hV hn hg hQ
    | false=>exact ihy tm h K a w V Q he hi hf ht hd hV hn hg hQ
   ·exact he.elim
 | block id c ih=>
   intro tm h K a w V Q he hi hf ht hd hV hn hg hQ;refine wp_block (ih tm h _ a w V _ he hi hf ht hd hV hn hg ?_);rintro e a' w' ⟨tm',V',h',k1,k2,k3,k4,k5,k6,k7,k8⟩;cases e with
   | normal=>exact hQ .normal a' w' ⟨tm',V',h',k1,k2,k3,k4,k5,k6,k7,k8⟩
   | exit i=>
     simp only [Ex.out,Exit.inBlock]
     by_cases hi':i=id
     ·simp only [hi',if_true]at k1⊢;exact hQ .normal a' w' ⟨tm',V',h',k1,k2,k3,k4,k5,k6,k7,k8⟩
     ·simp only [hi',if_false]at k1⊢;exact hQ (.exit i) a' w' ⟨tm',V',h',k1,k2,k3,k4,k5,k6,k7,k8⟩
   | ret=>exact hQ .ret a' w' ⟨tm',V',h',k1,k2,k3,k4,k5,k6,k7,k8⟩
 | loop c ih=>
   intro tm h K a w V Q he hi hf ht hd hV hn hg hQ;have he:(∃m,uA (dH E inl L nt n0 c) m tm h K)\/(∃(H:Hint A) (At:List AVal->aC A->(H.X->Prop)->Prop),D5 E.I V0 n0 hR H At/\At tm h H.ok/\ ∀x,H.ok x->dH E inl L nt n0 c (H.st x).1 (H.st x).2 fun e tm' h'=>match e with
    | .normal =>At tm' h' fun x'=>H.ok x'/\H.mu x'<H.mu x
    | .exit id=>K (.exit id) tm' h'
    | .ret =>K .ret tm' h')\/(∃Hs,HP Hs n0 (dH E inl L nt n0 c) tm h K):=by
    simp only [dH]at he;split at he
    ·split at he
     ·exact .inl ⟨_,he⟩
     ·exact .inr (.inl ⟨_,lT _ n0,xA hf0 _,he.1,he.2⟩)
     ·split at he
      ·exact .inr (.inl ⟨_,lT _ n0,xA hf0 _,he.1,he.2⟩)
      ·exact he.elim
     ·exact .inr (.inr ⟨_,he⟩)
     ·obtain⟨is,he⟩:=nP he;exact .inr (.inl ⟨_,rD E.I _ n0,xB hf0 _,he.1,he.2⟩)
     ·exact he.elim
    ·exact he.elim
   ·rcases he with⟨m,he⟩ | ⟨H,he⟩ | ⟨Hs,he⟩
    ·skip
     have key: ∀m tm h a w V,uA (dH E inl L nt n0 c) m tm h K->Inv E.I V (toF h) hR w->bU V h.length->aI V tm a.tmps.toList->a.defers=[]->V0.le V->n0<=h.length->bX w0 w->
      ∀(b:Frame) (k:List _root_.Go.Item) (cs:List Frame),∃e a' w',Q e a' w'/\Arrives P (lone (b.at a (.code c:: .inLoop c::k)) cs w) b k cs e a' w':=by
      intro m
      induction m with
      | zero=>intro tm h a w V hr;exact hr.elim
      | succ m ihm=>
        intro tm h a w V hr hi hf ht hd hV hn hg b k cs
        have hb:=ih tm h _ a w V (Exit.then (fun a2 w2=> ∃tm2 h2 V2,uA (dH E inl L nt n0 c) m tm2 h2 K/\aI V2 tm2 a2.tmps.toList/\V0.le V2/\bU V2 h2.length/\n0<=h2.length/\Inv E.I V2 (toF h2) hR w2/\bX w0 w2/\a2.defers=[]) Q) hr hi hf ht hd hV hn hg (by
         rintro e a2 w2 ⟨tm2,V2,h2,k1,k2,k3,k4,k5,k6,k7,k8⟩;cases e with
         | normal=>exact⟨tm2,h2,V2,k1,k2,k3,k4,k5,k6,k7,k8⟩
         | exit id=>exact hQ (.exit id) a2 w2 ⟨tm2,V2,h2,k1,k2,k3,k4,k5,k6,k7,k8⟩
         | ret=>exact hQ .ret a2 w2 ⟨tm2,V2,h2,k1,k2,k3,k4,k5,k6,k7,k8⟩)
        obtain⟨e,a2,w2,hq,harr⟩:=hb b (.inLoop c::k) cs;cases e with
        | normal=>
          obtain⟨tm2,h2,V2,q1,q3,q4,q5,q6,q7,q8,q9⟩:=hq;obtain⟨e3,a3,w3,hq3,harr3⟩:=ihm tm2 h2 a2 w2 V2 q1 q7 q5 q3 q9 q4 q6 q8 b k cs;exact⟨e3,a3,w3,hq3,.of_steps (Steps.trans harr (.one step_inLoop)) harr3⟩
        | exit id=>exact⟨_,a2,w2,hq,.pass (x:=.inLoop c) rfl (fun _ _=>.inl (by simp)) harr⟩
        | goto l=>exact⟨_,a2,w2,hq,.pass (x:=.inLoop c) rfl (fun _ _=>.inl (by simp)) harr⟩
        | ret=>exact⟨_,a2,w2,hq,.pass (x:=.inLoop c) rfl (fun _ _=>.inl (by simp)) harr⟩
        | panic ch=>exact⟨_,a2,w2,hq,.pass (x:=.inLoop c) rfl (fun _ _=>.inl (by simp)) harr⟩
        | outgrown=>exact⟨_,a2,w2,hq,.pass (x:=.inLoop c) rfl (fun _ _=>.inl (by simp)) harr⟩
     intro b k cs;obtain⟨e,a',w',hq,harr⟩:=key m tm h a w V he hi hf ht hd hV hn hg b k cs;exact⟨e,a',w',hq,.of_steps (.one step_loop) harr⟩
    ·obtain⟨At,head,hstart,hround⟩:=he
     have key: ∀m x V1 a1 w1,H.mu x<m->H.ok x->aI V1 (H.st x).1 a1.tmps.toList->V0.le V1->bU V1 (H.st x).2.length ->n0<=(H.st x).2.length ->Inv E.I V1 (toF (H.st x).2) hR w1->bX w0 w1->a1.defers=[]->
      ∀(b:Frame) (k:List _root_.Go.Item) (cs:List Frame),∃e a' w',Q e a' w'/\Arrives P (lone (b.at a1 (.code c:: .inLoop c::k)) cs w1) b k cs e a' w':=by
      intro m
      induction m with
      | zero=>intro x V1 a1 w1 hlt;omega
      | succ m ihm=>
        intro x V1 a1 w1 hlt j1 j2 j3 j4 j5 j6 j7 j8 b k cs
        have hb:=ih (H.st x).1 (H.st x).2 _ a1 w1 V1 (Exit.then (fun a2 w2=> ∃x2 V2,H.mu x2<m/\H.ok x2/\aI V2 (H.st x2).1 a2.tmps.toList/\V0.le V2/\bU V2 (H.st x2).2.length /\n0<=(H.st x2).2.length /\Inv E.I V2 (toF (H.st x2).2) hR w2/\bX w0 w2/\a2.defers=[]) Q) (hround x j1) j6 j4 j2 j8 j3 j5 j7 (by
         rintro e a2 w2 ⟨tm2,V2,h2,k1,k2,k3,k4,k5,k6,k7,k8⟩;cases e with
         | normal=>
           obtain⟨x3,V3,⟨m1,m1'⟩,m2,m3,m4,m5,m6⟩:=head _ _ _ _ _ _ k1 k6 k4 k2 k3;exact⟨x3,V3,by omega,m1,m2,m3,m4,m5,m6,k7,k8⟩
         | exit id=>exact hQ (.exit id) a2 w2 ⟨tm2,V2,h2,k1,k2,k3,k4,k5,k6,k7,k8⟩
         | ret=>exact hQ .ret a2 w2 ⟨tm2,V2,h2,k1,k2,k3,k4,k5,k6,k7,k8⟩)
        obtain⟨e,a2,w2,hq,harr⟩:=hb b (.inLoop c::k) cs;cases e with
        | normal=>
          obtain⟨x2,V2,q1,q2,q3,q4,q5,q6,q7,q8,q9⟩:=hq;obtain⟨e3,a3,w3,hq3,harr3⟩:=ihm x2 V2 a2 w2 q1 q2 q3 q4 q5 q6 q7 q8 q9 b k cs;exact⟨e3,a3,w3,hq3,.of_steps (Steps.trans harr (.one step_inLoop)) harr3⟩
        | exit id=>exact⟨_,a2,w2,hq,.pass (x:=.inLoop c) rfl (fun _ _=>.inl (by simp)) harr⟩
        | goto l=>exact⟨_,a2,w2,hq,.pass (x:=.inLoop c) rfl (fun _ _=>.inl (by simp)) harr⟩
        | ret=>exact⟨_,a2,w2,hq,.pass (x:=.inLoop c) rfl (fun _ _=>.inl (by simp)) harr⟩
        | panic ch=>exact⟨_,a2,w2,hq,.pass (x:=.inLoop c) rfl (fun _ _=>.inl (by simp)) harr⟩
        | outgrown=>exact⟨_,a2,w2,hq,.pass (x:=.inLoop c) rfl (fun _ _=>.inl (by simp)) harr⟩
     intro b k cs;obtain⟨x,V2,m1,m2,m3,m4,m5,m6⟩:=head _ _ _ _ _ _ hstart hi hf ht hV;obtain⟨e,a',w',hq,harr⟩:=key (H.mu x+1) x V2 a w (Nat.lt_succ_self _) m1 m2 m3 m4 m5 m6 hg hd b k cs;exact⟨e,a',w',hq,.of_steps (.one step_loop) harr⟩
    ·obtain⟨hstart,hround⟩:=he
     have head1: ∀(H:Hint A) {tm1:List AVal} {h1:aC A} {V1:Val} {a1:Act} {w1:World} {ok:H.X->Prop},lT H n0 tm1 h1 ok->Inv E.I V1 (toF h1) hR w1->bU V1 h1.length->aI V1 tm1 a1.tmps.toList->V0.le V1->
      ∃x V2,ok x/\aI V2 (H.st x).1 a1.tmps.toList/\V0.le V2/\bU V2 (H.st x).2.length /\n0<=(H.st x).2.length /\Inv E.I V2 (toF (H.st x).2) hR w1:=by
      intro H tm1 h1 V1 a1 w1 ok hat hi1 hf1 ht1 hV1;unfold lT at hat;split at hat
      case h_2=>exact hat.elim
      rename_i tm2 h2 hcast;obtain⟨Vc,⟨cle,cfr,clen,cinv⟩,crep⟩:=eR hcast hi1 hf1 ht1;have hV1:=Val.le_trans hV1 cle;clear hi1 hf1 ht1;have hi1:=cinv;have hf1:=cfr;have ht1:=crep;obtain⟨g0,⟨x,g3,g4⟩⟩:=bM.1 hat;obtain⟨g1,g2⟩:=Bool.and_eq_true_iff.1 g0;obtain⟨m1,m2,m3,m4⟩:=t8.elim g1 g2 hi1 hf1;refine⟨x,fun i=>Vc (lab (dI n0 h2 (dA H.keep 0 tm2)) h2.length i),g4,by rw [g3];exact qX 0 _ _ ht1,?_,by rw [g3];exact m2,by rw [g3];exact m3,by rw [g3];exact m4⟩
      intro l y hl
      have hlt:l<n0:=by
       cases Nat.lt_or_ge l n0 with
       | inl g=>exact g
       | inr g=>rw [hf0 l g]at hl;cases hl
      show Vc (lab _ _ l)=some y;rw [m1 l hlt];exact hV1 l y hl
     have hr':=z7 hround
     have head: ∀(Gs:List (Hint A)) {tm1:List AVal} {h1:aC A} {V1:Val} {a1:Act} {w1:World} {bo:Option Nat},pS Gs n0 tm1 h1 bo->Inv E.I V1 (toF h1) hR w1->bU V1 h1.length->aI V1 tm1 a1.tmps.toList->V0.le V1->
      ∃H:Hint A,H∈Gs/\ ∃x V2,(H.ok x/\ ∀m,bo=some m->H.mu x<m)/\aI V2 (H.st x).1 a1.tmps.toList/\V0.le V2/\bU V2 (H.st x).2.length /\n0<=(H.st x).2.length /\Inv E.I V2 (toF (H.st x).2) hR w1:=by
      intro Gs
      induction Gs with
      | nil=>intro tm1 h1 V1 a1 w1 bo hat;exact hat.elim
      | cons G r ihG=>
        intro tm1 h1 V1 a1 w1 bo hat hi1 hf1 ht1 hV1;unfold pS at hat;cases hsel:G.sel tm1 h1<;>rw [hsel]at hat
        case true=>
         obtain⟨x,V2,⟨m1,m1'⟩,m2,m3,m4,m5,m6⟩:=head1 G hat hi1 hf1 ht1 hV1;refine⟨G,List.mem_cons_self,x,V2,⟨m1,?_⟩,m2,m3,m4,m5,m6⟩;intro m hm;subst hm;exact m1'
        case false=>
         obtain⟨H,hH,x,V2,m⟩:=ihG hat hi1 hf1 ht1 hV1;exact⟨H,List.mem_cons_of_mem _ hH,x,V2,m⟩
     have key: ∀m (H:Hint A) (_:H∈Hs) (x:H.X) V1 a1 w1,H.mu x<m->H.ok x->aI V1 (H.st x).1 a1.tmps.toList->V0.le V1->bU V1 (H.st x).2.length ->n0<=(H.st x).2.length ->Inv E.I V1 (toF (H.st x).2) hR w1->bX w0 w1->a1.defers=[]->
      ∀(b:Frame) (k:List _root_.Go.Item) (cs:List Frame),∃e a' w',Q e a' w'/\Arrives P (lone (b.at a1 (.code c:: .inLoop c::k)) cs w1) b k cs e a' w':=by
      intro m
      induction m with
      | zero=>intro H hH x V1 a1 w1 hlt;omega
      | succ m ihm=>
        intro H hH x V1 a1 w1 hlt j1 j2 j3 j4 j5 j6 j7 j8 b k cs
        have hb:=ih (H.st x).1 (H.st x).2 _ a1 w1 V1 (Exit.then (fun a2 w2=> ∃G:Hint A,G∈Hs/\ ∃x2 V2,G.mu x2<m/\G.ok x2/\aI V2 (G.st x2).1 a2.tmps.toList/\V0.le V2/\bU V2 (G.st x2).2.length /\n0<=(G.st x2).2.length /\Inv E.I V2 (toF (G.st x2).2) hR w2/\bX w0 w2/\a2.defers=[]) Q) (hr' H hH x j1) j6 j4 j2 j8 j3 j5 j7 (by
         rintro e a2 w2 ⟨tm2,V2,h2,k1,k2,k3,k4,k5,k6,k7,k8⟩;cases e with
         | normal=>
           obtain⟨G,hG,x3,V3,⟨m1,m1'⟩,m2,m3,m4,m5,m6⟩:=head Hs k1 k6 k4 k2 k3;have:=m1' _ rfl;exact⟨G,hG,x3,V3,by omega,m1,m2,m3,m4,m5,m6,k7,k8⟩
         | exit id=>exact hQ (.exit id) a2 w2 ⟨tm2,V2,h2,k1,k2,k3,k4,k5,k6,k7,k8⟩
         | ret=>exact hQ .ret a2 w2 ⟨tm2,V2,h2,k1,k2,k3,k4,k5,k6,k7,k8⟩)
        obtain⟨e,a2,w2,hq,harr⟩:=hb b (.inLoop c::k) cs;cases e with
        | normal=>
          obtain⟨G,hG,x2,V2,q1,q2,q3,q4,q5,q6,q7,q8,q9⟩:=hq;obtain⟨e3,a3,w3,hq3,harr3⟩:=ihm G hG x2 V2 a2 w2 q1 q2 q3 q4 q5 q6 q7 q8 q9 b k cs;exact⟨e3,a3,w3,hq3,.of_steps (Steps.trans harr (.one step_inLoop)) harr3⟩
        | exit id=>exact⟨_,a2,w2,hq,.pass (x:=.inLoop c) rfl (fun _ _=>.inl (by simp)) harr⟩
        | goto l=>exact⟨_,a2,w2,hq,.pass (x:=.inLoop c) rfl (fun _ _=>.inl (by simp)) harr⟩
        | ret=>exact⟨_,a2,w2,hq,.pass (x:=.inLoop c) rfl (fun _ _=>.inl (by simp)) harr⟩
        | panic ch=>exact⟨_,a2,w2,hq,.pass (x:=.inLoop c) rfl (fun _ _=>.inl (by simp)) harr⟩
        | outgrown=>exact⟨_,a2,w2,hq,.pass (x:=.inLoop c) rfl (fun _ _=>.inl (by simp)) harr⟩
     intro b k cs;obtain⟨H,hH,x,V2,⟨m1,_⟩,m2,m3,m4,m5,m6⟩:=head Hs hstart hi hf ht hV;obtain⟨e,a',w',hq,harr⟩:=key (H.mu x+1) H hH x V2 a w (Nat.lt_succ_self _) m1 m2 m3 m4 m5 m6 hg hd b k cs;exact⟨e,a',w',hq,.of_steps (.one step_loop) harr⟩
 | exit id=>
   intro tm h K a w V Q he hi hf ht hd hV hn hg hQ;exact wp_exit (hQ (.exit id) a w ⟨tm,V,h,he,ht,hV,hf,hn,hi,hg,hd⟩)
 | label l=>
   intro tm h K a w V Q he hi hf ht hd hV hn hg hQ;exact wp_label (hQ .normal a w ⟨tm,V,h,he,ht,hV,hf,hn,hi,hg,hd⟩)
 | ret=>
   intro tm h K a w V Q he hi hf ht hd hV hn hg hQ;exact wp_ret (hQ .ret a w ⟨tm,V,h,he,ht,hV,hf,hn,hi,hg,hd⟩)
 | _=>intro tm h K a w V Q he;exact he.elim
def rvar(tmps:Array Value):ResultVar->Sem Value
 | .tmp t=>Pure.pure (tmps.getD t undef)
 | .cell a t=>do loadVar t (<-asAddr (tmps.getD a undef))
theorem G2(fn:Func)(tmps:Array Value):results fn tmps=(do
 let vs<-fn.results.mapM (rvar tmps)
 Pure.pure (if h:vs.size=1 then vs[0]else .tuple vs)):=by
 unfold results;congr 1
theorem AP{tm:List AVal}{h:aC A}{r:ResultVar}{v:AVal}{p:Option Prop}(hr:tK P tm h r=some (v,p))(hp:onp p){V:Val}{hR:PHeap}{w:World}{tmps:Array Value}(hi:Inv E.I V (toF h) hR w)(ht:aI V tm tmps.toList):
 ∃v',(rvar tmps r).run P w=.ok v' w/\Rep V v v':=by
 have hρ: ∀x,Rep V (dL tm x) (Act.eval ⟨tmps,[]⟩ x):=jI (a:=⟨tmps,[]⟩) ht;cases r with
 | tmp t=>
   simp only [tK,sI',pI']at hr;obtain⟨rfl,rfl⟩:=hr;exact⟨_,rfl,hρ (.tmp t)⟩
 | cell a t=>
   simp only [tK]at hr;split at hr
   ·rename_i l off e;have ra:Rep V (tm.getD a (.raw undef)) (tmps.getD a undef):=hρ (.tmp a);rw [e]at ra;cases hq:w6 P t l off h with
    | none=>rw [hq]at hr;cases hr
    | some q=>
      rw [hq]at hr;simp only [Option.map_some,sI',pI']at hr;obtain⟨rfl,rfl⟩:=hr;obtain⟨v',h1,h2,_,_⟩:=w7 hq hp hi ra;obtain⟨b,k,hl,e2⟩:=ra;rw [e2]at h1;refine⟨v',?_,h2⟩;show(do loadVar t (<-asAddr (tmps.getD a undef)):Sem Value).run P w=.ok v' w
      rw [e2]
      simpa [asAddr,Instr.loadAt,Instr.sureAddr]using h1
   ·cases hr
theorem yF{fn:Func}{tm:List AVal}{h:aC A}{V:Val}{hR:PHeap}{w:World}{tmps:Array Value}(hi:Inv E.I V (toF h) hR w)(ht:aI V tm tmps.toList){vs:List AVal}{p:Option Prop}(hr:jU P tm h fn.results.toList=some (vs,p))(hp:onp p):
 ∃v',(results fn tmps).run P w=.ok v' w/\Rep V (amk vs) v':=by
 have key: ∀(rs:List ResultVar) (vs:List AVal) (p:Option Prop),jU P tm h rs=some (vs,p)->onp p->
  ∃ws,(rs.mapM (rvar tmps)).run P w=.ok ws w/\aI V vs ws:=by
  intro rs
  induction rs with
  | nil=>
    intro vs p h1 h2;simp only [jU,sI',pI']at h1;obtain⟨rfl,rfl⟩:=h1;exact⟨[],rfl,rfl⟩
  | cons r rs ih=>
    intro vs p h1 h2;simp only [jU]at h1;split at h1
    ·rename_i v q vs' q' e1 e2;simp only [sI',pI']at h1;obtain⟨rfl,rfl⟩:=h1;have h2:=L7.1 h2;obtain⟨v',g1,g2⟩:=AP e1 h2.1 hi ht;obtain⟨ws,g3,g4⟩:=ih vs' q' e2 h2.2;refine⟨v'::ws,?_,⟨v',ws,rfl,g2,g4⟩⟩;rw [List.mapM_cons];simp only [Sem.run_bind];rw [g1];simp only [Result.andThen_ok,Sem.run_bind];rw [g3];rfl
    ·cases h1
 obtain⟨ws,h1,h2⟩:=key _ vs p hr hp
 have hmap:(fn.results.mapM (rvar tmps)).run P w=.ok ws.toArray w:=by
  rw [Array.mapM_eq_mapM_toList,Sem.run_map,h1];rfl
 have hrun:(results fn tmps).run P w=.ok (if h:ws.toArray.size=1 then ws.toArray[0]else .tuple ws.toArray) w:=by
  rw [G2,Sem.run_bind,hmap];rfl
 refine⟨_,hrun,?_⟩
 match vs,ws,h2 with
 | [],_,r=>have e:_=[]:=r;subst e;exact⟨#[],rfl,rfl⟩
 | [v],_,⟨y,ys,e,r,s⟩=>have e2:ys=[]:=s;subst e2;subst e;exact r
 | v1::v2::vs,_,⟨y,_,e,r,y2,ys,e2,r2,s⟩=>
   subst e2;subst e;exact⟨_,rfl,y,_,rfl,r,y2,ys,rfl,r2,s⟩
theorem yR{inl:AA A}(hinl:sF E inl)(hm:P.follows .mixedOrders =true){g:FuncId}{fn:Func}{c:Code}(hg:P.funcs[g]? =some fn)(hb:fn.body=some c){args:List AVal}{h:aC A}{K:AVal->aC A->Prop}{L:Nat->Option (mM A)}(he:PU E inl L fn c args h K)
 {V:Val} {hR:PHeap} {w:World} {args':Array Value} (hi:Inv E.I V (toF h) hR w) (hf:bU V h.length) (hr:aI V args args'.toList):Calls P g args' w (D7 E.I V h.length hR K w):=by
 have hlen:args'.size=args.length:=by rw [<-Array.length_toList];exact aI.length hr
 refine calls_of_wp hg hb (yS hinl hm hf c _ h _ _ w V _ he hi hf ?_ rfl V.le_refl (Nat.le_refl _) (aKp w) ?_)
 ·show aI V _ (args'++Array.replicate (fn.ntmps - args'.size) undef).toList;rw [Array.toList_append,Array.toList_replicate,hlen];refine aI.append hr ?_
  have: ∀n:Nat,aI V (List.replicate n (.raw undef)) (List.replicate n undef):=by
   intro n
   induction n with
   | zero=>exact rfl
   | succ n ih=>exact⟨undef,_,rfl,rfl,ih⟩
  exact this _
 ·rintro e a' w' ⟨tm',V',h',k1,k2,k3,k4,k5,k6,k7,k8⟩
  have fin:(match jU P tm' h' fn.results.toList with | some (vs,p)=>zA p (K (amk vs) h') | none=>False)->a'.defers=[]/\ ∃v,(results fn a'.tmps).run P w'=.ok v w'/\D7 E.I V h.length hR K w (.returned v) w':=by
   intro hh;split at hh
   ·rename_i vs p hres;have hh:=nH.1 hh;obtain⟨v',g1,g2⟩:=yF (E:=E) k6 k2 hres hh.1;exact⟨k8,v',g1,amk vs,v',V',h',hh.2,rfl,g2,k3,k4,k5,k6,k7⟩
   ·exact hh.elim
  cases e with
  | normal=>exact fin k1
  | exit id=>exact k1.elim
  | ret=>exact fin k1
theorem sM(hm:P.follows .mixedOrders =true)(L:FuncId->Nat->Option (mM A)): ∀n,sF E (H3 E L n)
 | 0=>fun _ _ _ _ he=>he.elim
 | n+1=>by
   intro g args h K he V hR w args' hi hf hr;unfold H3 at he;split at he
   ·rename_i fn hg;split at he
    ·rename_i c hb;exact yR (sM hm L n) hm hg hb he hi hf hr
    ·exact he.elim
   ·exact he.elim
end
end Go.Sh
namespace Go.Sh
open Go
variable [Con] {A:Type}
def aA(I:Itp A)(P:Program)(f:FuncId)(args:List AVal)(h:aC A)(K:AVal->aC A->Prop):Prop:=
 ∀V hR w (args':Array Value),Inv I V (toF h) hR w->bU V h.length->aI V args args'.toList->Calls P f args' w (D7 I V h.length hR K w)
section
variable {P:Program} {I:Itp A}
def eD(n:Nat)(K:AVal->aC A->Prop)(v:AVal)(h':aC A):Prop:=
 cK (dO (dI n h' v.labels) h'.length&&gO (dI n h' v.labels) 0 n) (K (kI (dI n h' v.labels) v) (fZ (dI n h' v.labels) h'))
theorem aJ1{f:FuncId}{args:List AVal}{h:aC A}{K:AVal->aC A->Prop}(h0:aA I P f args h (eD h.length K)):aA I P f args h K:=by
 intro V hR w args' hi hf hr;refine(h0 V hR w args' hi hf hr).mono ?_;rintro e w' ⟨v,v',V',h',ht,k2,k3,k4,k5,k6,k7,k8⟩;obtain⟨g0,hK⟩:=bM.1 ht;obtain⟨g1,g2⟩:=Bool.and_eq_true_iff.1 g0;generalize dI h.length h' v.labels=pl at g1 g2 hK;obtain⟨e1,e2⟩:=l7 g2;have hp:=nS (h:=h') g1;refine⟨kI pl v,v',fun i=>V' (lab pl h'.length i),fZ pl h',hK,k2,oI k3,?_,?_,by rw [hp.len];exact e1,k7.pick hp,k8⟩
 ·intro l x hl
  have hlt:l<h.length:=by
   cases Nat.lt_or_ge l h.length with
   | inl g=>exact g
   | inr g=>rw [hf l g]at hl;cases hl
  show V' (lab pl h'.length l)=some x;have:lab pl h'.length l=l:=by unfold lab;rw [e2 l hlt];simp
  rw [this];exact k4 l x hl
 ·intro l hl;rw [hp.len]at hl;show V' (lab pl h'.length l)=none;have:lab pl h'.length l=h'.length+l:=by unfold lab;rw [List.getElem?_eq_none hl]
  rw [this];exact k5 _ (by omega)
def aAr(cs:List (Place×f5))(K:AVal->aC A->Prop)(v:AVal)(g:aC A):Prop:=
 match f7 cs [v] g with
 | some ([v'],g')=>K v' g'
 | _=>False
theorem aKN{f:FuncId}{args:List AVal}{h:aC A}{K:AVal->aC A->Prop}{cs:List (Place×f5)}(h0:aA I P f args h (aAr cs K)):aA I P f args h K:=by
 intro V hR w args' hi hf hr;refine(h0 V hR w args' hi hf hr).mono ?_;rintro e w' ⟨v,v',V',g,ht,k2,k3,k4,k5,k6,k7,k8⟩;unfold aAr at ht;split at ht
 ·rename_i v1 g1 hc;obtain⟨V1,⟨c1,c2,c3,c4⟩,c5⟩:=eR hc k7 k5 (xs:=[v']) ⟨v',[],rfl,k3,rfl⟩;obtain⟨y,ys,e1,r1,_⟩:=c5;simp only [lI']at e1;exact⟨v1,v',V1,g1,ht,k2,by rw [e1.1];exact r1,Val.le_trans k4 c1,c2,Nat.le_trans k6 c3,c4,k8⟩
 ·exact ht.elim
def iK:List Nat->List (Option (aG A))->aC A->aC A
 | l::il,e::es,h=>iK il es (h.set l e)
 | _,_,h=>h
def iota(il:List Nat)(n i:Nat):Nat:=match il[i]? with
 | some l=>l
 | none=>n+(i - il.length)
theorem jN{il:List Nat}{n i l:Nat}(h:il[i]? =some l):iota il n i=l:=by unfold iota;rw [h]
theorem gU{il:List Nat}{n i:Nat}(h:il[i]? =none):iota il n i=n+(i - il.length):=by unfold iota;rw [h]
def oQ(h:aC A)(il:List Nat)(g:aC A):aC A:=
 iK il ((g.take il.length).map (Option.map (aG.ren (iota il h.length)))) h++(g.drop il.length).map (Option.map (aG.ren (iota il h.length)))
theorem dQ: ∀(il:List Nat) (es:List (Option (aG A))) (h:aC A),(iK il es h).length =h.length
 | [],_,_=>rfl
 | _::_,[],_=>rfl
 | l::il,e::es,h=>by unfold iK;rw [dQ il es];simp
theorem kQ: ∀(il:List Nat) (es:List (Option (aG A))) (h:aC A) (m:Nat),m∉il->aL (iK il es h) m=aL h m
 | [],_,_,_,_=>rfl
 | _::_,[],_,_,_=>rfl
 | l::il,e::es,h,m,hm=>by
   unfold iK;rw [kQ il es _ m (by simp at hm;exact hm.2)]
   simp only [aL,gD'];rw [List.getElem?_set_ne (by simp at hm;exact fun e=>hm.1 e.symm)]
theorem rS: ∀(il:List Nat) (es:List (Option (aG A))) (h:aC A) (i l:Nat),il.Nodup->(∀l∈il,l<h.length)->il[i]? =some l->i<es.length->aL (iK il es h) l=es.getD i none
 | [],_,_,i,l,_,_,h,_=>by simp at h
 | _::_,[],_,i,_,_,_,_,h=>by simp at h
 | m::il,e::es,h,0,l,hnd,hlt,hi,_=>by
   simp at hi;subst hi;unfold iK;rw [kQ il es _ m (List.nodup_cons.1 hnd).1];have:m<h.length:=hlt m (by simp)
   simp [aL,gD',this]
 | m::il,e::es,h,i+1,l,hnd,hlt,hi,hes=>by
   simp at hi;unfold iK;rw [rS il es _ i l (List.nodup_cons.1 hnd).2 (by intro l hl;simp;exact hlt l (by simp [hl])) hi (by simpa using hes)]
   simp
theorem CN{il:List Nat}{n:Nat}(hnd:il.Nodup)(hlt: ∀l∈il,l<n): ∀i j,iota il n i=iota il n j->i=j:=by
 intro i j h
 have lt_of: ∀ {i a},il[i]? =some a->i<il.length:=by
  intro i a hi;cases Nat.lt_or_ge i il.length with
  | inl g=>exact g
  | inr g=>rw [List.getElem?_eq_none g]at hi;cases hi
 unfold iota at h;cases hi:il[i]? with
 | some a=>
   rw [hi]at h;cases hj:il[j]? with
   | some b=>
     rw [hj]at h;simp only at h;subst h;exact(List.getElem?_inj (lt_of hi) hnd).1 (hi.trans hj.symm)
   | none=>
     rw [hj]at h;simp only at h;have:=hlt a (List.mem_of_getElem? hi);omega
 | none=>
   rw [hi]at h;cases hj:il[j]? with
   | some b=>
     rw [hj]at h;simp only at h;have:=hlt b (List.mem_of_getElem? hj);omega
   | none=>
     rw [hj]at h;simp only at h;have h1:=List.getElem?_eq_none_iff.1 hi;have h2:=List.getElem?_eq_none_iff.1 hj;omega
theorem aKH{f:FuncId}{args0 args:List AVal}{h0 h:aC A}{K0 K:AVal->aC A->Prop}(hs:aA I P f args0 h0 K0)(il:List Nat)(hlen:il.length=h0.length)(hnd:il.Nodup)
 (hlt: ∀l∈il,l<h.length) (hent: ∀i l,il[i]? =some l->aL h l=(aL h0 i).map (aG.ren (iota il h.length))) (hargs:args=aKg (iota il h.length) args0)
 (hK: ∀v g,K0 v g->h0.length<=g.length->K (v.ren (iota il h.length)) (oQ h il g)):aA I P f args h K:=by
 intro V hR w args' hi hf hr
 classical
 have hinj:=CN (n:=h.length) hnd hlt
 have lt_of: ∀ {i a},il[i]? =some a->i<il.length:=by
  intro i a hi;cases Nat.lt_or_ge i il.length with
  | inl g=>exact g
  | inr g=>rw [List.getElem?_eq_none g]at hi;cases hi
 obtain⟨hR',hin,hcont⟩:=hi.split (fun l=>decide (l∈il))
 have hV0:Inv I (fun i=>V (iota il h.length i)) (toF h0) hR' w:=by
  refine(aKz hinj ?_ ?_).1 hin
  ·intro i;cases hii:il[i]? with
   | some l=>
     have e1:iota il h.length i=l:=by unfold iota;rw [hii]
     rw [e1,if_pos (by simpa using List.mem_of_getElem? hii)]
     exact hent i l hii
   | none=>
     have e1:iota il h.length i=h.length+(i - il.length):=by unfold iota;rw [hii]
     have hge:=List.getElem?_eq_none_iff.1 hii;rw [e1,if_neg (by simp;intro hm;have:=hlt _ hm;omega)]
     have:toF h0 i=none:=cA (by omega)
     rw [this];rfl
  ·intro m hm;rw [if_neg];simp only [dT'];intro hmem;obtain⟨i,hilt,he⟩:=List.getElem_of_mem hmem;refine hm i ?_;unfold iota;rw [gE' hilt,he]
 have hf0:bU (fun i=>V (iota il h.length i)) h0.length:=by
  intro i hi;show V (iota il h.length i)=none;have:il[i]? =none:=List.getElem?_eq_none (by omega)
  rw [gU this];exact hf _ (by omega)
 have hr0:aI (fun i=>V (iota il h.length i)) args0 args'.toList:=by
  rw [hargs]at hr;exact(aI.ren args0 _).1 hr
 refine(hs _ hR' w args' hV0 hf0 hr0).mono ?_;rintro e w' ⟨v,v',V',g,k1,k2,k3,k4,k5,k6,k7,k8⟩
 let V1:Val:=fun m=>if h.length<=m then V' (il.length+(m - h.length))else if hm: ∃i:Nat,il[i]? =some m then V' (Classical.choose hm)else V m
 have hV1: ∀i,V1 (iota il h.length i)=V' i:=by
  intro i;cases hii:il[i]? with
  | some l=>
    have e1:iota il h.length i=l:=by unfold iota;rw [hii]
    have hl:=hlt l (List.mem_of_getElem? hii);have hm: ∃i:Nat,il[i]? =some l:=⟨i,hii⟩;show(if h.length<=iota il h.length i then _ else _)=_
    rw [e1,if_neg (by omega),dif_pos hm]
    have hc:=Classical.choose_spec hm;have:=(List.getElem?_inj (lt_of hc) hnd).1 (hc.trans hii.symm);rw [this]
  | none=>
    have e1:iota il h.length i=h.length+(i - il.length):=by unfold iota;rw [hii]
    have hge:=List.getElem?_eq_none_iff.1 hii;show(if h.length<=iota il h.length i then _ else _)=_
    rw [e1,if_pos (by omega)]
    congr 1;omega
 have hV1fun:(fun i=>V1 (iota il h.length i))=V':=funext hV1
 have hle:V.le V1:=by
  intro m x hm
  have hlt':m<h.length:=by
   cases Nat.lt_or_ge m h.length with
   | inl g=>exact g
   | inr g=>rw [hf m g]at hm;cases hm
  show(if h.length<=m then _ else _)=some x
  rw [if_neg (by omega)]
  split
  ·rename_i hmm;have hc:=Classical.choose_spec hmm;refine k4 _ x ?_;show V (iota il h.length _)=some x;have e1:iota il h.length (Classical.choose hmm)=m:=by unfold iota;rw [hc]
   rw [e1];exact hm
  ·exact hm
 let G:bH A:=fun m=>if h.length<=m then(aL g (il.length+(m - h.length))).map (aG.ren (iota il h.length))else if hm: ∃i:Nat,il[i]? =some m then(aL g (Classical.choose hm)).map (aG.ren (iota il h.length))else none
 have hG: ∀i,G (iota il h.length i)=(toF g i).map (aG.ren (iota il h.length)):=by
  intro i;cases hii:il[i]? with
  | some l=>
    have e1:iota il h.length i=l:=by unfold iota;rw [hii]
    have hl:=hlt l (List.mem_of_getElem? hii);have hm: ∃i:Nat,il[i]? =some l:=⟨i,hii⟩;show(if h.length<=iota il h.length i then _ else _)=_
    rw [e1,if_neg (by omega),dif_pos hm]
    have hc:=Classical.choose_spec hm;have:=(List.getElem?_inj (lt_of hc) hnd).1 (hc.trans hii.symm);rw [this];rfl
  | none=>
    have e1:iota il h.length i=h.length+(i - il.length):=by unfold iota;rw [hii]
    have hge:=List.getElem?_eq_none_iff.1 hii;show(if h.length<=iota il h.length i then _ else _)=_
    rw [e1,if_pos (by omega),show il.length+(h.length+(i - il.length) - h.length)=i from by omega]
    rfl
 have hGz: ∀m,(∀l,iota il h.length l≠m)->G m=none:=by
  intro m hm;show(if h.length<=m then _ else _)=none
  by_cases hge:h.length<=m
  ·refine(hm (il.length+(m - h.length)) ?_).elim;rw [gU (List.getElem?_eq_none (by omega))]
   omega
  ·rw [if_neg hge,dif_neg];rintro⟨i,hi⟩;refine hm i ?_;unfold iota;rw [hi]
 have hGinv:Inv I V1 G hR' w':=(aKz hinj hG hGz).2 (by rw [hV1fun];exact k7)
 have hfin:=hcont V1 G w' hle hGinv (by
  intro l hl hne;have hl':l∉il:=by simpa using hl
  have hlt':l<h.length:=by
   cases Nat.lt_or_ge l h.length with
   | inl g=>exact g
   | inr g=>exact(hne (cA g)).elim
  show(if h.length<=l then _ else _)=none
  rw [if_neg (by omega),dif_neg]
  rintro⟨i,hi⟩;exact hl' (List.mem_of_getElem? hi))
 have hml:(oQ h il g).length =h.length+(g.length - il.length):=by
  unfold oQ;rw [List.length_append,dQ,List.length_map,List.length_drop]
 have htk:((g.take il.length).map (Option.map (aG.ren (iota il h.length)))).length =il.length:=by
  rw [List.length_map,List.length_take];omega
 have heq:(fun l=>if (fun l=>decide (l∈il)) l=false/\toF h l≠none then toF h l else G l)=toF (oQ h il g):=by
  funext m;show _=aL (oQ h il g) m
  by_cases hge:h.length<=m
  ·have e0:toF h m=none:=cA hge;rw [if_neg (by rw [e0];simp)]
   show(if h.length<=m then _ else _)=_
   rw [if_pos hge];unfold oQ;simp only [aL,gD'];rw [List.getElem?_append_right (by rw [dQ];exact hge),dQ,List.getElem?_map,List.getElem?_drop]
   cases hq:g[il.length+(m - h.length)]? with
   | none=>rfl
   | some x=>rfl
  ·have hlt':m<h.length:=by omega
   have e1:aL (oQ h il g) m=aL (iK il ((g.take il.length).map (Option.map (aG.ren (iota il h.length)))) h) m:=by
    unfold oQ;exact cE (by rw [dQ];exact hlt')
   rw [e1]
   by_cases hmem:m∈il
   ·obtain⟨i,hilt,he⟩:=List.getElem_of_mem hmem;have hii:il[i]? =some m:=by rw [gE' hilt,he]
    rw [if_neg (by simp [hmem]),rS il _ h i m hnd hlt hii (by rw [htk];exact hilt)]
    have e2:iota il h.length i=m:=by unfold iota;rw [hii]
    have:=hG i;rw [e2]at this;rw [this,gD',List.getElem?_map,List.getElem?_take,if_pos hilt];show Option.map _ (aL g i)=_;simp only [aL,gD'];cases g[i]? <;>rfl
   ·rw [kQ il _ h m hmem]
    by_cases hne:toF h m=none
    ·rw [if_neg (by simp [hne])]
     show(if h.length<=m then _ else _)=_
     rw [if_neg hge,dif_neg]
     ·exact hne.symm
     ·rintro⟨i,hi⟩;exact hmem (List.mem_of_getElem? hi)
    ·rw [if_pos ⟨by simp [hmem],hne⟩];rfl
 rw [heq]at hfin;refine⟨v.ren (iota il h.length),v',V1,oQ h il g,hK v g k1 k6,k2,?_,hle,?_,by rw [hml];omega,hfin,k8⟩
 ·refine(Rep.ren v v').2 ?_;rw [hV1fun];exact k3
 ·intro l hl;rw [hml]at hl;show(if h.length<=l then _ else _)=none
  rw [if_pos (by omega)]
  exact k5 _ (by omega)
end
end Go.Sh
namespace Go.Sh
open Go
variable [Con] {A:Type} {P:Program} {I:Itp A}
def PHeap.all(w:World):PHeap:=fun b=>w.heap[b]?
def aBz(W W':World):Prop:=W.keptBut W' (fun _=>False)/\(∀a:Addr,a.block<W.heap.size->W'.frozen? a=W.frozen? a)/\W.heap.size<=W'.heap.size
theorem P8{w w':World}(h:(PHeap.all w).sub w')(g:bX w w'):aBz w w':=by
 refine⟨⟨g.os,g.output,?_⟩,g.frz,g.size⟩;intro i hi;have e:w.heap[i]? =some w.heap[i]:=Array.getElem?_eq_getElem hi;have e':=h i _ e;rw [e,e'];generalize w.heap[i]=o;cases o with
 | cells c t fr=>exact⟨rfl,rfl,rfl,fun _ _=>rfl⟩
 | map es clock=>exact .inr ⟨rfl,rfl⟩
 | _=>rfl
theorem Y0(w:World)(hc: ∀b o,Con.con b=some o->w.heap[b]? =some o):Inv I (fun _=>none) (toF ([]:aC A)) (PHeap.all w) w:=
 ⟨fun _=>.emp,(fun l e h=>by simp [toF,aL]at h),fun _ _=>rfl,fun _ _ _=>aJ3 _,fun _=>(aJ3 _).symm,fun _=>aKt _,fun b o h=>h,hc⟩
theorem aA.grown{f:FuncId}{args:List AVal}{K:AVal->aC A->Prop}(h:aA I P f args [] K){args':Array Value}(hr:aI (fun _=>none) args args'.toList)(w:World)(hc: ∀b o,Con.con b=some o->w.heap[b]? =some o):
 Calls P f args' w fun e w'=> ∃v v' V' h',K v h'/\e=.returned v'/\Rep V' v v'/\aBz w w':=by
 refine(h _ _ w args' (Y0 w hc) (fun _ _=>rfl) hr).mono ?_;rintro e w' ⟨v,v',V',h',k1,k2,k3,k4,k5,k6,k7,k8⟩;obtain⟨hs,_,_,_,_,_,h6,_⟩:=k7;exact⟨v,v',V',h',k1,k2,k3,P8 h6 k8⟩
theorem aA.law{f:FuncId}{args:List AVal}(h:aA I P f args ([]:aC A) fun v _=>v=.bool true){args':Array Value}(hr:aI (fun _=>none) args args'.toList)(w:World)(hc: ∀b o,Con.con b=some o->w.heap[b]? =some o):
 Calls P f args' w fun e w'=>e=.returned (.bool true)/\aBz w w':=by
 refine(h.grown hr w hc).mono ?_;rintro e w' ⟨v,v',V',h',rfl,rfl,r,g⟩;have:v'=.bool true:=r;subst this;exact⟨rfl,g⟩
mutual
theorem Rep.free{V V':Val} : ∀(a:AVal) (x:Value),a.within []=true->Rep V a x->Rep V' a x
 | .bool _,_,_,r=>r
 | .int _ _,_,_,r=>r
 | .str _,_,_,r=>r
 | .ptr _ _,_,h,_=>by simp [AVal.within]at h
 | .slice _ _ _ _,_,h,_=>by simp [AVal.within]at h
 | .map _,_,h,_=>by simp [AVal.within]at h
 | .func _ f c,_,h,⟨fs,cs,hv,r,s⟩=>by
   simp only [AVal.within,Bool.and_eq_true]at h;exact⟨fs,cs,hv,aI.free f _ h.1 r,aI.free c _ h.2 s⟩
 | .iface _ a,_,h,⟨x,hv,r⟩=>⟨x,hv,Rep.free a _ h r⟩
 | .agg as,_,h,⟨cs,hv,r⟩=>⟨cs,hv,aI.free as _ h r⟩
 | .tup as,_,h,⟨cs,hv,r⟩=>⟨cs,hv,aI.free as _ h r⟩
 | .raw _,_,_,r=>r
 | .any,_,_,r=>r
 | .O,_,_,r=>r
 | .iview _ _,_,_,r=>r
 | .view _ _ _,_,_,r=>r
 | .cptr _,_,_,r=>r
 | .tslice _ _ _ _,_,h,_=>by simp [AVal.within]at h
 | .tptr _ _ _ _,_,h,_=>by simp [AVal.within]at h
 | .empty,_,_,r=>r
theorem aI.free{V V':Val} : ∀(a:List AVal) (x:List Value),aKb [] a=true->aI V a x->aI V' a x
 | [],_,_,r=>r
 | a::as,_,h,⟨v,vs,e,r,s⟩=>by
   simp only [aKb,Bool.and_eq_true]at h;exact⟨v,vs,e,Rep.free a v h.1 r,aI.free as vs h.2 s⟩
end
structure Ev (p:Prop):Prop where
 get:p
theorem aD{E:Env A P}(hm:P.follows .mixedOrders =true){L:FuncId->Nat->Option (mM A)}{n:Nat}{f:FuncId}{args:List AVal}{h:aC A}{K:AVal->aC A->Prop}(he:Ev (H3 E L n f args h K)):aA E.I P f args h K:=
 sM hm L n f args h K he.get
theorem aK{p q:Prop}(h:p=q)(hq:q):Ev p:=⟨h▸hq⟩
theorem aU{b:Bool}{X Y:Prop}(h1:b=true->X)(h2:b=false->Y):cond b X Y:=by
 cases b
 ·exact h2 rfl
 ·exact h1 rfl
end Go.Sh
namespace Go.Sh
open Go
variable [Con] {A:Type}
inductive Out (A:Type):Type 1 where
 | ret (v:AVal) (g:aC A)
 | ite (b:Bool) (x y:Out A)
 | all (X:Type) (ok:X->Prop) (f:X->Out A)
 | pre (p:Prop) (o:Out A)
def Out.run:Out A->(AVal->aC A->Prop)->Prop
 | .ret v g,K=>K v g
 | .ite b x y,K=>cond b (x.run K) (y.run K)
 | .all X ok f,K=> ∀x,ok x->(f x).run K
 | .pre p o,K=>p/\o.run K
abbrev aH(A:Type):=List AVal->aC A->Option (Out A)
def zK(h:aC A):Nat->List Nat->List Nat->List Nat
 | 0,_,acc=>acc
 | _+1,[],acc=>acc
 | d+1,l::todo,acc=>cond (acc.elem l) (zK h d todo acc) (match aL h l with
   | some e=>zK h d (e.labels++todo) (acc++ [l])
   | none=>zK h d todo (acc++ [l]))
def foot(args:List AVal)(h:aC A):List Nat:=zK h 5000 (aKw args) []
def mL(pl:List Nat)(h:aC A):List Nat->Option (aC A)
 | []=>some []
 | l::ls=>match aL h l,mL pl h ls with
   | some e,some g=>cond (e.within pl) (some (some (e.ren (inv pl))::g)) none
   | _,_=>none
def MP(ι:Nat->Nat):List Nat->aC A->aC A->aC A
 | l::il,e::g,h=>MP ι il g (h.set l (e.map (aG.ren ι)))
 | [],[],h=>h
 | _,g,h=>h++g.map (Option.map (aG.ren ι))
theorem JF(ι:Nat->Nat): ∀(il:List Nat) (g h:aC A),il.length<=g.length->MP ι il g h=iK il ((g.take il.length).map (Option.map (aG.ren ι))) h++(g.drop il.length).map (Option.map (aG.ren ι))
 | [],[],h,_=>by simp [MP,iK]
 | [],e::g,h,_=>by simp [MP,iK]
 | l::il,[],h,hl=>by simp at hl
 | l::il,e::g,h,hl=>by
   simp only [MP,List.length_cons,List.take_succ_cons,List.drop_succ_cons,List.map_cons];rw [JF ι il g _ (by simpa using hl)]
   rfl
def mW(F:aH A):wS A:=fun args h K=>
 let il:=foot args h
 cK (dO il h.length&&aKb il args) <|
 match mL il h il with
 | none=>False
 | some h0=>match F (aKg (inv il) args) h0 with
   | none=>False
   | some o=>o.run fun v g=>cK (Nat.ble il.length g.length) (K (v.ren (iota il h.length)) (MP (iota il h.length) il g h))
theorem gY{pl:List Nat}{h:aC A} : ∀ {ls:List Nat} {g:aC A},mL pl h ls=some g->g.length=ls.length/\ ∀(i l:Nat),ls[i]? =some l-> ∃e,aL h l=some e/\e.within pl=true/\aL g i=some (e.ren (inv pl))
 | [],g,h=>by simp [mL]at h;subst h;simp
 | l::ls,g,h=>by
   simp only [mL]at h;split at h
   ·rename_i e g' h1 h2;cases hw:e.within pl with
    | false=>rw [hw]at h;cases h
    | true=>
      rw [hw]at h;simp only [cond_true,sI']at h;subst h;obtain⟨q1,q2⟩:=gY h2;refine⟨by simp [q1],?_⟩
      intro i l' hi;cases i with
      | zero=>simp at hi;subst hi;exact⟨e,h1,hw,rfl⟩
      | succ i=>
        simp at hi;obtain⟨e',a1,a2,a3⟩:=q2 i l' hi;exact⟨e',a1,a2,by simpa [aL]using a3⟩
   ·cases h
theorem kB{il:List Nat}{n l:Nat}(h:il.elem l=true):iota il n (inv il l)=l:=by
 have:=kR (n:=n) h;unfold lab at this;unfold iota;cases hq:il[inv il l]? with
 | some m=>rw [hq]at this;exact this
 | none=>
   exfalso;have hm:l∈il:=List.elem_iff.1 h
   have: ∀(pl:List Nat),l∈pl->pl[inv pl l]? =some l:=by
    intro pl
    induction pl with
    | nil=>intro h;cases h
    | cons m pl ih=>
      intro hm;unfold inv
      by_cases e:m=l
      ·rw [if_pos e];simp [e]
      ·rw [if_neg e,List.getElem?_cons_succ];rcases List.mem_cons.1 hm with h | h
       ·exact(e h.symm).elim
       ·exact ih h
   rw [this il hm]at hq;cases hq
mutual
theorem aKV{pl:List Nat}{n:Nat} : ∀(v:AVal),v.within pl=true->(v.ren (inv pl)).ren (iota pl n)=v
 | .bool _,_=>rfl
 | .int _ _,_=>rfl
 | .str _,_=>rfl
 | .ptr l off,h=>by simp only [AVal.ren];rw [kB h]
 | .slice l off len sz,h=>by simp only [AVal.ren];rw [kB h]
 | .map l,h=>by simp only [AVal.ren];rw [kB h]
 | .func fn f c,h=>by
   simp only [AVal.within,Bool.and_eq_true]at h;simp only [AVal.ren];rw [aKr f h.1,aKr c h.2]
 | .iface t a,h=>by simp only [AVal.ren];rw [aKV a h]
 | .agg as,h=>by simp only [AVal.ren];rw [aKr as h]
 | .tup as,h=>by simp only [AVal.ren];rw [aKr as h]
 | .raw _,_=>rfl
 | .any,_=>rfl
 | .O,_=>rfl
 | .iview _ _,_=>rfl
 | .view _ _ _,_=>rfl
 | .cptr _,_=>rfl
 | .tslice l r n w,h=>by simp only [AVal.ren];rw [kB h]
 | .tptr l r w j,h=>by simp only [AVal.ren];rw [kB h]
 | .empty,_=>rfl
theorem aKr{pl:List Nat}{n:Nat} : ∀(v:List AVal),aKb pl v=true->aKg (iota pl n) (aKg (inv pl) v)=v
 | [],_=>rfl
 | a::as,h=>by
   simp only [aKb,Bool.and_eq_true]at h;simp only [aKg];rw [aKV a h.1,aKr as h.2]
end
theorem uG{pl:List Nat}{n:Nat} : ∀(ps:List Nat),mI pl ps=true->(ps.map (inv pl)).map (iota pl n)=ps
 | [],_=>rfl
 | p::ps,h=>by
   simp only [mI,Bool.and_eq_true]at h;simp only [List.map_cons];rw [kB h.1,uG ps h.2]
theorem aKI{pl:List Nat}{n:Nat}(e:aG A)(h:e.within pl=true):(e.ren (inv pl)).ren (iota pl n)=e:=by
 cases e with
 | cells vs=>simp only [aG.ren];rw [aKr vs h]
 | ints c xs=>rfl
 | abs t ps=>simp only [aG.ren];rw [uG ps h]
 | tab ks rows=>rfl
 | imap kk vc m=>rfl
 | iter lm kk vc m left cur=>simp only [aG.ren];rw [kB h]
section
variable {P:Program} {I:Itp A}
def aH.ok(I:Itp A)(P:Program)(f:FuncId)(F:aH A):Prop:=
 ∀args h o,F args h=some o-> ∀K,o.run K->aA I P f args h K
def pZ(cs:List (Place×f5))(F:aH A):aH A:=fun args h=>match f7 cs args h with
 | some (a,g)=>F a g
 | none=>none
theorem sJ{f:FuncId}{cs:List (Place×f5)}{F:aH A}(hF:aH.ok I P f F):aH.ok I P f (pZ cs F):=by
 intro args h o ho K hK;unfold pZ at ho;split at ho
 ·rename_i a g hc;intro V hR w args' hi hf hr;obtain⟨V',⟨v1,v2,v3,v4⟩,v5⟩:=eR hc hi hf hr;refine(hF a g o ho K hK V' hR w args' v4 v2 v5).mono ?_;rintro e w' ⟨v,v',V'',h',k1,k2,k3,k4,k5,k6,k7,k8⟩;exact⟨v,v',V'',h',k1,k2,k3,Val.le_trans v1 k4,k5,Nat.le_trans v3 k6,k7,k8⟩
 ·cases ho
theorem jJ{f:FuncId}{F:aH A}(hF:aH.ok I P f F):wS.ok I P f (mW F):=by
 intro args h K hS;unfold mW at hS;obtain⟨hg,hS⟩:=bM.1 hS;obtain⟨hg1,hg2⟩:=Bool.and_eq_true_iff.1 hg;split at hS
 ·exact hS.elim
 ·rename_i h0 ht;split at hS
  ·exact hS.elim
  ·rename_i o ho;obtain⟨hnd,hlt⟩:=fU hg1;obtain⟨hlen,hent⟩:=gY ht;refine aKH (hF _ _ _ ho _ hS) (foot args h) hlen.symm hnd hlt ?_ ?_ ?_
   ·intro i l hi;obtain⟨e,e1,e2,e3⟩:=hent i l hi;rw [e1,e3];simp only [Option.map_some];rw [aKI e e2]
   ·exact(aKr args hg2).symm
   ·intro v g hK hl;obtain⟨hb,hK⟩:=bM.1 hK;rw [JF _ _ _ _ (Nat.le_of_ble_eq_true hb)]at hK;exact hK
end
end Go.Sh
namespace Go.Sh
open Go
variable [Con] {A:Type}
mutual
theorem aKB{V V':Val}{pl:List Nat}(hV: ∀l,pl.elem l=true->V l=V' l): ∀(a:AVal) (v:Value),a.within pl=true->Rep V a v->Rep V' a v
 | .bool _,_,_,r=>r
 | .int _ _,_,_,r=>r
 | .str _,_,_,r=>r
 | .ptr l off,_,h,⟨b,k,hl,hv⟩=>⟨b,k,by rw [<-hV l h];exact hl,hv⟩
 | .slice l off len sz,_,h,⟨base,cap,hv,hc,r⟩=>⟨base,cap,hv,hc,r.imp (fun⟨b,k,hl,e⟩=>⟨b,k,by rw [<-hV l h];exact hl,e⟩) id⟩
 | .map l,_,h,⟨b,k,hl,hv⟩=>⟨b,k,by rw [<-hV l h];exact hl,hv⟩
 | .func _ f c,_,h,⟨fs,cs,hv,r,s⟩=>by
   simp only [AVal.within,Bool.and_eq_true]at h;exact⟨fs,cs,hv,aKq hV f _ h.1 r,aKq hV c _ h.2 s⟩
 | .iface _ a,_,h,⟨x,hv,r⟩=>⟨x,hv,aKB hV a _ h r⟩
 | .agg as,_,h,⟨cs,hv,r⟩=>⟨cs,hv,aKq hV as _ h r⟩
 | .tup as,_,h,⟨cs,hv,r⟩=>⟨cs,hv,aKq hV as _ h r⟩
 | .raw _,_,_,r=>r
 | .any,_,_,r=>r
 | .O,_,_,r=>r
 | .iview _ _,_,_,r=>r
 | .view _ _ _,_,_,r=>r
 | .cptr _,_,_,r=>r
 | .tslice l _ _ _,_,h,⟨base,cap,hv,hc,r⟩=>⟨base,cap,hv,hc,r.imp (fun⟨b,k,hl,e⟩=>⟨b,k,by rw [<-hV l h];exact hl,e⟩) id⟩
 | .tptr l _ _ _,_,h,⟨b,k,hl,hv⟩=>⟨b,k,by rw [<-hV l h];exact hl,hv⟩
 | .empty,_,_,r=>r
theorem aKq{V V':Val}{pl:List Nat}(hV: ∀l,pl.elem l=true->V l=V' l): ∀(a:List AVal) (v:List Value),aKb pl a=true->aI V a v->aI V' a v
 | [],_,_,r=>r
 | a::as,_,h,⟨v,vs,e,r,s⟩=>by
   simp only [aKb,Bool.and_eq_true]at h;exact⟨v,vs,e,aKB hV a v h.1 r,aKq hV as vs h.2 s⟩
end
section
variable {P:Program} {I:Itp A}
theorem rH{pl:List Nat} : ∀ {ps:List Nat},mI pl ps=true-> ∀m∈ps,pl.elem m=true
 | [],_,_,hm=>by cases hm
 | p::ps,h,m,hm=>by
   simp only [mI,Bool.and_eq_true]at h;rcases List.mem_cons.1 hm with rfl | hm
   ·exact h.1
   ·exact rH h.2 m hm
theorem aK6{V V':Val}{pl:List Nat}(hV: ∀l,pl.elem l=true->V l=V' l){h:bH A}{hR:PHeap}{w:World}(hin: ∀l e,h l=some e->pl.elem l=true/\e.within pl=true)(hi:Inv I V h hR w):Inv I V' h hR w:=by
 obtain⟨hs,h1,h2,h3,h4,h5,h6⟩:=hi;refine⟨hs,?_,h2,h3,h4,h5,h6⟩;intro l e he;obtain⟨q1,q2⟩:=hin l e he;have hi:=h1 l e he;cases e with
 | cells vs=>
   obtain⟨b,k,hl,cs,T,e1,e2,rs,tail,e3,r⟩:=hi;exact⟨b,k,by rw [<-hV l q1];exact hl,cs,T,e1,e2,rs,tail,e3,aKq hV _ _ q2 r⟩
 | ints c xs=>
   rcases hi with⟨e1,e2,b,hl⟩ | ⟨b,k,hl,r⟩
   ·exact .inl ⟨e1,e2,b,by rw [<-hV l q1];exact hl⟩
   ·exact .inr ⟨b,k,by rw [<-hV l q1];exact hl,r⟩
 | abs t ps=>
   obtain⟨b,k,hl,bs,hb,r⟩:=hi;exact⟨b,k,by rw [<-hV l q1];exact hl,bs,fQ.congr (fun m hm=>hV m (rH q2 m hm)) hb,r⟩
 | tab ks rows=>
   rcases hi with⟨e1,e2,b,hl⟩ | ⟨b,k,hl,r⟩
   ·exact .inl ⟨e1,e2,b,by rw [<-hV l q1];exact hl⟩
   ·exact .inr ⟨b,k,by rw [<-hV l q1];exact hl,r⟩
 | imap kk vc m=>
   obtain⟨b,k,hl,r⟩:=hi;exact⟨b,k,by rw [<-hV l q1];exact hl,r⟩
 | iter lm kk vc m left cur=>
   obtain⟨b,k,hl,bm,km,hm,r⟩:=hi;exact⟨b,k,by rw [<-hV l q1];exact hl,bm,km,by rw [<-hV lm q2];exact hm,r⟩
theorem Inv.dom{V:Val}{h:bH A}{hR:PHeap}{w:World}(hi:Inv I V h hR w){l:Nat}{e:aG A}(he:h l=some e): ∃x,V l=some x:=by
 obtain⟨hs,h1,_⟩:=hi;have:=h1 l e he;cases e with
 | cells vs=>obtain⟨b,k,hl,_⟩:=this;exact⟨_,hl⟩
 | ints c xs=>
   rcases this with⟨_,_,b,hl⟩ | ⟨b,k,hl,_⟩
   ·exact⟨_,hl⟩
   ·exact⟨_,hl⟩
 | abs t ps=>obtain⟨b,k,hl,_⟩:=this;exact⟨_,hl⟩
 | tab ks rows=>
   rcases this with⟨_,_,b,hl⟩ | ⟨b,k,hl,_⟩
   ·exact⟨_,hl⟩
   ·exact⟨_,hl⟩
 | imap kk vc m=>obtain⟨b,k,hl,_⟩:=this;exact⟨_,hl⟩
 | iter lm kk vc m left cur=>obtain⟨b,k,hl,_⟩:=this;exact⟨_,hl⟩
def Out.det:Out A->Option (Option Prop×AVal×aC A)
 | .ret v g=>some (none,v,g)
 | .pre p o=>match o.det with
   | some (q,v,g)=>some (some (p/\onp q),v,g)
   | none=>none
 | _=>none
theorem aK4{K:AVal->aC A->Prop} : ∀ {o:Out A} {q:Option Prop} {v:AVal} {g:aC A},o.det=some (q,v,g)->onp q->K v g->o.run K
 | .ret v g,q,v',g',h,_,hk=>by
   simp only [Out.det,sI',pI']at h;obtain⟨_,rfl,rfl⟩:=h;exact hk
 | .pre p o,q,v',g',h,hq,hk=>by
   simp only [Out.det]at h;split at h
   ·rename_i q' v2 g2 hd;simp only [sI',pI']at h;obtain⟨rfl,rfl,rfl⟩:=h;exact⟨hq.1,aK4 hd hq.2 hk⟩
   ·cases h
 | .ite _ _ _,_,_,_,h,_,_=>by simp [Out.det]at h
 | .all _ _ _,_,_,_,h,_,_=>by simp [Out.det]at h
def gZ:aC A->Option (List (aG A))
 | []=>some []
 | some e::h=>(gZ h).map (e:: ·)
 | none::_=>none
theorem uH: ∀ {h:aC A} {l:List (aG A)},gZ h=some l->h=l.map some
 | [],l,e=>by simp [gZ]at e;subst e;rfl
 | some x::h,l,e=>by
   simp only [gZ]at e;cases hq:gZ h with
   | none=>rw [hq]at e;cases e
   | some l'=>rw [hq]at e;simp at e;subst e;simp [uH hq]
 | none::h,l,e=>by simp [gZ]at e
def dR(n:Nat)(g:aC A):Bool:=g.all fun e=>match e with
 | some e=>e.within (upto 0 n)
 | none=>true
def oK(ι:Nat->Nat):List Nat->aC A->List (Nat×Option (aG A))
 | l::il,e::g=>(l,e.map (aG.ren ι))::oK ι il g
 | _,_=>[]
theorem x9(ι:Nat->Nat): ∀(il:List Nat) (g h:aC A),hupd h (oK ι il g)=iK il ((g.take il.length).map (Option.map (aG.ren ι))) h
 | [],_,h=>rfl
 | l::il,[],h=>rfl
 | l::il,e::g,h=>by
   simp only [oK,List.length_cons,List.take_succ_cons,List.map_cons];show hupd (h.set l _) (oK ι il g)=iK il _ (h.set l _);exact x9 ι il g _
def o9(F:aH A):mP A:=fun args h=>
 let il:=foot args h
 if (dO il h.length&&aKb il args)=true then
  match mL il h il with
  | none=>none
  | some h0=>match F (aKg (inv il) args) h0 with
    | none=>none
    | some o=>match o.det with
      | none=>none
      | some (q,v,g)=>
        match gZ (g.drop il.length)with
        | none=>none
        | some new=>
          if (Nat.ble il.length g.length&&v.within (upto 0 g.length)&&dR g.length g)=true then
           some {v:=v.ren (iota il h.length),upd:=oK (iota il h.length) il g,new:=new.map (aG.ren (iota il h.length)),foot:=il,need:=q}
          else none
 else none
theorem nU: ∀(n i l:Nat),(upto i n).elem l=true↔i<=l/\l<i+n
 | 0,i,l=>by simp only [upto,List.elem_eq_mem,List.not_mem_nil,decide_false];constructor
             ·intro h;cases h
             ·intro h;omega
 | n+1,i,l=>by
   simp only [upto,List.elem_eq_mem,List.mem_cons,dT'];have:=nU n (i+1) l;simp only [List.elem_eq_mem,dT']at this;rw [this];omega
theorem rM{f:FuncId}{F:aH A}(hF:aH.ok I P f F):mP.ok I P f (o9 F):=by
 intro args h r hS hob V hR w args' hi hf hr;unfold o9 at hS;simp only at hS;split at hS
 case isFalse=>cases hS
 rename_i hg;obtain⟨hg1,hg2⟩:=Bool.and_eq_true_iff.1 hg;split at hS
 ·cases hS
 rename_i h0 ht;split at hS
 ·cases hS
 rename_i o ho;split at hS
 ·cases hS
 rename_i q v0 g0 hdet;split at hS
 ·cases hS
 rename_i new hnew;split at hS
 case isFalse=>cases hS
 rename_i hchk;obtain⟨hchk1,hw2⟩:=Bool.and_eq_true_iff.1 hchk;obtain⟨hle0,hw1⟩:=Bool.and_eq_true_iff.1 hchk1;have hkle:=Nat.le_of_ble_eq_true hle0;simp only [sI']at hS;subst hS;generalize hil:foot args h=il at*;have hob':onp q:=hob;have hgd:=uH hnew;obtain⟨hnd,hlt⟩:=fU hg1;obtain⟨hlen,hent⟩:=gY ht;have hinj:=CN (n:=h.length) hnd hlt
 have hnl:new.length=g0.length - il.length:=by
  have:=congrArg List.length hgd
  simpa using this.symm
 have hf':i5 V h.length (g0.length - il.length):=by
  have:(new.map (aG.ren (iota il h.length))).length =g0.length - il.length:=by rw [List.length_map,hnl]
  have hf2:i5 V h.length (new.map (aG.ren (iota il h.length))).length :=hf;rw [this]at hf2;exact hf2
 have lt_of: ∀ {i a},il[i]? =some a->i<il.length:=by
  intro i a hi;cases Nat.lt_or_ge i il.length with
  | inl g=>exact g
  | inr g=>rw [List.getElem?_eq_none g]at hi;cases hi
 classical
 obtain⟨hR',hin,hcont⟩:=hi.split (fun l=>decide (l∈il))
 let Vr:Val:=fun l=>if l∈il then V l else none
 have hVr: ∀l,il.elem l=true->V l=Vr l:=by
  intro l hl;show V l=if l∈il then V l else none
  rw [if_pos (List.elem_iff.1 hl)]
 have hin2:Inv I Vr (fun l=>if (fun l=>decide (l∈il)) l then toF h l else none) hR' w:=by
  refine aK6 hVr ?_ hin;intro l e he
  by_cases hl:l∈il
  ·rw [if_pos (by simpa using hl)]at he
   obtain⟨i,hi',hge⟩:=List.getElem_of_mem hl;obtain⟨e',a1,a2,_⟩:=hent i l (by rw [gE' hi',hge])
   have he':aL h l=some e:=he;rw [a1]at he';cases he';exact⟨List.elem_iff.2 hl,a2⟩
  ·rw [if_neg (by simpa using hl)]at he;cases he
 have hV0:Inv I (fun i=>Vr (iota il h.length i)) (toF h0) hR' w:=by
  refine(aKz hinj ?_ ?_).1 hin2
  ·intro i;cases hii:il[i]? with
   | some l=>
     have e1:iota il h.length i=l:=jN hii;obtain⟨e,a1,a2,a3⟩:=hent i l hii;rw [e1,if_pos (by simpa using List.mem_of_getElem? hii)]
     show aL h l=(aL h0 i).map _;rw [a1,a3];simp only [Option.map_some];rw [aKI e a2]
   | none=>
     have e1:=gU (n:=h.length) hii;have hge:=List.getElem?_eq_none_iff.1 hii;rw [e1,if_neg (by simp;intro hm;have:=hlt _ hm;omega)]
     have:toF h0 i=none:=cA (by omega)
     rw [this];rfl
  ·intro m hm;rw [if_neg];simp only [dT'];intro hmem;obtain⟨i,hilt,he⟩:=List.getElem_of_mem hmem;refine hm i ?_;rw [jN (by rw [gE' hilt,he])]
 have hf0:bU (fun i=>Vr (iota il h.length i)) h0.length:=by
  intro i hi;show Vr (iota il h.length i)=none;have:il[i]? =none:=List.getElem?_eq_none (by omega)
  rw [gU this];show(if _∈il then _ else none)=none
  rw [if_neg];intro hm;have:=hlt _ hm;omega
 have hr0:aI (fun i=>Vr (iota il h.length i)) (aKg (inv il) args) args'.toList:=by
  refine(aI.ren _ _).1 ?_;rw [aKr args hg2];exact aKq hVr _ _ hg2 hr
 refine(hF _ _ _ ho (fun v g=>v=v0/\g=g0) (aK4 hdet hob' ⟨rfl,rfl⟩) _ hR' w args' hV0 hf0 hr0).mono ?_;rintro e w' ⟨v,v',V',g,⟨rfl,rfl⟩,k2,k3,k4,k5,k6,k7,k8⟩
 let V1:Val:=fun m=>if h.length<=m/\m<h.length+(g.length - il.length)then V' (il.length+(m - h.length))else V m
 have hle:V.le V1:=by
  intro m x hm;show(if _ then _ else _)=some x
  by_cases hc:h.length<=m/\m<h.length+(g.length - il.length)
  ·rw [hf' m hc.1 hc.2]at hm;cases hm
  ·rw [if_neg hc];exact hm
 have hV1: ∀i,i<g.length->V1 (iota il h.length i)=V' i:=by
  intro i hig;cases hii:il[i]? with
  | some l=>
    have e1:iota il h.length i=l:=jN hii;have hl:=hlt l (List.mem_of_getElem? hii);obtain⟨e,a1,_,_⟩:=hent i l hii;obtain⟨x,hx⟩:=hi.dom (l:=l) a1
    have hxr:Vr (iota il h.length i)=some x:=by
     rw [e1];show(if l∈il then V l else none)=some x
     rw [if_pos (List.mem_of_getElem? hii)];exact hx
    rw [k4 i x hxr,e1];show(if _ then _ else _)=some x
    rw [if_neg (by omega)];exact hx
  | none=>
    have hge:=List.getElem?_eq_none_iff.1 hii;rw [gU hii];show(if _ then _ else _)=_
    rw [if_pos (by omega)]
    congr 1;omega
 have hag: ∀l,(upto 0 g.length).elem l=true->V' l=(fun i=>V1 (iota il h.length i)) l:=by
  intro l hl;have:=(nU _ _ _).1 hl;exact(hV1 l (by omega)).symm
 have hg7:Inv I (fun i=>V1 (iota il h.length i)) (toF g) hR' w':=by
  refine aK6 hag ?_ k7;intro l e he;have hll:l<g.length:=cB (h:=g) he;refine⟨(nU _ _ _).2 (by omega),?_⟩
  unfold dR at hw2;rw [List.all_eq_true]at hw2;have he':aL g l=some e:=he;unfold aL at he';rw [gD',gE' hll]at he';have:=hw2 g[l] (List.getElem_mem hll);have he2:g[l]=some e:=he';rw [he2]at this;exact this
 let G:bH A:=fun m=>if h.length<=m then(aL g (il.length+(m - h.length))).map (aG.ren (iota il h.length))else if hm: ∃i:Nat,il[i]? =some m then(aL g (Classical.choose hm)).map (aG.ren (iota il h.length))else none
 have hG: ∀i,G (iota il h.length i)=(toF g i).map (aG.ren (iota il h.length)):=by
  intro i;cases hii:il[i]? with
  | some l=>
    have e1:iota il h.length i=l:=jN hii;have hl:=hlt l (List.mem_of_getElem? hii);have hm: ∃i:Nat,il[i]? =some l:=⟨i,hii⟩;show(if h.length<=iota il h.length i then _ else _)=_
    rw [e1,if_neg (by omega),dif_pos hm]
    have hc:=Classical.choose_spec hm;have:=(List.getElem?_inj (lt_of hc) hnd).1 (hc.trans hii.symm);rw [this];rfl
  | none=>
    have e1:=gU (n:=h.length) hii;have hge:=List.getElem?_eq_none_iff.1 hii;show(if h.length<=iota il h.length i then _ else _)=_
    rw [e1,if_pos (by omega),show il.length+(h.length+(i - il.length) - h.length)=i from by omega]
    rfl
 have hGz: ∀m,(∀l,iota il h.length l≠m)->G m=none:=by
  intro m hm;show(if h.length<=m then _ else _)=none
  by_cases hge:h.length<=m
  ·refine(hm (il.length+(m - h.length)) ?_).elim;rw [gU (List.getElem?_eq_none (by omega))]
   omega
  ·rw [if_neg hge,dif_neg];rintro⟨i,hi⟩;exact hm i (jN hi)
 have hGinv:Inv I V1 G hR' w':=(aKz hinj hG hGz).2 hg7
 have hfin:=hcont V1 G w' hle hGinv (by
  intro l hl hne;have hl':l∉il:=by simpa using hl
  have hlt':l<h.length:=by
   cases Nat.lt_or_ge l h.length with
   | inl g=>exact g
   | inr g=>exact(hne (cA g)).elim
  show(if h.length<=l then _ else _)=none
  rw [if_neg (by omega),dif_neg]
  rintro⟨i,hi⟩;exact hl' (List.mem_of_getElem? hi))
 have htk:((g.take il.length).map (Option.map (aG.ren (iota il h.length)))).length =il.length:=by
  rw [List.length_map,List.length_take];omega
 generalize hap:ORes.apply (A:=A) {v:=v.ren (iota il h.length),upd:=oK (iota il h.length) il g,new:=new.map (aG.ren (iota il h.length)),foot:=il,need:=q} h=apl
 have happ:apl=iK il ((g.take il.length).map (Option.map (aG.ren (iota il h.length)))) h++(g.drop il.length).map (Option.map (aG.ren (iota il h.length))):=by
  rw [<-hap];show hupd h (oK (iota il h.length) il g)++(new.map (aG.ren (iota il h.length))).map some=_;rw [x9,hgd]
  simp
 have heq:(fun l=>if (fun l=>decide (l∈il)) l=false/\toF h l≠none then toF h l else G l)=toF apl:=by
  rw [happ];funext m;show _=aL (iK il ((g.take il.length).map (Option.map (aG.ren (iota il h.length)))) h++(g.drop il.length).map (Option.map (aG.ren (iota il h.length)))) m
  by_cases hge:h.length<=m
  ·have e0:toF h m=none:=cA hge;rw [if_neg (by rw [e0];simp)]
   show(if h.length<=m then _ else _)=_
   rw [if_pos hge];simp only [aL,gD'];rw [List.getElem?_append_right (by rw [dQ];exact hge),dQ,List.getElem?_map,List.getElem?_drop]
   cases hq:g[il.length+(m - h.length)]? with
   | none=>rfl
   | some x=>rfl
  ·have hlt':m<h.length:=by omega
   rw [cE (by rw [dQ];exact hlt')]
   by_cases hmem:m∈il
   ·obtain⟨i,hilt,he⟩:=List.getElem_of_mem hmem;have hii:il[i]? =some m:=by rw [gE' hilt,he]
    rw [if_neg (by simp [hmem]),rS il _ h i m hnd hlt hii (by rw [htk];exact hilt)]
    have:=hG i;rw [jN hii]at this;rw [this,gD',List.getElem?_map,List.getElem?_take,if_pos hilt];show Option.map _ (aL g i)=_;simp only [aL,gD'];cases g[i]? <;>rfl
   ·rw [kQ il _ h m hmem]
    by_cases hne:toF h m=none
    ·rw [if_neg (by simp [hne])]
     show(if h.length<=m then _ else _)=_
     rw [if_neg hge,dif_neg]
     ·exact hne.symm
     ·rintro⟨i,hi⟩;exact hmem (List.mem_of_getElem? hi)
    ·rw [if_pos ⟨by simp [hmem],hne⟩];rfl
 rw [heq]at hfin;refine⟨v',V1,k2,?_,hle,?_,hfin,k8⟩
 ·refine(Rep.ren v v').2 ?_;exact aKB hag _ _ hw1 k3
 ·intro l e1 e2;show h.length<=l/\l<h.length+(new.map (aG.ren (iota il h.length))).length;rw [List.length_map,hnl]
  by_cases hc:h.length<=l/\l<h.length+(g.length - il.length)
  ·exact hc
  ·exfalso;apply e2;show(if _ then _ else _)=none
   rw [if_neg hc];exact e1
def Env.addS(E:Env A P)(f:FuncId)(F:aH A)(h:aH.ok E.I P f F):Env A P where
 I:=E.I
 cps:=fun g=>if g=f then some (mW F)else E.cps g
 det:=fun g=>if g=f then some (o9 F)else E.det g
 meth:=E.meth
 cpsOk:=by
  intro g T hg
  by_cases e:g=f
  ·rw [if_pos e]at hg;cases hg;rw [e];exact jJ h
  ·rw [if_neg e]at hg;exact E.cpsOk g T hg
 detOk:=by
  intro g T hg
  by_cases e:g=f
  ·rw [if_pos e]at hg;cases hg;rw [e];exact rM h
  ·rw [if_neg e]at hg;exact E.detOk g T hg
 methOk:=E.methOk
 row:=E.row
 rowOk:=E.rowOk
 fld:=E.fld
 fldOk:=E.fldOk
end
end Go.Sh
namespace Go.Sh
open Go
def F8(P:Program)(t:TypeId)(name:String):Option FuncId:=
 match P.info? t,P.underlying t with
 | some i,some (.pointer _)=>match i.methods.toList.find? (·.name == name)with
   | some m=>match m.path.toList,m.func with
     | [],some (f,true)=>some f
     | _,_=>none
   | none=>none
 | _,_=>none
theorem F9{P:Program}{t:TypeId}{name:String}{f:FuncId}(h:F8 P t name=some f)(v:Value)(w:World):(method (P.types.size+Made.depth) t v name).run P w=.ok (f,v) w:=by
 unfold F8 at h;split at h
 ·rename_i i e hi hu;split at h
  ·rename_i m hm;split at h
   ·rename_i f' hp hf;simp only [sI']at h;subst h;rw [Array.find?_toList]at hm
    have hd:P.types.size+Made.depth=(P.types.size+(Made.depth - 1))+1:=by
     have:Made.depth≠0:=by decide
     omega
    rw [hd];unfold method;have hti:(typeInfo t).run P w=.ok i w:=by simp [typeInfo,hi]
    simp only [Sem.run_bind,hti,Result.andThen_ok,hm,hp,follow,Sem.run_pure,hf,receiverAt,underlying,run_program,hu,Go.Place.get]
   ·cases h
  ·cases h
 ·cases h
end Go.Sh
namespace Go.Sh
open Go
variable [Con] {A:Type}
abbrev bE(A:Type):=List AVal->aC A->Option (Prop×AVal)
def bE.spec(F:bE A):aH A:=fun args h=>match F args h with
 | some (p,v)=>some (.pre p (.ret v h))
 | none=>none
def FE(F:bE A):mP A:=fun args h=>
 let il:=foot args h
 if (dO il h.length&&aKb il args)=true then
  match mL il h il with
  | none=>none
  | some h0=>match F (aKg (inv il) args) h0 with
    | none=>none
    | some (p,v)=>
      if (v.within (upto 0 il.length))=true then
       some {v:=v.ren (iota il h.length),upd:=[],new:=[],foot:=il,need:=some p}
      else none
 else none
theorem zR(pl:List Nat)(h:aC A): ∀(ls:List Nat) (g:aC A),mL pl h ls=some g-> ∀(i:Nat) (e:aG A),aL g i=some e-> ∃e' l,e=aG.ren (inv pl) e'/\e'.within pl=true/\ls[i]? =some l/\aL h l=some e'
 | ls,g,ht,i,e,he=>by
   obtain⟨q1,q2⟩:=gY ht;have hlt:=cB he;have:ls[i]? =some (ls[i]'(by omega)):=gE' (by omega)
   obtain⟨e',a1,a2,a3⟩:=q2 i _ this;rw [he]at a3;exact⟨e',_,by simpa using a3,a2,this,a1⟩
theorem rZ{h:aC A}{il pl:List Nat}(n:Nat): ∀ {ls:List Nat} {g:aC A},mL il h ls=some g->hupd h (oK (iota il n) ls g)=h
 | [],g,ht=>by cases g<;>rfl
 | l::ls,g,ht=>by
   simp only [mL]at ht;split at ht
   ·rename_i e g' h1 h2;cases hw:e.within il with
    | false=>rw [hw]at ht;cases ht
    | true=>
      rw [hw]at ht;simp only [cond_true,sI']at ht;subst ht;show hupd (h.set l ((some (e.ren (inv il))).map (aG.ren (iota il n)))) (oK (iota il n) ls g')=h
      have:h.set l ((some (e.ren (inv il))).map (aG.ren (iota il n)))=h:=by
       simp only [Option.map_some];rw [aKI e hw,<-h1];apply List.ext_getElem?;intro i
       by_cases hi:l=i
       ·subst hi;have hl:=cB (h:=h) h1;rw [List.getElem?_set_self hl,gE' hl];simp [aL,gD',gE' hl]
       ·rw [List.getElem?_set_ne hi]
      rw [this];exact rZ (pl:=pl) n h2
   ·cases ht
theorem AG:gZ ([]:aC A)=some []:=rfl
section
variable {P:Program} {I:Itp A}
theorem pH{pl:List Nat}{l:Nat}(h:pl.elem l=true):(upto 0 pl.length).elem (inv pl l)=true:=by
 rw [nU];refine⟨Nat.zero_le _,?_⟩;rw [Nat.zero_add];have hm:l∈pl:=List.elem_iff.1 h;clear h
 induction pl with
 | nil=>cases hm
 | cons m pl ih=>
   unfold inv
   by_cases e:m=l
   ·rw [if_pos e];simp
   ·rw [if_neg e];rcases List.mem_cons.1 hm with h | h
    ·exact(e h.symm).elim
    ·have:=ih h;simp;omega
mutual
theorem aKQ{pl:List Nat} : ∀(v:AVal),v.within pl=true->(v.ren (inv pl)).within (upto 0 pl.length)=true
 | .bool _,_=>rfl
 | .int _ _,_=>rfl
 | .str _,_=>rfl
 | .ptr l off,h=>pH (pl:=pl) h
 | .slice l off len sz,h=>pH (pl:=pl) h
 | .map l,h=>pH (pl:=pl) h
 | .func fn f c,h=>by
   simp only [AVal.within,Bool.and_eq_true]at h;simp only [AVal.ren,AVal.within,Bool.and_eq_true];exact⟨aKu f h.1,aKu c h.2⟩
 | .iface t a,h=>aKQ a h
 | .agg as,h=>aKu as h
 | .tup as,h=>aKu as h
 | .raw _,_=>rfl
 | .any,_=>rfl
 | .O,_=>rfl
 | .iview _ _,_=>rfl
 | .view _ _ _,_=>rfl
 | .cptr _,_=>rfl
 | .tslice l r n w,h=>pH (pl:=pl) h
 | .tptr l r w j,h=>pH (pl:=pl) h
 | .empty,_=>rfl
theorem aKu{pl:List Nat} : ∀(v:List AVal),aKb pl v=true->aKb (upto 0 pl.length) (aKg (inv pl) v)=true
 | [],_=>rfl
 | a::as,h=>by
   simp only [aKb,Bool.and_eq_true]at h;simp only [aKg,aKb,Bool.and_eq_true];exact⟨aKQ a h.1,aKu as h.2⟩
end
theorem wY{pl:List Nat} : ∀(ps:List Nat),mI pl ps=true->mI (upto 0 pl.length) (ps.map (inv pl))=true
 | [],_=>rfl
 | p::ps,h=>by
   simp only [mI,Bool.and_eq_true]at h;simp only [List.map_cons,mI,Bool.and_eq_true];exact⟨pH h.1,wY ps h.2⟩
theorem aG.within_inv{pl:List Nat}(e:aG A)(h:e.within pl=true):(e.ren (inv pl)).within (upto 0 pl.length)=true:=by
 cases e with
 | cells vs=>exact aKu vs h
 | ints c xs=>rfl
 | abs t ps=>exact wY ps h
 | tab ks rows=>rfl
 | imap kk vc m=>rfl
 | iter lm kk vc m left cur=>exact pH h
theorem sD{il:List Nat}{h g:aC A}(ht:mL il h il=some g)(hnd:il.Nodup):dR g.length g=true:=by
 unfold dR;rw [List.all_eq_true];intro e he;cases e with
 | none=>rfl
 | some e=>
   obtain⟨i,hi,hge⟩:=List.getElem_of_mem he;have hx:aL g i=some e:=by simp [aL,gD',gE' hi,hge]
   obtain⟨e',l,a1,a2,_,_⟩:=zR il h il g ht i e hx;rw [a1,(gY ht).1];exact aG.within_inv e' a2
theorem J1{f:FuncId}{F:bE A}(hF:aH.ok I P f F.spec):mP.ok I P f (FE F):=by
 intro args h r hS hob V hR w args' hi hf hr
 have hD: ∃r',o9 F.spec args h=some r'/\r'.v=r.v/\r'.new=[]/\r.new=[]/\r.upd=[]/\hupd h r'.upd=h/\(r.obl->r'.obl):=by
  unfold FE at hS;simp only at hS;split at hS
  case isFalse=>cases hS
  rename_i hg;split at hS
  ·cases hS
  rename_i h0 ht;split at hS
  ·cases hS
  rename_i p v ho;split at hS
  case isFalse=>cases hS
  rename_i hv;simp only [sI']at hS;subst hS;obtain⟨hg1,hg2⟩:=Bool.and_eq_true_iff.1 hg;obtain⟨hnd,hlt⟩:=fU hg1;obtain⟨hlen,hent⟩:=gY ht;have hw:=sD ht hnd;refine⟨{v:=v.ren (iota (foot args h) h.length),upd:=oK (iota (foot args h) h.length) (foot args h) h0,new:=[],foot:=foot args h,need:=some (p/\True) },?_,rfl,rfl,rfl,rfl,rZ (pl:=[]) _ ht,fun hp=>⟨hp,trivial⟩⟩;unfold o9;simp only [hg,if_true,ht,bE.spec,ho,Out.det];rw [List.drop_eq_nil_of_le (by omega),AG]
  simp only;rw [hw,hlen,hv];simp [onp]
 obtain⟨r',e1,e2,e3,e4,e5,e6,e7⟩:=hD;have:=rM hF args h r' e1 (e7 hob) V hR w args' hi (by rw [e3];rw [e4]at hf;exact hf) hr
 refine this.mono ?_;rintro e w' ⟨v',V',k1,k2,k3,k4,k5,k6⟩;refine⟨v',V',k1,by rw [<-e2];exact k2,k3,by rw [e4];rw [e3]at k4;exact k4,?_,k6⟩
 have ha:r'.apply h=r.apply h:=by
  unfold ORes.apply;rw [e6,e3,e4,e5];rfl
 rw [<-ha];exact k5
def Env.addR(E:Env A P)(f:FuncId)(F:bE A)(h:aH.ok E.I P f F.spec):Env A P where
 I:=E.I
 cps:=fun g=>if g=f then some (mW F.spec)else E.cps g
 det:=fun g=>if g=f then some (FE F)else E.det g
 meth:=E.meth
 cpsOk:=by
  intro g T hg
  by_cases e:g=f
  ·rw [if_pos e]at hg;cases hg;rw [e];exact jJ h
  ·rw [if_neg e]at hg;exact E.cpsOk g T hg
 detOk:=by
  intro g T hg
  by_cases e:g=f
  ·rw [if_pos e]at hg;cases hg;rw [e];exact J1 h
  ·rw [if_neg e]at hg;exact E.detOk g T hg
 methOk:=E.methOk
 row:=E.row
 rowOk:=E.rowOk
 fld:=E.fld
 fldOk:=E.fldOk
end
end Go.Sh
namespace Go.Sh
open Go
inductive Shp where
 | code (c:Code1)
 | str
 | ints (c:Code1)
 | rows (r:List Shp)
mutual
def Den:Shp->Type
 | .code _=>Int
 | .str =>ByteArray
 | .ints _=>List Int
 | .rows r=>List (DenL r)
def DenL:List Shp->Type
 | []=>Unit
 | s::r=>Den s×DenL r
end
mutual
def dfl:(s:Shp)->Den s
 | .code _=>(0:Int)
 | .str =>ByteArray.empty
 | .ints _=>([]:List Int)
 | .rows r=>([]:List (DenL r))
def VT:(r:List Shp)->DenL r
 | []=>()
 | s::r=>(dfl s,VT r)
end
mutual
def toA:(s:Shp)->Den s->AVal
 | .code c,n=>Code1.aval c n
 | .str,s=>.str s
 | .ints c,xs=>.iview c xs
 | .rows r,xs=>.view (List.length (α:=DenL r) xs) r.length (fun i=>iX r (List.getD (α:=DenL r) xs i (VT r)))
def iX:(r:List Shp)->DenL r->List AVal
 | [],_=>[]
 | s::r,x=>toA s x.1::iX r x.2
end
def yN:Code1->Int->Prop
 | some k,n=>(Lit.int k n).wf =true
 | none,n=>n=0\/n=1
mutual
def okS:(s:Shp)->Den s->Prop
 | .code c,n=>yN c n
 | .str,s=>ByteArray.size s<=maxLen
 | .ints c,xs=>List.length (α:=Int) xs<=maxLen/\ ∀x:Int,List.Mem x xs->yN c x
 | .rows r,xs=>List.length (α:=DenL r) xs<=maxLen/\ ∀x:DenL r,List.Mem x xs->L9 r x
def L9:(r:List Shp)->DenL r->Prop
 | [],_=>True
 | s::r,x=>okS s x.1/\L9 r x.2
end
def jP(P:Program)(rec:TypeId->Option (List Shp)):Nat->List Field->Option (List Shp)
 | _,[]=>some []
 | off,f::fs=>match rec f.type with
   | some r=>if f.offset=off/\P.cellsOf f.type=r.length then(jP P rec (off+r.length) fs).map (r++ ·)else none
   | none=>none
def S0(P:Program):Nat->TypeId->Option (List Shp)
 | 0,_=>none
 | d+1,t=>match P.underlying t with
   | some .bool =>some [.code none]
   | some (.int k)=>some [.code (some k)]
   | some .string =>some [.str]
   | some (.slice e)=>match S0 P d e with
     | some [.code c]=>if P.cellsOf e=1 then some [.ints c]else none
     | some r=>if P.cellsOf e=r.length/\0<r.length then some [.rows r]else none
     | none=>none
   | some (.struct fs)=>match jP P (S0 P d) 0 fs.toList with
     | some r=>if P.cellsOf t=r.length then some r else none
     | none=>none
   | some (.array n e)=>match S0 P d e with
     | some r=>if P.cellsOf e=r.length/\P.cellsOf t=n*r.length then some ((List.replicate n r).flatten)else none
     | none=>none
   | _=>none
theorem tA: ∀(r:List Shp) (x:DenL r),(iX r x).length =r.length
 | [],_=>rfl
 | s::r,x=>by show(toA s x.1::iX r x.2).length =_;simp [tA r x.2]
def JX:(r q:List Shp)->DenL r->DenL q->DenL (r++q)
 | [],_,_,y=>y
 | _::r,q,x,y=>(x.1,JX r q x.2 y)
theorem v8: ∀(r q:List Shp) (x:DenL r) (y:DenL q),iX (r++q) (JX r q x y)=iX r x++iX q y
 | [],_,_,_=>rfl
 | s::r,q,x,y=>by
   show toA s x.1::iX (r++q) (JX r q x.2 y)=toA s x.1::(iX r x.2++iX q y);rw [v8 r q]
theorem zB: ∀(r q:List Shp) (x:DenL r) (y:DenL q),L9 r x->L9 q y->L9 (r++q) (JX r q x y)
 | [],_,_,_,_,h=>h
 | s::r,q,x,y,hx,hy=>⟨hx.1,zB r q x.2 y hx.2 hy⟩
theorem mZ{α:Type}{p:Nat->α->Prop} : ∀(n:Nat),(∀i,i<n-> ∃x,p i x)-> ∃l:List α,l.length=n/\ ∀i (h:i<l.length),p i l[i]
 | 0,_=>⟨[],rfl,fun i h=>by simp at h⟩
 | n+1,h=>by
   obtain⟨l,h1,h2⟩:=mZ n (fun i hi=>h i (by omega))
   obtain⟨x,hx⟩:=h n (by omega)
   refine⟨l++ [x],by simp [h1],?_⟩
   intro i hi
   by_cases hc:i<l.length
   ·rw [List.getElem_append_left hc];exact h2 i hc
   ·have:i=n:=by simp at hi;omega
    subst this;rw [List.getElem_append_right (by omega)]
    simpa [h1]using hx
section
variable {H:Type} {enc:TypeId×Value->H} {P:Program} {w:World}
theorem add_zero(a:Addr):a.add 0=a:=by simp [Addr.add]
theorem wW(a:Addr)(n:Nat):(a.add n).block =a.block:=by unfold Addr.add;split<;>rfl
theorem HS(a:Addr)(n:Nat):(a.add n).off =a.off+n:=by
 unfold Addr.add;split<;>simp_all
theorem qV{a:Addr}{n:Nat}{cs:List Value}(h:w.cells? 0 a n=some cs)(hn:0<n):
 ∃c T fz,a.spot=none/\w.heap[a.block]? =some (.cells c T fz)/\(c.toList.drop a.off).take n=cs:=by
 obtain⟨_,hl,hc⟩:=World.cells?_some h;have h0:=hc 0 hn;obtain⟨v0,hv0⟩: ∃v,cs[0]? =some v:=⟨cs[0],gE' (by omega)⟩
 rw [hv0]at h0;have ha0:a.add 0=a:=by simp [Addr.add]
 rw [ha0]at h0;have hs:=World.cell?_spot h0;obtain⟨b,off,sp⟩:=a;simp only at hs;subst hs;unfold World.cell? at h0;split at h0
 ·rename_i c T fz hb;refine⟨c,T,fz,rfl,hb,?_⟩;apply List.ext_getElem?;intro j;rw [List.getElem?_take]
  by_cases hj:j<n
  ·rw [if_pos hj,List.getElem?_drop,<-hc j hj,Addr.add_lit,Array.getElem?_toList];exact(cell_of_row w b (off+j) c T fz hb).symm
  ·rw [if_neg hj,List.getElem?_eq_none (by omega)]
 ·cases h0
theorem O0{V:Val} [Con]{r:List Shp}{x:DenL r}{c:Code1}{cs:List Value}(hr:r=[.code c])(h:aI V (iX r x) cs)(ho:L9 r x): ∃n,cs=[Code1.val c n]/\yN c n:=by
 subst hr;obtain⟨v,vs,rfl,h1,h2⟩:=h;have h2':vs=[]:=h2;subst h2';refine⟨x.1,?_,ho.1⟩;have h1':Rep V (Code1.aval c x.1) v:=h1;cases c with
 | some k=>have:v=.int k x.1:=h1';rw [this];rfl
 | none=>have:v=Code1.val none x.1:=h1';rw [this]
theorem oT [Con]{rec:TypeId->Option (List Shp)}{cs:List Value}{rd:TypeId->List Value->Prop}
 (hrec: ∀t r l,rec t=some r->rd t l-> ∃x:DenL r,L9 r x/\aI (fun _=>none) (iX r x) l):
 ∀(fs:List Field) (off:Nat) (r:List Shp),jP P rec off fs=some r->off+r.length<=cs.length->(∀f∈fs,rd f.type ((cs.drop f.offset).take (P.cellsOf f.type)))->
  ∃x:DenL r,L9 r x/\aI (fun _=>none) (iX r x) ((cs.drop off).take r.length)
 | [],off,r,h,_,_=>by
   simp [jP]at h;subst h;exact⟨(),trivial,by simp [iX,aI]⟩
 | f::fs,off,r,h,hl,hrd=>by
   simp only [jP]at h;cases hf:rec f.type with
   | none=>rw [hf]at h;cases h
   | some q=>
     rw [hf]at h;simp only at h;split at h
     ·rename_i hc;obtain⟨ho,hq⟩:=hc;cases hfs:jP P rec (off+q.length) fs with
      | none=>rw [hfs]at h;cases h
      | some r'=>
        rw [hfs]at h;simp at h;subst h;rw [List.length_append]at hl;obtain⟨x,ox,rx⟩:=hrec f.type q _ hf (hrd f (by simp))
        obtain⟨y,oy,ry⟩:=oT hrec fs _ r' hfs (by omega) (fun g hg=>hrd g (by simp [hg]))
        refine⟨JX q r' x y,zB q r' x y ox oy,?_⟩;rw [v8,List.length_append,List.take_add,List.drop_drop];rw [ho,hq]at rx;exact aI.append rx ry
     ·cases h
theorem qF [Con]{P':List Value->Prop}{r:List Shp}(hr: ∀l,P' l-> ∃x:DenL r,L9 r x/\aI (fun _=>none) (iX r x) l):
 ∀(n:Nat) (cs:List Value),cs.length=n*r.length->(∀i,i<n->P' ((cs.drop (i*r.length)).take r.length))->
  ∃x:DenL ((List.replicate n r).flatten),L9 _ x/\aI (fun _=>none) (iX _ x) cs
 | 0,cs,hl,_=>by
   have:cs=[]:=List.length_eq_zero_iff.1 (by omega)
   subst this;exact⟨(),trivial,by simp [iX,aI]⟩
 | n+1,cs,hl,h=>by
   obtain⟨x,ox,rx⟩:=hr _ (h 0 (by omega))
   rw [Nat.zero_mul,List.drop_zero]at rx
   obtain⟨y,oy,ry⟩:=qF hr n (cs.drop r.length) (by rw [List.length_drop,hl,Nat.succ_mul];omega) (by
    intro i hi;have:=h (i+1) (by omega)
    rw [List.drop_drop];rw [show r.length+i*r.length=(i+1)*r.length from by rw [Nat.succ_mul];omega]
    exact this)
   refine⟨JX r _ x y,zB r _ x y ox oy,?_⟩;show aI _ (iX (r++(List.replicate n r).flatten) _) cs;rw [v8];have:=aI.append rx ry
   rwa [List.take_append_drop]at this
theorem TH [Con](hcon: ∀b o,w.heap[b]? =some o->Con.con b=some o): ∀(m n:Nat) (t:TypeId) (cs:List Value) (x:DataW H×List MemPlace) (held:Bool) (r:List Shp),
 DataW.trod enc P w 0 (fun _=>true) held n t cs=some x->S0 P m t=some r-> ∃x:DenL r,L9 r x/\aI (fun _=>none) (iX r x) cs:=by
 intro m
 induction m with
 | zero=>intro n t cs x held r _ h;simp [S0]at h
 | succ m ih=>
   intro n t cs x held r h hs;unfold S0 at hs;split at hs
   ·rename_i ht;obtain⟨b,rfl,_⟩:=DataW.trod_bool ht h;simp at hs;subst hs;refine⟨((cond b 1 0:Int),()),⟨?_,trivial⟩,?_⟩
    ·show(cond b 1 0:Int)=0\/(cond b 1 0:Int)=1;cases b<;>simp
    ·refine⟨.bool b,[],rfl,?_,rfl⟩;show Value.bool b=.bool ((cond b 1 0:Int) !=0);cases b<;>rfl
   ·rename_i k ht;obtain⟨v,rfl,_,hw⟩:=DataW.trod_int ht h;simp at hs;subst hs;exact⟨(v,()),⟨hw,trivial⟩,.int k v,[],rfl,rfl,rfl⟩
   ·rename_i ht;obtain⟨s,rfl,_,hw⟩:=DataW.trod_string ht h;simp at hs;subst hs;exact⟨(s,()),⟨hw,trivial⟩,.string s,[],rfl,rfl,rfl⟩
   ·rename_i e ht;have sl:=DataW.trod_slice ht h;split at hs
    ·rename_i c he;split at hs
     case isFalse=>cases hs
     rename_i hce;simp at hs;subst hs;rcases sl with⟨rfl,_⟩ | ⟨a,len,cap,elems,rest,k,_,rfl,_,_,h1,h2,h3,h4,_⟩
     ·refine⟨(([]:List Int),()),⟨⟨Nat.zero_le _,fun x h=>by cases h⟩,trivial⟩,.slice none 0 0,[],rfl,?_,rfl⟩
      exact⟨none,0,rfl,Nat.le_refl _,.inr rfl⟩
     ·have hel: ∀i,i<len-> ∃v:Int,yN c v/\ ∃c' T fz,(i=0->a.spot=none)/\w.heap[a.block]? =some (.cells c' T fz)/\(c'.toList.drop (a.off+i)).take 1=[Code1.val c v]:=by
       intro i hi;have hb:=h4 i hi;rw [hce,Nat.mul_one]at hb;cases hc:w.cells? 0 (a.add i) 1 with
       | none=>rw [hc,gE' (by omega)]at hb;cases hb
       | some l=>
         rw [hc,gE' (by omega)]at hb
         simp only [Option.bind_some]at hb;obtain⟨y,oy,ry⟩:=ih k e l _ held [.code c] hb he;obtain⟨v,rfl,hv⟩:=O0 rfl ry oy;obtain⟨c',T,fz,q1,q2,q3⟩:=qV hc (by omega)
         have e1:(a.add i).block =a.block:=wW a _;rw [e1]at q2;have e2:(a.add i).off =a.off+i:=HS a i;rw [e2]at q3;exact⟨v,hv,c',T,fz,fun h0=>by subst h0;rw [add_zero]at q1;exact q1,q2,q3⟩
      obtain⟨xs,hxl,hx⟩:=mZ len hel;refine⟨(xs,()),⟨⟨by show xs.length<=_;omega,?_⟩,trivial⟩,.slice (some a) len cap,[],rfl,?_,rfl⟩
      ·intro v hv;obtain⟨i,hi,rfl⟩:=List.getElem_of_mem hv;exact(hx i hi).1
      ·show Rep _ (.iview c xs) _;refine⟨some a,cap,by rw [hxl],by rw [hxl];exact h1,?_⟩
       by_cases h0:len=0
       ·right;exact List.length_eq_zero_iff.1 (by omega)
       ·left;obtain⟨_,c',T,fz,q1,q2,_⟩:=hx 0 (by omega)
        obtain⟨b,off,sp⟩:=a;simp only at q1 q2;have q1:=q1 trivial;subst q1;refine⟨b,off,c',T,fz,rfl,hcon _ _ q2,(c'.toList.drop off).drop len,?_⟩
        have:xs.map (Code1.val c)=(c'.toList.drop off).take len:=by
         apply List.ext_getElem?;intro i;rw [List.getElem?_map,List.getElem?_take]
         by_cases hi:i<len
         ·rw [if_pos hi,gE' (by omega)]
          obtain⟨_,c2,T2,fz2,_,p2,p3⟩:=hx i (by omega)
          simp only at p2 p3;rw [q2]at p2;simp only [sI',Obj.cells.injEq]at p2;obtain⟨rfl,_⟩:=p2;have:=congrArg (fun l=>l[0]?) p3;simp only [List.getElem?_take,List.getElem?_drop]at this;rw [List.getElem?_drop]
          simpa using this.symm
         ·rw [if_neg hi,List.getElem?_eq_none (by omega)];rfl
        rw [this,List.take_append_drop]
    ·rename_i q hq he;split at hs
     case isFalse=>cases hs
     rename_i hce;simp at hs;subst hs;rcases sl with⟨rfl,_⟩ | ⟨a,len,cap,elems,rest,k,_,rfl,_,_,h1,h2,h3,h4,_⟩
     ·refine⟨(([]:List (DenL q)),()),⟨⟨Nat.zero_le _,fun x h=>by cases h⟩,trivial⟩,.slice none 0 0,[],rfl,?_,rfl⟩
      exact⟨none,0,rfl,Nat.le_refl _,.inr rfl⟩
     ·have hel: ∀i,i<len-> ∃y:DenL q,L9 q y/\ ∃c' T fz,(i=0->a.spot=none)/\w.heap[a.block]? =some (.cells c' T fz)/\aI (fun _=>none) (iX q y) ((c'.toList.drop (a.off+i*q.length)).take q.length):=by
       intro i hi;have hb:=h4 i hi;rw [hce.1]at hb;cases hc:w.cells? 0 (a.add (i*q.length)) q.length with
       | none=>rw [hc,gE' (by omega)]at hb;cases hb
       | some l=>
         rw [hc,gE' (by omega)]at hb
         simp only [Option.bind_some]at hb;obtain⟨y,oy,ry⟩:=ih k e l _ held q hb he;obtain⟨c',T,fz,q1,q2,q3⟩:=qV hc hce.2;have e1:(a.add (i*q.length)).block =a.block:=wW a _;rw [e1]at q2;have e2:(a.add (i*q.length)).off =a.off+i*q.length:=HS a _;rw [e2]at q3;exact⟨y,oy,c',T,fz,fun h0=>by subst h0;rw [Nat.zero_mul,add_zero]at q1;exact q1,q2,by rw [q3];exact ry⟩
      obtain⟨xs,hxl,hx⟩:=mZ len hel;refine⟨(xs,()),⟨⟨by show xs.length<=_;omega,?_⟩,trivial⟩,.slice (some a) len cap,[],rfl,?_,rfl⟩
      ·intro v hv;obtain⟨i,hi,rfl⟩:=List.getElem_of_mem hv;exact(hx i hi).1
      ·show Rep _ (.view xs.length q.length fun i=>iX q (xs.getD i (VT q))) _;refine⟨some a,cap,by rw [hxl],by rw [hxl];exact h1,?_⟩
       by_cases h0:len=0
       ·right;omega
       ·left;obtain⟨_,c',T,fz,q1,q2,_⟩:=hx 0 (by omega)
        obtain⟨b,off,sp⟩:=a;simp only at q1 q2;have q1:=q1 trivial;subst q1;refine⟨b,off,c',T,fz,rfl,hcon _ _ q2,?_⟩;intro i hi;refine⟨tA _ _,?_⟩;show aI _ (iX q (xs.getD i (VT q))) _;rw [gD',gE' hi];obtain⟨_,c2,T2,fz2,_,p2,p3⟩:=hx i hi;simp only at p2 p3;rw [q2]at p2;simp only [sI',Obj.cells.injEq]at p2;obtain⟨rfl,_⟩:=p2;exact p3
    ·cases hs
   ·rename_i fs ht;split at hs
    ·rename_i q hq;split at hs
     case isFalse=>cases hs
     rename_i hct;simp at hs;subst hs;obtain⟨xs,k,_,_,hl,hxl,hf⟩:=DataW.trod_struct ht h
     obtain⟨y,oy,ry⟩:=oT (P:=P) (cs:=cs) (rec:=S0 P m) (rd:=fun t l=> ∃z,DataW.trod enc P w 0 (fun _=>true) held k t l=some z)
      (fun t r l ht' ⟨z,hz⟩=>ih k t l z held r hz ht') fs.toList 0 q hq (by omega) (by
        intro f hf';obtain⟨i,hi,rfl⟩:=List.getElem_of_mem hf';have hi':i<fs.size:=by simpa using hi
        have:=hf i fs[i] (Array.getElem?_eq_getElem hi');rw [gE' (by omega)]at this
        exact⟨_,by simpa using this⟩)
     refine⟨y,oy,?_⟩;rw [List.drop_zero,List.take_of_length_le (by omega)]at ry
     exact ry
    ·cases hs
   ·rename_i k e ht;split at hs
    ·rename_i q hq;split at hs
     case isFalse=>cases hs
     rename_i hce;simp at hs;subst hs;obtain⟨xs,j,_,_,hl,hxl,hf⟩:=DataW.trod_array ht h;refine qF (P':=fun l=> ∃z,DataW.trod enc P w 0 (fun _=>true) held j e l=some z) (r:=q) (fun l ⟨z,hz⟩=>ih j e l z held q hz hq) k cs (by omega) ?_
     intro i hi;have:=hf i hi;rw [hce.1,gE' (by omega)]at this
     exact⟨_,this⟩
    ·cases hs
   ·cases hs
end
end Go.Sh
