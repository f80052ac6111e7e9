import Derived.Test.YteindpciaceeeaaGreatZN0toN1
set_option linter.all false
set_option maxHeartbeats 8000000
namespace Go.Sh
open Go
variable [Con] {A:Type} {P:Program}
def swI(l k i:Nat):Nat:=if i=l then k else if i=k then l else i
theorem A7(l k i:Nat):swI l k (swI l k i)=i:=by
 unfold swI
 by_cases h:i=l
 ·subst h;rw [if_pos rfl]
  by_cases h2:k=i
  ·rw [if_pos h2];exact h2
  ·rw [if_neg h2,if_pos rfl]
 ·rw [if_neg h]
  by_cases h2:i=k
  ·rw [if_pos h2,if_pos rfl];exact h2.symm
  ·rw [if_neg h2,if_neg h,if_neg h2]
def wW(l:Nat)(g:aC A):aC A:=((g.map (Option.map (aG.ren (swI l g.length)))).set l none)++ [(aL g l).map (aG.ren (swI l g.length))]
theorem aF.move{I:Itp A}{n:Nat}{v:AVal}{g:aC A}(l:Nat)(hl:l<g.length):aF I n v g (v.ren (swI l g.length)) (wW l g):=by
 intro V hR w x h1 h2 h3 h4
 let V':Val:=fun i=>if i=g.length then V l else V i
 have ae:Val.le V (fun i=>V' (swI l g.length i)):=by
  intro m y hm;have ac:m≠g.length:=by intro e;rw [e,h2 _ (Nat.le_refl _)]at hm;cases hm
  show(if swI l g.length m=g.length then V l else V (swI l g.length m))=some y
  unfold swI
  by_cases e:m=l
  ·rw [if_pos e,if_pos rfl,<-e];exact hm
  ·rw [if_neg e,if_neg ac,if_neg ac];exact hm
 have aa:(wW l g).length =g.length+1:=by simp [wW]
 refine⟨V',?_,?_,by omega,?_,?_⟩
 ·intro i y hi hy;show(if i=g.length then V l else V i)=some y
  rw [if_neg omz];exact hy
 ·intro i hi;rw [aa]at hi;show(if i=g.length then V l else V i)=none
  rw [if_neg omz];exact h2 i omz
 ·exact(Rep.ren _ _).2 (Rep.mono ae _ _ h4)
 ·refine(aL4 (ι:=swI l g.length) (h0:=toF g) ?_ ?_ ?_).2 (Inv.mono ae h1)
  ·intro a b e;rw [<-A7 l g.length a,e,A7]
  ·intro i;show aL (wW l g) (swI l g.length i)=(aL g i).map _
   by_cases e:i=l
   ·subst e;have:swI i g.length i=g.length:=if_pos rfl;rw [this];unfold wW aL;simp only [gD'];rw [List.getElem?_append_right (by simp)]
    simp
   ·by_cases e2:i=g.length
    ·subst e2;have:swI l g.length g.length=l:=by unfold swI;rw [if_neg e,if_pos rfl]
     rw [this,cC (Nat.le_refl g.length)];unfold wW aL;simp only [gD'];rw [List.getElem?_append_left (by simpa using hl),List.getElem?_set_self (by simpa using hl)]
     rfl
    ·have e3:swI l g.length i=i:=by unfold swI;rw [if_neg e,if_neg e2]
     rw [e3]
     by_cases hi:i<g.length
     ·unfold wW aL;simp only [gD'];rw [List.getElem?_append_left (by simpa using hi),List.getElem?_set_ne (Ne.symm e),List.getElem?_map,gE' hi]
      rfl
     ·rw [cC (by rw [aa];omega),cC omz];rfl
  ·intro m hm;exact(hm (swI l g.length m) (A7 l g.length m)).elim
end Go.Sh
