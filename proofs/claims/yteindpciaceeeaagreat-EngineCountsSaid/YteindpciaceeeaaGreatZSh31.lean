import Derived.Test.YteindpciaceeeaaGreatZN17toN20
set_option linter.all false
set_option maxHeartbeats 8000000
namespace Go.Sh
open Go
variable [Con]
structure jU (P:Program) (l:Nat) (xs:List Int) (Fr:Nat→PHeap→Prop):Prop where
 con: ∀i hF,Fr i hF→ ∀b o,Con.con b=some o→hF b=some o
 step: ∀i x,xs[i]? =some x→ ∀(hF own:PHeap) (w:World),Fr i hF→own.disj hF→own.sub w→hF.sub w→
  YieldAt Fence.wide 0 P l #[.int .i64 x] w fun e w'=>e=.returned (.bool true)∧ ∃hF',Fr (i+1) hF'∧own.disj hF'∧own.sub w'∧hF'.sub w'∧bZ w w'
def PHeap.less(h g:PHeap):PHeap:=fun b=>match g b with | some _=>none | none=>h b
theorem aHn{h g:PHeap}{b:Nat}{o:Obj}(e:h.less g b=some o):h b=some o∧g b=none:=by
 unfold PHeap.less at e;cases hg:g b with
 | some o'=>rw [hg]at e;cases e
 | none=>rw [hg]at e;exact⟨e,rfl⟩
theorem PHeap.less_of{h g:PHeap}{b:Nat}{o:Obj}(e:h b=some o)(hg:g b=none):h.less g b=some o:=by unfold PHeap.less;rw [hg];exact e
theorem PHeap.join_some{h g:PHeap}{b:Nat}{o:Obj}(e:h.join g b=some o):h b=some o∨(h b=none∧g b=some o):=by
 unfold PHeap.join at e;cases hh:h b with
 | some o'=>rw [hh]at e;exact .inl (by simpa using e)
 | none=>rw [hh]at e;exact .inr ⟨rfl,e⟩
theorem aHx{h g:PHeap}(hg: ∀b o,g b=some o→h b=some o):(h.less g).join g=h:=by
 funext b;unfold PHeap.join PHeap.less;cases e:g b with
 | some o=>simp [hg b o e]
 | none=>cases e2:h b<;>simp
def frI(Fr:Nat→PHeap→Prop):Itp Nat:=fun i _ _ p=>Fr i (p.join Con.con)∧p.disj Con.con
section
variable {P:Program}
theorem dS{h g:PHeap}(d:h.disj g){b:Nat}{o:Obj}(e:h b=some o):g b=none:=by
 rcases d b with h1 | h1
 ·rw [e]at h1;cases h1
 ·exact h1
theorem K6{l:Nat}{xs:List Int}{Fr:Nat→PHeap→Prop}(hY:jU P l xs Fr){i:Nat}{x:Int}(hx:xs[i]? =some x){r:aC Nat}{K:AVal→aC Nat→Prop}(hK:K (.bool true) (some (.abs (i+1) [])::r))
 (V:Val) (hR:PHeap) (w:World) (hi:Inv (frI Fr) V (toF (some (.abs i [])::r)) hR w) (hf: ∀l,(some (aH.abs i [])::r).length ≤l→V l=none):
 YieldAt Fence.wide 0 P l #[.int .i64 x] w (zE (frI Fr) V (some (aH.abs i [])::r:aC Nat).length hR K w):=by
 obtain⟨hs,h1,h2,h3,h4,h5,h6,h7⟩:=hi;obtain⟨b0,k0,e1,bs,e2,hFr,hdc⟩:=h1 0 (.abs i []) rfl
 let own:PHeap:=fun b=>(aGT (fun m=>if m=0 then .emp else hs m)).join (hR.less Con.con) b
 have own_some: ∀b o,own b=some o→(∃m,m≠0∧hs m b=some o)∨(hR b=some o∧Con.con b=none):=by
  intro b o e;rcases PHeap.join_some e with h | ⟨_,h⟩
  ·obtain⟨m,hm⟩:=aG3 h
   by_cases h0:m=0
   ·rw [if_pos h0]at hm;cases hm
   ·rw [if_neg h0]at hm;exact .inl ⟨m,h0,hm⟩
  ·exact .inr (aHn h)
 have F_some: ∀b o,(hs 0).join Con.con b=some o→hs 0 b=some o∨Con.con b=some o:=by
  intro b o e;rcases PHeap.join_some e with h | ⟨_,h⟩
  ·exact .inl h
  ·exact .inr h
 have hod:own.disj ((hs 0).join Con.con):=by
  intro b;cases e:own b with
  | none=>exact .inl rfl
  | some o=>
    right;cases e3:(hs 0).join Con.con b with
    | none=>rfl
    | some o2=>
      rcases own_some b o e with⟨m,hm,e4⟩ | ⟨e4,e5⟩<;>rcases F_some b o2 e3 with e6 | e6
      ·have:=dS (h3 m 0 hm) e4;rw [e6]at this;cases this
      ·have:=dS (h4 m) e4;rw [h7 b o2 e6]at this;cases this
      ·have:=dS (h4 0) e6;rw [e4]at this;cases this
      ·rw [e6]at e5;cases e5
 have hos:own.sub w:=by
  intro b o e;rcases own_some b o e with⟨m,hm,e4⟩ | ⟨e4,e5⟩
  ·exact h5 m b o e4
  ·exact h6 b o e4
 have hFs:((hs 0).join Con.con).sub w:=by
  intro b o e;rcases F_some b o e with e6 | e6
  ·exact h5 0 b o e6
  ·exact h6 b o (h7 b o e6)
 obtain⟨fn,tmps,assign,body,y1,y2⟩:=hY.step i x hx _ own w hFr hod hos hFs;refine⟨fn,tmps,assign,body,y1,y2.mono ?_⟩;rintro e w' ⟨rfl,hF',g1,g2,g3,g4,g5⟩;have gc:=hY.con _ _ g1;refine⟨.bool true,.bool true,V,_,hK,rfl,rfl,V.le_refl,hf,Nat.le_refl _,?_,g5⟩
 have big_of: ∀m b o,m≠0→hs m b=some o→own b=some o:=by
  intro m b o hm e;show(aGT _).join _ b=_
  have hb:aGT (fun m=>if m=0 then .emp else hs m) b=some o:=by
   refine aG4 (l:=m) ?_ ?_
   ·intro p q hpq;show PHeap.disj (if p=0 then .emp else hs p) (if q=0 then .emp else hs q)
    split
    ·exact(aGO _).symm
    ·split
     ·exact aGO _
     ·exact h3 p q hpq
   ·show(if m=0 then PHeap.emp else hs m) b=some o
    rw [if_neg hm];exact e
  unfold PHeap.join;rw [hb]
 have own_R: ∀b o,hR b=some o→Con.con b=none→own b=some o:=by
  intro b o e ec;show(aGT _).join _ b=_;unfold PHeap.join;cases hb:aGT (fun m=>if m=0 then .emp else hs m) b with
  | none=>exact PHeap.less_of e ec
  | some o2=>
    obtain⟨m,hm⟩:=aG3 hb
    by_cases h0:m=0
    ·rw [if_pos h0]at hm;cases hm
    ·rw [if_neg h0]at hm;have:=dS (h4 m) hm;rw [e]at this;cases this
 obtain⟨hs',z,nz⟩: ∃hs':Nat→PHeap,hs' 0=hF'.less Con.con∧ ∀m,m≠0→hs' m=hs m:=⟨fun m=>if m=0 then hF'.less Con.con else hs m,if_pos rfl,fun m h=>if_neg h⟩
 refine⟨hs',?_,?_,?_,?_,?_,?_,h7⟩
 ·intro m e he
  by_cases h0:m=0
  ·subst h0;rw [z];have he:some (aH.abs (i+1) [])=some e:=he;cases he;refine⟨b0,k0,e1,bs,e2,?_,?_⟩
   ·rw [aHx gc];exact g1
   ·intro b;cases ec:Con.con b with
    | none=>exact .inr rfl
    | some o=>left;unfold PHeap.less;rw [ec]
  ·rw [nz m h0];refine h1 m e ?_;cases m with
   | zero=>exact absurd rfl h0
   | succ m=>exact he
 ·intro m hm
  by_cases h0:m=0
  ·subst h0;cases hm
  ·rw [nz m h0];refine h2 m ?_;cases m with
   | zero=>exact absurd rfl h0
   | succ m=>exact hm
 ·have key: ∀m,m≠0→(hs m).disj (hF'.less Con.con):=by
   intro m hm b;cases e:hs m b with
   | none=>exact .inl rfl
   | some o=>
     right;have:=dS g2 (big_of m b o hm e);unfold PHeap.less;rw [this];split<;>rfl
  intro m q hmq
  by_cases h0:m=0
  ·subst h0;rw [z,nz q (fun e=>hmq e.symm)];exact(key q (fun e=>hmq e.symm)).symm
  ·rw [nz m h0]
   by_cases hq:q=0
   ·subst hq;rw [z];exact key m h0
   ·rw [nz q hq];exact h3 m q hmq
 ·intro m
  by_cases h0:m=0
  ·subst h0;rw [z];intro b;cases e:hR b with
   | none=>exact .inr rfl
   | some o=>
     left;cases ec:Con.con b with
     | some o2=>unfold PHeap.less;rw [ec]
     | none=>
       have:=dS g2 (own_R b o e ec);unfold PHeap.less;rw [ec];exact this
  ·rw [nz m h0];exact h4 m
 ·intro m b o e
  by_cases h0:m=0
  ·subst h0;rw [z]at e;exact g4 b o (aHn e).1
  ·rw [nz m h0]at e;exact g3 b o (big_of m b o h0 e)
 ·intro b o e;cases ec:Con.con b with
  | some o2=>
    have:=h7 b o2 ec;rw [e]at this;cases this;exact g4 b o (gc b o ec)
  | none=>exact g3 b o (own_R b o e ec)
structure XG (xs:List Int) (i:Nat) (x:Int):Prop where
 h:xs[i]? =some x
def itE(P:Program){l:Nat}{xs:List Int}{Fr:Nat→PHeap→Prop}(hY:jU P l xs Fr):oL Nat P where
 I:=frI Fr
 cps:=fun _=>none
 det:=fun _=>none
 meth:=fun _ _=>none
 cpsOk:=by intro f S h;cases h
 detOk:=by intro f S h;cases h
 methOk:=by intro t n f h;cases h
 rowOk:=by intro ρ o h K hk;exact hk.elim
 yld:=fun l' args h K=>match args,h with
  | [.int .i64 x],some (.abs i [])::r=>(l'=l∧XG xs i x)∧K (.bool true) (some (.abs (i+1) [])::r)
  | _,_=>False
 yldOk:=by
  intro l' args h K hk V hR w args' hi hf hr;split at hk
  ·rename_i x i r;obtain⟨⟨rfl,⟨hx⟩⟩,hK⟩:=hk;obtain⟨v,vs,e,hv,e2⟩:=hr;have hv:v=.int .i64 x:=hv;have e2:vs=[]:=e2;subst hv;subst e2;have ha:args'= #[.int .i64 x]:=by apply Array.ext';simpa using e
   subst ha;exact K6 hY hx hK V hR w hi hf
  ·exact hk.elim
end
end Go.Sh
