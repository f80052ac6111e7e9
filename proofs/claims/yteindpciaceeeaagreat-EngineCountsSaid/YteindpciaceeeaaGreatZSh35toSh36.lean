import Derived.Test.YteindpciaceeeaaGreatZR4toQ4
set_option linter.all false
set_option maxHeartbeats 8000000
namespace Go.Sh
open Go
variable {A:Type}
mutual
def AVal.noV:AVal→Bool
 | .func _ f c=>aHe f&&aHe c
 | .iface _ a=>AVal.noV a
 | .agg av=>aHe av
 | .tup av=>aHe av
 | .iview _ _=>false
 | .view _ _ _=>false
 | .cptr _=>false
 | .bool _=>true
 | .int _ _=>true
 | .str _=>true
 | .ptr _ _=>true
 | .slice _ _ _ _=>true
 | .map _=>true
 | .raw _=>true
 | .any =>true
 | .O =>true
 | .tslice _ _ _ _=>true
 | .tptr _ _ _ _=>true
 | .empty =>true
def aHe:List AVal→Bool
 | []=>true
 | a::av=>AVal.noV a&&aHe av
end
def Con.sub(c c':Con):Prop:= ∀b o,c.con b=some o→c'.con b=some o
mutual
theorem Rep.con{c c':Con}(h:Con.sub c c'){V:Val} : ∀(a:AVal) (v:Value),@Rep c V a v→ @Rep c' V a v
 | .bool _,_,r=>r
 | .int _ _,_,r=>r
 | .str _,_,r=>r
 | .ptr _ _,_,r=>r
 | .slice _ _ _ _,_,r=>r
 | .map _,_,r=>r
 | .func _ f g,_,⟨fs,cs,hv,r,s⟩=>⟨fs,cs,hv,aG.con h f _ r,aG.con h g _ s⟩
 | .iface _ a,_,⟨x,hv,r⟩=>⟨x,hv,Rep.con h a _ r⟩
 | .agg av,_,⟨cs,hv,r⟩=>⟨cs,hv,aG.con h av _ r⟩
 | .tup av,_,⟨cs,hv,r⟩=>⟨cs,hv,aG.con h av _ r⟩
 | .raw _,_,r=>r
 | .any,_,r=>r
 | .O,_,r=>r
 | .iview _ _,_,⟨base,cap,hv,hc,r⟩=>⟨base,cap,hv,hc,r.imp (fun⟨b,off,cs,T,fz,e,f,g⟩=>⟨b,off,cs,T,fz,e,h _ _ f,g⟩) id⟩
 | .view _ _ row,_,⟨base,cap,hv,hc,r⟩=>⟨base,cap,hv,hc,r.imp (fun⟨b,off,cs,T,fz,e,f,g⟩=>⟨b,off,cs,T,fz,e,h _ _ f,fun i hi=>⟨(g i hi).1,aG.con h (row i) _ (g i hi).2⟩⟩) id⟩
 | .tslice _ _ _ _,_,r=>r
 | .tptr _ _ _ _,_,r=>r
 | .empty,_,r=>r
 | .cptr av,_,⟨b,off,cs,T,fz,e,f,g⟩=>⟨b,off,cs,T,fz,e,h _ _ f,aG.con h av _ g⟩
theorem aG.con{c c':Con}(h:Con.sub c c'){V:Val} : ∀(a:List AVal) (v:List Value),@aG c V a v→ @aG c' V a v
 | [],_,r=>r
 | a::av,_,⟨v,vs,e,r,s⟩=>⟨v,vs,e,Rep.con h a v r,aG.con h av vs s⟩
end
mutual
theorem aHy{c c':Con}{V:Val} : ∀(a:AVal) (v:Value),a.noV=true→ @Rep c V a v→ @Rep c' V a v
 | .bool _,_,_,r=>r
 | .int _ _,_,_,r=>r
 | .str _,_,_,r=>r
 | .ptr _ _,_,_,r=>r
 | .slice _ _ _ _,_,_,r=>r
 | .map _,_,_,r=>r
 | .func _ f g,_,n,⟨fs,cs,hv,r,s⟩=>⟨fs,cs,hv,aHj f _ (Bool.and_eq_true_iff.1 n).1 r,aHj g _ (Bool.and_eq_true_iff.1 n).2 s⟩
 | .iface _ a,_,n,⟨x,hv,r⟩=>⟨x,hv,aHy a _ n r⟩
 | .agg av,_,n,⟨cs,hv,r⟩=>⟨cs,hv,aHj av _ n r⟩
 | .tup av,_,n,⟨cs,hv,r⟩=>⟨cs,hv,aHj av _ n r⟩
 | .raw _,_,_,r=>r
 | .any,_,_,r=>r
 | .O,_,_,r=>r
 | .iview _ _,_,n,_=>Bool.noConfusion (show false=true from n)
 | .view _ _ _,_,n,_=>Bool.noConfusion (show false=true from n)
 | .tslice _ _ _ _,_,_,r=>r
 | .tptr _ _ _ _,_,_,r=>r
 | .empty,_,_,r=>r
 | .cptr _,_,n,_=>Bool.noConfusion (show false=true from n)
theorem aHj{c c':Con}{V:Val} : ∀(a:List AVal) (v:List Value),aHe a=true→ @aG c V a v→ @aG c' V a v
 | [],_,_,r=>r
 | a::av,_,n,⟨v,vs,e,r,s⟩=>⟨v,vs,e,aHy a v (Bool.and_eq_true_iff.1 n).1 r,aHj av vs (Bool.and_eq_true_iff.1 n).2 s⟩
end
def aH.noV:aH A→Bool
 | .cells vs=>aHe vs
 | _=>true
def cT(h:aC A):Bool:=h.all fun e=>match e with
 | some e=>e.noV
 | none=>true
theorem sR{h:aC A}(hn:cT h=true){l:Nat}{e:aH A}(he:aO h l=some e):e.noV=true:=by
 letI:Con:=⟨fun _=>none⟩
 have hl:=dH he;unfold cT at hn;rw [List.all_eq_true]at hn
 have hm:(some e:Option (aH A))∈h:=by
  have:h[l]'hl=some e:=by
   have:=he;unfold aO at this;rw [gD',gE' hl]at this;exact this
  rw [←this];exact List.getElem_mem hl
 exact hn _ hm
theorem aHu{c c':Con}(h:Con.sub c c'){I:Itp A}{V:Val}{l:Nat}{e:aH A}{p:PHeap}(hi: @aH.interp c A I V l e p): @aH.interp c' A I V l e p:=by
 cases e with
 | cells vs=>
   obtain⟨b,k,hl,cs,T,e1,e2,rs,tail,e3,r⟩:=hi;exact⟨b,k,hl,cs,T,e1,e2,rs,tail,e3,aG.con h _ _ r⟩
 | ints c xs=>exact hi
 | abs t ps=>exact hi
 | tab ks rows=>exact hi
 | imap kk vc m=>exact hi
theorem aHs{c c':Con}{I:Itp A}{V:Val}{l:Nat}{e:aH A}{p:PHeap}(hn:e.noV=true)(hi: @aH.interp c A I V l e p): @aH.interp c' A I V l e p:=by
 cases e with
 | cells vs=>
   obtain⟨b,k,hl,cs,T,e1,e2,rs,tail,e3,r⟩:=hi;exact⟨b,k,hl,cs,T,e1,e2,rs,tail,e3,aHj _ _ hn r⟩
 | ints c xs=>exact hi
 | abs t ps=>exact hi
 | tab ks rows=>exact hi
 | imap kk vc m=>exact hi
section
variable {tb:A→Nat×aC A}
theorem CM(c c':Con)(htb: ∀t,cT (tb t).2=true)(n:Nat): ∀(t:A) (r:Nat×Nat) (bs:List (Nat×Nat)) (p:PHeap),@obN c A tb n t r bs p→ @obN c' A tb n t r bs p:=by
 induction n with
 | zero=>intro t r bs p h;exact h
 | succ n ih=>
   intro t r bs p h;obtain⟨V,hs,h1,h2,h3,⟨q1,q2,q3⟩,h5⟩:=h;refine⟨V,hs,h1,h2,h3,@qZ.mk c' A (@obN c' A tb n) V (toF (tb t).2) hs (fun l e he=>?_) q2 q3,h5⟩;have h6:=q1 l e he;have h7: @aH.interp c' A (@obN c A tb n) V l e (hs l):=aHs (sR (htb t) he) h6;exact @aHc c' A _ _ ih V l e (hs l) h7
theorem OV(c c':Con)(htb: ∀t,cT (tb t).2=true): @obI c A tb= @obI c' A tb:=by
 funext t r bs p;exact propext ⟨fun⟨n,h⟩=>⟨n,CM c c' htb n t r bs p h⟩,fun⟨n,h⟩=>⟨n,CM c' c htb n t r bs p h⟩⟩
end
theorem Inv.split2 [Con]{I:Itp A}{V:Val}{h:bH A}{hR:PHeap}{w:World}(hi:Inv I V h hR w)(S:Nat→Bool):
 ∃hR',Inv I V (fun l=>if S l then h l else none) hR' w∧(∀b o,hR b=some o→hR' b=some o)∧(∀l e,S l=false→h l=some e→ ∃p,e.interp I V l p∧ ∀b o,p b=some o→hR' b=some o)∧
  ∀V' g w',V.le V'→Inv I V' g hR' w'→(∀l,S l=false→h l≠none→g l=none)→
   Inv I V' (fun l=>if S l=false∧h l≠none then h l else g l) hR w':=by
 obtain⟨hs,h1,h2,h3,h4,h5,h6⟩:=hi
 let rs:Nat→PHeap:=fun l=>if S l then .emp else hs l
 have rd: ∀l m,l≠m→(rs l).disj (rs m):=by
  intro l m hlm;show PHeap.disj (if S l then .emp else hs l) (if S m then .emp else hs m)
  split
  ·exact(aGO _).symm
  ·split
   ·exact aGO _
   ·exact h3 l m hlm
 have rhR: ∀b,aGT rs b=none∨hR b=none:=by
  intro b;cases e:aGT rs b with
  | none=>exact .inl rfl
  | some o=>
    obtain⟨l,hl⟩:=aG3 e
    have:hs l b≠none:=by
     have hl':(if S l then PHeap.emp else hs l) b=some o:=hl
     split at hl'
     ·cases hl'
     ·rw [hl'];simp
    rcases h4 l b with d | d
    ·exact(this d).elim
    ·exact .inr d
 refine⟨PHeap.join hR (aGT rs),⟨fun l=>if S l then hs l else .emp,?_,?_,?_,?_,?_,?_⟩,fun b o e=>aHh e,?_,?_⟩
 ·intro l e he;cases hS:S l with
  | true=>simp [hS]at he⊢;exact h1 l e he
  | false=>simp [hS]at he
 ·intro l hl;cases hS:S l with
  | true=>simp [hS]at hl⊢;exact h2 l hl
  | false=>simp [hS]
 ·intro l m hlm;show PHeap.disj (if S l then hs l else .emp) (if S m then hs m else .emp)
  split
  ·split
   ·exact h3 l m hlm
   ·exact aGO _
  ·exact(aGO _).symm
 ·intro l b;show(if S l then hs l else PHeap.emp) b=none∨_
  cases hS:S l with
  | false=>exact .inl rfl
  | true=>
    simp only [if_true];cases e:hs l b with
    | none=>exact .inl rfl
    | some o=>
      refine .inr (PHeap.join_none.2 ⟨?_,aHp fun m=>?_⟩)
      ·rcases h4 l b with d | d
       ·rw [e]at d;cases d
       ·exact d
      ·show(if S m then PHeap.emp else hs m) b=none
       by_cases hm:S m=true
       ·rw [if_pos hm];rfl
       ·rw [if_neg hm];have:l≠m:=fun e'=>hm (e'▸hS);rcases h3 l m this b with d | d
        ·rw [e]at d;cases d
        ·exact d
 ·intro l;show(if S l then hs l else PHeap.emp).sub w
  split
  ·exact h5 l
  ·exact aHb _
 ·refine⟨?_,fun b o e=>aHh (h6.2 b o e)⟩;intro b o e;unfold PHeap.join at e;cases er:hR b with
  | some p=>rw [er]at e;cases e;exact h6.1 b _ er
  | none=>
    rw [er]at e;obtain⟨l,hl⟩:=aG3 e;have hl':(if S l then PHeap.emp else hs l) b=some o:=hl
    split at hl'
    ·cases hl'
    ·exact h5 l b o hl'
 ·intro l e hS he;refine⟨hs l,h1 l e he,fun b o eb=>?_⟩
  have e1:rs l b=some o:=by
   show(if S l then PHeap.emp else hs l) b=some o
   rw [if_neg (by rw [hS];simp)];exact eb
  have e2:=aG4 rd e1;rcases rhR b with d | d
  ·rw [e2]at d;cases d
  ·rw [aHl d];exact e2
 ·intro V' g w' hV hg hz;obtain⟨gs,g1,g2,g3,g4,g5,g6⟩:=hg
  have rsub: ∀l,(rs l).sub w':=by
   intro l b o e;have:=aG4 rd e;refine g6.1 b o ?_;rcases rhR b with d | d
   ·rw [this]at d;cases d
   ·rw [aHl d];exact this
  have hRsub:hR.sub w':=fun b o e=>g6.1 b o (aHh e)
  have grs: ∀l m,(gs l).disj (rs m):=by
   intro l m b;rcases g4 l b with d | d
   ·exact .inl d
   ·cases e:rs m b with
    | none=>exact .inr rfl
    | some o=>rw [(PHeap.join_none.1 d).2.symm,aG4 rd e];exact .inr rfl
  have ghR: ∀l,(gs l).disj hR:=fun l b=>(g4 l b).imp id (fun d=>(PHeap.join_none.1 d).1)
  have rshR: ∀l,(rs l).disj hR:=by
   intro l;show PHeap.disj (if S l then .emp else hs l) hR
   split
   ·exact(aGO _).symm
   ·exact h4 l
  classical
  refine⟨fun l=>if S l=false∧h l≠none then rs l else gs l,?_,?_,?_,?_,?_,⟨hRsub,h6.2⟩⟩
  ·intro l e he
   by_cases hc:S l=false∧h l≠none
   ·simp only [if_pos hc]at he⊢;show e.interp I V' l (if S l then .emp else hs l)
    rw [if_neg (by simp [hc.1])]
    exact aG5 hV (h1 l e he)
   ·simp only [if_neg hc]at he⊢;exact g1 l e he
  ·intro l hl
   by_cases hc:S l=false∧h l≠none
   ·simp only [if_pos hc]at hl;exact(hc.2 hl).elim
   ·simp only [if_neg hc]at hl⊢;exact g2 l hl
  ·intro l m hlm
   by_cases hc:S l=false∧h l≠none
   ·simp only [if_pos hc]
    by_cases hd:S m=false∧h m≠none
    ·simp only [if_pos hd];exact rd l m hlm
    ·simp only [if_neg hd];exact(grs m l).symm
   ·simp only [if_neg hc]
    by_cases hd:S m=false∧h m≠none
    ·simp only [if_pos hd];exact grs l m
    ·simp only [if_neg hd];exact g3 l m hlm
  ·intro l
   by_cases hc:S l=false∧h l≠none
   ·simp only [if_pos hc];exact rshR l
   ·simp only [if_neg hc];exact ghR l
  ·intro l
   by_cases hc:S l=false∧h l≠none
   ·simp only [if_pos hc];exact rsub l
   ·simp only [if_neg hc];exact g5 l
def thaw(S:Nat→Bool):Nat→aC A→aC A
 | _,[]=>[]
 | i,e::h=>(cond (S i) e none)::thaw S (i+1) h
def back(S:Nat→Bool):Nat→aC A→aC A→aC A
 | _,[],g=>g
 | i,e::h,[]=>e::h
 | i,e::h,x::g=>(cond (S i) x e)::back S (i+1) h g
theorem qV(S:Nat→Bool): ∀(h:aC A) (i:Nat),(thaw S i h).length =h.length
 | [],_=>rfl
 | e::h,i=>congrArg (· +1) (qV S h (i+1))
theorem C8(S:Nat→Bool): ∀(h:aC A) (i l:Nat),toF (thaw S i h) l=if S (i+l)then toF h l else none
 | [],i,l=>by
   show none=if _ then none else none
   split<;>rfl
 | e::h,i,0=>by
   show(cond (S i) e none)=if S (i+0)then e else none
   rw [Nat.add_zero];cases S i<;>rfl
 | e::h,i,l+1=>by
   show toF (thaw S (i+1) h) l=if S (i+(l+1))then toF h l else none
   rw [C8 S h (i+1) l,show i+1+l=i+(l+1)from by omega]
theorem zT(S:Nat→Bool): ∀(h g:aC A) (i:Nat),h.length≤g.length→(back S i h g).length =g.length
 | [],g,_,_=>rfl
 | e::h,[],_,hl=>by simp at hl
 | e::h,x::g,i,hl=>congrArg (· +1) (zT S h g (i+1) (by simpa using hl))
theorem C6(S:Nat→Bool): ∀(h g:aC A) (i l:Nat),h.length≤g.length→(∀m,S (i+m)=false→toF h m=none→m<h.length→toF g m=none)→
 toF (back S i h g) l=if S (i+l)=false∧toF h l≠none then toF h l else toF g l
 | [],g,i,l,_,_=>by
   show toF g l=_;split
   ·rename_i hq;exact(hq.2 rfl).elim
   ·rfl
 | e::h,[],_,_,hl,_=>by simp at hl
 | e::h,x::g,i,0,hl,hz=>by
   show(cond (S i) x e)=if S (i+0)=false∧e≠none then e else x
   rw [Nat.add_zero];cases hS:S i with
   | true=>simp
   | false=>
     cases e with
     | some e=>simp
     | none=>
       have:=hz 0 (by rw [Nat.add_zero];exact hS) rfl (by simp)
       have this:x=none:=this;simp [this]
 | e::h,x::g,i,l+1,hl,hz=>by
   show toF (back S (i+1) h g) l=if S (i+(l+1))=false∧toF h l≠none then toF h l else toF g l
   rw [C6 S h g (i+1) l (by simpa using hl) (fun m h1 h2 h3=>hz (m+1) (by rw [←h1];congr 1;omega) h2 (by simpa using h3)),show i+1+l=i+(l+1)from by omega]
structure aE7 (S:Nat→Bool) (h:aC A) (K:AVal→aC A→Prop) (v:AVal) (g:aC A):Prop where
 hv:v.noV=true
 hg:cT g=true
 hz: ∀l,l<h.length→S l=false→aO g l=none
 hk:K v (back S 0 h g)
theorem aHE [c:Con]{tb:A→Nat×aC A}(htb: ∀t,cT (tb t).2=true){P:Program}{f:FuncId}{args args2:List AVal}{h:aC A}{K:AVal→aC A→Prop}(S:Nat→Bool)
 (ha: ∀(c':Con),Con.sub c c'→ ∀(V:Val) (l:List Value),(∀m e,S m=false→aO h m=some e→ ∃p,@aH.interp c' A (@obI c' A tb) V m e p∧ ∀b o,p b=some o→c'.con b=some o)→ @aG c V args l→ @aG c' V args2 l)
 (h0: ∀c':Con,@aB c' A (@obI c' A tb) P f args2 (thaw S 0 h) (aE7 S h K)):aB (obI tb) P f args h K:=by
 intro V hR w args' hi hf hr;obtain⟨hR',i1,i2,i3,i4⟩:=hi.split2 S
 let c':Con:=⟨hR'⟩
 have hcc:Con.sub c c':=by
  obtain⟨_,_,_,_,_,_,h6⟩:=hi;exact fun b o e=>i2 b o (h6.2 b o e)
 have hI: @obI c' A tb= @obI c A tb:=OV c' c htb
 have hT:(fun l=>if S l then toF h l else none)=toF (thaw S 0 h):=by
  funext l;rw [C8,Nat.zero_add]
 rw [hT]at i1
 have j1: @Inv c' A (@obI c' A tb) V (toF (thaw S 0 h)) hR' w:=by
  obtain⟨hs,k1,k2,k3,k4,k5,k6⟩:=i1;refine⟨hs,fun l e he=>?_,k2,k3,k4,k5,⟨k6.1,fun b o e=>e⟩⟩;rw [hI];exact aHu hcc (k1 l e he)
 have j2: @aG c' V args2 args'.toList:=by
  refine ha c' hcc V _ ?_ hr;intro m e hS he;obtain⟨p,p1,p2⟩:=i3 m e hS he;refine⟨p,?_,p2⟩;rw [hI];exact aHu hcc p1
 refine(h0 c' V hR' w args' j1 (by rw [qV];exact hf) j2).mono ?_
 rintro e w' ⟨v,v',V',g,⟨hv,hg,hz,hk⟩,rfl,q3,q4,q5,q6,q7,q8⟩;rw [qV]at q6;have hbl:=zT S h g 0 q6;refine⟨v,v',V',_,hk,rfl,aHy v v' hv q3,q4,by rw [hbl];exact q5,by rw [hbl];exact q6,?_,q8⟩
 have j3: @Inv c A (@obI c A tb) V' (toF g) hR' w':=by
  obtain⟨hs,k1,k2,k3,k4,k5,k6⟩:=q7;refine⟨hs,fun l e he=>?_,k2,k3,k4,k5,⟨k6.1,hcc⟩⟩;rw [←hI];exact aHs (sR hg he) (k1 l e he)
 have j4:=i4 V' (toF g) w' q4 j3 (fun l hS hn=>hz l (by
  cases hq:toF h l with
  | none=>exact(hn hq).elim
  | some e=>exact dH hq) hS)
 have:(fun l=>if S l=false∧toF h l≠none then toF h l else toF g l)=toF (back S 0 h g):=by
  funext l;rw [C6 S h g 0 l q6 (fun m h1 _ h3=>hz m h3 (by rw [←h1,Nat.zero_add])),Nat.zero_add]
 rw [this]at j4;exact j4
theorem tQ{c:Con}{I:Itp A}{V:Val}{l n k:Nat}{vs:List AVal}{p:PHeap}{v:Value}{row:Nat→List AVal}
 (hv: @Rep c V (.slice l 0 n k) v) (he: @aH.interp c A I V l (.cells vs) p) (hp: ∀b o,p b=some o→c.con b=some o)
 (hrow: ∀i,i<n→(row i).length =k∧ ∀rs,@aG c V ((vs.drop (i*k)).take k) rs→ @aG c (fun _=>none) (row i) rs) (hlen:n*k≤vs.length): @Rep c V (.view n k row) v:=by
 obtain⟨base,cap,e1,e2,e3⟩:=hv;refine⟨base,cap,e1,e2,?_⟩;rcases e3 with⟨b,kk,g1,g2,g3⟩ | ⟨g1,g2⟩
 ·left;obtain⟨b',k',a1,cs,T,a2,a3,rs,tail,a4,a5⟩:=he;rw [g1]at a1;cases a1;refine⟨b,0,cs,T,_,g2,hp b (.cells cs T) (by rw [a2];exact if_pos rfl),fun i hi=>⟨(hrow i hi).1,?_⟩⟩
  refine(hrow i hi).2 _ ?_;rw [Nat.zero_add,a4];have hrl:=aG.length a5
  have hle:i*k+k≤vs.length:=by
   have:(i+1)*k≤n*k:=Nat.mul_le_mul_right k hi;rw [Nat.add_mul,Nat.one_mul]at this;omega
  rw [List.drop_append_of_le_length (by omega),List.take_append_of_le_length (by rw [List.length_drop];omega)]
  exact aG.take (aG.drop a5 (i*k)) k
 ·right;omega
end Go.Sh
namespace Go.Sh
open Go
variable [Con] {A:Type} {tb:A→Nat×aC A} {P:Program}
def HF(P:Program)(t:TypeId)(off:Nat)(vs:List AVal):Option AVal:=match fZ P t,cG P t with
 | some true,some n=>cond (Nat.ble (off+n) vs.length&&aGS [] ((vs.drop off).take n)) (some (.agg ((vs.drop off).take n))) none
 | some false,_=>match vs[off]? with
   | some v=>cond (v.within []) (some v) none
   | none=>none
 | _,_=>none
def FF(tb:A→Nat×aC A)(P:Program)(t:TypeId)(l off:Nat)(h:aC A):Option AVal:=
 match aO h l with
 | some (.abs o _)=>match tb o with
   | (_,some (.cells vs)::_)=>HF P t off vs
   | _=>none
 | _=>none
theorem JZ(t:TypeId)(l off:Nat)(h:aC A)(v:AVal)(hk:FF tb P t l off h=some v)(V:Val)(hR:PHeap)(w:World)(b k:Nat)(hi:Inv (obI tb) V (toF h) hR w)(hV:V l=some (b,k)): ∃v',(Instr.loadAt t (.pointer (some ⟨b,off,none⟩))).run P w=.ok v' w∧Rep V v v':=by
 unfold FF at hk;split at hk
 case h_2=>cases hk
 rename_i ob ps hl;split at hk
 case h_2=>cases hk
 rename_i np vs rest htb;obtain⟨hs,h1,h2,h3,h4,h5,h6⟩:=id hi;obtain⟨b',k',hV',bs,hlo,N,hob⟩:=h1 l _ hl;rw [hV]at hV';simp only [sI',pI']at hV';obtain⟨rfl,rfl⟩:=hV';cases N with
 | zero=>exact hob.elim
 | succ N=>
 obtain⟨Vg,gs,g1,g2,g3,⟨g4,g5,g6⟩,g7⟩:=hob;rw [htb]at g4;have hc:=g4 0 (.cells vs) rfl;obtain⟨b2,k2,c1,cs,T,c2,c3,rs,tail,c4,c5⟩:=hc;have hbk:b2=b:=by have c1':Vg 0=some (b2,k2):=c1;rw [g1]at c1';simp at c1';exact c1'.1.symm
 subst hbk
 have hcell:w.heap[b2]? =some (.cells cs T):=by
  refine h5 l b2 _ ?_;rw [g7];refine aG4 g6 (l:=0) ?_;rw [c2];simp [PHeap.one]
 have hlen:=aG.length c5
 have drop1:off≤vs.length→cs.toList.drop off=rs.drop off++tail:=by
  intro hle;rw [c4,List.drop_append_of_le_length (by omega)]
 unfold HF at hk;split at hk
 ·rename_i n e1 e2;cases hc1:(Nat.ble (off+n) vs.length&&aGS [] ((vs.drop off).take n))with
  | false=>rw [hc1]at hk;cases hk
  | true=>
  rw [hc1]at hk;simp only [cond_true,sI']at hk;subst hk;obtain⟨hc2,hc3⟩:=Bool.and_eq_true_iff.1 hc1;have hle:off+n≤vs.length:=Nat.le_of_ble_eq_true hc2;have hrep:aG V ((vs.drop off).take n) ((rs.drop off).take n):=aG7 (pl:=[]) (fun i hi=>by cases hi) _ _ hc3 (aG.take (aG.drop c5 off) n)
  obtain⟨v',g8,g9⟩:=iK (P:=P) (V:=V) (t:=t) (av:=(vs.drop off).take n) (v:=.agg (((vs.drop off).take n).take n)) hcell (seg:=(rs.drop off).take n) (rest:=(rs.drop off).drop n++tail) (by rw [drop1 (by omega),←List.append_assoc,List.take_append_drop]) hrep (by
   unfold fI;rw [e1,e2];simp only;rw [if_pos (by rw [List.length_take,List.length_drop];omega)])
  rw [List.take_take,Nat.min_self]at g9;exact⟨v',g8,g9⟩
 ·rename_i e2 e1;split at hk
  case h_2=>cases hk
  rename_i v1 hv;cases hc1:v1.within []with
  | false=>rw [hc1]at hk;cases hk
  | true=>
  rw [hc1]at hk;simp only [cond_true,sI']at hk;subst hk;have hlt:off<vs.length:=(List.getElem?_eq_some_iff.1 hv).1;have hri:=aG.at c5 (i:=off) (a:=v1) (v:=rs[off]'(by omega)) hv (gE' (by omega))
  have hrep:Rep V v1 (rs[off]'(by omega)):=aHk (pl:=[]) (fun i hi=>by cases hi) _ _ hc1 hri
  obtain⟨v',g8,g9⟩:=iK (P:=P) (V:=V) (t:=t) (av:=[v1]) (v:=v1) hcell (seg:=[rs[off]'(by omega)]) (rest:=rs.drop (off+1)++tail) (by
   rw [drop1 (by omega),List.drop_eq_getElem_cons (by omega)];rfl) ⟨_,[],rfl,hrep,rfl⟩ (by unfold fI;rw [e1];rfl)
  exact⟨v',g8,g9⟩
 ·cases hk
end Go.Sh
