import Derived.RangeFuncRecord
import Derived.Below
import Derived.Test.YteindpciaceeeaaGreatZR1toR2
set_option linter.all false
set_option maxHeartbeats 8000000
namespace Go.Sh
open Go
variable [Con] {A:Type}
section
variable {P:Program} {E:oL A P}
def tS(E:oL A P)(ds:List Deferred)(V:Val)(n:Nat)(hR:PHeap)(w:World)(K:List AVal→aC A→Prop)(a:Act)(w':World):Prop:=
 ∃tm V' h',K tm h'∧aG V' tm a.tmps.toList∧V.le V'∧bY V' h'.length∧n≤h'.length∧Inv E.I V' (toF h') hR w'∧bZ w w'∧a.defers=ds
theorem tS.chain{ds:List Deferred}{V V1:Val}{n n1:Nat}{hR:PHeap}{w w1:World}{K:List AVal→aC A→Prop}{a:Act}{w':World}(h:tS E ds V1 n1 hR w1 K a w')(hV:V.le V1)(hn:n≤n1)(hg:bZ w w1):tS E ds V n hR w K a w':=by
 obtain⟨tm,V',h',h1,h2,h3,h4,h5,h6,h7,h8⟩:=h;exact⟨tm,V',h',h1,h2,Val.le_trans hV h3,h4,by omega,h6,hg.trans h7,h8⟩
theorem x7{ds:List Deferred}{ro:Option Nat}{inl:tB A}(hinl:kK E inl){ops:Array Oper}{base:List AVal}{n:Nat}(hbn:base.length=n){Q:Exit→Act→World→Prop} : ∀(rest:List Oper) (seen:List (Option Tmp)) (i:Nat) (δ:List (Nat×AVal)) (h:aC A) (K:List AVal→aC A→Prop) (a:Act) (w:World) (V:Val) (hR:PHeap),
 rA ops rest seen i→fK E inl base n rest seen i δ h K→rJ n δ→Inv E.I V (toF h) hR w→bY V h.length→aG V (bS δ base) a.tmps.toList→a.defers=ds→
 (∀a' w',tS E ds V h.length hR w K a' w'→Q .normal a' w')→wpListIn (FW ro) 0 P ops Q rest a w:=by
 intro rest
 induction rest with
 | nil=>
   intro seen i δ h K a w V hR hsn he hin hi hf ht hd hQ;unfold fK at he;rw [nB,pW (by rw [hbn];exact hin)]at he
   exact wpListIn_nil (hQ a w ⟨bS δ base,V,h,he,ht,V.le_refl,hf,Nat.le_refl _,hi,aG6 w,hd⟩)
 | cons o rest ih=>
   intro seen i δ h K a w V hR hsn he hin hi hf ht hd hQ;have he:=bO.1 he;obtain⟨hok,he⟩:=he
   have run: ∀δ':List (Nat×AVal),rJ n δ'→aG V (bS δ' base) a.tmps.toList→(uH E inl (gE δ' base) o.op h fun v h'=>fK E inl base n rest (o.dst::seen) (Nat.succ i) (jE δ' o.dst v) h' K)→Region.wanted o (yielded ops a.tmps)=true→wpListIn (FW ro) 0 P ops Q (o::rest) a w:=by
    intro δ' hin' ht' hev hw;refine wpListIn_step fun K' hK'=>?_;rw [if_pos hw];rw [nY (by rw [hbn];exact hin')]at hev
    refine sK hinl hev hi hf ht' ?_;intro v v' V' h' w' k1 k2 k3 k4 k5 k6 k7;refine hK' _ _ (ih _ _ _ _ _ _ _ V' hR hsn.next k1 (kM hin' hok) k6 k4 (by rw [←kL (n:=n)];exact iH (aG.mono k3 _ _ ht') k2) (by rw [eY];exact hd) ?_)
    intro a' w'' hT;exact hQ a' w'' (hT.chain k3 k5 k7)
   have skip: ∀δ':List (Nat×AVal),rJ n δ'→aG V (bS δ' base) a.tmps.toList→fK E inl base n rest (o.dst::seen) (Nat.succ i) (jE δ' o.dst (.raw undef)) h K→Region.wanted o (yielded ops a.tmps)=false→wpListIn (FW ro) 0 P ops Q (o::rest) a w:=by
    intro δ' hin' ht' hev hw;refine wpListIn_step fun K' hK'=>?_;rw [if_neg (by rw [hw];simp)]
    exact⟨fun _ _=>trivial,hK' _ _ (ih _ _ _ _ _ _ _ V hR hsn.next hev (kM hin' hok) hi hf (by rw [←kL (n:=n)];exact iH ht' rfl) (by rw [eY];exact hd) hQ)⟩
   cases hg:o.guard with
   | none=>
     rw [hg]at he;exact run δ hin ht he (by simp [Region.wanted,hg])
   | some g=>
     obtain⟨j,want⟩:=g;rw [hg]at he;simp only at he;obtain⟨hji,he⟩:=bO.1 he;have hjd:=hsn.dst hji;cases hj:(ops[j]?).bind (·.dst)with
     | none=>rw [←hjd,hj]at he;exact he.elim
     | some d=>
       rw [←hjd,hj]at he;simp only at he;have hdg:=oD δ base d (by rw [hbn];exact hin)
       split at he
       ·rename_i b hb;obtain⟨hdn,he⟩:=bO.1 he;rw [hdg]at hb;have hgd:=oE hb;obtain⟨y,hy,ry⟩:=aG.get ht d _ hgd;rw [Array.getElem?_toList]at hy;have ry':y=.bool b:=ry;subst ry';have hyl:yielded ops a.tmps j=some b:=gR hj hy;have hs:bS ((d,.bool b)::δ) base=bS δ base:=kH _ d _ hgd;have hin2: ∀v,rJ n ((d,v)::δ):=fun v=>⟨Nat.le_of_ble_eq_true hdn,hin⟩;have hwb:Region.wanted o (yielded ops a.tmps)=(b == want):=by simp [Region.wanted,hg,hyl]
        cases b with
        | true=>
          simp only [cond_true]at he;cases want with
          | true=>rw [if_pos rfl]at he;exact run _ (hin2 _) (by rw [hs];exact ht) he (by rw [hwb];rfl)
          | false=>rw [if_neg (by simp)]at he;exact skip _ (hin2 _) (by rw [hs];exact ht) he (by rw [hwb];rfl)
        | false=>
          simp only [cond_false]at he;cases want with
          | true=>rw [if_pos rfl]at he;exact skip _ (hin2 _) (by rw [hs];exact ht) he (by rw [hwb];rfl)
          | false=>rw [if_neg (by simp)]at he;exact run _ (hin2 _) (by rw [hs];exact ht) he (by rw [hwb];rfl)
       ·rename_i hnb;split at he
        ·rename_i htp;rw [hdg]at htp
         have hyl:yielded ops a.tmps j=none:=by
          refine iF hj ?_;cases e:a.tmps[d]? with
          | none=>exact .inl rfl
          | some x=>
            right
            have hlt:d<(bS δ base).length :=by
             have h1:=aG.length ht;rw [Array.length_toList]at h1;cases Nat.lt_or_ge d a.tmps.size with
             | inl g=>exact Nat.lt_of_lt_of_eq g h1
             | inr g=>rw [Array.getElem?_eq_none g]at e;cases e
            obtain⟨y,hy,ry⟩:=aG.get ht d _ (gE' hlt);rw [Array.getElem?_toList,e]at hy;cases hy;have e2:(bS δ base).getD d (.raw undef)=(bS δ base)[d]:=by rw [gD',gE' hlt];rfl
            rw [e2]at htp;unfold gG at htp;split at htp
            ·rename_i vs e3;rw [e3]at ry;have:x=.tuple vs:=ry;exact⟨vs,by rw [this]⟩
            ·cases htp
         exact skip δ hin ht he (by simp [Region.wanted,hg,hyl])
        ·exact he.elim
end
def cR{P:Program}(E:oL A P)(inl:tB A)(nt:Nat):Code→List AVal→aC A→(List AVal→aC A→Prop)→Prop
 | .skip,tm,h,K=>K tm h
 | .region _ ops draw,tm,h,K=>dF (Nat.beq tm.length nt&& !draw) (fK E inl tm nt ops.toList [] 0 [] h K)
 | .seq x y,tm,h,K=>cR E inl nt x tm h fun tm' h'=>cR E inl nt y tm' h' K
 | .cond c x y,tm,h,K=>match dV tm c with
    | .bool b=>cond b (cR E inl nt x tm h K) (cR E inl nt y tm h K)
    | _=>False
 | .block _ c,tm,h,K=>cR E inl nt c tm h K
 | _,_,_,_=>False
section
variable {P:Program} {E:oL A P}
theorem eF{inl:tB A}(hinl:kK E inl){ro:Option Nat}{ds:List Deferred}{nt:Nat}{hR:PHeap} : ∀(c:Code) (tm:List AVal) (h:aC A) (K:List AVal→aC A→Prop) (a:Act) (w:World) (V:Val) (Q:Exit→Act→World→Prop),
 cR E inl nt c tm h K→Inv E.I V (toF h) hR w→bY V h.length→aG V tm a.tmps.toList→a.defers=ds→
 (∀a' w',tS E ds V h.length hR w K a' w'→Q .normal a' w')→c.wpIn (FW ro) 0 P Q a w:=by
 intro c
 induction c with
 | skip=>
   intro tm h K a w V Q he hi hf ht hd hQ;exact wpIn_skip (hQ a w ⟨tm,V,h,he,ht,V.le_refl,hf,Nat.le_refl _,hi,aG6 w,hd⟩)
 | region id ops draw=>
   intro tm h K a w V Q he hi hf ht hd hQ;unfold cR at he;obtain⟨hb,he2⟩:=bO.1 he;obtain⟨hnt,hdr⟩:=Bool.and_eq_true_iff.1 hb;clear he hb;cases draw with
   | true=>cases hdr
   | false=>exact wpIn_region_list (x7 hinl (Nat.eq_of_beq_eq_true hnt) ops.toList [] 0 [] h K a w V hR ⟨[],rfl,rfl,rfl⟩ he2 trivial hi hf ht hd hQ)
 | seq x y ihx ihy=>
   intro tm h K a w V Q he hi hf ht hd hQ;unfold cR at he;refine wpIn_seq (ihx tm h _ a w V _ he hi hf ht hd ?_);rintro a' w' ⟨tm',V',h',k1,k2,k3,k4,k5,k6,k7,k8⟩;refine ihy tm' h' K a' w' V' Q k1 k6 k4 k2 k8 ?_;intro a2 w2 hT;exact hQ a2 w2 (hT.chain k3 k5 k7)
 | cond c x y ihx ihy=>
   intro tm h K a w V Q he hi hf ht hd hQ;unfold cR at he;split at he
   ·rename_i b hb;have hv:=f6 ht c;rw [hb]at hv;have hv:a.eval c=.bool b:=hv;cases b with
    | true=>exact wpIn_cond hv (ihx tm h K a w V Q he hi hf ht hd hQ)
    | false=>exact wpIn_cond hv (ihy tm h K a w V Q he hi hf ht hd hQ)
   ·exact he.elim
 | block id c ih=>
   intro tm h K a w V Q he hi hf ht hd hQ;unfold cR at he;refine wpIn_block (ih tm h K a w V _ he hi hf ht hd ?_);intro a' w' hT;exact hQ a' w' hT
 | _=>
   intro tm h K a w V Q he hi hf ht hd hQ;exact he.elim
def RI(I:Itp A)(V:Val)(h:bH A)(hR hF:PHeap):Prop:=
 ∃hs:Nat→PHeap,(∀l e,h l=some e→e.interp I V l (hs l))∧(∀l,h l=none→hs l=.emp)∧
  (∀l m,l≠m→(hs l).disj (hs m))∧(∀l,(hs l).disj hR)∧hF=(aGT hs).join hR∧ ∀b o,Con.con b=some o→hR b=some o
theorem oO{hs:Nat→PHeap}{hR:PHeap}{b:Nat}{o:Obj}(e:(aGT hs).join hR b=some o):(∃l,hs l b=some o)∨hR b=some o:=by
 rcases PHeap.join_some e with h | ⟨_,h⟩
 ·exact .inl (aG3 h)
 ·exact .inr h
theorem f7{hs:Nat→PHeap}{hR:PHeap}(d: ∀l m,l≠m→(hs l).disj (hs m))(dR: ∀l,(hs l).disj hR){b:Nat}{o:Obj}(e:(∃l,hs l b=some o)∨hR b=some o):(aGT hs).join hR b=some o:=by
 unfold PHeap.join;rcases e with⟨l,e⟩ | e
 ·rw [aG4 d e]
 ·cases hb:aGT hs b with
  | none=>exact e
  | some o2=>
    obtain⟨l,hl⟩:=aG3 hb;have:=dS (dR l) hl;rw [e]at this;cases this
theorem cU{h g:PHeap}{b:Nat}{o:Obj}(e:h b=some o):h.join g b=some o:=by unfold PHeap.join;rw [e]
theorem oR{h g:PHeap}(d:g.disj h){b:Nat}{o:Obj}(e:g b=some o):h.join g b=some o:=by
 unfold PHeap.join;rw [dS d e];exact e
theorem RI.inv{I:Itp A}{V:Val}{h:bH A}{hR hF own:PHeap}{w:World}(hh:RI I V h hR hF)(hd:own.disj hF)(ho:own.sub w)(hs:hF.sub w):Inv I V h (hR.join own) w:=by
 obtain⟨hs',h1,h2,h3,h4,rfl,h6⟩:=hh
 have odR:own.disj hR:=by
  intro b;cases e:own b with
  | none=>exact .inl rfl
  | some o=>
    right;have:=dS hd e;cases e2:hR b with
    | none=>rfl
    | some o2=>rw [f7 h3 h4 (.inr e2)]at this;cases this
 refine⟨hs',h1,h2,h3,?_,fun l b o e=>hs b o (f7 h3 h4 (.inl ⟨l,e⟩)),?_,fun b o e=>cU (h6 b o e)⟩
 ·intro l b;cases e:hs' l b with
  | none=>exact .inl rfl
  | some o=>
    right;unfold PHeap.join;rw [dS (h4 l) e];cases e2:own b with
    | none=>rfl
    | some o2=>
      have:=dS hd e2;rw [f7 h3 h4 (.inl ⟨l,e⟩)]at this;cases this
 ·intro b o e;rcases PHeap.join_some e with e | ⟨_,e⟩
  ·exact hs b o (f7 h3 h4 (.inr e))
  ·exact ho b o e
theorem Inv.held{I:Itp A}{V:Val}{h:bH A}{hR own:PHeap}{w:World}(hi:Inv I V h (hR.join own) w)(hd:own.disj hR)(hc: ∀b o,Con.con b=some o→hR b=some o):
 ∃hF,RI I V h hR hF∧own.disj hF∧own.sub w∧hF.sub w:=by
 obtain⟨hs,h1,h2,h3,h4,h5,h6,h7⟩:=hi
 have d1: ∀l,(hs l).disj hR:=by
  intro l b;rcases h4 l b with e | e
  ·exact .inl e
  ·right;cases e2:hR b with
   | none=>rfl
   | some o=>rw [cU e2]at e;cases e
 refine⟨_,⟨hs,h1,h2,h3,d1,rfl,hc⟩,?_,fun b o e=>h6 b o (oR hd e),?_⟩
 ·intro b;cases e:own b with
  | none=>exact .inl rfl
  | some o=>
    right;cases e2:(aGT hs).join hR b with
    | none=>rfl
    | some o2=>
      rcases oO e2 with⟨l,e3⟩ | e3
      ·have:=dS (h4 l) e3;rw [oR hd e]at this;cases this
      ·have:=dS hd e;rw [e3]at this;cases this
 ·intro b o e;rcases oO e with⟨l,e⟩ | e
  ·exact h5 l b o e
  ·exact h6 b o (cU e)
end
end Go.Sh
namespace Go.Sh
open Go Go.RowKit
variable [Con] {A:Type}
def DF(P:Program)(fA:FuncId)(view:AVal)(xs:List Int):Prop:=
 ∀(l:Nat) (Fr:Nat→PHeap→Prop),jU P l xs Fr→aB (frI Fr) P fA [.func (.yield l) [] [],.ptr 1 0] [some (.abs 0 []),some (.cells [view])] (fun v h=>h=[some (.abs xs.length []),some (.cells [view])])
theorem Inv.put{I:Itp A}{V:Val}{h:bH A}{hX hY:PHeap}{w:World}{l:Nat}{o o':Obj}(hi:Inv I V h hX w)(hl:hX l=some o)(hY1:hY l=some o')(hY2: ∀b,b≠l→hY b=hX b)(hc:Con.con l=none):Inv I V h hY (w.putObj l o'):=by
 obtain⟨hs,h1,h2,h3,h4,h5,h6,h7⟩:=hi;have hlt:l<w.heap.size:=(Array.getElem?_eq_some_iff.1 (h6 l o hl)).1
 have nl: ∀m,hs m l=none:=fun m=>by
  rcases h4 m l with e | e
  ·exact e
  ·rw [hl]at e;cases e
 refine⟨hs,h1,h2,h3,?_,?_,?_,?_⟩
 ·intro m b
  by_cases e:b=l
  ·subst e;exact .inl (nl m)
  ·rw [hY2 b e];exact h4 m b
 ·intro m b x e;have hb:b≠l:=fun e2=>by subst e2;rw [nl m]at e;cases e
  rw [World.putObj_heap_other hb];exact h5 m b x e
 ·intro b x e
  by_cases hb:b=l
  ·subst hb;rw [hY1]at e;cases e;exact World.putObj_heap_same hlt
  ·rw [World.putObj_heap_other hb];rw [hY2 b hb]at e;exact h6 b x e
 ·intro b x e;have hb:b≠l:=fun e2=>by subst e2;rw [hc]at e;cases e
  rw [hY2 b hb];exact h7 b x e
theorem Inv.shrink{I:Itp A}{V:Val}{h:bH A}{hX hY:PHeap}{w:World}(hi:Inv I V h hX w)(hs: ∀b o,hY b=some o→hX b=some o)(hc: ∀b o,Con.con b=some o→hY b=some o):Inv I V h hY w:=by
 obtain⟨hs',h1,h2,h3,h4,h5,h6,h7⟩:=hi;refine⟨hs',h1,h2,h3,?_,h5,fun b o e=>h6 b o (hs b o e),hc⟩;intro m b;rcases h4 m b with e | e
 ·exact .inl e
 ·right;cases e2:hY b with
  | none=>rfl
  | some o=>rw [hs b o e2]at e;cases e
theorem bZ.put{w:World}{l:Nat}{r r':Loop}(h:w.heap[l]? =some (.loop r)):bZ w (w.putObj l (.loop r')):=by
 have hlt:l<w.heap.size:=(Array.getElem?_eq_some_iff.1 h).1;refine⟨rfl,rfl,?_,?_⟩
 ·show w.heap.size≤(w.heap.setIfInBounds l _).size
  simp
 ·intro a _;unfold World.frozen?
  by_cases e:a.block=l
  ·rw [e,h,World.putObj_heap_same hlt]
  ·rw [World.putObj_heap_other e]
theorem aHJ(w:World)(o:Obj):bZ w (w.alloc o):=by
 refine⟨rfl,rfl,?_,?_⟩
 ·rw [World.size_alloc];omega
 ·intro a ha;unfold World.frozen?
  have:(w.alloc o).heap[a.block]? =w.heap[a.block]? :=by
   show(w.heap.push o)[a.block]? =_;rw [Array.getElem?_push,if_neg (by omega)]
  rw [this]
section
variable {P:Program} {E:oL A P}
def rgH(hR:PHeap)(D l:Nat)(r:Loop):PHeap:=fun b=>if b=l then some (.loop r)else if b=D then some (.deferred (some []))else hR b
theorem xB(hR:PHeap)(D l:Nat)(r:Loop):rgH hR D l r l=some (.loop r):=if_pos rfl
theorem YI{hR:PHeap}{D l:Nat}{r r':Loop}{b:Nat}(h:b≠l):rgH hR D l r' b=rgH hR D l r b:=by
 unfold rgH;rw [if_neg h,if_neg h]
theorem KG{inl:tB A}(hinl:kK E inl){fA:FuncId}{view:AVal}{xs:List Int}(hA:DF P fA view xs){nt m:Nat}{g:Operand}{p:Tmp}{assign body:Code}{tm:List AVal}{S:Nat→aC A}
 (hS: ∀j,(S j).length =m) (hwv:view.within []=true) (hSw:dE m (S 0)=true)
 (hb: ∀j x,xs[j]? =some x→cR E inl nt assign (tm.set p (.int .i64 x)) (S j) (fun tm1 h1=>cR E inl nt body tm1 h1 (fun _ h2=>aF E.I m (.bool true) h2 (.bool true) (S (j+1)))))
 {V:Val} {hR:PHeap} {w:World} {a:Act} {blk k:Nat} (hi:Inv E.I V (toF (S 0++ [some (.cells [view])])) hR w) (hf:bY V (m+1)) (hVm:V m=some (blk,k))
 (ht:aG V tm a.tmps.toList) (hwt:aGS (upto 0 m) tm=true) (hd:a.defers=[])
 (hg:a.eval g=.func (.func fA) #[] #[.pointer (some ⟨blk,0,none⟩)]) (hpl:mB P fA=true)
 {Q:Exit→Act→World→Prop}
 (hQ: ∀(w':World) (D:Nat) (V':Val),(∀l y,l<m→V l=some y→V' l=some y)→bY V' m→hR D=none→w'.heap[D]? =some (.deferred (some []))→
   Inv E.I V' (toF (S xs.length)) (fun b=>if b=D then some (.deferred (some []))else hR b) w'→bZ w w'→Q .normal {a with defers:=[{target:=.collected D,args:= #[] }] } w'):
 (Code.rangeFunc g #[p] assign body).wp P Q a w:=by
 have hm0:(S 0).length =m:=hS 0;refine(wpIn_wide (n:=0)).1 (wpIn_rangeFunc ?_);intro fn hfn;obtain⟨D,hD⟩: ∃D,D=w.heap.size:=⟨_,rfl⟩;obtain⟨l,hl⟩: ∃l,l=w.heap.size+1:=⟨_,rfl⟩;have hlD:l≠D:=by omega
 obtain⟨rec,hrec⟩: ∃rec:LoopState→Loop,rec=fun st=> {state:=st,pending:=none,fn,tmps:=a.tmps,params:= #[p],assign,body,defers:=D} :=⟨_,rfl⟩;obtain⟨W1,hW1⟩: ∃W1,(w.alloc (.deferred (some []))).alloc (.loop (rec .ready))=W1:=⟨_,rfl⟩
 have hold: ∀(b:Nat) (o:Obj),w.heap[b]? =some o→W1.heap[b]? =some o:=by
  intro b o e;have hlt:=(Array.getElem?_eq_some_iff.1 e).1;rw [←hW1];exact(Below.heap_alloc _ _ b (by rw [World.size_alloc];omega)).trans ((Below.heap_alloc _ _ b hlt).trans e)
 have hL1:W1.heap[l]? =some (.loop (rec .ready)):=by
  rw [←hW1,hl];have:=World.alloc_heap_new (w.alloc (.deferred (some []))) (.loop (rec .ready))
  rwa [World.size_alloc]at this
 have hK1:W1.heap[D]? =some (.deferred (some [])):=by
  rw [←hW1,hD];exact(Below.heap_alloc _ _ _ (by simp)).trans (World.alloc_heap_new w _)
 have hG1:bZ w W1:=by rw [←hW1];exact(aHJ _ _).trans (aHJ _ _)
 have nob: ∀ {h:PHeap} {b:Nat},h.sub w→w.heap.size≤b→h b=none:=by
  intro h b hs hb;cases e:h b with
  | none=>rfl
  | some o=>
    have:=(Array.getElem?_eq_some_iff.1 (hs b o e)).1;omega
 obtain⟨hs,h1,h2,h3,h4,h5,h6,h7⟩:=hi;have hRD:hR D=none:=nob h6 (by omega)
 have hRl:hR l=none:=nob h6 (by omega)
 have conD:Con.con D=none:=by
  cases e:Con.con D with
  | none=>rfl
  | some o=>rw [h7 D o e]at hRD;cases hRD
 have conl:Con.con l=none:=by
  cases e:Con.con l with
  | none=>rfl
  | some o=>rw [h7 l o e]at hRl;cases hRl
 obtain⟨Vm,hVmd⟩: ∃Vm:Val,Vm=fun i=>if i<m then V i else none:=⟨_,rfl⟩
 have vm_lt: ∀i,i<m→V i=Vm i:=fun i h=>by rw [hVmd];exact(if_pos h).symm
 have vm_el: ∀i,(upto 0 m).elem i=true→V i=Vm i:=fun i h=>vm_lt i (by have:=(iQ m 0 i).1 h;omega)
 have htm:aG Vm tm a.tmps.toList:=aG7 vm_el _ _ hwt ht;have hfm:bY Vm m:=fun i h=>by rw [hVmd];exact if_neg (by omega)
 have rgc: ∀st,∀b o,Con.con b=some o→rgH hR D l (rec st) b=some o:=by
  intro st b o e;unfold rgH;rw [if_neg (fun e2=>by subst e2;rw [conl]at e;cases e),if_neg (fun e2=>by subst e2;rw [conD]at e;cases e)]
  exact h7 b o e
 have hget_lt0: ∀i,i<m→aO (S 0++ [some (.cells [view])]) i=aO (S 0) i:=by
  intro i h;unfold aO;rw [gD',gD',List.getElem?_append_left (by omega)]
 have hget_m:aO (S 0++ [some (.cells [view])]) m=some (.cells [view]):=by
  unfold aO;rw [gD',List.getElem?_append_right (by omega),hm0]
  simp
 have hget_ge0: ∀i,m≤i→aO (S 0) i=none:=by
  intro i h;unfold aO;rw [gD',List.getElem?_eq_none (by omega)];rfl
 have ownw:(hs m).sub w:=fun b o e=>h5 m b o e;have hm_l: ∀i,hs i l=none:=fun i=>nob (fun b o e=>h5 i b o e) (by omega)
 have hm_D: ∀i,hs i D=none:=fun i=>nob (fun b o e=>h5 i b o e) (by omega)
 have rg_some: ∀st b o,rgH hR D l (rec st) b=some o→(b=l∧o=.loop (rec st))∨(b=D∧o=.deferred (some []))∨hR b=some o:=by
  intro st b o e;unfold rgH at e
  by_cases e1:b=l
  ·rw [if_pos e1]at e;cases e;exact .inl ⟨e1,rfl⟩
  ·rw [if_neg e1]at e
   by_cases e2:b=D
   ·rw [if_pos e2]at e;cases e;exact .inr (.inl ⟨e2,rfl⟩)
   ·rw [if_neg e2]at e;exact .inr (.inr e)
 have drg: ∀i,(hs i).disj (rgH hR D l (rec .ready)):=by
  intro i b;cases e:hs i b with
  | none=>exact .inl rfl
  | some o=>
    right;cases e2:rgH hR D l (rec .ready) b with
    | none=>rfl
    | some o2=>
      rcases rg_some _ b o2 e2 with⟨e3,_⟩ | ⟨e3,_⟩ | e3
      ·rw [e3,hm_l i]at e;cases e
      ·rw [e3,hm_D i]at e;cases e
      ·have:=dS (h4 i) e;rw [e3]at this;cases this
 have hInv1:Inv E.I V (toF (S 0)) ((rgH hR D l (rec .ready)).join (hs m)) W1:=by
  refine⟨fun i=>if i<m then hs i else .emp,?_,?_,?_,?_,?_,?_,fun b o e=>cU (rgc _ b o e)⟩
  ·intro i e he
   by_cases hi:i<m
   ·show e.interp E.I V i (if i<m then hs i else .emp)
    rw [if_pos hi];exact h1 i e (by show aO _ i=_;rw [hget_lt0 i hi];exact he)
   ·have:aO (S 0) i=some e:=he;rw [hget_ge0 i (by omega)]at this;cases this
  ·intro i he;show(if i<m then hs i else .emp)=_
   by_cases hi:i<m
   ·rw [if_pos hi];exact h2 i (by show aO _ i=_;rw [hget_lt0 i hi];exact he)
   ·rw [if_neg hi]
  ·intro i j hij;show PHeap.disj (if i<m then hs i else .emp) (if j<m then hs j else .emp)
   by_cases hi:i<m
   ·rw [if_pos hi]
    by_cases hj:j<m
    ·rw [if_pos hj];exact h3 i j hij
    ·rw [if_neg hj];exact aGO _
   ·rw [if_neg hi];exact(aGO _).symm
  ·intro i;show PHeap.disj (if i<m then hs i else .emp) _
   by_cases hi:i<m
   ·rw [if_pos hi];intro b;cases e:hs i b with
    | none=>exact .inl rfl
    | some o=>
      right;unfold PHeap.join;rw [dS (drg i) e];exact dS (h3 i m (by omega)) e
   ·rw [if_neg hi];exact(aGO _).symm
  ·intro i b o e;have e:(if i<m then hs i else PHeap.emp) b=some o:=e
   by_cases hi:i<m
   ·rw [if_pos hi]at e;exact hold b o (h5 i b o e)
   ·rw [if_neg hi]at e;cases e
  ·intro b o e;rcases PHeap.join_some e with e | ⟨_,e⟩
   ·rcases rg_some _ b o e with⟨rfl,rfl⟩ | ⟨rfl,rfl⟩ | e
    ·exact hL1
    ·exact hK1
    ·exact hold b o (h6 b o e)
   ·exact hold b o (h5 m b o e)
 have hInv2:Inv E.I Vm (toF (S 0)) ((rgH hR D l (rec .ready)).join (hs m)) W1:=by
  refine aHB (pl:=upto 0 m) vm_el ?_ hInv1;intro i e he;have he':aO (S 0) i=some e:=he
  have hi:i<m:=by
   cases Nat.lt_or_ge i m with
   | inl h=>exact h
   | inr h=>rw [hget_ge0 i h]at he';cases he'
  refine⟨(iQ m 0 i).2 (by omega),?_⟩
  unfold dE at hSw;rw [List.all_eq_true]at hSw
  have hmem:some e∈S 0:=by
   unfold aO at he';rw [gD',gE' (by omega)]at he'
   have he':(S 0)[i]'(by omega)=some e:=he'
   rw [←he'];exact List.getElem_mem _
  exact hSw _ hmem
 have odR:(hs m).disj (rgH hR D l (rec .ready)):=drg m;obtain⟨hF0,hH0,od0,os0,hs0⟩:=hInv2.held odR (rgc _);obtain⟨Fr,hFr⟩: ∃Fr:Nat→PHeap→Prop,Fr=fun j hF=> ∃V2:Val,(∀i y,i<m→Vm i=some y→V2 i=some y)∧bY V2 m∧RI E.I V2 (toF (S j)) (rgH hR D l (rec .ready)) hF:=⟨_,rfl⟩;have hFr0:Fr 0 hF0:=by rw [hFr];exact⟨Vm,fun _ _ _ h=>h,hfm,hH0⟩
 have hY:jU P l xs Fr:=by
  constructor
  ·intro i hF hh b o e;rw [hFr]at hh;obtain⟨V2,_,_,hs2,_,_,g3,g4,rfl,g6⟩:=hh;exact f7 g3 g4 (.inr (g6 b o e))
  ·intro i x hx hF own w0 hFi hod hos hFs;rw [hFr]at hFi;obtain⟨V2,hv2,hf2,hHeld⟩:=hFi;have hInv:Inv E.I V2 (toF (S i)) ((rgH hR D l (rec .ready)).join own) w0:=hHeld.inv hod hos hFs
   have atl: ∀ {V':Val} {h':bH A} {st:LoopState} {w':World},Inv E.I V' h' ((rgH hR D l (rec st)).join own) w'→w'.heap[l]? =some (.loop (rec st)):=by
    rintro V' h' st w' ⟨_,_,_,_,_,_,g6,_⟩;exact g6 l _ (cU (xB _ _ _ _))
   have odrg:own.disj (rgH hR D l (rec .ready)):=by
    intro b;cases e:own b with
    | none=>exact .inl rfl
    | some o=>
      right;cases e2:rgH hR D l (rec .ready) b with
      | none=>rfl
      | some o2=>
        obtain⟨hs2,_,_,g3,g4,rfl,_⟩:=hHeld;have:=dS hod e;rw [f7 g3 g4 (.inr e2)]at this;cases this
   have hle:Vm.le V2:=by
    intro i y e
    by_cases h:i<m
    ·exact hv2 i y h e
    ·rw [hfm i (by omega)]at e;cases e
   have hput: ∀(st st':LoopState) {V':Val} {h':bH A} {w':World},Inv E.I V' h' ((rgH hR D l (rec st)).join own) w'→Inv E.I V' h' ((rgH hR D l (rec st')).join own) (w'.putObj l (.loop (rec st'))):=by
    intro st st' V' h' w' hh;refine hh.put (cU (xB _ _ _ _)) (cU (xB _ _ _ _)) ?_ conl;intro b hb;unfold PHeap.join;rw [YI hb]
   have hLw:=atl hInv;have hy:=run_yield (P:=P) (args:= #[.int .i64 x]) hLw (by rw [hrec];rfl)
   refine⟨fn,a.tmps.setIfInBounds p (.int .i64 x),assign,body,?_,?_⟩
   ·rw [hrec]at hy
    simpa using hy
   refine roundIn_of_wpIn trivial ?_;refine eF hinl (ro:=some l) (ds:=[]) assign (tm.set p (.int .i64 x)) (S i) _ _ w0 V2 _ (hb i x hx) hInv (by rw [hS];exact hf2) ?_ rfl ?_
   ·show aG V2 _ (a.tmps.setIfInBounds p _).toList;rw [Array.toList_setIfInBounds];exact aG.set (aG.mono hle _ _ htm) p _ _ rfl
   rintro a1 w1 ⟨tm1,V3,g1,k1,k2,k3,k4,k5,k6,k7,k8⟩;have hL1':=atl k6;have hbr:=run_beginRound (P:=P) hL1' (by rw [hrec])
   have ebusy: {rec .ready with state:=.busy } =rec .busy :=by rw [hrec]
   rw [ebusy]at hbr;refine⟨_,hbr,?_⟩;refine eF hinl (ro:=some l) (ds:=[]) body tm1 g1 _ a1 _ V3 _ k1 (hput _ .busy k6) k4 k2 k8 ?_;rintro a2 w3 ⟨tm2,V4,g2,q1,q2,q3,q4,q5,q6,q7,q8⟩;have hL3:=atl q6;have her:=run_endRound (P:=P) none hL3;have eready: {rec .busy with state:=if (none:Option Code).isNone then .ready else .done,pending:=none} =rec .ready :=by rw [hrec];rfl
   rw [eready]at her;have q6':=hput _ .ready q6;obtain⟨V5,t1,t2,t3,t4,t5⟩:=q1 V4 _ _ (.bool true) q6' q4 (by rw [hS]at k5;omega) rfl
   obtain⟨hF',z1,z2,z3,z4⟩:=t5.held odrg (rgc _);refine⟨_,_,her,rfl,hF',?_,z2,z3,z4,?_⟩
   ·rw [hFr];refine⟨V5,?_,by rw [hS]at t2;exact t2,z1⟩
    intro i' y hi' e;exact t1 i' y hi' (q3 _ _ (k3 _ _ (hle _ _ e)))
   ·exact k7.trans ((bZ.put hL1').trans (q7.trans (bZ.put hL3)))
 obtain⟨V',hV'⟩: ∃V':Val,V'=fun i=>if i=0 then some (0,0)else if i=1 then V m else none:=⟨_,rfl⟩
 have hIt:Inv (frI Fr) V' (toF [some (.abs 0 []),some (.cells [view])]) Con.con W1:=by
  refine⟨fun i=>if i=0 then hF0.less Con.con else if i=1 then hs m else .emp,?_,?_,?_,?_,?_,?_,fun b o e=>e⟩
  ·intro i e he
   match i,he with
   | 0,he=>
     have he:some (aH.abs 0 [])=some e:=he;cases he;refine⟨0,0,by rw [hV'];rfl,[],rfl,?_,?_⟩
     ·show Fr 0 ((hF0.less Con.con).join Con.con);rw [aHx (hY.con 0 hF0 hFr0)];exact hFr0
     ·intro b;cases ec:Con.con b with
      | none=>exact .inr rfl
      | some o=>left;show hF0.less Con.con b=none;unfold PHeap.less;rw [ec]
   | 1,he=>
     have he:some (aH.cells [view])=some e:=he;cases he;obtain⟨b',k',e1,cs,T,e2,e3,rs,tail,e4,e5⟩:=h1 m (.cells [view]) hget_m;exact⟨b',k',by rw [hV'];exact e1,cs,T,e2,e3,rs,tail,e4,aG.free [view] rs (by unfold aGS;rw [hwv];rfl) e5⟩
   | i+2,he=>cases he
  ·intro i he
   match i,he with
   | 0,he=>cases he
   | 1,he=>cases he
   | i+2,he=>rfl
  ·have d01:(hF0.less Con.con).disj (hs m):=by
    intro b;cases e:hs m b with
    | none=>exact .inr rfl
    | some o=>
      left;have:=dS od0 e;unfold PHeap.less;rw [this];split<;>rfl
   intro i j hij
   match i,j,hij with
   | 0,0,h=>exact absurd rfl h
   | 0,1,_=>exact d01
   | 0,j+2,_=>exact aGO _
   | 1,0,_=>exact d01.symm
   | 1,1,h=>exact absurd rfl h
   | 1,j+2,_=>exact aGO _
   | i+2,_,_=>exact(aGO _).symm
  ·intro i b
   match i with
   | 0=>
     cases ec:Con.con b with
     | none=>exact .inr rfl
     | some o=>left;show hF0.less Con.con b=none;unfold PHeap.less;rw [ec]
   | 1=>
     rcases h4 m b with e | e
     ·exact .inl e
     ·right;cases ec:Con.con b with
      | none=>rfl
      | some o=>rw [h7 b o ec]at e;cases e
   | i+2=>exact .inl rfl
  ·intro i b o e
   match i,e with
   | 0,e=>exact hs0 b o (aHn e).1
   | 1,e=>exact os0 b o e
   | i+2,e=>cases e
  ·intro b o e;exact hold b o (h6 b o (h7 b o e))
 have hfV':bY V' ([some (.abs 0 []),some (.cells [view])]:aC Nat).length :=by
  intro i hi;have hi:2≤i:=hi;rw [hV'];show(if i=0 then _ else if i=1 then _ else _)=_
  rw [if_neg (by omega),if_neg (by omega)]
 have hcall:=hA l Fr hY V' Con.con W1 (#[.func (.yield l) #[] #[]]++ #[.pointer (some ⟨blk,0,none⟩)]) hIt hfV' ⟨_,_,rfl,⟨#[], #[],rfl,rfl,rfl⟩,_,_,rfl,⟨blk,k,by rw [hV'];exact hVm,rfl⟩,rfl⟩
 refine⟨l,[{target:=.collected D,args:= #[] }],W1,{target:=.fn (.func fA) #[.pointer (some ⟨blk,0,none⟩)],args:= #[.func (.yield l) #[] #[]] },W1,fA, #[.func (.yield l) #[] #[]]++ #[.pointer (some ⟨blk,0,none⟩)],W1,?_,?_,?_,?_,(fun e=>by cases e),?_⟩
 ·rw [←hW1,hrec,hl,hD];exact run_enterLoop_outer _ _ _ _ _
 ·simp only [resolve,hg];simp [go_sem]
 ·intro f' _;trivial
 ·simp [invoke,go_sem,gF hpl]
 ·refine callsIn_wide.2 (hcall.mono ?_);rintro e w' ⟨v,v',V2,h2',rfl,rfl,_,_,_,_,hI,hG⟩;obtain⟨hs2,i1,i2,i3,i4,i5,i6,i7⟩:=hI;obtain⟨b2,k2,_,bs2,_,hFrn,hdc2⟩:=i1 0 (.abs xs.length []) rfl;rw [hFr]at hFrn;obtain⟨V3,u1,u2,u3⟩:=hFrn
  have hsub:((hs2 0).join Con.con).sub w':=by
   intro b o e;rcases PHeap.join_some e with e | ⟨_,e⟩
   ·exact i5 0 b o e
   ·exact i6 b o e
  have hI3:Inv E.I V3 (toF (S xs.length)) ((rgH hR D l (rec .ready)).join .emp) w':=u3.inv (fun b=>.inl rfl) (fun b o e=>by cases e) hsub
  have hLw:w'.heap[l]? =some (.loop (rec .ready)):=by
   obtain⟨_,_,_,_,_,_,g6,_⟩:=hI3;exact g6 l _ (cU (xB _ _ _ _))
  have hend:=run_endLoop (P:=P) hLw (by rw [hrec];intro e;cases e)
  have eex: {rec .ready with state:=.exhausted } =rec .exhausted :=by rw [hrec]
  rw [eex,show(rec .ready).pending =none by rw [hrec]]at hend
  refine⟨none,_,hend,?_⟩
  have hI4:Inv E.I V3 (toF (S xs.length)) ((rgH hR D l (rec .exhausted)).join .emp) (w'.putObj l (.loop (rec .exhausted))):=by
   refine hI3.put (cU (xB _ _ _ _)) (cU (xB _ _ _ _)) ?_ conl;intro b hb;unfold PHeap.join;rw [YI hb]
  have hKw:(w'.putObj l (.loop (rec .exhausted))).heap[D]? =some (.deferred (some [])):=by
   obtain⟨_,_,_,_,_,_,g6,_⟩:=hI4;refine g6 D _ (cU ?_);unfold rgH;rw [if_neg (fun e=>hlD e.symm),if_pos rfl]
  rw [hd];refine hQ _ D V3 (fun i y h e=>u1 i y h (by rw [←vm_lt i h];exact e)) u2 hRD hKw ?_ (hG1.trans (hG.trans (bZ.put hLw)))
  refine hI4.shrink ?_ ?_
  ·intro b o e;refine cU ?_;unfold rgH
   have hbl:b≠l:=by
    intro e2;subst e2;rw [if_neg hlD,hRl]at e;cases e
   rw [if_neg hbl];exact e
  ·intro b o e;show(if b=D then _ else _)=_
   rw [if_neg (fun e2=>by subst e2;rw [conD]at e;cases e)]
   exact h7 b o e
end
end Go.Sh
