import Derived.Test.YteindpciaceeeaaGreatZR3toV7
set_option linter.all false
set_option maxHeartbeats 8000000
namespace Go.Sh
open Go Go.RowKit
variable [Con] {A:Type}
section
variable {P:Program} {E:oL A P}
theorem K4{inl:tB A}(hinl:kK E inl){ro:Option Nat}{ds:List Deferred}{nt:Nat}{hR:PHeap}{x y z b r c:Code}(hc:c=.seq x (.seq y z)){tm:List AVal}{h:aC A}{K:List AVal→aC A→Prop}(he:Ev (cR E inl nt c tm h K))
 {a:Act} {w:World} {V:Val} {Q:Exit→Act→World→Prop} (hi:Inv E.I V (toF h) hR w) (hf:bY V h.length) (ht:aG V tm a.tmps.toList) (hd:a.defers=ds)
 (hQ: ∀a' w',tS E ds V h.length hR w K a' w'→b.wpIn (FW ro) 0 P (Exit.then (r.wpIn (FW ro) 0 P Q) Q) a' w'):
 (Code.seq x (.seq y (.seq (.seq z b) r))).wpIn (FW ro) 0 P Q a w:=by
 subst hc;have he:=he.get;unfold cR at he;refine wpIn_seq (eF hinl _ _ _ _ _ w V _ he hi hf ht hd ?_);rintro q1 w1 ⟨tm1,V1,g1,k1,k2,k3,k4,k5,k6,k7,k8⟩;unfold cR at k1;refine wpIn_seq (eF hinl _ _ _ _ _ w1 V1 _ k1 k6 k4 k2 k8 ?_);rintro q2 w2 ⟨tm2,V2,g2,j1,j2,j3,j4,j5,j6,j7,j8⟩;refine wpIn_seq (wpIn_seq (eF hinl _ _ _ _ _ w2 V2 _ j1 j6 j4 j2 j8 ?_));intro q3 w3 hT;exact hQ q3 w3 ((hT.chain j3 j5 j7).chain k3 k5 k7)
theorem K3{inl:tB A}(hinl:kK E inl){ro:Option Nat}{ds:List Deferred}{nt:Nat}{hR:PHeap}{z r:Code}{tm:List AVal}{h:aC A}{K:List AVal→aC A→Prop}(he:Ev (cR E inl nt z tm h K))
 {a:Act} {w:World} {V:Val} {Q:Exit→Act→World→Prop} (hi:Inv E.I V (toF h) hR w) (hf:bY V h.length) (ht:aG V tm a.tmps.toList) (hd:a.defers=ds)
 (hQ: ∀a' w',tS E ds V h.length hR w K a' w'→r.wpIn (FW ro) 0 P Q a' w'):
 (Code.seq z r).wpIn (FW ro) 0 P Q a w:=by
 exact wpIn_seq (eF hinl _ _ _ _ _ w V _ he.get hi hf ht hd hQ)
theorem FN{inl:tB A}(hinl:kK E inl){fA:FuncId}{view:AVal}{xs:List Int}(hA:DF P fA view xs){nt m:Nat}{g:Operand}{p:Tmp}{assign body:Code}{tm:List AVal}{S:Nat→aC A}
 (hS: ∀j,(S j).length =m) (hwv:view.within []=true) (hSw:dE m (S 0)=true)
 (hb: ∀j x,xs[j]? =some x→Ev (cR E inl nt assign (tm.set p (.int .i64 x)) (S j) (fun tm1 h1=>cR E inl nt body tm1 h1 (fun _ h2=>aF E.I m (.bool true) h2 (.bool true) (S (j+1))))))
 {V:Val} {hR:PHeap} {w:World} {a:Act} {blk k:Nat} (hi:Inv E.I V (toF (S 0++ [some (.cells [view])])) hR w) (hf:bY V (m+1)) (hVm:V m=some (blk,k))
 (ht:aG V tm a.tmps.toList) (hwt:aGS (upto 0 m) tm=true) (hd:a.defers=[])
 (hg:a.eval g=.func (.func fA) #[] #[.pointer (some ⟨blk,0,none⟩)]) (hpl:mB P fA=true)
 {Q:Exit→Act→World→Prop}
 (hQ: ∀(w':World) (D:Nat) (V':Val),(∀l y,l<m→V l=some y→V' l=some y)→bY V' m→hR D=none→w'.heap[D]? =some (.deferred (some []))→
   Inv E.I V' (toF (S xs.length)) (fun b=>if b=D then some (.deferred (some []))else hR b) w'→bZ w w'→Q .normal {a with defers:=[{target:=.collected D,args:= #[] }] } w'):
 (Code.rangeFunc g #[p] assign body).wpIn (FW none) 0 P Q a w:=
 wpIn_wide.2 (KG hinl hA hS hwv hSw (fun j x hx=>(hb j x hx).get) hi hf hVm ht hwt hd hg hpl hQ)
end
end Go.Sh
