import Derived.Test.YteindpciaceeeaaGreatZAD0toQH
set_option linter.all false
set_option maxHeartbeats 8000000
namespace Go.Sh
open Go
variable [Con] {A:Type} {P:Program} {E:Env A P}
def mR(E:Env A P)(inl:s9 A)(L:Nat->Option (kK A))(nt n0:Nat):List Code->List AVal->aB A->kJ A->Prop
 | [],tm,h,K=>K .normal tm h
 | x::xs,tm,h,K=>dA E inl L nt n0 x tm h fun e tm' h'=>match e with
   | .normal =>mR E inl L nt n0 xs tm' h' K
   | .exit id=>K (.exit id) tm' h'
   | .ret =>K .ret tm' h'
def IV:List Code->Code->Code
 | [],r=>r
 | x::xs,r=>.seq x (IV xs r)
theorem pC{ds:List Deferred}{inl:s9 A}(hinl:lE E inl)(hm:P.follows .mixedOrders =true){L:Nat->Option (kK A)}{nt n0:Nat}{V0:Val}{hR:PHeap}{w0:World}(hf0:bO V0 n0){r:Code}{Q:Exit->Act->World->Prop} : ∀(xs:List Code) (tm:List AVal) (h:aB A) (K:kJ A) (a:Act) (w:World) (V:Val),
 mR E inl L nt n0 xs tm h K->Inv E.I V (toF h) hR w->bO V h.length->aH V tm a.tmps.toList->a.defers=ds->V0.le V->n0<=h.length->bN w0 w->
 (∀a' w',uU E ds V0 n0 hR w0 (K .normal) a' w'->r.wp P Q a' w')->(∀id a' w',uU E ds V0 n0 hR w0 (K (.exit id)) a' w'->Q (.exit id) a' w')->(∀a' w',uU E ds V0 n0 hR w0 (K .ret) a' w'->Q .ret a' w')->(IV xs r).wp P Q a w
 | [],tm,h,K,a,w,V,he,hi,hf,ht,hd,hV,hn,hg,h1,h2,h3=>h1 a w ⟨tm,V,h,he,ht,hV,hf,hn,hi,hg,hd⟩
 | x::xs,tm,h,K,a,w,V,he,hi,hf,ht,hd,hV,hn,hg,h1,h2,h3=>by
   unfold mR at he;refine wp_seq (jU hinl hm hf0 x tm h _ a w V _ he hi hf ht hd hV hn hg ?_);intro e a' w' hT;cases e with
   | normal=>
     obtain⟨tm',V',h',k1,k2,k3,k4,k5,k6,k7,k8⟩:=hT;exact pC hinl hm hf0 xs tm' h' K a' w' V' k1 k6 k4 k2 k8 k3 k5 k7 h1 h2 h3
   | exit id=>exact h2 id a' w' hT
   | ret=>exact h3 a' w' hT
end Go.Sh
