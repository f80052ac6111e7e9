import Derived.Test.YteindpciaceeeaaGreatZSh32toSh33
set_option linter.all false
set_option maxHeartbeats 8000000
namespace Go.Sh
open Go Go.Proofs
variable [Con]
theorem aEP{X:Type}{K:X→Prop} : ∀ {t:Tr X},t.run K→t.ok
 | .ret x,k=>trivial
 | .ite b l r,k=>by cases b with
   | true=>exact aEP (t:=l) k
   | false=>exact aEP (t:=r) k
 | .pre p t,k=>⟨k.1,aEP (t:=t) k.2⟩
theorem aEK{X:Type}{K:X→Prop} : ∀ {t:Tr X},t.run K→K t.val
 | .ret x,k=>k
 | .ite b l r,k=>by cases b with
   | true=>exact aEK (t:=l) k
   | false=>exact aEK (t:=r) k
 | .pre p t,k=>aEK (t:=t) k.2
theorem Tr.run_ite{X:Type}{K:X→Prop}{b:Bool}{l r:Tr X}(h1:b=true→l.run K)(h2:b=false→r.run K):(Tr.ite b l r).run K:=aL h1 h2
theorem aEC{X:Type}{K:X→Prop}{b:Bool}{l r:Tr X}(h1:b=true→l.run K)(h2:b=false→r.run K):(bif b then l else r).run K:=by
 cases b with
 | true=>exact h1 rfl
 | false=>exact h2 rfl
theorem aED{X:Type}{K:X→Prop}{p:Prop}{t:Tr X}(h1:p)(h2:t.run K):(Tr.pre p t).run K:=⟨h1,h2⟩
theorem aEF{X:Type}{K:X→Prop}{x:X}(h:K x):(Tr.ret x).run K:=h
theorem nE'{P Q:Prop}(h:¬P:=by dsimp only;decide):P→Q:=fun e=>absurd e h
structure rngU (x:Int):Prop where
 h0:0≤x
 h1:x≤18446744073709551615
theorem CD:rngU 0:=⟨by decide,by decide⟩
theorem EN(x:Int):rngU (WU x):=⟨(JX x).1,(JX x).2⟩
theorem NE{xs:List Int}(h:TP xs)(a:Int):rngU (aC xs a):=⟨(tX h a).1,(tX h a).2⟩
theorem yA{b:Bool}{x y:Int}(h1:b=true→rngU x)(h2:rngU y):rngU (bif b then x else y):=by
 cases b with
 | true=>exact h1 rfl
 | false=>exact h2
theorem kV{n w:Int}(h:aK n w=true):0≤n∧n<2^w.toNat:=by
 unfold aK at h;simp only [Bool.and_eq_true,cH,a8,dT']at h;exact h
theorem KA(b:Bool):0≤bitI b∧bitI b≤1:=by cases b<;>decide
theorem ND{a b c d e f:Int}{m:Bool} :rngU (bif dOk a b c d e f then cJ a b c d m e f else 0):=by
 refine yA (fun h=>?_) CD;unfold dOk at h;simp only [Bool.and_eq_true]at h;obtain⟨h1,h2,h3,h4,h5,h6⟩:=h;have h1:=kV h1;have h2:=kV h2;have h3:=kV h3;have h4:=kV h4;have h5:=kV h5;have h6:=kV h6;have hb:=KA m;simp only [Int.reduceToNat,Int.reducePow]at h1 h2 h3 h4 h5 h6;unfold cJ;exact⟨by omega,by omega⟩
theorem T8{a b c v:Int}{m:Bool} :rngU (bif bif aK a 10 then bif aK b 9 then bif aK c 5 then aK v 18 else false else false else false then cK a b m c v else 0):=by
 refine yA (fun h=>?_) CD;cases h1:aK a 10 with
 | false=>rw [h1]at h;cases h
 | true=>
   cases h2:aK b 9 with
   | false=>rw [h1,h2]at h;cases h
   | true=>
     cases h3:aK c 5 with
     | false=>rw [h1,h2,h3]at h;cases h
     | true=>
       rw [h1,h2,h3]at h;have h:=kV (show aK v 18=true from h)
       have h1:=kV h1;have h2:=kV h2;have h3:=kV h3;have hb:=KA m;simp only [Int.reduceToNat,Int.reducePow]at h h1 h2 h3;unfold cK;exact⟨by omega,by omega⟩
structure Act1 (s s':MS):Prop where
 c:s'.c=s.c+1
 len:s'.xs.length=s.xs.length
 w:TP s.xs→TP s'.xs
 t:s'.t=s.t
 n:s'.n=s.n
theorem yT(s:MS)(k a o w:Int)(ok:Bool):Act1 s ⟨s.t,s.n,s.xs,s.c+1,k,a,o,w,ok⟩:=⟨rfl,rfl,id,rfl,rfl⟩
theorem w6(s:MS)(b v k a o w:Int)(ok:Bool)(h:rngU v):Act1 s ⟨s.t,s.n,aV s.xs b v,s.c+1,k,a,o,w,ok⟩:=⟨rfl,kM _ _ _,fun hw=>TQ hw ⟨h.h0,h.h1⟩,rfl,rfl⟩
theorem FB(s:MS)(q:Bool)(b v k a o w:Int)(ok:Bool)(h:rngU v):Act1 s ⟨s.t,s.n,bif q then aV s.xs b v else s.xs,s.c+1,k,a,o,w,ok⟩:=by
 cases q with
 | true=>exact w6 s b v k a o w ok h
 | false=>exact yT s k a o w ok
theorem PY(x a:Int)(w:Int):0≤aA x a w∧aA x a w<2^w.toNat:=PW
structure Bnd (t n:Int) (s:MS):Prop where
 ht:1≤t∧t≤1000
 hn:1≤n∧n≤1000
 hc:0≤s.c∧s.c≤900000
 hw:TP s.xs
theorem nC{P:Prop}(h:P:=by(with_reducible first | exact CD | exact EN _ | exact ND | exact T8 | assumption)):P:=h
theorem zG{P:Prop}(h:P:=by(simp only [aA,Int.reduceToNat,Int.reducePow];omega)):P:=h
theorem aW{P:Prop}(h:P:=by(first
 | with_reducible exact trivial
 | with_reducible rfl
 | with_reducible assumption
 | with_reducible exact yT _ _ _ _ _ _
 | ((with_reducible refine w6 _ _ _ _ _ _ _ _ ?_);exact nC)
 | ((with_reducible refine FB _ _ _ _ _ _ _ _ _ ?_);exact nC)
 | omega
 | exact zG
 | decide)):P:=h
theorem uT{P:Prop}(h:P:=by first | exact nC | (exact NE (by assumption) _)):P:=h
theorem dA{P:Prop}(h:P:=by(dsimp only;first | omega | (constructor<;>omega) | exact zG)):P:=h
structure U8 (t:Int) (x:CLS):Prop where
 h:x.at'=0∨x.at'=1∨x.at'=2∨x.at'=3
structure aBL (t:Int) (s:MS) (o:ClO):Prop where
 a:Act1 s o.s
 w:o.d=false→U8 t o.x
theorem U9{t n:Int}{x:CLS}{s:MS}(hb:Bnd t n s)(hx:U8 t x):(clT t n x s).run (aBL t s):=by
 obtain⟨⟨t0,t1⟩,⟨n0,n1⟩,⟨c0,c1⟩,hw⟩:=hb;obtain⟨h⟩:=hx;unfold clT;refine aEC (fun h0=>?_) (fun h0=>aEC (fun h1=>?_) (fun h1=>aEC (fun h2=>?_) (fun h2=>aEC (fun h3=>?_) (fun h3=>?_))))
 ·unfold zC
  (repeat' (with_reducible first | exact trivial | rfl | assumption | refine aED ?_ ?_ | refine Tr.run_ite (fun _=>?_) (fun _=>?_) | refine aEF ?_ | refine And.intro ?_ ?_))
  all_goals first | exact aW | (refine⟨by exact aW,fun hd=>?_⟩;first | (exact Bool.noConfusion hd) | exact⟨by dsimp only;decide⟩)
 ·unfold zD w04 w05 w06
  (repeat' (with_reducible first | exact trivial | rfl | assumption | refine aED ?_ ?_ | refine Tr.run_ite (fun _=>?_) (fun _=>?_) | refine aEF ?_ | refine And.intro ?_ ?_))
  all_goals first | exact aW | (refine⟨by exact aW,fun hd=>?_⟩;first | (exact Bool.noConfusion hd) | exact⟨by dsimp only;decide⟩)
 ·unfold zE w05 w06
  (repeat' (with_reducible first | exact trivial | rfl | assumption | refine aED ?_ ?_ | refine Tr.run_ite (fun _=>?_) (fun _=>?_) | refine aEF ?_ | refine And.intro ?_ ?_))
  all_goals first | exact aW | (refine⟨by exact aW,fun hd=>?_⟩;first | (exact Bool.noConfusion hd) | exact⟨by dsimp only;decide⟩)
 ·unfold zF w07
  (repeat' (with_reducible first | exact trivial | rfl | assumption | refine aED ?_ ?_ | refine Tr.run_ite (fun _=>?_) (fun _=>?_) | refine aEF ?_ | refine And.intro ?_ ?_))
  all_goals first | exact aW | (refine⟨by exact aW,fun hd=>?_⟩;first | (exact Bool.noConfusion hd) | exact⟨by dsimp only;decide⟩)
 ·simp only [b8,beq_eq_false_iff_ne]at h0 h1 h2 h3;rcases h with e | e | e | e<;>contradiction
theorem DE{t n:Int}{x:CLS}{s:MS}(hb:Bnd t n s)(hx:U8 t x):KD t n x s:=aEP (U9 hb hx)
theorem xF{t n:Int}{x:CLS}{s:MS}(hb:Bnd t n s)(hx:U8 t x):aBL t s (oB t n x s):=aEK (U9 hb hx)
structure hdW (t:Int) (x:HDS):Prop where
 h:0≤x.at'∧x.at'≤1000
 u: -1≤x.u∧x.u≤1000
structure aCw (t:Int) (s:MS) (o:HdO):Prop where
 a:Act1 s o.s
 w:o.d=false→hdW t o.x
 p: -1≤o.x.u∧o.x.u≤1000
theorem VK{t n:Int}{x:HDS}{s:MS}(hb:Bnd t n s)(hx:hdW t x):(hdT t n x s).run (aCw t s):=by
 obtain⟨⟨t0,t1⟩,⟨n0,n1⟩,⟨c0,c1⟩,hw⟩:=hb;obtain⟨⟨h0,h1⟩,⟨u0,u1⟩⟩:=hx;have hW:W (x.at'+1)=x.at'+1:=cU ⟨by omega,by omega⟩
 unfold hdT;unfold SS w08 w09;rw [hW]
 (repeat' (with_reducible first | exact trivial | rfl | assumption | refine aED ?_ ?_ | refine Tr.run_ite (fun _=>?_) (fun _=>?_) | refine aEF ?_ | refine And.intro ?_ ?_))
 all_goals first | exact aW | (refine⟨by exact aW,fun hd=>by first | (exact Bool.noConfusion hd) | (refine⟨?_,?_⟩<;>dsimp only at hd⊢ <;>first | omega | (simp only [cH,dF']at hd;omega)),?_⟩;exact dA)
theorem ZU{t n:Int}{x:HDS}{s:MS}(hb:Bnd t n s)(hx:hdW t x):ZR t n x s:=aEP (VK hb hx)
theorem ZV{t n:Int}{x:HDS}{s:MS}(hb:Bnd t n s)(hx:hdW t x):aCw t s (pA t n x s):=aEK (VK hb hx)
structure drW (t:Int) (x:DRS):Prop where
 h:0≤x.th∧x.th≤1000
 u:0≤x.at'∧x.at'≤2
structure aBU (t:Int) (s:MS) (o:DrO):Prop where
 a:Act1 s o.s
 w:o.d=false→drW t o.x
theorem VC{t n:Int}{x:DRS}{s:MS}(hb:Bnd t n s)(hx:drW t x):(drT t n x s).run (aBU t s):=by
 obtain⟨⟨t0,t1⟩,⟨n0,n1⟩,⟨c0,c1⟩,hw⟩:=hb;obtain⟨⟨h0,h1⟩,⟨u0,u1⟩⟩:=hx;have hW:W (x.at'+1)=x.at'+1:=cU ⟨by omega,by omega⟩
 unfold drT;unfold RA;rw [hW]
 (repeat' (with_reducible first | exact trivial | rfl | assumption | refine aED ?_ ?_ | refine Tr.run_ite (fun _=>?_) (fun _=>?_) | refine aEF ?_ | refine And.intro ?_ ?_))
 all_goals first | exact aW | (refine⟨by exact aW,fun hd=>?_⟩;first | (exact Bool.noConfusion hd) | (refine⟨?_,?_⟩<;>dsimp only at hd⊢ <;>first | omega | (simp only [cH,dF']at hd;omega)))
theorem YB{t n:Int}{x:DRS}{s:MS}(hb:Bnd t n s)(hx:drW t x):X8 t n x s:=aEP (VC hb hx)
theorem YC{t n:Int}{x:DRS}{s:MS}(hb:Bnd t n s)(hx:drW t x):aBU t s (OX t n x s):=aEK (VC hb hx)
structure anW (t:Int) (x:ANS):Prop where
 h:x.at'=0∨x.at'=1∨x.at'=2∨x.at'=3∨x.at'=4
 m:0≤x.me∧x.me≤1000
 b:rngU x.bits
 q:rngU x.no
structure aBG (t:Int) (s:MS) (o:AnO):Prop where
 a:Act1 s o.s
 w:o.d=false→anW t o.x
theorem U4{t n:Int}{x:ANS}{s:MS}(hb:Bnd t n s)(hx:anW t x):(anT t n x s).run (aBG t s):=by
 obtain⟨⟨t0,t1⟩,⟨n0,n1⟩,⟨c0,c1⟩,hw⟩:=hb;obtain⟨h,⟨m0,m1⟩,b,q⟩:=hx;unfold anT;refine aEC (fun h0=>?_) (fun h0=>aEC (fun h1=>?_) (fun h1=>aEC (fun h2=>?_) (fun h2=>aEC (fun h3=>?_) (fun h3=>aEC (fun h4=>?_) (fun h4=>?_)))))
 ·unfold yX w0a
  (repeat' (with_reducible first | exact trivial | rfl | assumption | refine aED ?_ ?_ | refine Tr.run_ite (fun _=>?_) (fun _=>?_) | refine aEF ?_ | refine And.intro ?_ ?_))
  all_goals first | exact aW | (refine⟨by exact aW,fun hd=>?_⟩;first | (exact Bool.noConfusion hd) | exact⟨by dsimp only;decide,⟨m0,m1⟩,by assumption,by exact uT⟩)
 ·unfold yY
  (repeat' (with_reducible first | exact trivial | rfl | assumption | refine aED ?_ ?_ | refine Tr.run_ite (fun _=>?_) (fun _=>?_) | refine aEF ?_ | refine And.intro ?_ ?_))
  all_goals first | exact aW | (refine⟨by exact aW,fun hd=>?_⟩;first | (exact Bool.noConfusion hd) | exact⟨by dsimp only;decide,⟨m0,m1⟩,by assumption,by exact uT⟩)
 ·unfold yZ w0a
  (repeat' (with_reducible first | exact trivial | rfl | assumption | refine aED ?_ ?_ | refine Tr.run_ite (fun _=>?_) (fun _=>?_) | refine aEF ?_ | refine And.intro ?_ ?_))
  all_goals first | exact aW | (refine⟨by exact aW,fun hd=>?_⟩;first | (exact Bool.noConfusion hd) | exact⟨by dsimp only;decide,⟨m0,m1⟩,by assumption,by exact uT⟩)
 ·unfold y0 w0a
  (repeat' (with_reducible first | exact trivial | rfl | assumption | refine aED ?_ ?_ | refine Tr.run_ite (fun _=>?_) (fun _=>?_) | refine aEF ?_ | refine And.intro ?_ ?_))
  all_goals first | exact aW | (refine⟨by exact aW,fun hd=>?_⟩;first | (exact Bool.noConfusion hd) | exact⟨by dsimp only;decide,⟨m0,m1⟩,by assumption,by exact uT⟩)
 ·unfold y4 w0b w0a
  (repeat' (with_reducible first | exact trivial | rfl | assumption | refine aED ?_ ?_ | refine Tr.run_ite (fun _=>?_) (fun _=>?_) | refine aEF ?_ | refine And.intro ?_ ?_))
  all_goals first | exact aW | (refine⟨by exact aW,fun hd=>?_⟩;first | (exact Bool.noConfusion hd) | exact⟨by dsimp only;decide,⟨m0,m1⟩,by assumption,by exact uT⟩)
 ·simp only [b8,beq_eq_false_iff_ne]at h0 h1 h2 h3 h4;rcases h with e | e | e | e | e<;>contradiction
theorem WX{t n:Int}{x:ANS}{s:MS}(hb:Bnd t n s)(hx:anW t x):WV t n x s:=aEP (U4 hb hx)
theorem WY{t n:Int}{x:ANS}{s:MS}(hb:Bnd t n s)(hx:anW t x):aBG t s (C5 t n x s):=aEK (U4 hb hx)
structure awW (t:Int) (x:AWS):Prop where
 m:0≤x.me∧x.me≤1000
structure aBJ (t:Int) (s:MS) (o:AwO):Prop where
 a:Act1 s o.s
 w:o.d=false→awW t o.x
theorem U6{t n:Int}{x:AWS}{s:MS}(hb:Bnd t n s)(hx:awW t x):(awT t n x s).run (aBJ t s):=by
 obtain⟨⟨t0,t1⟩,⟨n0,n1⟩,⟨c0,c1⟩,hw⟩:=hb;obtain⟨⟨m0,m1⟩⟩:=hx;unfold awT;unfold PK w0c
 (repeat' (with_reducible first | exact trivial | rfl | assumption | refine aED ?_ ?_ | refine Tr.run_ite (fun _=>?_) (fun _=>?_) | refine aEF ?_ | refine And.intro ?_ ?_))
 all_goals first | exact aW | (refine⟨by exact aW,fun hd=>?_⟩;first | (exact Bool.noConfusion hd) | exact⟨⟨m0,m1⟩⟩)
theorem W9{t n:Int}{x:AWS}{s:MS}(hb:Bnd t n s)(hx:awW t x):W6 t n x s:=aEP (U6 hb hx)
theorem XA{t n:Int}{x:AWS}{s:MS}(hb:Bnd t n s)(hx:awW t x):aBJ t s (rM t n x s):=aEK (U6 hb hx)
structure exW (t:Int) (x:EXS):Prop where
 h:x.at'=0∨x.at'=1∨x.at'=2∨x.at'=3∨x.at'=4∨x.at'=5∨x.at'=6∨x.at'=7∨x.at'=8∨x.at'=9
 m:0≤x.u∧x.u≤1000
 po:0≤x.popped∧x.popped≤1000
structure aCc (t:Int) (s:MS) (o:ExO):Prop where
 a:Act1 s o.s
 w:o.d=false→exW t o.x
 p:0≤o.x.popped∧o.x.popped≤1000
theorem VF{t n:Int}{x:EXS}{s:MS}(hb:Bnd t n s)(hx:exW t x):(exT t n x s).run (aCc t s):=by
 obtain⟨⟨t0,t1⟩,⟨n0,n1⟩,⟨c0,c1⟩,hw⟩:=hb;obtain⟨h,⟨m0,m1⟩,⟨p0,p1⟩⟩:=hx;unfold exT;refine aEC (fun h0=>?_) (fun h0=>aEC (fun h1=>?_) (fun h1=>aEC (fun h2=>?_) (fun h2=>aEC (fun h3=>?_) (fun h3=>aEC (fun h4=>?_) (fun h4=>aEC (fun h5=>?_) (fun h5=>aEC (fun h6=>?_) (fun h6=>aEC (fun h7=>?_) (fun h7=>aEC (fun h8=>?_) (fun h8=>aEC (fun h9=>?_) (fun h9=>?_))))))))))
 ·unfold z6 w0n w0m w0l w0s w0i w0g
  (repeat' (with_reducible first | exact trivial | rfl | assumption | refine aED ?_ ?_ | refine Tr.run_ite (fun _=>?_) (fun _=>?_) | refine aEF ?_ | refine And.intro ?_ ?_))
  all_goals first | exact aW | (refine⟨by exact aW,fun hd=>by first | (exact Bool.noConfusion hd) | exact⟨by dsimp only;decide,⟨m0,m1⟩,by exact dA⟩,?_⟩;exact dA)
 ·unfold z7 w0f w0o w0r w0j
  (repeat' (with_reducible first | exact trivial | rfl | assumption | refine aED ?_ ?_ | refine Tr.run_ite (fun _=>?_) (fun _=>?_) | refine aEF ?_ | refine And.intro ?_ ?_))
  all_goals first | exact aW | (refine⟨by exact aW,fun hd=>by first | (exact Bool.noConfusion hd) | exact⟨by dsimp only;decide,⟨m0,m1⟩,by exact dA⟩,?_⟩;exact dA)
 ·unfold z8 w0e w0k
  (repeat' (with_reducible first | exact trivial | rfl | assumption | refine aED ?_ ?_ | refine Tr.run_ite (fun _=>?_) (fun _=>?_) | refine aEF ?_ | refine And.intro ?_ ?_))
  all_goals first | exact aW | (refine⟨by exact aW,fun hd=>by first | (exact Bool.noConfusion hd) | exact⟨by dsimp only;decide,⟨m0,m1⟩,by exact dA⟩,?_⟩;exact dA)
 ·unfold AA w0k w0g
  (repeat' (with_reducible first | exact trivial | rfl | assumption | refine aED ?_ ?_ | refine Tr.run_ite (fun _=>?_) (fun _=>?_) | refine aEF ?_ | refine And.intro ?_ ?_))
  all_goals first | exact aW | (refine⟨by exact aW,fun hd=>by first | (exact Bool.noConfusion hd) | exact⟨by dsimp only;decide,⟨m0,m1⟩,by exact dA⟩,?_⟩;exact dA)
 ·unfold AB w0k w0g
  (repeat' (with_reducible first | exact trivial | rfl | assumption | refine aED ?_ ?_ | refine Tr.run_ite (fun _=>?_) (fun _=>?_) | refine aEF ?_ | refine And.intro ?_ ?_))
  all_goals first | exact aW | (refine⟨by exact aW,fun hd=>by first | (exact Bool.noConfusion hd) | exact⟨by dsimp only;decide,⟨m0,m1⟩,by exact dA⟩,?_⟩;exact dA)
 ·unfold AC w0p w0r w0d w0j
  (repeat' (with_reducible first | exact trivial | rfl | assumption | refine aED ?_ ?_ | refine Tr.run_ite (fun _=>?_) (fun _=>?_) | refine aEF ?_ | refine And.intro ?_ ?_))
  all_goals first | exact aW | (refine⟨by exact aW,fun hd=>by first | (exact Bool.noConfusion hd) | exact⟨by dsimp only;decide,⟨m0,m1⟩,by exact dA⟩,?_⟩;exact dA)
 ·unfold AD w0t
  (repeat' (with_reducible first | exact trivial | rfl | assumption | refine aED ?_ ?_ | refine Tr.run_ite (fun _=>?_) (fun _=>?_) | refine aEF ?_ | refine And.intro ?_ ?_))
  all_goals first | exact aW | (refine⟨by exact aW,fun hd=>by first | (exact Bool.noConfusion hd) | exact⟨by dsimp only;decide,⟨m0,m1⟩,by exact dA⟩,?_⟩;exact dA)
 ·unfold AE w0g
  (repeat' (with_reducible first | exact trivial | rfl | assumption | refine aED ?_ ?_ | refine Tr.run_ite (fun _=>?_) (fun _=>?_) | refine aEF ?_ | refine And.intro ?_ ?_))
  all_goals first | exact aW | (refine⟨by exact aW,fun hd=>by first | (exact Bool.noConfusion hd) | exact⟨by dsimp only;decide,⟨m0,m1⟩,by exact dA⟩,?_⟩;exact dA)
 ·unfold AF w0h w0q w0g
  (repeat' (with_reducible first | exact trivial | rfl | assumption | refine aED ?_ ?_ | refine Tr.run_ite (fun _=>?_) (fun _=>?_) | refine aEF ?_ | refine And.intro ?_ ?_))
  all_goals first | exact aW | (refine⟨by exact aW,fun hd=>by first | (exact Bool.noConfusion hd) | exact⟨by dsimp only;decide,⟨m0,m1⟩,by exact dA⟩,?_⟩;exact dA)
 ·unfold AG w0u
  (repeat' (with_reducible first | exact trivial | rfl | assumption | refine aED ?_ ?_ | refine Tr.run_ite (fun _=>?_) (fun _=>?_) | refine aEF ?_ | refine And.intro ?_ ?_))
  all_goals first | exact aW | (refine⟨by exact aW,fun hd=>by first | (exact Bool.noConfusion hd) | exact⟨by dsimp only;decide,⟨m0,m1⟩,by exact dA⟩,?_⟩;exact dA)
 ·simp only [b8,beq_eq_false_iff_ne]at h0 h1 h2 h3 h4 h5 h6 h7 h8 h9;rcases h with e | e | e | e | e | e | e | e | e | e<;>contradiction
theorem YY{t n:Int}{x:EXS}{s:MS}(hb:Bnd t n s)(hx:exW t x):YW t n x s:=aEP (VF hb hx)
theorem YZ{t n:Int}{x:EXS}{s:MS}(hb:Bnd t n s)(hx:exW t x):aCc t s (zZ t n x s):=aEK (VF hb hx)
structure VW (t:Int) (x:PRS):Prop where
 h:True
structure aCU (t:Int) (s:MS) (st:STS) (o:PrO):Prop where
 a:Act1 s o.s
 w:o.d=false→VW t o.x
 st:o.st=st
theorem VX{t n:Int}{x:PRS}{st:STS}{s:MS}(hb:Bnd t n s)(hx:VW t x):(prT t n x st s).run (aCU t s st):=by
 obtain⟨⟨t0,t1⟩,⟨n0,n1⟩,⟨c0,c1⟩,hw⟩:=hb;obtain⟨h⟩:=hx;unfold prT;unfold TZ w0v
 (repeat' (with_reducible first | exact trivial | rfl | assumption | refine aED ?_ ?_ | refine Tr.run_ite (fun _=>?_) (fun _=>?_) | refine aEF ?_ | refine And.intro ?_ ?_))
 all_goals first | exact aW | (refine⟨by exact aW,fun hd=>?_,rfl⟩;first | (exact Bool.noConfusion hd) | exact⟨trivial⟩)
theorem MT{t n:Int}{x:PRS}{st:STS}{s:MS}(hb:Bnd t n s)(hx:VW t x):MQ t n x st s:=aEP (VX hb hx)
theorem MU{t n:Int}{x:PRS}{st:STS}{s:MS}(hb:Bnd t n s)(hx:VW t x):aCU t s st (prF t n x st s):=aEK (VX hb hx)
theorem fY{a b:Int}(h:ieq a b=true):a=b:=by simpa [b8]using h
theorem eL{a b:Int}(h:ieq a b=false):a≠b:=by simpa [b8]using h
def d3(l:List Int):Prop:= ∀r∈l,0≤r∧r≤1000
theorem rA:d3 []:=fun r h=>nomatch h
theorem uL{l:List Int}{a:Int}(h:d3 l)(ha:0≤a∧a≤1000):d3 (l++ [a]):=by
 intro r hr;rcases List.mem_append.1 hr with h1 | h1
 ·exact h r h1
 ·rw [List.mem_singleton.1 h1];exact ha
theorem JD{l m:List Int}(h:d3 l)(hm:d3 m):d3 (l++m):=by
 intro r hr;rcases List.mem_append.1 hr with h1 | h1
 ·exact h r h1
 ·exact hm r h1
theorem i9(t n a:Int):pF t n a:=⟨⟨rfl,rfl⟩,trivial⟩
theorem DD(t n a:Int):U8 t (xD t n a):=⟨.inl rfl⟩
theorem aDv(x a:Int):0≤aA x a 9∧aA x a 9≤1000:=by
 have:=PY x a 9;simp only [Int.reduceToNat,Int.reducePow]at this;omega
structure JQ (b:Int) (x:FNS):Prop where
 m:0≤x.me∧x.me≤1000
 cu:0≤x.curr∧x.curr≤1000
 ul:d3 x.ul
 ln:(x.ul.length:Int)≤b
structure RU (t:Int) (x:FNS):Prop where
 h:x.at'=0∨x.at'=1∨x.at'=2∨x.at'=3∨x.at'=4∨x.at'=5∨x.at'=6
 cl:x.at'=4→U8 t x.cl
structure aCf (t b:Int) (s:MS) (o:FnO):Prop where
 a:Act1 s o.s
 q:JQ (b+1) o.x
 w:o.d=false→RU t o.x
theorem oU{P:Prop}(h:P:=by(refine⟨?_,⟨?_,?_,?_,?_⟩,fun hd=>?_⟩<;>first
 | exact aW
 | (exact(xF (by assumption) (by assumption)).a)
 | (constructor<;>assumption)
 | exact aDv _ _
 | (exact uL (by assumption) ⟨by assumption,by assumption⟩)
 | exact rA
 | (dsimp only;simp only [List.length_append,List.length_singleton,List.length_nil];omega)
 | exact Bool.noConfusion hd
 | exact⟨by dsimp only;decide,fun e=>absurd e (by dsimp only;decide)⟩
 | exact⟨by dsimp only;decide,fun e=>(xF (by assumption) (by assumption)).w (by assumption)⟩
 | exact⟨by dsimp only;decide,fun e=>by dsimp only;with_reducible exact DD _ _ _⟩)):P:=h
theorem VG{t n b:Int}{x:FNS}{s:MS}(hb:Bnd t n s)(hx:RU t x)(hq:JQ b x)(hbb:b≤900000):(fnT t n x s).run (aCf t b s):=by
 have hb':=hb;obtain⟨⟨t0,t1⟩,⟨n0,n1⟩,⟨c0,c1⟩,hw⟩:=hb;obtain⟨h,hcl⟩:=hx;obtain⟨⟨m0,m1⟩,⟨q0,q1⟩,hul,hln⟩:=hq;have b0:0≤b:=by omega
 unfold fnT;refine aEC (fun h0=>?_) (fun h0=>aEC (fun h1=>?_) (fun h1=>aEC (fun h2=>?_) (fun h2=>aEC (fun h3=>?_) (fun h3=>aEC (fun h4=>?_) (fun h4=>aEC (fun h5=>?_) (fun h5=>aEC (fun h6=>?_) (fun h6=>?_)))))))
 ·unfold AM w11 w16 w0z w13 w15 w14 w1f
  (repeat' (with_reducible first | exact trivial | rfl | assumption | refine aED ?_ ?_ | refine Tr.run_ite (fun _=>?_) (fun _=>?_) | refine aEF ?_ | refine And.intro ?_ ?_))
  all_goals first | exact aW | exact i9 _ _ _ | (simp only [List.length_append,List.length_singleton];done) | exact oU
 ·unfold AN
  (repeat' (with_reducible first | exact trivial | rfl | assumption | refine aED ?_ ?_ | refine Tr.run_ite (fun _=>?_) (fun _=>?_) | refine aEF ?_ | refine And.intro ?_ ?_))
  all_goals first | exact aW | exact i9 _ _ _ | (simp only [List.length_append,List.length_singleton];done) | exact oU
 ·unfold AO w11 w16 w0z w13 w15 w1f w14
  (repeat' (with_reducible first | exact trivial | rfl | assumption | refine aED ?_ ?_ | refine Tr.run_ite (fun _=>?_) (fun _=>?_) | refine aEF ?_ | refine And.intro ?_ ?_))
  all_goals first | exact aW | exact i9 _ _ _ | (simp only [List.length_append,List.length_singleton];done) | exact oU
 ·unfold AP w1b w1d w1c w1a
  (repeat' (with_reducible first | exact trivial | rfl | assumption | refine aED ?_ ?_ | refine Tr.run_ite (fun _=>?_) (fun _=>?_) | refine aEF ?_ | refine And.intro ?_ ?_))
  all_goals first | exact aW | exact i9 _ _ _ | (simp only [List.length_append,List.length_singleton];done) | exact oU
 ·unfold AQ w19 w14;have hcl4:=hcl (fY h4);have hclo:=DE hb' hcl4
  (repeat' (with_reducible first | exact trivial | rfl | assumption | refine aED ?_ ?_ | refine Tr.run_ite (fun _=>?_) (fun _=>?_) | refine aEF ?_ | refine And.intro ?_ ?_))
  all_goals first | exact aW | exact i9 _ _ _ | (simp only [List.length_append,List.length_singleton];done) | exact oU
 ·unfold AR w0x w0w w19 w14
  (repeat' (with_reducible first | exact trivial | rfl | assumption | refine aED ?_ ?_ | refine Tr.run_ite (fun _=>?_) (fun _=>?_) | refine aEF ?_ | refine And.intro ?_ ?_))
  all_goals first | exact aW | exact i9 _ _ _ | (simp only [List.length_append,List.length_singleton];done) | exact oU
 ·unfold AS w14 w1g
  (repeat' (with_reducible first | exact trivial | rfl | assumption | refine aED ?_ ?_ | refine Tr.run_ite (fun _=>?_) (fun _=>?_) | refine aEF ?_ | refine And.intro ?_ ?_))
  all_goals first | exact aW | exact i9 _ _ _ | (simp only [List.length_append,List.length_singleton];done) | exact oU
 ·simp only [b8,beq_eq_false_iff_ne]at h0 h1 h2 h3 h4 h5 h6;rcases h with e | e | e | e | e | e | e<;>contradiction
theorem DO{t n b:Int}{x:FNS}{s:MS}(hb:Bnd t n s)(hx:RU t x)(hq:JQ b x)(hbb:b≤900000):HW t n x s:=aEP (VG hb hx hq hbb)
theorem DP{t n b:Int}{x:FNS}{s:MS}(hb:Bnd t n s)(hx:RU t x)(hq:JQ b x)(hbb:b≤900000):aCf t b s (aN t n x s):=aEK (VG hb hx hq hbb)
theorem dH(sh ky:Int):0≤eU sh ky∧eU sh ky≤3:=by
 unfold eU;cases ieq sh 2 with
 | true=>exact⟨Int.emod_nonneg _ (by decide),by have:=Int.emod_lt_of_pos ky (b:=4) (by decide);show ky%4≤3;omega⟩
 | false=>exact⟨Int.le_refl 0,(by decide:(0:Int)≤3)⟩
theorem DN{t n me hd key lim:Int}(hn:1≤n∧n≤1000)(hm:0≤me∧me≤1000)(hh:0≤hd∧hd≤3):(LG t n me hd key lim).run (fun x=>RU t x∧JQ 0 x):=by
 obtain⟨n0,n1⟩:=hn;obtain⟨m0,m1⟩:=hm;obtain⟨e0,e1⟩:=hh;unfold LG w1h
 (repeat' (with_reducible first | exact trivial | rfl | assumption | refine aED ?_ ?_ | refine Tr.run_ite (fun _=>?_) (fun _=>?_) | refine aEF ?_ | refine And.intro ?_ ?_))
 all_goals first | exact aW | exact⟨by dsimp only;decide,fun e=>absurd e (by dsimp only;decide)⟩ | exact⟨⟨m0,m1⟩,⟨(by decide:(0:Int)≤0),(by decide:(0:Int)≤1000)⟩,rA,(by decide:((0:Nat):Int)≤0)⟩
theorem F2(sh kd ky pred pw cw sp:Int){curr:Int}(hc:0≤curr∧curr≤1000):(B5 sh kd ky pred pw curr cw sp).run (fun p=>0≤p.pops∧p.pops≤1000):=by
 obtain⟨c0,c1⟩:=hc;unfold B5 w00 w02 w01 w03
 (repeat' (with_reducible first | exact trivial | rfl | assumption | refine aED ?_ ?_ | refine Tr.run_ite (fun _=>?_) (fun _=>?_) | refine aEF ?_ | refine And.intro ?_ ?_))
 all_goals first | exact aW | (dsimp only;first | assumption | decide)
theorem B7(sh kd ky pred pw cw sp:Int){curr:Int}(hc:0≤curr∧curr≤1000):uE sh kd ky pred pw curr cw sp:=aEP (F2 sh kd ky pred pw cw sp hc)
theorem wJ(sh kd ky pred pw cw sp:Int){curr:Int}(hc:0≤curr∧curr≤1000):0≤(bJ sh kd ky pred pw curr cw sp).pops ∧(bJ sh kd ky pred pw curr cw sp).pops ≤1000:=aEK (F2 sh kd ky pred pw cw sp hc)
theorem B6(a b c d e f g h i):(uF a b c d e f g h i).run rngU:=by
 unfold uF
 (repeat' (with_reducible first | exact trivial | rfl | assumption | refine aED ?_ ?_ | refine Tr.run_ite (fun _=>?_) (fun _=>?_) | refine aEF ?_ | refine And.intro ?_ ?_))
 all_goals first | exact aW | exact nC
theorem I1(a b c d e f g h i):x5 a b c d e f g h i:=aEP (B6 a b c d e f g h i)
theorem I0(a b c d e f g h i):rngU (dC a b c d e f g h i):=aEK (B6 a b c d e f g h i)
theorem B4(a b c d e f g h i j):(uD a b c d e f g h i j).run (fun r=>rngU r.1):=by
 unfold uD
 (repeat' (with_reducible first | exact trivial | rfl | assumption | refine aED ?_ ?_ | refine Tr.run_ite (fun _=>?_) (fun _=>?_) | refine aEF ?_ | refine And.intro ?_ ?_))
 all_goals first | exact aW | exact nC
theorem IY(a b c d e f g h i j):x4 a b c d e f g h i j:=aEP (B4 a b c d e f g h i j)
theorem IX(a b c d e f g h i j):rngU (gG a b c d e f g h i j).1:=aEK (B4 a b c d e f g h i j)
theorem B3(a b c d e f g h i):(uB a b c d e f g h i).run (fun _=>True):=by
 unfold uB
 (repeat' (with_reducible first | exact trivial | rfl | assumption | refine aED ?_ ?_ | refine Tr.run_ite (fun _=>?_) (fun _=>?_) | refine aEF ?_ | refine And.intro ?_ ?_))
 all_goals exact aW
theorem wI(p:PLN):nV p.1 p.2 p.3 p.4 p.5 p.6 p.7 p.8 p.9:=aEP (B3 _ _ _ _ _ _ _ _ _)
theorem uC(a b c d e f g h i):nV a b c d e f g h i:=aEP (B3 _ _ _ _ _ _ _ _ _)
theorem eI{b c:Int}{x:FNS}(h:JQ b x)(hbc:b≤c):JQ c x:=⟨h.m,h.cu,h.ul,Int.le_trans h.ln hbc⟩
theorem pN{t n me hd key lim:Int}(hn:1≤n∧n≤1000)(hm:0≤me∧me≤1000)(hh:0≤hd∧hd≤3):oC t n me hd key lim:=aEP (DN hn hm hh)
theorem AK{t n me hd key lim:Int}(hn:1≤n∧n≤1000)(hm:0≤me∧me≤1000)(hh:0≤hd∧hd≤3):RU t (tP t n me hd key lim):=by
 have h:=aEK (DN (t:=t) (key:=key) (lim:=lim) hn hm hh);exact h.1
theorem AJ{t n me hd key lim:Int}(hn:1≤n∧n≤1000)(hm:0≤me∧me≤1000)(hh:0≤hd∧hd≤3):JQ 0 (tP t n me hd key lim):=by
 have h:=aEK (DN (t:=t) (key:=key) (lim:=lim) hn hm hh);exact h.2
theorem MP(t n key nx:Int)(st:STS):(TX t n key nx st).run (fun r=>r.2=st):=⟨⟨rfl,rfl,rfl⟩,rfl⟩
theorem F3(t n key nx:Int)(st:STS):B8 t n key nx st:=aEP (MP t n key nx st)
theorem MO(t n key nx:Int)(st:STS):(p5 t n key nx st).2=st:=aEK (MP t n key nx st)
structure stW (b:Int) (st:STS):Prop where
 m:0≤st.me∧st.me≤1000
 r:d3 st.R
 ln:(st.R.length:Int)≤b
theorem iL{b c:Int}{st:STS}(h:stW b st)(hbc:b≤c):stW c st:=⟨h.m,h.r,Int.le_trans h.ln hbc⟩
theorem yC{b:Int}{st:STS}{k:Int}{x:FNS}(h:stW b st)(hq:JQ (b - st.R.length+1) x):stW (b+1) {me:=st.me,sp:=k,R:=st.R++x.ul} :=
 ⟨h.m,JD h.r hq.ul,by have:=hq.ln;simp only [List.length_append];omega⟩
theorem uM{b:Int}{st:STS}{k a:Int}(h:stW b st)(ha:0≤a∧a≤1000):stW (b+1) {me:=st.me,sp:=k,R:=st.R++ [a] } :=
 ⟨h.m,uL h.r ha,by have:=h.ln;simp only [List.length_append,List.length_singleton];omega⟩
theorem NK{b:Int}{st:STS}(h:stW b st)(k:Int):stW (b+1) {me:=st.me,sp:=k,R:=st.R} :=⟨h.m,h.r,by have:=h.ln;show(st.R.length:Int)≤_;omega⟩
structure R9 (t b:Int) (st:STS) (x:FTS):Prop where
 h:x.at'=0∨x.at'=1∨x.at'=2∨x.at'=3
 fn:x.at'=0→RU t x.fn∧JQ (b - st.R.length) x.fn
 cl:x.at'=1→U8 t x.cl
 ps:0≤x.p.pops∧x.p.pops≤1000
structure aCi (t b:Int) (s:MS) (o:FtO):Prop where
 a:Act1 s o.s
 st:stW (b+1) o.st
 w:o.d=false→R9 t (b+1) o.st o.x
theorem VI{t n b:Int}{x:FTS}{st:STS}{s:MS}(hb:Bnd t n s)(hx:R9 t b st x)(hst:stW b st)(hbb:b≤900000):(ftT t n x st s).run (aCi t b s):=by
 have hb':=hb;obtain⟨ht,hn,⟨c0,c1⟩,hw⟩:=hb;obtain⟨n0,n1⟩:=hn;obtain⟨t0,t1⟩:=ht;obtain⟨h,hfn,hcl,hps⟩:=hx;have hR0:=hst.ln;have hst1:stW (b+1) st:=iL hst (by omega)
 have hnn:1≤n∧n≤1000:=⟨n0,n1⟩;have b0:0≤b:=by omega
 unfold ftT;refine aEC (fun h0=>?_) (fun h0=>aEC (fun h1=>?_) (fun h1=>aEC (fun h2=>?_) (fun h2=>aEC (fun h3=>?_) (fun h3=>?_))))
 ·obtain⟨hfw,hfq⟩:=hfn (fY h0);have hF:=DP hb' hfw hfq (by omega)
  have hFo:=DO hb' hfw hfq (by omega)
  have hA:=hF.a;have hQ:=hF.q;have hQl:=hQ.ln;have hS:stW (b+1) {me:=st.me,sp:=st.sp,R:=st.R++(aN t n x.fn s).x.ul } :=yC hst hQ;have hcu:=hQ.cu;unfold AU w1i w1q w1k w1o
  (repeat' (with_reducible first | exact trivial | rfl | assumption | refine aED ?_ ?_ | refine Tr.run_ite (fun _=>?_) (fun _=>?_) | refine aEF ?_ | refine And.intro ?_ ?_))
  all_goals first
   | exact aW
   | exact B7 _ _ _ _ _ _ _ hcu
   | exact wI _
   | exact uC _ _ _ _ _ _ _ _ _
   | exact i9 _ _ _
   | exact F3 _ _ _ _ _
   | (simp only [List.length_append];done)
   | (refine⟨by first | assumption | exact aW,?_,fun hd=>?_⟩
      ·first
        | assumption
        | (dsimp only;rw [MO];assumption)
      ·first
        | exact Bool.noConfusion hd
        | (refine⟨by dsimp only;decide,?_,?_,?_⟩
           ·first | (exact nE') | (intro _;exact⟨hF.w (by assumption),eI hQ (by dsimp only;omega)⟩)
           ·first | (exact nE') | (intro _;dsimp only;with_reducible exact DD _ _ _)
           ·first | exact hps | exact wJ _ _ _ _ _ _ _ hcu))
 ·have hc:=hcl (fY h1);have hC:=xF hb' hc;have hCo:=DE hb' hc;have hA:=hC.a;unfold AV
  (repeat' (with_reducible first | exact trivial | rfl | assumption | refine aED ?_ ?_ | refine Tr.run_ite (fun _=>?_) (fun _=>?_) | refine aEF ?_ | refine And.intro ?_ ?_))
  all_goals first
   | exact aW
   | exact pN hnn hst.m (dH _ _)
   | (refine⟨by assumption,by assumption,fun hd=>?_⟩
      first
       | exact Bool.noConfusion hd
       | (refine⟨by dsimp only;decide,?_,?_,hps⟩
          ·first | (exact nE') | (intro _;exact⟨AK (t:=t) (n:=n) hnn hst.m (dH _ _),eI (AJ (t:=t) (n:=n) hnn hst.m (dH _ _)) (by dsimp only;omega)⟩)
          ·first | (exact nE') | (intro _;exact hC.w (by assumption))))
 ·have hP:=MU (st:=st) hb' (show VW t x.pr from⟨trivial⟩)
  have hPo:=MT (st:=st) hb' (show VW t x.pr from⟨trivial⟩)
  have hA:=hP.a;have hPs:stW (b+1) (prF t n x.pr st s).st :=by rw [hP.st];exact hst1
  unfold AW
  (repeat' (with_reducible first | exact trivial | rfl | assumption | refine aED ?_ ?_ | refine Tr.run_ite (fun _=>?_) (fun _=>?_) | refine aEF ?_ | refine And.intro ?_ ?_))
  all_goals first
   | exact aW
   | (refine⟨by assumption,by assumption,fun hd=>?_⟩
      first
       | exact Bool.noConfusion hd
       | exact⟨by dsimp only;decide,fun e=>absurd e (by dsimp only;decide),fun e=>absurd e (by dsimp only;decide),hps⟩)
 ·have hW:=I0 (FTS.p x).1 (FTS.p x).2 (FTS.p x).3 (FTS.p x).4 (FTS.p x).5 (FTS.p x).6 (FTS.p x).7 (FTS.p x).8 (FTS.p x).9;have hWo:=I1 (FTS.p x).1 (FTS.p x).2 (FTS.p x).3 (FTS.p x).4 (FTS.p x).5 (FTS.p x).6 (FTS.p x).7 (FTS.p x).8 (FTS.p x).9;have hS1:stW (b+1) {me:=st.me,sp:=0,R:=st.R++ [(FTS.p x).9] } :=uM hst hps;have hS2:stW (b+1) {me:=st.me,sp:=st.sp,R:=st.R++ [(FTS.p x).9] } :=uM hst hps;have hS3:stW (b+1) {me:=st.me,sp:=0,R:=st.R} :=NK hst 0;unfold AX w1j
  (repeat' (with_reducible first | exact trivial | rfl | assumption | refine aED ?_ ?_ | refine Tr.run_ite (fun _=>?_) (fun _=>?_) | refine aEF ?_ | refine And.intro ?_ ?_))
  all_goals first
   | exact aW
   | exact pN hnn hst.m (dH _ _)
   | (simp only [List.length_append,List.length_singleton];done)
   | (refine⟨by exact aW,by assumption,fun hd=>?_⟩
      first
       | exact Bool.noConfusion hd
       | (refine⟨by dsimp only;decide,?_,?_,hps⟩
          ·first | (exact nE') | (intro _;exact⟨AK (t:=t) (n:=n) hnn hst.m (dH _ _),eI (AJ (t:=t) (n:=n) hnn hst.m (dH _ _)) (by dsimp only;omega)⟩)
          · (exact nE')))
 ·simp only [b8,beq_eq_false_iff_ne]at h0 h1 h2 h3;rcases h with e | e | e | e<;>contradiction
theorem ZF{t n b:Int}{x:FTS}{st:STS}{s:MS}(hb:Bnd t n s)(hx:R9 t b st x)(hst:stW b st)(hbb:b≤900000):RZ t n x st s:=aEP (VI hb hx hst hbb)
theorem ZG{t n b:Int}{x:FTS}{st:STS}{s:MS}(hb:Bnd t n s)(hx:R9 t b st x)(hst:stW b st)(hbb:b≤900000):aCi t b s (hU t n x st s):=aEK (VI hb hx hst hbb)
theorem DQ{t n b sh kd ky most:Int}{st:STS}(hn:1≤n∧n≤1000)(hst:stW b st):(LH t n sh kd ky most st).run (fun r=>R9 t b st r.1∧r.2=st):=by
 have hR0:=hst.ln;unfold LH
 (repeat' (with_reducible first | exact trivial | rfl | assumption | refine aED ?_ ?_ | refine Tr.run_ite (fun _=>?_) (fun _=>?_) | refine aEF ?_ | refine And.intro ?_ ?_))
 all_goals first
  | exact aW
  | exact pN hn hst.m (dH _ _)
  | exact⟨by dsimp only;decide,fun _=>⟨AK (t:=t) (n:=n) hn hst.m (dH _ _),eI (AJ (t:=t) (n:=n) hn hst.m (dH _ _)) (by omega)⟩,fun e=>absurd e (by dsimp only;decide),⟨(by decide:(0:Int)≤0),(by decide:(0:Int)≤1000)⟩⟩
theorem eD(s:MS)(a:Int):Act1 s (s.loadd a):=⟨rfl,rfl,id,rfl,rfl⟩
theorem vI(s:MS)(a o x:Int):Act1 s (s.cased a o (WU x)):=FB s _ _ _ _ _ _ _ _ (EN x)
theorem nK(s:MS)(a x:Int):Act1 s (s.added a x):=w6 s _ _ _ _ _ _ _ (EN _)
theorem l4{m:List (Int×Int)}{l:List Int}(h:d3 l):d3 (cF m l):=fun r hr=>h r (List.mem_filter.1 hr).1
theorem sF{m:List (Int×Int)}{l:List Int}(h:d3 l):d3 (aY m l):=fun r hr=>h r (List.mem_filter.1 hr).1
theorem BS(m:List (Int×Int))(l:List Int):(cF m l).length ≤l.length:=List.length_filter_le _ _
theorem CG{l:List Int}(h:d3 l){j:Nat}(hj:j<l.length): -1000000≤List.getD l (j+Int.toNat 0*1) 0∧List.getD l (j+Int.toNat 0*1) 0≤1000000:=by
 have e:j+Int.toNat 0*1=j:=by simp
 rw [e,gD',gE' hj];have:=h _ (List.getElem_mem hj);show _≤l[j]∧l[j]≤_;omega
theorem BY{n a:Int}(hn:1≤n)(ha:1≤a):1≤cS n a∧cS n a≤n:=by
 unfold cS;rw [Int.tmod_eq_emod_of_nonneg (by omega)]
 have:=Int.emod_nonneg a (show n≠0 by omega)
 have:=Int.emod_lt_of_pos a (show 0<n by omega)
 omega
theorem PD{t n me:Int}(hn:1≤n):1≤at0 t n me∧at0 t n me≤n:=by
 unfold at0;cases h:bT n (aP t n me)with
 | true=>exact tW.1 h
 | false=>exact⟨(by decide:(1:Int)≤1),hn⟩
def YH(t n b:Int)(e:ENS):Prop:=match e.ph with
 | 0=>True
 | 1=>okAl n e.x
 | 2=>True
 | 3=>(d3 e.y.N∧(e.y.N.length:Int)≤b)∧0≤e.y.i∧e.y.i<2*t
 | 4=>2*t≤e.y.i∧1≤e.y.l∧e.y.gs.length=e.y.j+e.y.l∧d3 e.y.gs∧d3 e.y.ks∧(e.y.ks.length:Int)≤b
 | _=>False
structure YL (t n b:Int) (s:MS) (o:EO):Prop where
 a:Act1 s o.s
 st:stW (b+1) o.st
 w:o.d=false→YH t n (b+1) o.e
theorem K3{t n b:Int}{e:ENS}{st:STS}{s:MS}(hb:Bnd t n s)(hx:YH t n b e)(hst:stW b st)(hbb:b≤900000):IP t n e st s:=by
 obtain⟨ht,hn,hc,hw⟩:=hb;have hl:=hst.ln;refine⟨ht,hn,⟨hc.1,by omega⟩,hst.m,by omega,?_⟩
 match e,hx with
 | ⟨0,sh,dn,x,y⟩,hx=>trivial
 | ⟨1,sh,dn,x,y⟩,hx=>exact hx
 | ⟨2,sh,dn,x,y⟩,hx=>trivial
 | ⟨3,sh,dn,x,y⟩,hx=>
   obtain⟨⟨h1,h2⟩,h3⟩:=hx;exact⟨by dsimp only at h2⊢;omega,h3⟩
 | ⟨4,sh,dn,x,y⟩,hx=>
   obtain⟨a1,a2,a3,a4,a5⟩:=hx;exact⟨a1,a2,a3,CG a4 (by omega)⟩
theorem FG{t n b:Int}{e:ENS}{st:STS}{x:AL}{s s0:MS}(ha:Act1 s0 s)(hst:stW b st)(hg:x.got=0)(hx:1≤x.at'∧x.at'≤n)(hl0:0≤x.left+1)(hl:x.left≤1000):YL t n b s0 (HF e st x s):=by
 have hl1:=hst.ln;unfold HF;split
 ·exact⟨ha,⟨hst.m,hst.r,by dsimp only;omega⟩,fun _=>trivial⟩
 ·rename_i h;rw [cH,dF']at h;exact⟨ha,iL hst (by omega),fun _=>⟨hg,hx,by show(0:Int)≤x.left;omega,hl⟩⟩
theorem vX{t n b:Int}{e:ENS}{st:STS}{x:AL}{s:MS}(hn:1≤n)(hst:stW b st)(hx:okAl n x):YL t n b s (qS n e st x s):=by
 obtain⟨hg,ha,hl⟩:=hx;have hl1:=hst.ln;unfold qS;split
 ·split
  ·exact⟨vI _ _ _ _,⟨hst.m,hst.r,by dsimp only;omega⟩,fun h=>Bool.noConfusion h⟩
  ·exact FG (vI _ _ _ _) hst rfl (BY hn ha.1) (by dsimp only;omega) (by dsimp only;omega)
 ·split
  ·exact FG (eD _ _) hst rfl (BY hn ha.1) (by dsimp only;omega) (by dsimp only;omega)
  ·exact⟨eD _ _,iL hst (by omega),fun _=>⟨rfl,ha,hl⟩⟩
theorem K4{t n b:Int}{e:ENS}{st:STS}{s:MS}(hb:Bnd t n s)(hx:YH t n b e)(hst:stW b st):YL t n b s (enF t n e st s):=by
 obtain⟨ht,hn,hc,hw⟩:=hb;have hl1:=hst.ln;have hst1:stW (b+1) st:=iL hst (by omega)
 match e,hx with
 | ⟨0,sh,dn,x,y⟩,hx=>
   unfold enF;dsimp only;cases hc:ieq st.sp 0 with
   | true=>exact vX hn.1 hst ⟨rfl,PD hn.1,by dsimp only;omega⟩
   | false=>exact⟨eD _ _,hst1,fun h=>Bool.noConfusion h⟩
 | ⟨1,sh,dn,x,y⟩,hx=>exact vX hn.1 hst hx
 | ⟨2,sh,dn,x,y⟩,hx=>
   exact⟨eD _ _,hst1,fun _=>⟨⟨hst.r,by show(st.R.length:Int)≤_;omega⟩,(by decide:(0:Int)≤1),by show(1:Int)<_;omega⟩⟩
 | ⟨3,sh,dn,x,y⟩,hx=>
   obtain⟨⟨hN,hNl⟩,hi0,hi1⟩:=hx;dsimp only at hN hNl hi0 hi1;have hk:=BS (aZ y.m n y.i s) y.N;unfold enF;dsimp only;generalize hsm:aZ y.m n y.i s=sm at hk⊢;cases h1:ieq (y.i+1) (2*t)with
   | false=>
     have h1:=eL h1;exact⟨eD _ _,hst1,fun _=>⟨⟨hN,by show((y.N).length :Int)≤_;omega⟩,by show 0≤y.i+1;omega,by show y.i+1<2*t;omega⟩⟩
   | true=>
     have h1:=fY h1;cases h2:ieq ((aY sm y.N).length :Int) 0 with
     | true=>exact⟨eD _ _,⟨hst.m,l4 hN,by show((cF sm y.N).length :Int)≤_;omega⟩,fun h=>Bool.noConfusion h⟩
     | false=>
       have h2:=eL h2;exact⟨eD _ _,hst1,fun _=>⟨by show 2*t≤y.i+1;omega,by show 1≤(aY sm y.N).length;omega,by show(aY sm y.N).length =0+(aY sm y.N).length;omega,sF hN,l4 hN,by show((cF sm y.N).length :Int)≤_;omega⟩⟩
 | ⟨4,sh,dn,x,y⟩,hx=>
   obtain⟨a1,a2,a3,a4,a5,a6⟩:=hx;dsimp only at a1 a2 a3 a4 a5 a6;unfold enF;dsimp only;cases h1:ieq ((y.l - 1:Nat):Int) 0 with
   | true=>exact⟨nK _ _ _,⟨hst.m,a5,by show((y.ks).length :Int)≤_;omega⟩,fun _=>trivial⟩
   | false=>
     have h1:=eL h1;exact⟨nK _ _ _,hst1,fun _=>⟨a1,by show 1≤y.l - 1;omega,by show(y.gs).length =y.j+1+(y.l - 1);omega,a4,a5,by show((y.ks).length :Int)≤_;omega⟩⟩
def JF(t n b:Int)(y:SWS):Prop:=match y.ph with
 | 0=>True
 | 1=>(d3 y.N∧(y.N.length:Int)≤b)∧0≤y.i∧y.i<2*t
 | 2=>2*t≤y.i∧1≤y.l∧y.gs.length=y.j+y.l∧d3 y.gs∧d3 y.ks∧(y.ks.length:Int)≤b
 | _=>False
structure aDS (t n b:Int) (s:MS) (o:SO):Prop where
 a:Act1 s o.s
 st:stW (b+1) o.st
 w:o.d=false→JF t n (b+1) o.e
theorem aAY{t n b:Int}{e:SWS}{st:STS}{s:MS}(hb:Bnd t n s)(hx:JF t n b e)(hst:stW b st)(hbb:b≤900000):pY t n e st s:=by
 obtain⟨ht,hn,hc,hw⟩:=hb;have hl:=hst.ln;refine⟨ht,hn,⟨hc.1,by omega⟩,by omega,?_⟩
 match e,hx with
 | ⟨0,N,m,i,ks,fs,gs,j,l⟩,hx=>trivial
 | ⟨1,N,m,i,ks,fs,gs,j,l⟩,hx=>
   obtain⟨⟨h1,h2⟩,h3⟩:=hx;exact⟨by dsimp only at h2⊢;omega,h3⟩
 | ⟨2,N,m,i,ks,fs,gs,j,l⟩,hx=>
   obtain⟨a1,a2,a3,a4,a5⟩:=hx;exact⟨a1,a2,a3,CG a4 (by omega)⟩
theorem aAZ{t n b:Int}{e:SWS}{st:STS}{s:MS}(hb:Bnd t n s)(hx:JF t n b e)(hst:stW b st):aDS t n b s (swF t n e st s):=by
 obtain⟨ht,hn,hc,hw⟩:=hb;have hl1:=hst.ln;have hst1:stW (b+1) st:=iL hst (by omega)
 match e,hx with
 | ⟨0,N,m,i,ks,fs,gs,j,l⟩,hx=>
   exact⟨eD _ _,hst1,fun _=>⟨⟨hst.r,by show(st.R.length:Int)≤_;omega⟩,(by decide:(0:Int)≤1),by show(1:Int)<_;omega⟩⟩
 | ⟨1,N,m,i,ks,fs,gs,j,l⟩,hx=>
   obtain⟨⟨hN,hNl⟩,hi0,hi1⟩:=hx;dsimp only at hN hNl hi0 hi1;have hk:=BS (aZ m n i s) N;unfold swF;dsimp only;generalize hsm:aZ m n i s=sm at hk⊢;cases h1:ieq (i+1) (2*t)with
   | false=>
     have h1:=eL h1;exact⟨eD _ _,hst1,fun _=>⟨⟨hN,by show((N).length :Int)≤_;omega⟩,by show 0≤i+1;omega,by show i+1<2*t;omega⟩⟩
   | true=>
     have h1:=fY h1;cases h2:ieq ((aY sm N).length :Int) 0 with
     | true=>exact⟨eD _ _,⟨hst.m,l4 hN,by show((cF sm N).length :Int)≤_;omega⟩,fun h=>Bool.noConfusion h⟩
     | false=>
       have h2:=eL h2;exact⟨eD _ _,hst1,fun _=>⟨by show 2*t≤i+1;omega,by show 1≤(aY sm N).length;omega,by show(aY sm N).length =0+(aY sm N).length;omega,sF hN,l4 hN,by show((cF sm N).length :Int)≤_;omega⟩⟩
 | ⟨2,N,m,i,ks,fs,gs,j,l⟩,hx=>
   obtain⟨a1,a2,a3,a4,a5,a6⟩:=hx;dsimp only at a1 a2 a3 a4 a5 a6;unfold swF;dsimp only;cases h1:ieq ((l - 1:Nat):Int) 0 with
   | true=>exact⟨nK _ _ _,⟨hst.m,a5,by show((ks).length :Int)≤_;omega⟩,fun h=>Bool.noConfusion h⟩
   | false=>
     have h1:=eL h1;exact⟨nK _ _ _,hst1,fun _=>⟨a1,by show 1≤l - 1;omega,by show(gs).length =j+1+(l - 1);omega,a4,a5,by show((ks).length :Int)≤_;omega⟩⟩
theorem RL(t n u sh kd ky att:Int):LC t n u sh kd ky att:=⟨⟨rfl,rfl⟩,trivial⟩
theorem aCb(t n:Int){u:Int}(sh kd ky att:Int)(hu:0≤u∧u≤1000):exW t (YS t n u sh kd ky att):=⟨.inl rfl,hu,⟨(by decide:(0:Int)≤0),(by decide:(0:Int)≤1000)⟩⟩
structure TD (t n b:Int) (st:STS) (x:HPS):Prop where
 h:x.at'=0∨x.at'=1∨x.at'=2∨x.at'=3∨x.at'=4∨x.at'=5∨x.at'=6∨x.at'=7∨x.at'=8∨x.at'=9
 u:0≤x.u∧x.u≤1000
 ex:x.at'=3→exW t x.ex
 en:x.at'=4→YH t n b x.en
 fn:x.at'=5→RU t x.fn∧JQ (b - st.R.length) x.fn
 cl:x.at'=7→U8 t x.cl
 ps:0≤x.p.pops∧x.p.pops≤1000
structure aCB (t n b:Int) (s:MS) (o:HpO):Prop where
 a:Act1 s o.s
 st:stW (b+1) o.st
 w:o.d=false→TD t n (b+1) o.st o.x
theorem MA:(0:Int)≤0∧(0:Int)≤1000:=⟨by decide,by decide⟩
theorem VN{t n b:Int}{x:HPS}{st:STS}{s:MS}(hb:Bnd t n s)(hx:TD t n b st x)(hst:stW b st)(hbb:b≤900000):(hpT t n x st s).run (aCB t n b s):=by
 have hb':=hb;obtain⟨ht,hn,⟨c0,c1⟩,hw⟩:=hb;obtain⟨n0,n1⟩:=hn;obtain⟨t0,t1⟩:=ht;obtain⟨h,hu,hex,hen,hfn,hcl,hps⟩:=hx;have hR0:=hst.ln;have hst1:stW (b+1) st:=iL hst (by omega)
 have hnn:1≤n∧n≤1000:=⟨n0,n1⟩;have hme:=hst.m;obtain⟨u0,u1⟩:=hu;have b0:0≤b:=by omega
 obtain⟨k0,k1⟩:=tX hw (2*n+5+2*t+3*x.1+1);unfold hpT;refine aEC (fun h0=>?c0) (fun h0=>aEC (fun h1=>?c1) (fun h1=>aEC (fun h2=>?c2) (fun h2=>aEC (fun h3=>?c3) (fun h3=>aEC (fun h4=>?c4) (fun h4=>aEC (fun h5=>?c5) (fun h5=>aEC (fun h6=>?c6) (fun h6=>aEC (fun h7=>?c7) (fun h7=>aEC (fun h8=>?c8) (fun h8=>aEC (fun h9=>?c9) (fun h9=>?c10))))))))))
 case' c0=>unfold BG w1y
 case' c1=>unfold BH w1y
 case' c2=>unfold BI w1u w1y
 case' c3=>have he:=hex (fY h3);have hE:=YZ hb' he;have hEo:=YY hb' he;have hA:=hE.a;have hS:stW (b+1) {me:=st.me,sp:=st.sp,R:=st.R++ [(ExO.x (zZ t n x.11 s)).1] } :=uM hst hE.p;unfold BJ
 case' c4=>have he:=hen (fY h4);have hE:=K4 hb' he hst;have hEo:=K3 hb' he hst hbb;have hA:=hE.a;have hS:=hE.st;have hme:=hS.m;have hSl:=hS.ln;unfold BK
 case' c5=>obtain⟨hfw,hfq⟩:=hfn (fY h5);have hF:=DP hb' hfw hfq (by omega);have hFo:=DO hb' hfw hfq (by omega);have hA:=hF.a;have hQ:=hF.q;have hQl:=hQ.ln;have hS:stW (b+1) {me:=st.me,sp:=st.sp,R:=st.R++(aN t n x.fn s).x.ul } :=yC hst hQ;have hcu:=hQ.cu;unfold BL w1t w1x
 case' c6=>unfold BM w1y
 case' c7=>have hc:=hcl (fY h7);have hC:=xF hb' hc;have hCo:=DE hb' hc;have hA:=hC.a;unfold BN
 case' c8=>have hP:=MU (st:=st) hb' (show VW t x.pr from⟨trivial⟩);have hPo:=MT (st:=st) hb' (show VW t x.pr from⟨trivial⟩);have hA:=hP.a;have hPs:stW (b+1) (prF t n x.pr st s).st :=(by rw [hP.st];exact hst1);unfold BO
 case' c9=>have hD:=IX (HPS.p x).1 (HPS.p x).2 (HPS.p x).3 (HPS.p x).4 (HPS.p x).5 (HPS.p x).6 (HPS.p x).7 (HPS.p x).8 (HPS.p x).9 (aA x.6 0 12);have hDo:=IY (HPS.p x).1 (HPS.p x).2 (HPS.p x).3 (HPS.p x).4 (HPS.p x).5 (HPS.p x).6 (HPS.p x).7 (HPS.p x).8 (HPS.p x).9 (aA x.6 0 12);have hS3:stW (b+1) {me:=st.me,sp:=0,R:=st.R} :=NK hst 0;unfold BP w1v w1y
 case c10=>
  simp only [b8,beq_eq_false_iff_ne]at h0 h1 h2 h3 h4 h5 h6 h7 h8 h9;rcases h with e | e | e | e | e | e | e | e | e | e<;>contradiction
 all_goals (repeat' (with_reducible first | exact trivial | rfl | assumption | refine aED ?_ ?_ | refine Tr.run_ite (fun _=>?_) (fun _=>?_) | refine aEF ?_ | refine And.intro ?_ ?_))
 all_goals first
  | exact aW
  | (simp only [List.length_append,List.length_singleton];done)
  | exact RL _ _ _ _ _ _ _
  | exact pN hnn hme (dH _ _)
  | exact B7 _ _ _ _ _ _ _ hcu
  | exact wI _
  | exact uC _ _ _ _ _ _ _ _ _
  | exact i9 _ _ _
  | exact F3 _ _ _ _ _
  | (simp only [List.length_append];done)
  | (refine⟨by first | assumption | exact aW,?_,fun hd=>?_⟩
     ·first
       | assumption
       | (dsimp only;rw [MO];assumption)
     ·first
       | exact Bool.noConfusion hd
       | (refine⟨by dsimp only;decide,⟨u0,u1⟩,?_,?_,?_,?_,?_⟩<;>first | (exact nE') | exact hps | exact MA | (intro _;dsimp only;with_reducible exact aCb _ _ _ _ _ _ ⟨u0,u1⟩) | (intro _;exact trivial) | (intro _;exact⟨AK (t:=t) (n:=n) hnn hme (dH _ _),eI (AJ (t:=t) (n:=n) hnn hme (dH _ _)) (by dsimp only;omega)⟩) | (intro _;exact hE.w (by assumption)) | (intro _;exact⟨hF.w (by assumption),eI hQ (by dsimp only;omega)⟩) | (intro _;dsimp only;with_reducible exact DD _ _ _) | exact wJ _ _ _ _ _ _ _ hcu | (intro _;exact hC.w (by assumption))))
theorem LW{t n b:Int}{x:HPS}{st:STS}{s:MS}(hb:Bnd t n s)(hx:TD t n b st x)(hst:stW b st)(hbb:b≤900000):LU t n x st s:=aEP (VN hb hx hst hbb)
theorem LX{t n b:Int}{x:HPS}{st:STS}{s:MS}(hb:Bnd t n s)(hx:TD t n b st x)(hst:stW b st)(hbb:b≤900000):aCB t n b s (gP t n x st s):=aEK (VN hb hx hst hbb)
theorem ZZ{t n b u no lim:Int}{st:STS}(hu:0≤u∧u≤1000):(H8 t n u no lim st).run (fun r=>TD t n b st r.1∧r.2=st):=by
 unfold H8
 (repeat' (with_reducible first | exact trivial | rfl | assumption | refine aED ?_ ?_ | refine Tr.run_ite (fun _=>?_) (fun _=>?_) | refine aEF ?_ | refine And.intro ?_ ?_))
 all_goals first
  | exact aW
  | exact⟨by dsimp only;decide,hu,fun e=>absurd e (by dsimp only;decide),fun e=>absurd e (by dsimp only;decide),fun e=>absurd e (by dsimp only;decide),fun e=>absurd e (by dsimp only;decide),MA⟩
theorem T9{s k y:Int}(h:cC s k y=true):rngU (tskV s k y):=by
 have h:=uJ.1 h;unfold tskV;refine⟨?_,?_⟩<;>omega
theorem SQ(t n:Int):LQ t n:=⟨⟨rfl,rfl⟩,trivial⟩
theorem aCv(t n:Int):hdW t (ZN t n):=⟨⟨(by decide:(0:Int)≤0),(by decide:(0:Int)≤1000)⟩,⟨(by decide:(-1:Int)≤ -1),(by decide:(-1:Int)≤1000)⟩⟩
theorem QZ(t n u:Int):rO t n u:=⟨⟨rfl,rfl⟩,trivial⟩
theorem aBT(t n:Int){u:Int}(hu:0≤u∧u≤1000):drW t (zU t n u):=⟨hu,⟨(by decide:(0:Int)≤0),(by decide:(0:Int)≤2)⟩⟩
theorem PI(t n u:Int):J7 t n u:=⟨⟨rfl,rfl⟩,trivial⟩
theorem aBI(t n:Int){u:Int}(hu:0≤u∧u≤1000):awW t (WZ t n u):=⟨hu⟩
theorem O9(t n u sh kd ky:Int):J6 t n u sh kd ky:=⟨trivial,⟨rfl,rfl⟩,trivial⟩
theorem aBF(t n:Int){u:Int}(sh kd ky:Int)(hu:0≤u∧u≤1000):anW t (WQ t n u sh kd ky):=⟨.inl rfl,hu,yA T9 CD,CD⟩
theorem S6(t n u no lim:Int)(st:STS):BF t n u no lim st:=by
 unfold BF H8;exact⟨⟨⟨rfl,rfl,rfl⟩,by decide⟩,trivial⟩
theorem VM{t n b u no lim:Int}{st:STS}(hu:0≤u∧u≤1000):TD t n b st (vA t n u no lim st).1:=(aEK (ZZ (b:=b) hu)).1
theorem RY{t n b:Int}(sh kd ky most:Int){st:STS}(hn:1≤n∧n≤1000)(hst:stW b st):tQ t n sh kd ky most st:=aEP (DQ hn hst)
theorem aCh{t n b:Int}(sh kd ky most:Int){st:STS}(hn:1≤n∧n≤1000)(hst:stW b st):R9 t b st (jS t n sh kd ky most st).1:=(aEK (DQ (t:=t) hn hst)).1
theorem LI{t n b:Int}(sh kd ky most:Int){st:STS}(hn:1≤n∧n≤1000)(hst:stW b st):(jS t n sh kd ky most st).2=st:=(aEK (DQ (t:=t) hn hst)).2
structure QV (t n b:Int) (st:STS) (x:DOS):Prop where
 h:x.at'=0∨x.at'=1∨x.at'=2∨x.at'=3∨x.at'=4∨x.at'=5∨x.at'=6∨x.at'=7∨x.at'=8∨x.at'=9
 hd:x.at'=0→hdW t x.hd
 hp:x.at'=1∨x.at'=5→TD t n b st x.hp
 en:x.at'=2→YH t n b x.en
 ft:x.at'=3→R9 t b st x.ft
 an:x.at'=4→anW t x.an
 aw:x.at'=6→awW t x.aw
 fn:x.at'=7→RU t x.fn∧JQ (b - st.R.length) x.fn
 dr:x.at'=8→drW t x.dr
 sw:x.at'=9→JF t n b x.sw
structure aBR (t n b:Int) (s:MS) (o:DqO):Prop where
 a:Act1 s o.s
 st:stW (b+1) o.st
 w:o.d=false→QV t n (b+1) o.st o.x
theorem VB{t n b:Int}{x:DOS}{st:STS}{s:MS}(hb:Bnd t n s)(hx:QV t n b st x)(hst:stW b st)(hbb:b≤900000):(dqT t n x st s).run (aBR t n b s):=by
 have hb':=hb;obtain⟨ht,hn,⟨c0,c1⟩,hw⟩:=hb;obtain⟨n0,n1⟩:=hn;obtain⟨t0,t1⟩:=ht;obtain⟨h,xhd,xhp,xen,xft,xan,xaw,xfn,xdr,xsw⟩:=hx;have hR0:=hst.ln;have hst1:stW (b+1) st:=iL hst (by omega)
 have hnn:1≤n∧n≤1000:=⟨n0,n1⟩;have hme:=hst.m;have b0:0≤b:=by omega
 unfold dqT;refine aEC (fun h0=>?c0) (fun h0=>aEC (fun h1=>?c1) (fun h1=>aEC (fun h2=>?c2) (fun h2=>aEC (fun h3=>?c3) (fun h3=>aEC (fun h4=>?c4) (fun h4=>aEC (fun h5=>?c5) (fun h5=>aEC (fun h6=>?c6) (fun h6=>aEC (fun h7=>?c7) (fun h7=>aEC (fun h8=>?c8) (fun h8=>aEC (fun h9=>?c9) (fun h9=>?c10))))))))))
 case' c0=>have hc:=xhd (fY h0);have hC:=ZV hb' hc;have hCo:=ZU hb' hc;have hA:=hC.a;have hS:=hst1;have hSl:=hS.ln;obtain⟨v0,v1⟩:=hC.p;unfold zK w2d w27 w28
 case' c1=>have hc:=xhp (.inl (fY h1));have hC:=LX hb' hc hst hbb;have hCo:=LW hb' hc hst hbb;have hA:=hC.a;have hS:=hC.st;have hme:=hS.m;have hSl:=hS.ln;unfold zL w25 w2a w28
 case' c2=>have hc:=xen (fY h2);have hC:=K4 hb' hc hst;have hCo:=K3 hb' hc hst hbb;have hA:=hC.a;have hS:=hC.st;have hme:=hS.m;have hSl:=hS.ln;unfold zM w28
 case' c3=>have hc:=xft (fY h3);have hC:=ZG hb' hc hst hbb;have hCo:=ZF hb' hc hst hbb;have hA:=hC.a;have hS:=hC.st;have hme:=hS.m;have hSl:=hS.ln;unfold zN w22 w29 w28
 case' c4=>have hc:=xan (fY h4);have hC:=WY hb' hc;have hCo:=WX hb' hc;have hA:=hC.a;have hS:=hst1;have hSl:=hS.ln;unfold zO w28
 case' c5=>have hc:=xhp (.inr (fY h5));have hC:=LX hb' hc hst hbb;have hCo:=LW hb' hc hst hbb;have hA:=hC.a;have hS:=hC.st;have hme:=hS.m;have hSl:=hS.ln;unfold zP w2a w28
 case' c6=>have hc:=xaw (fY h6);have hC:=XA hb' hc;have hCo:=W9 hb' hc;have hA:=hC.a;have hS:=hst1;have hSl:=hS.ln;unfold zQ w24 w28
 case' c7=>obtain⟨hfw,hfq⟩:=xfn (fY h7);have hF:=DP hb' hfw hfq (by omega);have hFo:=DO hb' hfw hfq (by omega);have hA:=hF.a;have hQ:=hF.q;have hQl:=hQ.ln;have hS:stW (b+1) {me:=st.me,sp:=st.sp,R:=st.R++(aN t n x.fn s).x.ul } :=yC hst hQ;unfold zR w28
 case' c8=>have hc:=xdr (fY h8);have hC:=YC hb' hc;have hCo:=YB hb' hc;have hA:=hC.a;have hS:=hst1;unfold zS w28
 case' c9=>have hc:=xsw (fY h9);have hC:=aAZ hb' hc hst;have hCo:=aAY hb' hc hst hbb;have hA:=hC.a;have hS:=hC.st;unfold zT w28
 case c10=>
  simp only [b8,beq_eq_false_iff_ne]at h0 h1 h2 h3 h4 h5 h6 h7 h8 h9;rcases h with e | e | e | e | e | e | e | e | e | e<;>contradiction
 all_goals (repeat' (with_reducible first | exact trivial | rfl | assumption | refine aED ?_ ?_ | refine Tr.run_ite (fun _=>?_) (fun _=>?_) | refine aEF ?_ | refine And.intro ?_ ?_))
 all_goals first
  | exact aW
  | (intro _;decide)
  | assumption
  | exact QZ _ _ _
  | exact PI _ _ _
  | exact O9 _ _ _ _ _ _
  | exact S6 _ _ _ _ _ _
  | exact pN hnn hme (dH _ _)
  | exact RY _ _ _ _ hnn hS
  | (simp only [List.length_append,List.length_singleton];done)
  | (refine⟨by first | assumption | exact aW,by first | assumption | (dsimp only;rw [LI _ _ _ _ hnn hS];assumption),fun hd=>?_⟩
     first
      | exact Bool.noConfusion hd
      | (refine⟨by dsimp only;decide,?_,?_,?_,?_,?_,?_,?_,?_,?_⟩<;>first | (exact nE') | (intro _;exact hC.w (by assumption)) | (intro _;exact VM ⟨by first | omega | (simp_all [cH,a8];done) | (simp_all [cH,a8];omega),v1⟩) | (intro _;exact trivial) | (intro _;dsimp only;rw [LI _ _ _ _ hnn hS];exact aCh _ _ _ _ hnn hS) | (intro _;dsimp only;with_reducible exact aBI _ _ hme) | (intro _;dsimp only;with_reducible exact aBT _ _ hme) | (intro _;dsimp only;with_reducible exact aBF _ _ _ _ _ hme) | (intro _;exact⟨AK (t:=t) (n:=n) hnn hme (dH _ _),eI (AJ (t:=t) (n:=n) hnn hme (dH _ _)) (by dsimp only;omega)⟩) | (intro _;exact VM hme) | (intro _;exact⟨hF.w (by assumption),eI hQ (by dsimp only;omega)⟩)))
theorem X3{t n b:Int}{x:DOS}{st:STS}{s:MS}(hb:Bnd t n s)(hx:QV t n b st x)(hst:stW b st)(hbb:b≤900000):QK t n x st s:=aEP (VB hb hx hst hbb)
theorem X4{t n b:Int}{x:DOS}{st:STS}{s:MS}(hb:Bnd t n s)(hx:QV t n b st x)(hst:stW b st)(hbb:b≤900000):aBR t n b s (sV t n x st s):=aEK (VB hb hx hst hbb)
theorem XQ{t n b:Int}(sh kd ky lim:Int)(st:STS):(KR t n sh kd ky lim st).run (fun r=>QV t n b st r.1∧r.2=st):=by
 unfold KR
 (repeat' (with_reducible first | exact trivial | rfl | assumption | refine aED ?_ ?_ | refine Tr.run_ite (fun _=>?_) (fun _=>?_) | refine aEF ?_ | refine And.intro ?_ ?_))
 all_goals first
  | exact aW
  | exact SQ _ _
  | (intro _;decide)
  | (refine⟨by dsimp only;decide,fun _=>aCv t n,?_,?_,?_,?_,?_,?_,?_,?_⟩<;>(exact nE'))
structure hstW (e c:Int) (x:HST):Prop where
 he:(x.ev.length:Int)≤e
 hc:(x.cl.length:Int)≤c
 n0:0≤x.n0∧x.n0≤(x.cl.length:Int)
 n1:0≤x.n1∧x.n1≤(x.cl.length:Int)
 n2:0≤x.n2∧x.n2≤(x.cl.length:Int)
 n3:0≤x.n3∧x.n3≤(x.cl.length:Int)
 n4:0≤x.n4∧x.n4≤(x.cl.length:Int)
 n5:0≤x.n5∧x.n5≤(x.cl.length:Int)
 n6:0≤x.n6∧x.n6≤(x.cl.length:Int)
 n7:0≤x.n7∧x.n7≤(x.cl.length:Int)
theorem jJ{e c e' c':Int}{x:HST}(h:hstW e c x)(h1:e≤e')(h2:c≤c'):hstW e' c' x:=⟨Int.le_trans h.he h1,Int.le_trans h.hc h2,h.n0,h.n1,h.n2,h.n3,h.n4,h.n5,h.n6,h.n7⟩
theorem mX{P:Prop}(h:P:=by first | omega | (dsimp only;omega) | (simp only [List.length_append,List.length_singleton,List.length_set,List.length_cons,List.length_nil];done) | (simp only [List.length_append,List.length_singleton,List.length_set,List.length_cons,List.length_nil];omega) | (dsimp only;simp only [List.length_append,List.length_singleton,List.length_set];omega)):P:=h
theorem aCu{e c th:Int}{x:HST}(kd ky:Int)(h:hstW e c x)(he:e≤1000000)(hc:c≤1000000)(h0:0≤th∧th<8):(hbT th x kd ky).run (fun r=>hstW (e+1) (c+1) r.2):=by
 have hh:=h;obtain⟨a,b,m0,m1,m2,m3,m4,m5,m6,m7⟩:=h;unfold hbT;refine aEC (fun q0=>?c0) (fun q0=>aEC (fun q1=>?c1) (fun q1=>aEC (fun q2=>?c2) (fun q2=>aEC (fun q3=>?c3) (fun q3=>aEC (fun q4=>?c4) (fun q4=>aEC (fun q5=>?c5) (fun q5=>aEC (fun q6=>?c6) (fun q6=>aEC (fun q7=>?c7) (fun q7=>?c8))))))))
 case' c0=>unfold AZ w2i w2h w2g
 case' c1=>unfold A0 w2i w2h w2g
 case' c2=>unfold A1 w2i w2h w2g
 case' c3=>unfold A2 w2i w2h w2g
 case' c4=>unfold A3 w2i w2h w2g
 case' c5=>unfold A4 w2i w2h w2g
 case' c6=>unfold A5 w2i w2h w2g
 case' c7=>unfold A6 w2i w2h w2g
 case c8=>
  have q0:=eL q0;have q1:=eL q1;have q2:=eL q2;have q3:=eL q3;have q4:=eL q4;have q5:=eL q5;have q6:=eL q6;have q7:=eL q7;omega
 all_goals (repeat' (with_reducible first | exact trivial | rfl | assumption | refine aED ?_ ?_ | refine Tr.run_ite (fun _=>?_) (fun _=>?_) | refine aEF ?_ | refine And.intro ?_ ?_))
 all_goals first
  | exact aW
  | exact jJ hh (by omega) (by omega)
  | exact mX
  | (refine⟨?_,?_,?_,?_,?_,?_,?_,?_,?_,?_⟩<;>exact mX)
theorem VL{e c th:Int}{x:HST}(code:Int)(okk:Bool)(val:Int)(h:hstW e c x)(he:e≤1000000)(hc:c≤1000000)(h0:0≤th∧th<8):(heT th x code okk val).run (fun r=>hstW (e+1) (c) r.2):=by
 have hh:=h;obtain⟨a,b,m0,m1,m2,m3,m4,m5,m6,m7⟩:=h;unfold heT;refine aEC (fun q0=>?c0) (fun q0=>aEC (fun q1=>?c1) (fun q1=>aEC (fun q2=>?c2) (fun q2=>aEC (fun q3=>?c3) (fun q3=>aEC (fun q4=>?c4) (fun q4=>aEC (fun q5=>?c5) (fun q5=>aEC (fun q6=>?c6) (fun q6=>aEC (fun q7=>?c7) (fun q7=>?c8))))))))
 case' c0=>unfold A7 w2k w30 w2z;have hW:=cU (x:=x.n0 - 1) ⟨by omega,by omega⟩;change W (x.n0 - 1)=x.n0 - 1 at hW
 case' c1=>unfold A8 w2l w30 w2z;have hW:=cU (x:=x.n1 - 1) ⟨by omega,by omega⟩;change W (x.n1 - 1)=x.n1 - 1 at hW
 case' c2=>unfold A9 w2m w30 w2z;have hW:=cU (x:=x.n2 - 1) ⟨by omega,by omega⟩;change W (x.n2 - 1)=x.n2 - 1 at hW
 case' c3=>unfold BA w2n w30 w2z;have hW:=cU (x:=x.n3 - 1) ⟨by omega,by omega⟩;change W (x.n3 - 1)=x.n3 - 1 at hW
 case' c4=>unfold BB w2o w30 w2z;have hW:=cU (x:=x.n4 - 1) ⟨by omega,by omega⟩;change W (x.n4 - 1)=x.n4 - 1 at hW
 case' c5=>unfold BC w2p w30 w2z;have hW:=cU (x:=x.n5 - 1) ⟨by omega,by omega⟩;change W (x.n5 - 1)=x.n5 - 1 at hW
 case' c6=>unfold BD w2q w30 w2z;have hW:=cU (x:=x.n6 - 1) ⟨by omega,by omega⟩;change W (x.n6 - 1)=x.n6 - 1 at hW
 case' c7=>unfold BE w2j w30 w2z;have hW:=cU (x:=x.n7 - 1) ⟨by omega,by omega⟩;change W (x.n7 - 1)=x.n7 - 1 at hW
 case c8=>
  have q0:=eL q0;have q1:=eL q1;have q2:=eL q2;have q3:=eL q3;have q4:=eL q4;have q5:=eL q5;have q6:=eL q6;have q7:=eL q7;omega
 all_goals (repeat' (with_reducible first | exact trivial | rfl | assumption | refine aED ?_ ?_ | refine Tr.run_ite (fun _=>?_) (fun _=>?_) | refine aEF ?_ | refine And.intro ?_ ?_))
 all_goals first
  | exact aW
  | exact jJ hh (by omega) (by omega)
  | exact mX
  | (rw [hW];simp only [a8,Bool.not_eq_false',dT',Bool.not_eq_true',dF']at*;first | omega | exact mX)
  | (refine⟨?_,?_,?_,?_,?_,?_,?_,?_,?_,?_⟩<;>exact mX)
theorem LJ{t b c:Int}{st:STS}{x:FTS}(h:R9 t b st x)(hbc:b≤c):R9 t c st x:=⟨h.h,fun e=>⟨(h.fn e).1,eI (h.fn e).2 (by omega)⟩,h.cl,h.ps⟩
theorem zW{t n b c:Int}{e:ENS}(hx:YH t n b e)(hbc:b≤c):YH t n c e:=by
 match e,hx with
 | ⟨0,sh,dn,x,y⟩,hx=>trivial
 | ⟨1,sh,dn,x,y⟩,hx=>exact hx
 | ⟨2,sh,dn,x,y⟩,hx=>trivial
 | ⟨3,sh,dn,x,y⟩,hx=>exact⟨⟨hx.1.1,Int.le_trans hx.1.2 hbc⟩,hx.2⟩
 | ⟨4,sh,dn,x,y⟩,hx=>exact⟨hx.1,hx.2.1,hx.2.2.1,hx.2.2.2.1,hx.2.2.2.2.1,Int.le_trans hx.2.2.2.2.2 hbc⟩
theorem JG{t n b c:Int}{e:SWS}(hx:JF t n b e)(hbc:b≤c):JF t n c e:=by
 match e,hx with
 | ⟨0,N,m,i,ks,fs,gs,j,l⟩,hx=>trivial
 | ⟨1,N,m,i,ks,fs,gs,j,l⟩,hx=>exact⟨⟨hx.1.1,Int.le_trans hx.1.2 hbc⟩,hx.2⟩
 | ⟨2,N,m,i,ks,fs,gs,j,l⟩,hx=>exact⟨hx.1,hx.2.1,hx.2.2.1,hx.2.2.2.1,hx.2.2.2.2.1,Int.le_trans hx.2.2.2.2.2 hbc⟩
theorem LV{t n b c:Int}{st:STS}{x:HPS}(h:TD t n b st x)(hbc:b≤c):TD t n c st x:=⟨h.h,h.u,h.ex,fun e=>zW (h.en e) hbc,fun e=>⟨(h.fn e).1,eI (h.fn e).2 (by omega)⟩,h.cl,h.ps⟩
theorem KS{t n b c:Int}{st:STS}{x:DOS}(h:QV t n b st x)(hbc:b≤c):QV t n c st x:=⟨h.h,h.hd,fun e=>LV (h.hp e) hbc,fun e=>zW (h.en e) hbc,fun e=>LJ (h.ft e) hbc,h.an,h.aw,fun e=>⟨(h.fn e).1,eI (h.fn e).2 (by omega)⟩,h.dr,fun e=>JG (h.sw e) hbc⟩
structure UT (t n b:Int) (w:WKS):Prop where
 ht:w.t=t
 hn:w.n=n
 st:stW b w.st
 d:w.b=true→QV t n b w.st w.d∧w.en<(w.tk.length:Int)
 e0:0≤w.en
 e1:w.en≤(w.tk.length:Int)
 tl:(w.tl.length:Int)=w.en+(bif w.b then 1 else 0)
 sl:(w.sl.length:Int)≤w.en
 tk:(w.tk.length:Int)≤100000
structure OL (t n b:Int) (w:WK1):Prop where
 ht:w.t=t
 hn:w.n=n
 st:stW b w.st
 d:QV t n b w.st w.d
 e0:0≤w.en
 e1:w.en<(w.tk.length:Int)
 tl:(w.tl.length:Int)=w.en+1
 sl:(w.sl.length:Int)≤w.en
 tk:(w.tk.length:Int)≤100000
theorem OO{t n b c:Int}{w:WKS}(h:UT t n b w)(hbc:b≤c):UT t n c w:=⟨h.ht,h.hn,iL h.st hbc,fun e=>⟨KS (h.d e).1 hbc,(h.d e).2⟩,h.e0,h.e1,h.tl,h.sl,h.tk⟩
theorem OI{t n b tr:Int}{w:WKS}(h:UT t n b w)(hb:w.b=false)(hl:w.en<(w.tk.length:Int)):(JK tr w).run (OL t n b):=by
 obtain⟨rfl,rfl,hst,hd,e0,e1,htl,hsl,htk⟩:=h;rw [hb]at htl;have htl:(w.tl.length:Int)=w.en+0:=htl;have hN:=fun sh kd ky lim=>XQ (t:=w.t) (n:=w.n) (b:=b) sh kd ky lim w.st;unfold JK w33
 (repeat' (with_reducible first | exact trivial | rfl | assumption | refine aED ?_ ?_ | refine Tr.run_ite (fun _=>?_) (fun _=>?_) | refine aEF ?_ | refine And.intro ?_ ?_))
 all_goals first
  | exact aW
  | exact aEP (hN _ _ _ _)
  | (simp only [List.length_append,List.length_singleton];done)
  | (refine⟨rfl,rfl,?_,?_,e0,hl,?_,hsl,htk⟩
     ·dsimp only;rw [show(dqNF _ _ _ _ _ _ _).2=w.st from(aEK (hN _ _ _ _)).2];exact hst
     ·dsimp only;rw [show(dqNF _ _ _ _ _ _ _).2=w.st from(aEK (hN _ _ _ _)).2];exact(aEK (hN _ _ _ _)).1
     ·dsimp only;rw [List.length_append,List.length_singleton];omega)
theorem aA3{t n b tr:Int}{w:WKS}(h:UT t n b w)(hl:w.en<(w.tk.length:Int)):OJ tr w:=by
 unfold OJ;cases hb:w.b with
 | true=>trivial
 | false=>exact aEP (OI h hb hl)
theorem aA4{t n b tr:Int}{w:WKS}(h:UT t n b w)(hl:w.en<(w.tk.length:Int)):OL t n b (wbF tr w):=by
 unfold wbF;cases hb:w.b with
 | true=>
   obtain⟨h1,h2,h3,h4,h5,h6,h7,h8,h9⟩:=h;rw [hb]at h7;exact⟨h1,h2,h3,(h4 hb).1,h5,hl,h7,h8,h9⟩
 | false=>exact aEK (OI h hb hl)
structure aC8 (t n b:Int) (s:MS) (o:WkO):Prop where
 a:Act1 s o.s
 w:UT t n (b+1) o.x
theorem WH{t n b:Int}{w:WK1}{s:MS}(hb:Bnd t n s)(h:OL t n b w)(hbb:b≤900000):(wsT w s).run (aC8 t n b s):=by
 obtain⟨rfl,rfl,hst,hd,e0,e1,htl,hsl,htk⟩:=h;have hD:=X4 hb hd hst hbb;have hDo:=X3 hb hd hst hbb;have hA:=hD.a;have hW:W (w.en+1)=w.en+1:=cU ⟨by omega,by omega⟩
 unfold wsT w35 w34
 (repeat' (with_reducible first | exact trivial | rfl | assumption | refine aED ?_ ?_ | refine Tr.run_ite (fun _=>?_) (fun _=>?_) | refine aEF ?_ | refine And.intro ?_ ?_))
 all_goals first
  | exact aW
  | (simp only [List.length_append,List.length_singleton,List.length_set];done)
  | (refine⟨hA,⟨rfl,rfl,hD.st,?_,?_,?_,?_,?_,htk⟩⟩
     ·first
       | (intro e;exact Bool.noConfusion e)
       | (intro e;exact⟨hD.w (by assumption),e1⟩)
     ·first | exact e0 | (dsimp only;rw [hW];omega)
     ·first | (dsimp only;omega) | (dsimp only;rw [hW];omega)
     ·dsimp only;rw [List.length_set]
      first | (rw [hW];show _=w.en+1+0;omega) | (show _=w.en+1;omega)
     ·dsimp only
      first | (rw [hW];simp only [List.length_append,List.length_singleton];omega) | (rw [hW];omega) | omega)
theorem aBb{t n b:Int}{w:WK1}{s:MS}(hb:Bnd t n s)(h:OL t n b w)(hbb:b≤900000):UV w s:=aEP (WH hb h hbb)
theorem aBc{t n b:Int}{w:WK1}{s:MS}(hb:Bnd t n s)(h:OL t n b w)(hbb:b≤900000):aC8 t n b s (wsF w s):=aEK (WH hb h hbb)
structure egW (t n:Int) (x:EGS):Prop where
 ht:1≤t∧t≤8
 hn:1≤n∧n≤1000
 st:x.s.t=t
 sn:x.s.n=n
 xt:x.th=t
 xn:x.nd=n
 k:0≤x.k∧x.k≤60000
 c:x.s.c=x.k
 w:TP x.s.xs
 l:(x.ws.length:Int)=t
 ws: ∀i,i<x.ws.length→UT t n x.k (bX x.ws i)
 h:hstW (2*x.k) x.k x.h
theorem OM{ws:List WKS}{i j:Nat}{w:WKS}(hi:i<ws.length):bX (dP ws i w) j=if i=j then w else bX ws j:=by
 unfold bX dP;rw [gD',List.getElem?_set,gD']
 by_cases e:i=j
 ·subst e;rw [if_pos rfl,if_pos rfl,if_pos hi];rfl
 ·rw [if_neg e,if_neg e]
theorem wU(ws:List WKS)(i:Nat)(w:WKS):(dP ws i w).length =ws.length:=by unfold dP;exact List.length_set
theorem EV{ws:List WKS}{i:Nat}(hi:i<ws.length):dP ws i (bX ws i)=ws:=by
 unfold dP bX;apply List.ext_getElem
 ·simp
 ·intro j h1 h2;rw [List.getElem_set];split
  ·rename_i e;subst e;rw [gD',gE' hi];rfl
  ·rfl
structure TT (t n:Int) (x:EGS) (r:Bool×EGS):Prop where
 no:r.1=false→r.2=x
 yes:r.1=true→egW t n r.2∧r.2.k=x.k+1∧r.2.sh=x.sh∧r.2.tr=x.tr
 w:egW t n r.2
theorem sZ{t n:Int}{x:EGS}(h:egW t n x):TT t n x (false,x):=⟨fun _=>rfl,fun e=>Bool.noConfusion e,h⟩
theorem pZ{t n:Int}{x:EGS}{s:MS}{h:HST}{i:Nat}{w:WKS}(hx:egW t n x)(hk:x.k<60000)(hi:i<x.ws.length)(ha:Act1 x.s s)(hw:UT t n (x.k+1) w)(hh:hstW (2*(x.k+1)) (x.k+1) h):
 TT t n x (true,{sh:=x.sh,th:=x.th,nd:=x.nd,tr:=x.tr,s:=s,h:=h,ws:=dP x.ws i w,k:=W (x.k+1) }):=by
 obtain⟨ht,hn,st,sn,xt,xn,k,c,wd,l,ws,hst⟩:=hx;have hW:W (x.k+1)=x.k+1:=cU ⟨by omega,by omega⟩
 rw [hW]
 have hr:egW t n {sh:=x.sh,th:=x.th,nd:=x.nd,tr:=x.tr,s:=s,h:=h,ws:=dP x.ws i w,k:=x.k+1} :=by
  refine⟨ht,hn,ha.t.trans st,ha.n.trans sn,xt,xn,?_,?_,ha.w wd,?_,?_,hh⟩
  ·dsimp only;omega
  ·dsimp only;rw [ha.c,c]
  ·dsimp only;rw [wU];exact l
  ·intro j hj;dsimp only at hj⊢;rw [wU]at hj;rw [OM hi];split
   ·exact hw
   ·exact OO (ws j hj) (by omega)
 exact⟨fun e=>Bool.noConfusion e,fun _=>⟨hr,rfl,rfl,rfl⟩,hr⟩
theorem VU{t n:Int}{x:EGS}(th:Int)(hx:egW t n x):(pkT th x).run (TT t n x):=by
 have hx':=hx;obtain⟨ht,hn,st,sn,xt,xn,hk,hc,wd,hl,hws,hst⟩:=hx;have hB:Bnd t n x.s:=⟨⟨ht.1,by omega⟩,hn,by omega,wd⟩
 unfold pkT w38 w39;refine Tr.run_ite (fun e1=>?_) (fun e1=>Tr.run_ite (fun e2=>?_) (fun e2=>?_))
 · (repeat' (with_reducible first | exact trivial | rfl | assumption | refine aED ?_ ?_ | refine Tr.run_ite (fun _=>?_) (fun _=>?_) | refine aEF ?_ | refine And.intro ?_ ?_));exact sZ hx'
 · (repeat' (with_reducible first | exact trivial | rfl | assumption | refine aED ?_ ?_ | refine Tr.run_ite (fun _=>?_) (fun _=>?_) | refine aEF ?_ | refine And.intro ?_ ?_));exact sZ hx'
 rw [a8,dF']at e1;rw [cH,dF']at e2;have hi:0+Int.toNat th*1<x.ws.length:=by omega
 have hw:=hws _ hi;have hself:=EV hi;generalize hig:0+Int.toNat th*1=i at*;refine aED ⟨by omega,by omega⟩ (aED hi (aED trivial (Tr.run_ite (fun e3=>?_) (fun e3=>Tr.run_ite (fun e4=>?_) (fun e4=>?_)))))
 · (repeat' (with_reducible first | exact trivial | rfl | assumption | refine aED ?_ ?_ | refine Tr.run_ite (fun _=>?_) (fun _=>?_) | refine aEF ?_ | refine And.intro ?_ ?_))
   all_goals first | assumption | (rw [hself];exact sZ hx')
 · (repeat' (with_reducible first | exact trivial | rfl | assumption | refine aED ?_ ?_ | refine Tr.run_ite (fun _=>?_) (fun _=>?_) | refine aEF ?_ | refine And.intro ?_ ?_))
   all_goals first | assumption | (rw [hself];exact sZ hx')
 rw [cH,dF']at e4
 have hen:(bX x.ws i).en <((bX x.ws i).tk.length :Int):=by
  have h0:=hw.e0;have h1:=hw.e1;have h2:=hw.tk;have h3:=eL e3;have hW:=cU (x:=((bX x.ws i).tk.length :Int) - (bX x.ws i).en) ⟨by omega,by omega⟩
  have h4:W (((bX x.ws i).tk.length :Int) - (bX x.ws i).en)≠0:=h3;have hW:W (((bX x.ws i).tk.length :Int) - (bX x.ws i).en)=((bX x.ws i).tk.length :Int) - (bX x.ws i).en :=hW;rw [hW]at h4;omega
 have h1w:=aA4 (tr:=x.tr) hw hen;have h1o:=aA3 (tr:=x.tr) hw hen;refine aED h1o ?_;have hS:=aBc hB h1w (by omega)
 have hSo:=aBb hB h1w (by omega)
 generalize wbF x.tr (bX x.ws i)=w1 at*;generalize hsg:wsF w1 x.s=o at*;have hth:0≤th∧th<8:=by omega
 refine Tr.run_ite (fun e5=>?_) (fun e5=>?_)
 ·have hH:=aCu (th:=th) (kd:=(WK1.d w1).6) (ky:=(WK1.d w1).7) hst (by omega) (by omega) hth
  have hHo:hbOk th x.h (WK1.d w1).6 (WK1.d w1).7:=aEP hH;have hHv:hstW (2*x.k+1) (x.k+1) (hbF th x.h (WK1.d w1).6 (WK1.d w1).7).2:=aEK hH;generalize hbF th x.h (WK1.d w1).6 (WK1.d w1).7=y at*;have hE:=VL (th:=th) (code:=o.1) (okk:=o.2) (val:=o.3) hHv (by omega) (by omega) hth
  have hEo:heOk th y.2 o.1 o.2 o.3:=aEP hE;have hEv:hstW (2*x.k+1+1) (x.k+1) (heF th y.2 o.1 o.2 o.3).2:=aEK hE
  (repeat' (with_reducible first | exact trivial | rfl | assumption | refine aED ?_ ?_ | refine Tr.run_ite (fun _=>?_) (fun _=>?_) | refine aEF ?_ | refine And.intro ?_ ?_))
  all_goals first
   | assumption
   | exact pZ hx' (by omega) hi hS.a hS.w (jJ hEv (by omega) (by omega))
   | exact pZ hx' (by omega) hi hS.a hS.w (jJ hHv (by omega) (by omega))
 ·have hE:=VL (th:=th) (code:=o.1) (okk:=o.2) (val:=o.3) hst (by omega) (by omega) hth
  have hEo:heOk th x.h o.1 o.2 o.3:=aEP hE;have hEv:hstW (2*x.k+1) x.k (heF th x.h o.1 o.2 o.3).2:=aEK hE
  (repeat' (with_reducible first | exact trivial | rfl | assumption | refine aED ?_ ?_ | refine Tr.run_ite (fun _=>?_) (fun _=>?_) | refine aEF ?_ | refine And.intro ?_ ?_))
  all_goals first
   | assumption
   | exact pZ hx' (by omega) hi hS.a hS.w (jJ hEv (by omega) (by omega))
   | exact pZ hx' (by omega) hi hS.a hS.w (jJ hst (by omega) (by omega))
theorem lA{t n:Int}{x:EGS}(th:Int)(hx:egW t n x):sJ th x:=aEP (VU th hx)
theorem aAz{t n:Int}{x:EGS}(th:Int)(hx:egW t n x):TT t n x (pkF th x):=aEK (VU th hx)
end Go.Sh
