import Derived.Test.YteindpciaceeeaaGreatZSh32toSh33
set_option linter.all false
set_option maxHeartbeats 8000000
namespace Go.Sh
open Go Go.Proofs
variable [Con]
theorem LK{n:Nat}(th tm:Nat→Int)(hn:n≤4294967296):DE Tryz.prog 114 (VV n th tm) (DN th tm n 0 60000):=by
 intro l Fr hY;exact LI l n th tm _ hY _ (aC0 l n th tm _ hY _ hn rfl rfl)
def jX:Code→Code
 | .seq x _=>x
 | .block _ c=>c
 | c=>c
def jY:Code→Code
 | .seq _ y=>y
 | c=>c
def D3:Code→Code
 | .rangeFunc _ _ a _=>a
 | c=>c
def D4:Code→Code
 | .rangeFunc _ _ _ b=>b
 | c=>c
noncomputable def mV:Code:=(Tryz.f85.body).getD .skip
noncomputable def XS:Code:=.seq (jX mV) (.seq (jX (jY mV)) (jX (jX (jY (jY mV)))))
noncomputable def rL:Code:=jX (jY (jX (jY (jY mV))))
noncomputable def MI:Code:=jX (jY (jY (jY mV)))
def GO(x:EGS)(n:Nat)(row:Nat→List AVal)(K:List AVal→aC Ob→Prop):Prop:=K [.func (Fn.func 41) [.ptr 0 0] [],.view n 2 row,.ptr 1 0,.raw (Value.tuple {toList:=[] }),.int .i64 0,.ptr 2 0,.raw (Value.tuple {toList:=[] }),.view n 2 row,.func (Fn.func 114) [] [.ptr 3 0],.raw (Value.tuple {toList:=[] }),.raw (Value.tuple {toList:=[] }),.raw (Value.tuple {toList:=[] }),.raw (Value.tuple {toList:=[] }),.raw (Value.tuple {toList:=[] }),.raw (Value.tuple {toList:=[] }),.raw (Value.tuple {toList:=[] })] [some (.abs (.engine x) []),some (.cells [.func (Fn.func 41) [.ptr 0 0] []]),some (.cells [.int .i64 0]),some (.cells [.view n 2 row])]
theorem IQ(x:EGS)(n:Nat)(row:Nat→List AVal)(K:List AVal→aC Ob→Prop)(h:GO x n row K):Ev (cR EU9 (mW EU9 LL 9) 16 XS ([.func (.func 41) [.ptr 0 0] [],.view n 2 row]++List.replicate 14 (.raw undef)) [some (.abs (.engine x) [])] K):=aJ (q:=GO x n row K) (by kernel_rfl) h
def NC(x:EGS)(n:Nat)(row:Nat→List AVal)(c u:Int)(K:aC Ob→Prop):Prop:=VT u x∧bif (pkF u x).1 then K [some (.abs (.engine (pkF u x).2) []),some (.cells [.func (Fn.func 41) [.ptr 0 0] []]),some (.cells [.int .i64 (W (c+1))])]else K [some (.abs (.engine (pkF u x).2) []),some (.cells [.func (Fn.func 41) [.ptr 0 0] []]),some (.cells [.int .i64 c])]
theorem IR(x:EGS)(n:Nat)(row:Nat→List AVal)(c u:Int)(K:aC Ob→Prop)(h:NC x n row c u K):Ev (cR EU9 (mW EU9 LL 9) 16 (D3 rL) (List.set (([.func (.func 41) [.ptr 0 0] [],.view n 2 row,.ptr 1 0,.raw undef,.int .i64 0,.ptr 2 0,.raw undef,.view n 2 row,.O]:List AVal)++List.replicate 7 (.raw undef)) 9 (.int .i64 u)) [some (.abs (.engine x) []),some (.cells [.func (.func 41) [.ptr 0 0] []]),some (.cells [.int .i64 c])] (fun tm1 h1=>cR EU9 (mW EU9 LL 9) 16 (D4 rL) tm1 h1 (fun _ h2=>K h2))):=aJ (q:=NC x n row c u K) (by kernel_rfl) h
def NG(x:EGS)(n:Nat)(row:Nat→List AVal)(c:Int)(K:List AVal→aC Ob→Prop):Prop:=K [.func (Fn.func 41) [.ptr 0 0] [],.view n 2 row,.ptr 1 0,.raw (Value.tuple {toList:=[] }),.int .i64 c,.ptr 2 0,.raw (Value.tuple {toList:=[] }),.view n 2 row,.O,.raw (Value.tuple {toList:=[] }),.raw (Value.tuple {toList:=[] }),.raw (Value.tuple {toList:=[] }),.raw (Value.tuple {toList:=[] }),.raw (Value.tuple {toList:=[] }),.raw (Value.tuple {toList:=[] }),.int .i64 c] [some (.abs (.engine x) []),some (.cells [.func (Fn.func 41) [.ptr 0 0] []]),some (.cells [.int .i64 c])]
theorem IS(x:EGS)(n:Nat)(row:Nat→List AVal)(c:Int)(K:List AVal→aC Ob→Prop)(h:NG x n row c K):Ev (cR EU9 (mW EU9 LL 9) 16 MI ([.func (.func 41) [.ptr 0 0] [],.view n 2 row,.ptr 1 0,.raw undef,.int .i64 0,.ptr 2 0,.raw undef,.view n 2 row,.O]++List.replicate 7 (.raw undef)) [some (.abs (.engine x) []),some (.cells [.func (.func 41) [.ptr 0 0] []]),some (.cells [.int .i64 c])] K):=aJ (q:=NG x n row c K) (by kernel_rfl) h
theorem aGZ{X:Type}{K:X→Prop} : ∀ {t:Tr X},t.run K→t.ok
 | .ret x,k=>trivial
 | .ite b l r,k=>by cases b with
   | true=>exact aGZ (t:=l) k
   | false=>exact aGZ (t:=r) k
 | .pre p t,k=>⟨k.1,aGZ (t:=t) k.2⟩
theorem aGU{X:Type}{K:X→Prop} : ∀ {t:Tr X},t.run K→K t.val
 | .ret x,k=>k
 | .ite b l r,k=>by cases b with
   | true=>exact aGU (t:=l) k
   | false=>exact aGU (t:=r) k
 | .pre p t,k=>aGU (t:=t) k.2
theorem Tr.run_ite{X:Type}{K:X→Prop}{b:Bool}{l r:Tr X}(h1:b=true→l.run K)(h2:b=false→r.run K):(Tr.ite b l r).run K:=aL h1 h2
theorem aGL{X:Type}{K:X→Prop}{b:Bool}{l r:Tr X}(h1:b=true→l.run K)(h2:b=false→r.run K):(bif b then l else r).run K:=by
 cases b with
 | true=>exact h1 rfl
 | false=>exact h2 rfl
theorem aGM{X:Type}{K:X→Prop}{p:Prop}{t:Tr X}(h1:p)(h2:t.run K):(Tr.pre p t).run K:=⟨h1,h2⟩
theorem aGO{X:Type}{K:X→Prop}{x:X}(h:K x):(Tr.ret x).run K:=h
theorem nE'{P Q:Prop}(h:¬P:=by dsimp only;decide):P→Q:=fun e=>absurd e h
structure rngU (x:Int):Prop where
 h0:0≤x
 h1:x≤18446744073709551615
theorem CZ:rngU 0:=⟨by decide,by decide⟩
theorem FR(x:Int):rngU (WU x):=⟨(LD x).1,(LD x).2⟩
theorem PP{xs:List Int}(h:VP xs)(a:Int):rngU (aE xs a):=⟨(uU h a).1,(uU h a).2⟩
theorem yP{b:Bool}{x y:Int}(h1:b=true→rngU x)(h2:rngU y):rngU (bif b then x else y):=by
 cases b with
 | true=>exact h1 rfl
 | false=>exact h2
theorem lD{n w:Int}(h:aK n w=true):0≤n∧n<2^w.toNat:=by
 unfold aK at h;simp only [Bool.and_eq_true,cC,aV,dT']at h;exact h
theorem LT(b:Bool):0≤bitI b∧bitI b≤1:=by cases b<;>decide
theorem PO{a b c d e f:Int}{m:Bool} :rngU (bif dOk a b c d e f then cM a b c d m e f else 0):=by
 refine yP (fun h=>?_) CZ;unfold dOk at h;simp only [Bool.and_eq_true]at h;obtain⟨h1,h2,h3,h4,h5,h6⟩:=h;have h1:=lD h1;have h2:=lD h2;have h3:=lD h3;have h4:=lD h4;have h5:=lD h5;have h6:=lD h6;have hb:=LT m;simp only [Int.reduceToNat,Int.reducePow]at h1 h2 h3 h4 h5 h6;unfold cM;exact⟨by omega,by omega⟩
theorem WI{a b c v:Int}{m:Bool} :rngU (bif bif aK a 10 then bif aK b 9 then bif aK c 5 then aK v 18 else false else false else false then cN a b m c v else 0):=by
 refine yP (fun h=>?_) CZ;cases h1:aK a 10 with
 | false=>rw [h1]at h;cases h
 | true=>
   cases h2:aK b 9 with
   | false=>rw [h1,h2]at h;cases h
   | true=>
     cases h3:aK c 5 with
     | false=>rw [h1,h2,h3]at h;cases h
     | true=>
       rw [h1,h2,h3]at h;have h:=lD (show aK v 18=true from h)
       have h1:=lD h1;have h2:=lD h2;have h3:=lD h3;have hb:=LT m;simp only [Int.reduceToNat,Int.reducePow]at h h1 h2 h3;unfold cN;exact⟨by omega,by omega⟩
structure Act1 (s s':MS):Prop where
 c:s'.c=s.c+1
 len:s'.xs.length=s.xs.length
 w:VP s.xs→VP s'.xs
 t:s'.t=s.t
 n:s'.n=s.n
theorem zF(s:MS)(k a o w:Int)(ok:Bool):Act1 s ⟨s.t,s.n,s.xs,s.c+1,k,a,o,w,ok⟩:=⟨rfl,rfl,id,rfl,rfl⟩
theorem xN(s:MS)(b v k a o w:Int)(ok:Bool)(h:rngU v):Act1 s ⟨s.t,s.n,aY s.xs b v,s.c+1,k,a,o,w,ok⟩:=⟨rfl,kU _ _ _,fun hw=>VQ hw ⟨h.h0,h.h1⟩,rfl,rfl⟩
theorem F7(s:MS)(q:Bool)(b v k a o w:Int)(ok:Bool)(h:rngU v):Act1 s ⟨s.t,s.n,bif q then aY s.xs b v else s.xs,s.c+1,k,a,o,w,ok⟩:=by
 cases q with
 | true=>exact xN s b v k a o w ok h
 | false=>exact zF s k a o w ok
theorem SI(x a:Int)(w:Int):0≤aA x a w∧aA x a w<2^w.toNat:=SG
structure Bnd (t n:Int) (s:MS):Prop where
 ht:1≤t∧t≤1000
 hn:1≤n∧n≤1000
 hc:0≤s.c∧s.c≤900000
 hw:VP s.xs
theorem nO{P:Prop}(h:P:=by(with_reducible first | exact CZ | exact FR _ | exact PO | exact WI | assumption)):P:=h
theorem z7{P:Prop}(h:P:=by(simp only [aA,Int.reduceToNat,Int.reducePow];omega)):P:=h
theorem aZ{P:Prop}(h:P:=by(first
 | with_reducible exact trivial
 | with_reducible rfl
 | with_reducible assumption
 | with_reducible exact zF _ _ _ _ _ _
 | ((with_reducible refine xN _ _ _ _ _ _ _ _ ?_);exact nO)
 | ((with_reducible refine F7 _ _ _ _ _ _ _ _ _ ?_);exact nO)
 | omega
 | exact z7
 | decide)):P:=h
theorem vM{P:Prop}(h:P:=by first | exact nO | (exact PP (by assumption) _)):P:=h
theorem dI{P:Prop}(h:P:=by(dsimp only;first | omega | (constructor<;>omega) | exact z7)):P:=h
structure XL (t:Int) (x:CLS):Prop where
 h:x.at'=0∨x.at'=1∨x.at'=2∨x.at'=3
structure aC9 (t:Int) (s:MS) (o:ClO):Prop where
 a:Act1 s o.s
 w:o.d=false→XL t o.x
theorem XM{t n:Int}{x:CLS}{s:MS}(hb:Bnd t n s)(hx:XL t x):(clT t n x s).run (aC9 t s):=by
 obtain⟨⟨t0,t1⟩,⟨n0,n1⟩,⟨c0,c1⟩,hw⟩:=hb;obtain⟨h⟩:=hx;unfold clT;refine aGL (fun h0=>?_) (fun h0=>aGL (fun h1=>?_) (fun h1=>aGL (fun h2=>?_) (fun h2=>aGL (fun h3=>?_) (fun h3=>?_))))
 ·unfold zW
  (repeat' (with_reducible first | exact trivial | rfl | assumption | refine aGM ?_ ?_ | refine Tr.run_ite (fun _=>?_) (fun _=>?_) | refine aGO ?_ | refine And.intro ?_ ?_))
  all_goals first | exact aZ | (refine⟨by exact aZ,fun hd=>?_⟩;first | (exact Bool.noConfusion hd) | exact⟨by dsimp only;decide⟩)
 ·unfold zX w04 w05 w06
  (repeat' (with_reducible first | exact trivial | rfl | assumption | refine aGM ?_ ?_ | refine Tr.run_ite (fun _=>?_) (fun _=>?_) | refine aGO ?_ | refine And.intro ?_ ?_))
  all_goals first | exact aZ | (refine⟨by exact aZ,fun hd=>?_⟩;first | (exact Bool.noConfusion hd) | exact⟨by dsimp only;decide⟩)
 ·unfold zY w05 w06
  (repeat' (with_reducible first | exact trivial | rfl | assumption | refine aGM ?_ ?_ | refine Tr.run_ite (fun _=>?_) (fun _=>?_) | refine aGO ?_ | refine And.intro ?_ ?_))
  all_goals first | exact aZ | (refine⟨by exact aZ,fun hd=>?_⟩;first | (exact Bool.noConfusion hd) | exact⟨by dsimp only;decide⟩)
 ·unfold zZ w07
  (repeat' (with_reducible first | exact trivial | rfl | assumption | refine aGM ?_ ?_ | refine Tr.run_ite (fun _=>?_) (fun _=>?_) | refine aGO ?_ | refine And.intro ?_ ?_))
  all_goals first | exact aZ | (refine⟨by exact aZ,fun hd=>?_⟩;first | (exact Bool.noConfusion hd) | exact⟨by dsimp only;decide⟩)
 ·simp only [cX,beq_eq_false_iff_ne]at h0 h1 h2 h3;rcases h with e | e | e | e<;>contradiction
theorem D0{t n:Int}{x:CLS}{s:MS}(hb:Bnd t n s)(hx:XL t x):LX t n x s:=aGZ (XM hb hx)
theorem xU{t n:Int}{x:CLS}{s:MS}(hb:Bnd t n s)(hx:XL t x):aC9 t s (oP t n x s):=aGU (XM hb hx)
structure hdW (t:Int) (x:HDS):Prop where
 h:0≤x.at'∧x.at'≤1000
 u: -1≤x.u∧x.u≤1000
structure aD6 (t:Int) (s:MS) (o:HdO):Prop where
 a:Act1 s o.s
 w:o.d=false→hdW t o.x
 p: -1≤o.x.u∧o.x.u≤1000
theorem X1{t n:Int}{x:HDS}{s:MS}(hb:Bnd t n s)(hx:hdW t x):(hdT t n x s).run (aD6 t s):=by
 obtain⟨⟨t0,t1⟩,⟨n0,n1⟩,⟨c0,c1⟩,hw⟩:=hb;obtain⟨⟨h0,h1⟩,⟨u0,u1⟩⟩:=hx;have hW:W (x.at'+1)=x.at'+1:=dB ⟨by omega,by omega⟩
 unfold hdT;unfold UU w08 w09;rw [hW]
 (repeat' (with_reducible first | exact trivial | rfl | assumption | refine aGM ?_ ?_ | refine Tr.run_ite (fun _=>?_) (fun _=>?_) | refine aGO ?_ | refine And.intro ?_ ?_))
 all_goals first | exact aZ | (refine⟨by exact aZ,fun hd=>by first | (exact Bool.noConfusion hd) | (refine⟨?_,?_⟩<;>dsimp only at hd⊢ <;>first | omega | (simp only [cC,dF']at hd;omega)),?_⟩;exact dI)
theorem aBm{t n:Int}{x:HDS}{s:MS}(hb:Bnd t n s)(hx:hdW t x):aBj t n x s:=aGZ (X1 hb hx)
theorem aBn{t n:Int}{x:HDS}{s:MS}(hb:Bnd t n s)(hx:hdW t x):aD6 t s (pO t n x s):=aGU (X1 hb hx)
structure drW (t:Int) (x:DRS):Prop where
 h:0≤x.th∧x.th≤1000
 u:0≤x.at'∧x.at'≤2
structure aDh (t:Int) (s:MS) (o:DrO):Prop where
 a:Act1 s o.s
 w:o.d=false→drW t o.x
theorem XQ{t n:Int}{x:DRS}{s:MS}(hb:Bnd t n s)(hx:drW t x):(drT t n x s).run (aDh t s):=by
 obtain⟨⟨t0,t1⟩,⟨n0,n1⟩,⟨c0,c1⟩,hw⟩:=hb;obtain⟨⟨h0,h1⟩,⟨u0,u1⟩⟩:=hx;have hW:W (x.at'+1)=x.at'+1:=dB ⟨by omega,by omega⟩
 unfold drT;unfold S7;rw [hW]
 (repeat' (with_reducible first | exact trivial | rfl | assumption | refine aGM ?_ ?_ | refine Tr.run_ite (fun _=>?_) (fun _=>?_) | refine aGO ?_ | refine And.intro ?_ ?_))
 all_goals first | exact aZ | (refine⟨by exact aZ,fun hd=>?_⟩;first | (exact Bool.noConfusion hd) | (refine⟨?_,?_⟩<;>dsimp only at hd⊢ <;>first | omega | (simp only [cC,dF']at hd;omega)))
theorem aAh{t n:Int}{x:DRS}{s:MS}(hb:Bnd t n s)(hx:drW t x):aAe t n x s:=aGZ (XQ hb hx)
theorem aAi{t n:Int}{x:DRS}{s:MS}(hb:Bnd t n s)(hx:drW t x):aDh t s (QX t n x s):=aGU (XQ hb hx)
structure anW (t:Int) (x:ANS):Prop where
 h:x.at'=0∨x.at'=1∨x.at'=2∨x.at'=3∨x.at'=4
 m:0≤x.me∧x.me≤1000
 b:rngU x.bits
 q:rngU x.no
structure aC2 (t:Int) (s:MS) (o:AnO):Prop where
 a:Act1 s o.s
 w:o.d=false→anW t o.x
theorem XI{t n:Int}{x:ANS}{s:MS}(hb:Bnd t n s)(hx:anW t x):(anT t n x s).run (aC2 t s):=by
 obtain⟨⟨t0,t1⟩,⟨n0,n1⟩,⟨c0,c1⟩,hw⟩:=hb;obtain⟨h,⟨m0,m1⟩,b,q⟩:=hx;unfold anT;refine aGL (fun h0=>?_) (fun h0=>aGL (fun h1=>?_) (fun h1=>aGL (fun h2=>?_) (fun h2=>aGL (fun h3=>?_) (fun h3=>aGL (fun h4=>?_) (fun h4=>?_)))))
 ·unfold zJ w0a
  (repeat' (with_reducible first | exact trivial | rfl | assumption | refine aGM ?_ ?_ | refine Tr.run_ite (fun _=>?_) (fun _=>?_) | refine aGO ?_ | refine And.intro ?_ ?_))
  all_goals first | exact aZ | (refine⟨by exact aZ,fun hd=>?_⟩;first | (exact Bool.noConfusion hd) | exact⟨by dsimp only;decide,⟨m0,m1⟩,by assumption,by exact vM⟩)
 ·unfold zK
  (repeat' (with_reducible first | exact trivial | rfl | assumption | refine aGM ?_ ?_ | refine Tr.run_ite (fun _=>?_) (fun _=>?_) | refine aGO ?_ | refine And.intro ?_ ?_))
  all_goals first | exact aZ | (refine⟨by exact aZ,fun hd=>?_⟩;first | (exact Bool.noConfusion hd) | exact⟨by dsimp only;decide,⟨m0,m1⟩,by assumption,by exact vM⟩)
 ·unfold zL w0a
  (repeat' (with_reducible first | exact trivial | rfl | assumption | refine aGM ?_ ?_ | refine Tr.run_ite (fun _=>?_) (fun _=>?_) | refine aGO ?_ | refine And.intro ?_ ?_))
  all_goals first | exact aZ | (refine⟨by exact aZ,fun hd=>?_⟩;first | (exact Bool.noConfusion hd) | exact⟨by dsimp only;decide,⟨m0,m1⟩,by assumption,by exact vM⟩)
 ·unfold zM w0a
  (repeat' (with_reducible first | exact trivial | rfl | assumption | refine aGM ?_ ?_ | refine Tr.run_ite (fun _=>?_) (fun _=>?_) | refine aGO ?_ | refine And.intro ?_ ?_))
  all_goals first | exact aZ | (refine⟨by exact aZ,fun hd=>?_⟩;first | (exact Bool.noConfusion hd) | exact⟨by dsimp only;decide,⟨m0,m1⟩,by assumption,by exact vM⟩)
 ·unfold zN w0b w0a
  (repeat' (with_reducible first | exact trivial | rfl | assumption | refine aGM ?_ ?_ | refine Tr.run_ite (fun _=>?_) (fun _=>?_) | refine aGO ?_ | refine And.intro ?_ ?_))
  all_goals first | exact aZ | (refine⟨by exact aZ,fun hd=>?_⟩;first | (exact Bool.noConfusion hd) | exact⟨by dsimp only;decide,⟨m0,m1⟩,by assumption,by exact vM⟩)
 ·simp only [cX,beq_eq_false_iff_ne]at h0 h1 h2 h3 h4;rcases h with e | e | e | e | e<;>contradiction
theorem Y4{t n:Int}{x:ANS}{s:MS}(hb:Bnd t n s)(hx:anW t x):Y2 t n x s:=aGZ (XI hb hx)
theorem Y5{t n:Int}{x:ANS}{s:MS}(hb:Bnd t n s)(hx:anW t x):aC2 t s (DS t n x s):=aGU (XI hb hx)
structure awW (t:Int) (x:AWS):Prop where
 m:0≤x.me∧x.me≤1000
structure aC5 (t:Int) (s:MS) (o:AwO):Prop where
 a:Act1 s o.s
 w:o.d=false→awW t o.x
theorem XK{t n:Int}{x:AWS}{s:MS}(hb:Bnd t n s)(hx:awW t x):(awT t n x s).run (aC5 t s):=by
 obtain⟨⟨t0,t1⟩,⟨n0,n1⟩,⟨c0,c1⟩,hw⟩:=hb;obtain⟨⟨m0,m1⟩⟩:=hx;unfold awT;unfold RU w0c
 (repeat' (with_reducible first | exact trivial | rfl | assumption | refine aGM ?_ ?_ | refine Tr.run_ite (fun _=>?_) (fun _=>?_) | refine aGO ?_ | refine And.intro ?_ ?_))
 all_goals first | exact aZ | (refine⟨by exact aZ,fun hd=>?_⟩;first | (exact Bool.noConfusion hd) | exact⟨⟨m0,m1⟩⟩)
theorem ZD{t n:Int}{x:AWS}{s:MS}(hb:Bnd t n s)(hx:awW t x):ZA t n x s:=aGZ (XK hb hx)
theorem ZE{t n:Int}{x:AWS}{s:MS}(hb:Bnd t n s)(hx:awW t x):aC5 t s (sH t n x s):=aGU (XK hb hx)
structure exW (t:Int) (x:EXS):Prop where
 h:x.at'=0∨x.at'=1∨x.at'=2∨x.at'=3∨x.at'=4∨x.at'=5∨x.at'=6∨x.at'=7∨x.at'=8∨x.at'=9
 m:0≤x.u∧x.u≤1000
 po:0≤x.popped∧x.popped≤1000
structure aDF (t:Int) (s:MS) (o:ExO):Prop where
 a:Act1 s o.s
 w:o.d=false→exW t o.x
 p:0≤o.x.popped∧o.x.popped≤1000
theorem XU{t n:Int}{x:EXS}{s:MS}(hb:Bnd t n s)(hx:exW t x):(exT t n x s).run (aDF t s):=by
 obtain⟨⟨t0,t1⟩,⟨n0,n1⟩,⟨c0,c1⟩,hw⟩:=hb;obtain⟨h,⟨m0,m1⟩,⟨p0,p1⟩⟩:=hx;unfold exT;refine aGL (fun h0=>?_) (fun h0=>aGL (fun h1=>?_) (fun h1=>aGL (fun h2=>?_) (fun h2=>aGL (fun h3=>?_) (fun h3=>aGL (fun h4=>?_) (fun h4=>aGL (fun h5=>?_) (fun h5=>aGL (fun h6=>?_) (fun h6=>aGL (fun h7=>?_) (fun h7=>aGL (fun h8=>?_) (fun h8=>aGL (fun h9=>?_) (fun h9=>?_))))))))))
 ·unfold AV w0n w0m w0l w0s w0i w0g
  (repeat' (with_reducible first | exact trivial | rfl | assumption | refine aGM ?_ ?_ | refine Tr.run_ite (fun _=>?_) (fun _=>?_) | refine aGO ?_ | refine And.intro ?_ ?_))
  all_goals first | exact aZ | (refine⟨by exact aZ,fun hd=>by first | (exact Bool.noConfusion hd) | exact⟨by dsimp only;decide,⟨m0,m1⟩,by exact dI⟩,?_⟩;exact dI)
 ·unfold AW w0f w0o w0r w0j
  (repeat' (with_reducible first | exact trivial | rfl | assumption | refine aGM ?_ ?_ | refine Tr.run_ite (fun _=>?_) (fun _=>?_) | refine aGO ?_ | refine And.intro ?_ ?_))
  all_goals first | exact aZ | (refine⟨by exact aZ,fun hd=>by first | (exact Bool.noConfusion hd) | exact⟨by dsimp only;decide,⟨m0,m1⟩,by exact dI⟩,?_⟩;exact dI)
 ·unfold AX w0e w0k
  (repeat' (with_reducible first | exact trivial | rfl | assumption | refine aGM ?_ ?_ | refine Tr.run_ite (fun _=>?_) (fun _=>?_) | refine aGO ?_ | refine And.intro ?_ ?_))
  all_goals first | exact aZ | (refine⟨by exact aZ,fun hd=>by first | (exact Bool.noConfusion hd) | exact⟨by dsimp only;decide,⟨m0,m1⟩,by exact dI⟩,?_⟩;exact dI)
 ·unfold AY w0k w0g
  (repeat' (with_reducible first | exact trivial | rfl | assumption | refine aGM ?_ ?_ | refine Tr.run_ite (fun _=>?_) (fun _=>?_) | refine aGO ?_ | refine And.intro ?_ ?_))
  all_goals first | exact aZ | (refine⟨by exact aZ,fun hd=>by first | (exact Bool.noConfusion hd) | exact⟨by dsimp only;decide,⟨m0,m1⟩,by exact dI⟩,?_⟩;exact dI)
 ·unfold AZ w0k w0g
  (repeat' (with_reducible first | exact trivial | rfl | assumption | refine aGM ?_ ?_ | refine Tr.run_ite (fun _=>?_) (fun _=>?_) | refine aGO ?_ | refine And.intro ?_ ?_))
  all_goals first | exact aZ | (refine⟨by exact aZ,fun hd=>by first | (exact Bool.noConfusion hd) | exact⟨by dsimp only;decide,⟨m0,m1⟩,by exact dI⟩,?_⟩;exact dI)
 ·unfold A0 w0p w0r w0d w0j
  (repeat' (with_reducible first | exact trivial | rfl | assumption | refine aGM ?_ ?_ | refine Tr.run_ite (fun _=>?_) (fun _=>?_) | refine aGO ?_ | refine And.intro ?_ ?_))
  all_goals first | exact aZ | (refine⟨by exact aZ,fun hd=>by first | (exact Bool.noConfusion hd) | exact⟨by dsimp only;decide,⟨m0,m1⟩,by exact dI⟩,?_⟩;exact dI)
 ·unfold A1 w0t
  (repeat' (with_reducible first | exact trivial | rfl | assumption | refine aGM ?_ ?_ | refine Tr.run_ite (fun _=>?_) (fun _=>?_) | refine aGO ?_ | refine And.intro ?_ ?_))
  all_goals first | exact aZ | (refine⟨by exact aZ,fun hd=>by first | (exact Bool.noConfusion hd) | exact⟨by dsimp only;decide,⟨m0,m1⟩,by exact dI⟩,?_⟩;exact dI)
 ·unfold A2 w0g
  (repeat' (with_reducible first | exact trivial | rfl | assumption | refine aGM ?_ ?_ | refine Tr.run_ite (fun _=>?_) (fun _=>?_) | refine aGO ?_ | refine And.intro ?_ ?_))
  all_goals first | exact aZ | (refine⟨by exact aZ,fun hd=>by first | (exact Bool.noConfusion hd) | exact⟨by dsimp only;decide,⟨m0,m1⟩,by exact dI⟩,?_⟩;exact dI)
 ·unfold A3 w0h w0q w0g
  (repeat' (with_reducible first | exact trivial | rfl | assumption | refine aGM ?_ ?_ | refine Tr.run_ite (fun _=>?_) (fun _=>?_) | refine aGO ?_ | refine And.intro ?_ ?_))
  all_goals first | exact aZ | (refine⟨by exact aZ,fun hd=>by first | (exact Bool.noConfusion hd) | exact⟨by dsimp only;decide,⟨m0,m1⟩,by exact dI⟩,?_⟩;exact dI)
 ·unfold A4 w0u
  (repeat' (with_reducible first | exact trivial | rfl | assumption | refine aGM ?_ ?_ | refine Tr.run_ite (fun _=>?_) (fun _=>?_) | refine aGO ?_ | refine And.intro ?_ ?_))
  all_goals first | exact aZ | (refine⟨by exact aZ,fun hd=>by first | (exact Bool.noConfusion hd) | exact⟨by dsimp only;decide,⟨m0,m1⟩,by exact dI⟩,?_⟩;exact dI)
 ·simp only [cX,beq_eq_false_iff_ne]at h0 h1 h2 h3 h4 h5 h6 h7 h8 h9;rcases h with e | e | e | e | e | e | e | e | e | e<;>contradiction
theorem aAI{t n:Int}{x:EXS}{s:MS}(hb:Bnd t n s)(hx:exW t x):aAG t n x s:=aGZ (XU hb hx)
theorem aAJ{t n:Int}{x:EXS}{s:MS}(hb:Bnd t n s)(hx:exW t x):aDF t s (AU t n x s):=aGU (XU hb hx)
structure YD (t:Int) (x:PRS):Prop where
 h:True
structure aEy (t:Int) (s:MS) (st:STS) (o:PrO):Prop where
 a:Act1 s o.s
 w:o.d=false→YD t o.x
 st:o.st=st
theorem YE{t n:Int}{x:PRS}{st:STS}{s:MS}(hb:Bnd t n s)(hx:YD t x):(prT t n x st s).run (aEy t s st):=by
 obtain⟨⟨t0,t1⟩,⟨n0,n1⟩,⟨c0,c1⟩,hw⟩:=hb;obtain⟨h⟩:=hx;unfold prT;unfold WA w0v
 (repeat' (with_reducible first | exact trivial | rfl | assumption | refine aGM ?_ ?_ | refine Tr.run_ite (fun _=>?_) (fun _=>?_) | refine aGO ?_ | refine And.intro ?_ ?_))
 all_goals first | exact aZ | (refine⟨by exact aZ,fun hd=>?_,rfl⟩;first | (exact Bool.noConfusion hd) | exact⟨trivial⟩)
theorem PE{t n:Int}{x:PRS}{st:STS}{s:MS}(hb:Bnd t n s)(hx:YD t x):PA t n x st s:=aGZ (YE hb hx)
theorem PF{t n:Int}{x:PRS}{st:STS}{s:MS}(hb:Bnd t n s)(hx:YD t x):aEy t s st (prF t n x st s):=aGU (YE hb hx)
theorem fV{a b:Int}(h:ieq a b=true):a=b:=by simpa [cX]using h
theorem eL{a b:Int}(h:ieq a b=false):a≠b:=by simpa [cX]using h
def eA(l:List Int):Prop:= ∀r∈l,0≤r∧r≤1000
theorem rU:eA []:=fun r h=>nomatch h
theorem vD{l:List Int}{a:Int}(h:eA l)(ha:0≤a∧a≤1000):eA (l++ [a]):=by
 intro r hr;rcases List.mem_append.1 hr with h1 | h1
 ·exact h r h1
 ·rw [List.mem_singleton.1 h1];exact ha
theorem KP{l m:List Int}(h:eA l)(hm:eA m):eA (l++m):=by
 intro r hr;rcases List.mem_append.1 hr with h1 | h1
 ·exact h r h1
 ·exact hm r h1
theorem jD(t n a:Int):pT t n a:=⟨⟨rfl,rfl⟩,trivial⟩
theorem DZ(t n a:Int):XL t (xS t n a):=⟨.inl rfl⟩
theorem aFg(x a:Int):0≤aA x a 9∧aA x a 9≤1000:=by
 have:=SI x a 9;simp only [Int.reduceToNat,Int.reducePow]at this;omega
structure K7 (b:Int) (x:FNS):Prop where
 m:0≤x.me∧x.me≤1000
 cu:0≤x.curr∧x.curr≤1000
 ul:eA x.ul
 ln:(x.ul.length:Int)≤b
structure TX (t:Int) (x:FNS):Prop where
 h:x.at'=0∨x.at'=1∨x.at'=2∨x.at'=3∨x.at'=4∨x.at'=5∨x.at'=6
 cl:x.at'=4→XL t x.cl
structure aDI (t b:Int) (s:MS) (o:FnO):Prop where
 a:Act1 s o.s
 q:K7 (b+1) o.x
 w:o.d=false→TX t o.x
theorem pF{P:Prop}(h:P:=by(refine⟨?_,⟨?_,?_,?_,?_⟩,fun hd=>?_⟩<;>first
 | exact aZ
 | (exact(xU (by assumption) (by assumption)).a)
 | (constructor<;>assumption)
 | exact aFg _ _
 | (exact vD (by assumption) ⟨by assumption,by assumption⟩)
 | exact rU
 | (dsimp only;simp only [List.length_append,List.length_singleton,List.length_nil];omega)
 | exact Bool.noConfusion hd
 | exact⟨by dsimp only;decide,fun e=>absurd e (by dsimp only;decide)⟩
 | exact⟨by dsimp only;decide,fun e=>(xU (by assumption) (by assumption)).w (by assumption)⟩
 | exact⟨by dsimp only;decide,fun e=>by dsimp only;with_reducible exact DZ _ _ _⟩)):P:=h
theorem XV{t n b:Int}{x:FNS}{s:MS}(hb:Bnd t n s)(hx:TX t x)(hq:K7 b x)(hbb:b≤900000):(fnT t n x s).run (aDI t b s):=by
 have hb':=hb;obtain⟨⟨t0,t1⟩,⟨n0,n1⟩,⟨c0,c1⟩,hw⟩:=hb;obtain⟨h,hcl⟩:=hx;obtain⟨⟨m0,m1⟩,⟨q0,q1⟩,hul,hln⟩:=hq;have b0:0≤b:=by omega
 unfold fnT;refine aGL (fun h0=>?_) (fun h0=>aGL (fun h1=>?_) (fun h1=>aGL (fun h2=>?_) (fun h2=>aGL (fun h3=>?_) (fun h3=>aGL (fun h4=>?_) (fun h4=>aGL (fun h5=>?_) (fun h5=>aGL (fun h6=>?_) (fun h6=>?_)))))))
 ·unfold A9 w11 w16 w0z w13 w15 w14 w1f
  (repeat' (with_reducible first | exact trivial | rfl | assumption | refine aGM ?_ ?_ | refine Tr.run_ite (fun _=>?_) (fun _=>?_) | refine aGO ?_ | refine And.intro ?_ ?_))
  all_goals first | exact aZ | exact jD _ _ _ | (simp only [List.length_append,List.length_singleton];done) | exact pF
 ·unfold BA
  (repeat' (with_reducible first | exact trivial | rfl | assumption | refine aGM ?_ ?_ | refine Tr.run_ite (fun _=>?_) (fun _=>?_) | refine aGO ?_ | refine And.intro ?_ ?_))
  all_goals first | exact aZ | exact jD _ _ _ | (simp only [List.length_append,List.length_singleton];done) | exact pF
 ·unfold BB w11 w16 w0z w13 w15 w1f w14
  (repeat' (with_reducible first | exact trivial | rfl | assumption | refine aGM ?_ ?_ | refine Tr.run_ite (fun _=>?_) (fun _=>?_) | refine aGO ?_ | refine And.intro ?_ ?_))
  all_goals first | exact aZ | exact jD _ _ _ | (simp only [List.length_append,List.length_singleton];done) | exact pF
 ·unfold BC w1b w1d w1c w1a
  (repeat' (with_reducible first | exact trivial | rfl | assumption | refine aGM ?_ ?_ | refine Tr.run_ite (fun _=>?_) (fun _=>?_) | refine aGO ?_ | refine And.intro ?_ ?_))
  all_goals first | exact aZ | exact jD _ _ _ | (simp only [List.length_append,List.length_singleton];done) | exact pF
 ·unfold BD w19 w14;have hcl4:=hcl (fV h4);have hclo:=D0 hb' hcl4
  (repeat' (with_reducible first | exact trivial | rfl | assumption | refine aGM ?_ ?_ | refine Tr.run_ite (fun _=>?_) (fun _=>?_) | refine aGO ?_ | refine And.intro ?_ ?_))
  all_goals first | exact aZ | exact jD _ _ _ | (simp only [List.length_append,List.length_singleton];done) | exact pF
 ·unfold BE w0x w0w w19 w14
  (repeat' (with_reducible first | exact trivial | rfl | assumption | refine aGM ?_ ?_ | refine Tr.run_ite (fun _=>?_) (fun _=>?_) | refine aGO ?_ | refine And.intro ?_ ?_))
  all_goals first | exact aZ | exact jD _ _ _ | (simp only [List.length_append,List.length_singleton];done) | exact pF
 ·unfold BF w14 w1g
  (repeat' (with_reducible first | exact trivial | rfl | assumption | refine aGM ?_ ?_ | refine Tr.run_ite (fun _=>?_) (fun _=>?_) | refine aGO ?_ | refine And.intro ?_ ?_))
  all_goals first | exact aZ | exact jD _ _ _ | (simp only [List.length_append,List.length_singleton];done) | exact pF
 ·simp only [cX,beq_eq_false_iff_ne]at h0 h1 h2 h3 h4 h5 h6;rcases h with e | e | e | e | e | e | e<;>contradiction
theorem EG{t n b:Int}{x:FNS}{s:MS}(hb:Bnd t n s)(hx:TX t x)(hq:K7 b x)(hbb:b≤900000):I5 t n x s:=aGZ (XV hb hx hq hbb)
theorem EJ{t n b:Int}{x:FNS}{s:MS}(hb:Bnd t n s)(hx:TX t x)(hq:K7 b x)(hbb:b≤900000):aDI t b s (aN t n x s):=aGU (XV hb hx hq hbb)
theorem dP(sh ky:Int):0≤fG sh ky∧fG sh ky≤3:=by
 unfold fG;cases ieq sh 2 with
 | true=>exact⟨Int.emod_nonneg _ (by decide),by have:=Int.emod_lt_of_pos ky (b:=4) (by decide);show ky%4≤3;omega⟩
 | false=>exact⟨Int.le_refl 0,(by decide:(0:Int)≤3)⟩
theorem EE{t n me hd key lim:Int}(hn:1≤n∧n≤1000)(hm:0≤me∧me≤1000)(hh:0≤hd∧hd≤3):(NL t n me hd key lim).run (fun x=>TX t x∧K7 0 x):=by
 obtain⟨n0,n1⟩:=hn;obtain⟨m0,m1⟩:=hm;obtain⟨e0,e1⟩:=hh;unfold NL w1h
 (repeat' (with_reducible first | exact trivial | rfl | assumption | refine aGM ?_ ?_ | refine Tr.run_ite (fun _=>?_) (fun _=>?_) | refine aGO ?_ | refine And.intro ?_ ?_))
 all_goals first | exact aZ | exact⟨by dsimp only;decide,fun e=>absurd e (by dsimp only;decide)⟩ | exact⟨⟨m0,m1⟩,⟨(by decide:(0:Int)≤0),(by decide:(0:Int)≤1000)⟩,rU,(by decide:((0:Nat):Int)≤0)⟩
theorem HH(sh kd ky pred pw cw sp:Int){curr:Int}(hc:0≤curr∧curr≤1000):(CR sh kd ky pred pw curr cw sp).run (fun p=>0≤p.pops∧p.pops≤1000):=by
 obtain⟨c0,c1⟩:=hc;unfold CR w00 w02 w01 w03
 (repeat' (with_reducible first | exact trivial | rfl | assumption | refine aGM ?_ ?_ | refine Tr.run_ite (fun _=>?_) (fun _=>?_) | refine aGO ?_ | refine And.intro ?_ ?_))
 all_goals first | exact aZ | (dsimp only;first | assumption | decide)
theorem CT(sh kd ky pred pw cw sp:Int){curr:Int}(hc:0≤curr∧curr≤1000):u6 sh kd ky pred pw curr cw sp:=aGZ (HH sh kd ky pred pw cw sp hc)
theorem w7(sh kd ky pred pw cw sp:Int){curr:Int}(hc:0≤curr∧curr≤1000):0≤(bL sh kd ky pred pw curr cw sp).pops ∧(bL sh kd ky pred pw curr cw sp).pops ≤1000:=aGU (HH sh kd ky pred pw cw sp hc)
theorem CS(a b c d e f g h i):(u7 a b c d e f g h i).run rngU:=by
 unfold u7
 (repeat' (with_reducible first | exact trivial | rfl | assumption | refine aGM ?_ ?_ | refine Tr.run_ite (fun _=>?_) (fun _=>?_) | refine aGO ?_ | refine And.intro ?_ ?_))
 all_goals first | exact aZ | exact nO
theorem KC(a b c d e f g h i):yK a b c d e f g h i:=aGZ (CS a b c d e f g h i)
theorem KB(a b c d e f g h i):rngU (dK a b c d e f g h i):=aGU (CS a b c d e f g h i)
theorem CQ(a b c d e f g h i j):(u5 a b c d e f g h i j).run (fun r=>rngU r.1):=by
 unfold u5
 (repeat' (with_reducible first | exact trivial | rfl | assumption | refine aGM ?_ ?_ | refine Tr.run_ite (fun _=>?_) (fun _=>?_) | refine aGO ?_ | refine And.intro ?_ ?_))
 all_goals first | exact aZ | exact nO
theorem J9(a b c d e f g h i j):yJ a b c d e f g h i j:=aGZ (CQ a b c d e f g h i j)
theorem J8(a b c d e f g h i j):rngU (gK a b c d e f g h i j).1:=aGU (CQ a b c d e f g h i j)
theorem CP(a b c d e f g h i):(uZ a b c d e f g h i).run (fun _=>True):=by
 unfold uZ
 (repeat' (with_reducible first | exact trivial | rfl | assumption | refine aGM ?_ ?_ | refine Tr.run_ite (fun _=>?_) (fun _=>?_) | refine aGO ?_ | refine And.intro ?_ ?_))
 all_goals exact aZ
theorem w6(p:PLN):oG p.1 p.2 p.3 p.4 p.5 p.6 p.7 p.8 p.9:=aGZ (CP _ _ _ _ _ _ _ _ _)
theorem u4(a b c d e f g h i):oG a b c d e f g h i:=aGZ (CP _ _ _ _ _ _ _ _ _)
theorem eS{b c:Int}{x:FNS}(h:K7 b x)(hbc:b≤c):K7 c x:=⟨h.m,h.cu,h.ul,Int.le_trans h.ln hbc⟩
theorem qC{t n me hd key lim:Int}(hn:1≤n∧n≤1000)(hm:0≤me∧me≤1000)(hh:0≤hd∧hd≤3):oQ t n me hd key lim:=aGZ (EE hn hm hh)
theorem A8{t n me hd key lim:Int}(hn:1≤n∧n≤1000)(hm:0≤me∧me≤1000)(hh:0≤hd∧hd≤3):TX t (uL t n me hd key lim):=by
 have h:=aGU (EE (t:=t) (key:=key) (lim:=lim) hn hm hh);exact h.1
theorem A7{t n me hd key lim:Int}(hn:1≤n∧n≤1000)(hm:0≤me∧me≤1000)(hh:0≤hd∧hd≤3):K7 0 (uL t n me hd key lim):=by
 have h:=aGU (EE (t:=t) (key:=key) (lim:=lim) hn hm hh);exact h.2
theorem O9(t n key nx:Int)(st:STS):(VZ t n key nx st).run (fun r=>r.2=st):=⟨⟨rfl,rfl,rfl⟩,rfl⟩
theorem HI(t n key nx:Int)(st:STS):CU t n key nx st:=aGZ (O9 t n key nx st)
theorem O8(t n key nx:Int)(st:STS):(qN t n key nx st).2=st:=aGU (O9 t n key nx st)
structure stW (b:Int) (st:STS):Prop where
 m:0≤st.me∧st.me≤1000
 r:eA st.R
 ln:(st.R.length:Int)≤b
theorem iO{b c:Int}{st:STS}(h:stW b st)(hbc:b≤c):stW c st:=⟨h.m,h.r,Int.le_trans h.ln hbc⟩
theorem yR{b:Int}{st:STS}{k:Int}{x:FNS}(h:stW b st)(hq:K7 (b - st.R.length+1) x):stW (b+1) {me:=st.me,sp:=k,R:=st.R++x.ul} :=
 ⟨h.m,KP h.r hq.ul,by have:=hq.ln;simp only [List.length_append];omega⟩
theorem vE{b:Int}{st:STS}{k a:Int}(h:stW b st)(ha:0≤a∧a≤1000):stW (b+1) {me:=st.me,sp:=k,R:=st.R++ [a] } :=
 ⟨h.m,vD h.r ha,by have:=h.ln;simp only [List.length_append,List.length_singleton];omega⟩
theorem PY{b:Int}{st:STS}(h:stW b st)(k:Int):stW (b+1) {me:=st.me,sp:=k,R:=st.R} :=⟨h.m,h.r,by have:=h.ln;show(st.R.length:Int)≤_;omega⟩
structure T9 (t b:Int) (st:STS) (x:FTS):Prop where
 h:x.at'=0∨x.at'=1∨x.at'=2∨x.at'=3
 fn:x.at'=0→TX t x.fn∧K7 (b - st.R.length) x.fn
 cl:x.at'=1→XL t x.cl
 ps:0≤x.p.pops∧x.p.pops≤1000
structure aDL (t b:Int) (s:MS) (o:FtO):Prop where
 a:Act1 s o.s
 st:stW (b+1) o.st
 w:o.d=false→T9 t (b+1) o.st o.x
theorem XX{t n b:Int}{x:FTS}{st:STS}{s:MS}(hb:Bnd t n s)(hx:T9 t b st x)(hst:stW b st)(hbb:b≤900000):(ftT t n x st s).run (aDL t b s):=by
 have hb':=hb;obtain⟨ht,hn,⟨c0,c1⟩,hw⟩:=hb;obtain⟨n0,n1⟩:=hn;obtain⟨t0,t1⟩:=ht;obtain⟨h,hfn,hcl,hps⟩:=hx;have hR0:=hst.ln;have hst1:stW (b+1) st:=iO hst (by omega)
 have hnn:1≤n∧n≤1000:=⟨n0,n1⟩;have b0:0≤b:=by omega
 unfold ftT;refine aGL (fun h0=>?_) (fun h0=>aGL (fun h1=>?_) (fun h1=>aGL (fun h2=>?_) (fun h2=>aGL (fun h3=>?_) (fun h3=>?_))))
 ·obtain⟨hfw,hfq⟩:=hfn (fV h0);have hF:=EJ hb' hfw hfq (by omega)
  have hFo:=EG hb' hfw hfq (by omega)
  have hA:=hF.a;have hQ:=hF.q;have hQl:=hQ.ln;have hS:stW (b+1) {me:=st.me,sp:=st.sp,R:=st.R++(aN t n x.fn s).x.ul } :=yR hst hQ;have hcu:=hQ.cu;unfold BH w1i w1q w1k w1o
  (repeat' (with_reducible first | exact trivial | rfl | assumption | refine aGM ?_ ?_ | refine Tr.run_ite (fun _=>?_) (fun _=>?_) | refine aGO ?_ | refine And.intro ?_ ?_))
  all_goals first
   | exact aZ
   | exact CT _ _ _ _ _ _ _ hcu
   | exact w6 _
   | exact u4 _ _ _ _ _ _ _ _ _
   | exact jD _ _ _
   | exact HI _ _ _ _ _
   | (simp only [List.length_append];done)
   | (refine⟨by first | assumption | exact aZ,?_,fun hd=>?_⟩
      ·first
        | assumption
        | (dsimp only;rw [O8];assumption)
      ·first
        | exact Bool.noConfusion hd
        | (refine⟨by dsimp only;decide,?_,?_,?_⟩
           ·first | (exact nE') | (intro _;exact⟨hF.w (by assumption),eS hQ (by dsimp only;omega)⟩)
           ·first | (exact nE') | (intro _;dsimp only;with_reducible exact DZ _ _ _)
           ·first | exact hps | exact w7 _ _ _ _ _ _ _ hcu))
 ·have hc:=hcl (fV h1);have hC:=xU hb' hc;have hCo:=D0 hb' hc;have hA:=hC.a;unfold BI
  (repeat' (with_reducible first | exact trivial | rfl | assumption | refine aGM ?_ ?_ | refine Tr.run_ite (fun _=>?_) (fun _=>?_) | refine aGO ?_ | refine And.intro ?_ ?_))
  all_goals first
   | exact aZ
   | exact qC hnn hst.m (dP _ _)
   | (refine⟨by assumption,by assumption,fun hd=>?_⟩
      first
       | exact Bool.noConfusion hd
       | (refine⟨by dsimp only;decide,?_,?_,hps⟩
          ·first | (exact nE') | (intro _;exact⟨A8 (t:=t) (n:=n) hnn hst.m (dP _ _),eS (A7 (t:=t) (n:=n) hnn hst.m (dP _ _)) (by dsimp only;omega)⟩)
          ·first | (exact nE') | (intro _;exact hC.w (by assumption))))
 ·have hP:=PF (st:=st) hb' (show YD t x.pr from⟨trivial⟩)
  have hPo:=PE (st:=st) hb' (show YD t x.pr from⟨trivial⟩)
  have hA:=hP.a;have hPs:stW (b+1) (prF t n x.pr st s).st :=by rw [hP.st];exact hst1
  unfold BJ
  (repeat' (with_reducible first | exact trivial | rfl | assumption | refine aGM ?_ ?_ | refine Tr.run_ite (fun _=>?_) (fun _=>?_) | refine aGO ?_ | refine And.intro ?_ ?_))
  all_goals first
   | exact aZ
   | (refine⟨by assumption,by assumption,fun hd=>?_⟩
      first
       | exact Bool.noConfusion hd
       | exact⟨by dsimp only;decide,fun e=>absurd e (by dsimp only;decide),fun e=>absurd e (by dsimp only;decide),hps⟩)
 ·have hW:=KB (FTS.p x).1 (FTS.p x).2 (FTS.p x).3 (FTS.p x).4 (FTS.p x).5 (FTS.p x).6 (FTS.p x).7 (FTS.p x).8 (FTS.p x).9;have hWo:=KC (FTS.p x).1 (FTS.p x).2 (FTS.p x).3 (FTS.p x).4 (FTS.p x).5 (FTS.p x).6 (FTS.p x).7 (FTS.p x).8 (FTS.p x).9;have hS1:stW (b+1) {me:=st.me,sp:=0,R:=st.R++ [(FTS.p x).9] } :=vE hst hps;have hS2:stW (b+1) {me:=st.me,sp:=st.sp,R:=st.R++ [(FTS.p x).9] } :=vE hst hps;have hS3:stW (b+1) {me:=st.me,sp:=0,R:=st.R} :=PY hst 0;unfold BK w1j
  (repeat' (with_reducible first | exact trivial | rfl | assumption | refine aGM ?_ ?_ | refine Tr.run_ite (fun _=>?_) (fun _=>?_) | refine aGO ?_ | refine And.intro ?_ ?_))
  all_goals first
   | exact aZ
   | exact qC hnn hst.m (dP _ _)
   | (simp only [List.length_append,List.length_singleton];done)
   | (refine⟨by exact aZ,by assumption,fun hd=>?_⟩
      first
       | exact Bool.noConfusion hd
       | (refine⟨by dsimp only;decide,?_,?_,hps⟩
          ·first | (exact nE') | (intro _;exact⟨A8 (t:=t) (n:=n) hnn hst.m (dP _ _),eS (A7 (t:=t) (n:=n) hnn hst.m (dP _ _)) (by dsimp only;omega)⟩)
          · (exact nE')))
 ·simp only [cX,beq_eq_false_iff_ne]at h0 h1 h2 h3;rcases h with e | e | e | e<;>contradiction
theorem aAY{t n b:Int}{x:FTS}{st:STS}{s:MS}(hb:Bnd t n s)(hx:T9 t b st x)(hst:stW b st)(hbb:b≤900000):T4 t n x st s:=aGZ (XX hb hx hst hbb)
theorem aAZ{t n b:Int}{x:FTS}{st:STS}{s:MS}(hb:Bnd t n s)(hx:T9 t b st x)(hst:stW b st)(hbb:b≤900000):aDL t b s (iB t n x st s):=aGU (XX hb hx hst hbb)
theorem EK{t n b sh kd ky most:Int}{st:STS}(hn:1≤n∧n≤1000)(hst:stW b st):(NM t n sh kd ky most st).run (fun r=>T9 t b st r.1∧r.2=st):=by
 have hR0:=hst.ln;unfold NM
 (repeat' (with_reducible first | exact trivial | rfl | assumption | refine aGM ?_ ?_ | refine Tr.run_ite (fun _=>?_) (fun _=>?_) | refine aGO ?_ | refine And.intro ?_ ?_))
 all_goals first
  | exact aZ
  | exact qC hn hst.m (dP _ _)
  | exact⟨by dsimp only;decide,fun _=>⟨A8 (t:=t) (n:=n) hn hst.m (dP _ _),eS (A7 (t:=t) (n:=n) hn hst.m (dP _ _)) (by omega)⟩,fun e=>absurd e (by dsimp only;decide),⟨(by decide:(0:Int)≤0),(by decide:(0:Int)≤1000)⟩⟩
theorem eN(s:MS)(a:Int):Act1 s (s.loadd a):=⟨rfl,rfl,id,rfl,rfl⟩
theorem wC(s:MS)(a o x:Int):Act1 s (s.cased a o (WU x)):=F7 s _ _ _ _ _ _ _ _ (FR x)
theorem nX(s:MS)(a x:Int):Act1 s (s.added a x):=xN s _ _ _ _ _ _ _ (FR _)
theorem mE{m:List (Int×Int)}{l:List Int}(h:eA l):eA (cJ m l):=fun r hr=>h r (List.mem_filter.1 hr).1
theorem sY{m:List (Int×Int)}{l:List Int}(h:eA l):eA (bA m l):=fun r hr=>h r (List.mem_filter.1 hr).1
theorem CE(m:List (Int×Int))(l:List Int):(cJ m l).length ≤l.length:=List.length_filter_le _ _
theorem C2{l:List Int}(h:eA l){j:Nat}(hj:j<l.length): -1000000≤List.getD l (j+Int.toNat 0*1) 0∧List.getD l (j+Int.toNat 0*1) 0≤1000000:=by
 have e:j+Int.toNat 0*1=j:=by simp
 rw [e,gD',gE' hj];have:=h _ (List.getElem_mem hj);show _≤l[j]∧l[j]≤_;omega
theorem CJ{n a:Int}(hn:1≤n)(ha:1≤a):1≤cZ n a∧cZ n a≤n:=by
 unfold cZ;rw [Int.tmod_eq_emod_of_nonneg (by omega)]
 have:=Int.emod_nonneg a (show n≠0 by omega)
 have:=Int.emod_lt_of_pos a (show 0<n by omega)
 omega
theorem RP{t n me:Int}(hn:1≤n):1≤at0 t n me∧at0 t n me≤n:=by
 unfold at0;cases h:bW n (aQ t n me)with
 | true=>exact uT.1 h
 | false=>exact⟨(by decide:(1:Int)≤1),hn⟩
def enI(t n b:Int)(e:ENS):Prop:=match e.ph with
 | 0=>True
 | 1=>okAl n e.x
 | 2=>True
 | 3=>(eA e.y.N∧(e.y.N.length:Int)≤b)∧0≤e.y.i∧e.y.i<2*t
 | 4=>2*t≤e.y.i∧1≤e.y.l∧e.y.gs.length=e.y.j+e.y.l∧eA e.y.gs∧eA e.y.ks∧(e.y.ks.length:Int)≤b
 | _=>False
structure aAu (t n b:Int) (s:MS) (o:EO):Prop where
 a:Act1 s o.s
 st:stW (b+1) o.st
 w:o.d=false→enI t n (b+1) o.e
theorem MY{t n b:Int}{e:ENS}{st:STS}{s:MS}(hb:Bnd t n s)(hx:enI t n b e)(hst:stW b st)(hbb:b≤900000):J0 t n e st s:=by
 obtain⟨ht,hn,hc,hw⟩:=hb;have hl:=hst.ln;refine⟨ht,hn,⟨hc.1,by omega⟩,hst.m,by omega,?_⟩
 match e,hx with
 | ⟨0,sh,dn,x,y⟩,hx=>trivial
 | ⟨1,sh,dn,x,y⟩,hx=>exact hx
 | ⟨2,sh,dn,x,y⟩,hx=>trivial
 | ⟨3,sh,dn,x,y⟩,hx=>
   obtain⟨⟨h1,h2⟩,h3⟩:=hx;exact⟨by dsimp only at h2⊢;omega,h3⟩
 | ⟨4,sh,dn,x,y⟩,hx=>
   obtain⟨a1,a2,a3,a4,a5⟩:=hx;exact⟨a1,a2,a3,C2 a4 (by omega)⟩
theorem GL{t n b:Int}{e:ENS}{st:STS}{x:AL}{s s0:MS}(ha:Act1 s0 s)(hst:stW b st)(hg:x.got=0)(hx:1≤x.at'∧x.at'≤n)(hl0:0≤x.left+1)(hl:x.left≤1000):aAu t n b s0 (IP e st x s):=by
 have hl1:=hst.ln;unfold IP;split
 ·exact⟨ha,⟨hst.m,hst.r,by dsimp only;omega⟩,fun _=>trivial⟩
 ·rename_i h;rw [cC,dF']at h;exact⟨ha,iO hst (by omega),fun _=>⟨hg,hx,by show(0:Int)≤x.left;omega,hl⟩⟩
theorem wO{t n b:Int}{e:ENS}{st:STS}{x:AL}{s:MS}(hn:1≤n)(hst:stW b st)(hx:okAl n x):aAu t n b s (rM n e st x s):=by
 obtain⟨hg,ha,hl⟩:=hx;have hl1:=hst.ln;unfold rM;split
 ·split
  ·exact⟨wC _ _ _ _,⟨hst.m,hst.r,by dsimp only;omega⟩,fun h=>Bool.noConfusion h⟩
  ·exact GL (wC _ _ _ _) hst rfl (CJ hn ha.1) (by dsimp only;omega) (by dsimp only;omega)
 ·split
  ·exact GL (eN _ _) hst rfl (CJ hn ha.1) (by dsimp only;omega) (by dsimp only;omega)
  ·exact⟨eN _ _,iO hst (by omega),fun _=>⟨rfl,ha,hl⟩⟩
theorem MZ{t n b:Int}{e:ENS}{st:STS}{s:MS}(hb:Bnd t n s)(hx:enI t n b e)(hst:stW b st):aAu t n b s (enF t n e st s):=by
 obtain⟨ht,hn,hc,hw⟩:=hb;have hl1:=hst.ln;have hst1:stW (b+1) st:=iO hst (by omega)
 match e,hx with
 | ⟨0,sh,dn,x,y⟩,hx=>
   unfold enF;dsimp only;cases hc:ieq st.sp 0 with
   | true=>exact wO hn.1 hst ⟨rfl,RP hn.1,by dsimp only;omega⟩
   | false=>exact⟨eN _ _,hst1,fun h=>Bool.noConfusion h⟩
 | ⟨1,sh,dn,x,y⟩,hx=>exact wO hn.1 hst hx
 | ⟨2,sh,dn,x,y⟩,hx=>
   exact⟨eN _ _,hst1,fun _=>⟨⟨hst.r,by show(st.R.length:Int)≤_;omega⟩,(by decide:(0:Int)≤1),by show(1:Int)<_;omega⟩⟩
 | ⟨3,sh,dn,x,y⟩,hx=>
   obtain⟨⟨hN,hNl⟩,hi0,hi1⟩:=hx;dsimp only at hN hNl hi0 hi1;have hk:=CE (bB y.m n y.i s) y.N;unfold enF;dsimp only;generalize hsm:bB y.m n y.i s=sm at hk⊢;cases h1:ieq (y.i+1) (2*t)with
   | false=>
     have h1:=eL h1;exact⟨eN _ _,hst1,fun _=>⟨⟨hN,by show((y.N).length :Int)≤_;omega⟩,by show 0≤y.i+1;omega,by show y.i+1<2*t;omega⟩⟩
   | true=>
     have h1:=fV h1;cases h2:ieq ((bA sm y.N).length :Int) 0 with
     | true=>exact⟨eN _ _,⟨hst.m,mE hN,by show((cJ sm y.N).length :Int)≤_;omega⟩,fun h=>Bool.noConfusion h⟩
     | false=>
       have h2:=eL h2;exact⟨eN _ _,hst1,fun _=>⟨by show 2*t≤y.i+1;omega,by show 1≤(bA sm y.N).length;omega,by show(bA sm y.N).length =0+(bA sm y.N).length;omega,sY hN,mE hN,by show((cJ sm y.N).length :Int)≤_;omega⟩⟩
 | ⟨4,sh,dn,x,y⟩,hx=>
   obtain⟨a1,a2,a3,a4,a5,a6⟩:=hx;dsimp only at a1 a2 a3 a4 a5 a6;unfold enF;dsimp only;cases h1:ieq ((y.l - 1:Nat):Int) 0 with
   | true=>exact⟨nX _ _ _,⟨hst.m,a5,by show((y.ks).length :Int)≤_;omega⟩,fun _=>trivial⟩
   | false=>
     have h1:=eL h1;exact⟨nX _ _ _,hst1,fun _=>⟨a1,by show 1≤y.l - 1;omega,by show(y.gs).length =y.j+1+(y.l - 1);omega,a4,a5,by show((y.ks).length :Int)≤_;omega⟩⟩
def KR(t n b:Int)(y:SWS):Prop:=match y.ph with
 | 0=>True
 | 1=>(eA y.N∧(y.N.length:Int)≤b)∧0≤y.i∧y.i<2*t
 | 2=>2*t≤y.i∧1≤y.l∧y.gs.length=y.j+y.l∧eA y.gs∧eA y.ks∧(y.ks.length:Int)≤b
 | _=>False
structure aFI (t n b:Int) (s:MS) (o:SO):Prop where
 a:Act1 s o.s
 st:stW (b+1) o.st
 w:o.d=false→KR t n (b+1) o.e
theorem aCn{t n b:Int}{e:SWS}{st:STS}{s:MS}(hb:Bnd t n s)(hx:KR t n b e)(hst:stW b st)(hbb:b≤900000):qL t n e st s:=by
 obtain⟨ht,hn,hc,hw⟩:=hb;have hl:=hst.ln;refine⟨ht,hn,⟨hc.1,by omega⟩,by omega,?_⟩
 match e,hx with
 | ⟨0,N,m,i,ks,fs,gs,j,l⟩,hx=>trivial
 | ⟨1,N,m,i,ks,fs,gs,j,l⟩,hx=>
   obtain⟨⟨h1,h2⟩,h3⟩:=hx;exact⟨by dsimp only at h2⊢;omega,h3⟩
 | ⟨2,N,m,i,ks,fs,gs,j,l⟩,hx=>
   obtain⟨a1,a2,a3,a4,a5⟩:=hx;exact⟨a1,a2,a3,C2 a4 (by omega)⟩
theorem aCo{t n b:Int}{e:SWS}{st:STS}{s:MS}(hb:Bnd t n s)(hx:KR t n b e)(hst:stW b st):aFI t n b s (swF t n e st s):=by
 obtain⟨ht,hn,hc,hw⟩:=hb;have hl1:=hst.ln;have hst1:stW (b+1) st:=iO hst (by omega)
 match e,hx with
 | ⟨0,N,m,i,ks,fs,gs,j,l⟩,hx=>
   exact⟨eN _ _,hst1,fun _=>⟨⟨hst.r,by show(st.R.length:Int)≤_;omega⟩,(by decide:(0:Int)≤1),by show(1:Int)<_;omega⟩⟩
 | ⟨1,N,m,i,ks,fs,gs,j,l⟩,hx=>
   obtain⟨⟨hN,hNl⟩,hi0,hi1⟩:=hx;dsimp only at hN hNl hi0 hi1;have hk:=CE (bB m n i s) N;unfold swF;dsimp only;generalize hsm:bB m n i s=sm at hk⊢;cases h1:ieq (i+1) (2*t)with
   | false=>
     have h1:=eL h1;exact⟨eN _ _,hst1,fun _=>⟨⟨hN,by show((N).length :Int)≤_;omega⟩,by show 0≤i+1;omega,by show i+1<2*t;omega⟩⟩
   | true=>
     have h1:=fV h1;cases h2:ieq ((bA sm N).length :Int) 0 with
     | true=>exact⟨eN _ _,⟨hst.m,mE hN,by show((cJ sm N).length :Int)≤_;omega⟩,fun h=>Bool.noConfusion h⟩
     | false=>
       have h2:=eL h2;exact⟨eN _ _,hst1,fun _=>⟨by show 2*t≤i+1;omega,by show 1≤(bA sm N).length;omega,by show(bA sm N).length =0+(bA sm N).length;omega,sY hN,mE hN,by show((cJ sm N).length :Int)≤_;omega⟩⟩
 | ⟨2,N,m,i,ks,fs,gs,j,l⟩,hx=>
   obtain⟨a1,a2,a3,a4,a5,a6⟩:=hx;dsimp only at a1 a2 a3 a4 a5 a6;unfold swF;dsimp only;cases h1:ieq ((l - 1:Nat):Int) 0 with
   | true=>exact⟨nX _ _ _,⟨hst.m,a5,by show((ks).length :Int)≤_;omega⟩,fun h=>Bool.noConfusion h⟩
   | false=>
     have h1:=eL h1;exact⟨nX _ _ _,hst1,fun _=>⟨a1,by show 1≤l - 1;omega,by show(gs).length =j+1+(l - 1);omega,a4,a5,by show((ks).length :Int)≤_;omega⟩⟩
theorem TO(t n u sh kd ky att:Int):NH t n u sh kd ky att:=⟨⟨rfl,rfl⟩,trivial⟩
theorem aDE(t n:Int){u:Int}(sh kd ky att:Int)(hu:0≤u∧u≤1000):exW t (aAC t n u sh kd ky att):=⟨.inl rfl,hu,⟨(by decide:(0:Int)≤0),(by decide:(0:Int)≤1000)⟩⟩
structure VG (t n b:Int) (st:STS) (x:HPS):Prop where
 h:x.at'=0∨x.at'=1∨x.at'=2∨x.at'=3∨x.at'=4∨x.at'=5∨x.at'=6∨x.at'=7∨x.at'=8∨x.at'=9
 u:0≤x.u∧x.u≤1000
 ex:x.at'=3→exW t x.ex
 en:x.at'=4→enI t n b x.en
 fn:x.at'=5→TX t x.fn∧K7 (b - st.R.length) x.fn
 cl:x.at'=7→XL t x.cl
 ps:0≤x.p.pops∧x.p.pops≤1000
structure aEb (t n b:Int) (s:MS) (o:HpO):Prop where
 a:Act1 s o.s
 st:stW (b+1) o.st
 w:o.d=false→VG t n (b+1) o.st o.x
theorem OT:(0:Int)≤0∧(0:Int)≤1000:=⟨by decide,by decide⟩
theorem X4{t n b:Int}{x:HPS}{st:STS}{s:MS}(hb:Bnd t n s)(hx:VG t n b st x)(hst:stW b st)(hbb:b≤900000):(hpT t n x st s).run (aEb t n b s):=by
 have hb':=hb;obtain⟨ht,hn,⟨c0,c1⟩,hw⟩:=hb;obtain⟨n0,n1⟩:=hn;obtain⟨t0,t1⟩:=ht;obtain⟨h,hu,hex,hen,hfn,hcl,hps⟩:=hx;have hR0:=hst.ln;have hst1:stW (b+1) st:=iO hst (by omega)
 have hnn:1≤n∧n≤1000:=⟨n0,n1⟩;have hme:=hst.m;obtain⟨u0,u1⟩:=hu;have b0:0≤b:=by omega
 obtain⟨k0,k1⟩:=uU hw (2*n+5+2*t+3*x.1+1);unfold hpT;refine aGL (fun h0=>?c0) (fun h0=>aGL (fun h1=>?c1) (fun h1=>aGL (fun h2=>?c2) (fun h2=>aGL (fun h3=>?c3) (fun h3=>aGL (fun h4=>?c4) (fun h4=>aGL (fun h5=>?c5) (fun h5=>aGL (fun h6=>?c6) (fun h6=>aGL (fun h7=>?c7) (fun h7=>aGL (fun h8=>?c8) (fun h8=>aGL (fun h9=>?c9) (fun h9=>?c10))))))))))
 case' c0=>unfold B3 w1y
 case' c1=>unfold B4 w1y
 case' c2=>unfold B5 w1u w1y
 case' c3=>have he:=hex (fV h3);have hE:=aAJ hb' he;have hEo:=aAI hb' he;have hA:=hE.a;have hS:stW (b+1) {me:=st.me,sp:=st.sp,R:=st.R++ [(ExO.x (AU t n x.11 s)).1] } :=vE hst hE.p;unfold B6
 case' c4=>have he:=hen (fV h4);have hE:=MZ hb' he hst;have hEo:=MY hb' he hst hbb;have hA:=hE.a;have hS:=hE.st;have hme:=hS.m;have hSl:=hS.ln;unfold B7
 case' c5=>obtain⟨hfw,hfq⟩:=hfn (fV h5);have hF:=EJ hb' hfw hfq (by omega);have hFo:=EG hb' hfw hfq (by omega);have hA:=hF.a;have hQ:=hF.q;have hQl:=hQ.ln;have hS:stW (b+1) {me:=st.me,sp:=st.sp,R:=st.R++(aN t n x.fn s).x.ul } :=yR hst hQ;have hcu:=hQ.cu;unfold B8 w1t w1x
 case' c6=>unfold B9 w1y
 case' c7=>have hc:=hcl (fV h7);have hC:=xU hb' hc;have hCo:=D0 hb' hc;have hA:=hC.a;unfold CA
 case' c8=>have hP:=PF (st:=st) hb' (show YD t x.pr from⟨trivial⟩);have hPo:=PE (st:=st) hb' (show YD t x.pr from⟨trivial⟩);have hA:=hP.a;have hPs:stW (b+1) (prF t n x.pr st s).st :=(by rw [hP.st];exact hst1);unfold CB
 case' c9=>have hD:=J8 (HPS.p x).1 (HPS.p x).2 (HPS.p x).3 (HPS.p x).4 (HPS.p x).5 (HPS.p x).6 (HPS.p x).7 (HPS.p x).8 (HPS.p x).9 (aA x.6 0 12);have hDo:=J9 (HPS.p x).1 (HPS.p x).2 (HPS.p x).3 (HPS.p x).4 (HPS.p x).5 (HPS.p x).6 (HPS.p x).7 (HPS.p x).8 (HPS.p x).9 (aA x.6 0 12);have hS3:stW (b+1) {me:=st.me,sp:=0,R:=st.R} :=PY hst 0;unfold CC w1v w1y
 case c10=>
  simp only [cX,beq_eq_false_iff_ne]at h0 h1 h2 h3 h4 h5 h6 h7 h8 h9;rcases h with e | e | e | e | e | e | e | e | e | e<;>contradiction
 all_goals (repeat' (with_reducible first | exact trivial | rfl | assumption | refine aGM ?_ ?_ | refine Tr.run_ite (fun _=>?_) (fun _=>?_) | refine aGO ?_ | refine And.intro ?_ ?_))
 all_goals first
  | exact aZ
  | (simp only [List.length_append,List.length_singleton];done)
  | exact TO _ _ _ _ _ _ _
  | exact qC hnn hme (dP _ _)
  | exact CT _ _ _ _ _ _ _ hcu
  | exact w6 _
  | exact u4 _ _ _ _ _ _ _ _ _
  | exact jD _ _ _
  | exact HI _ _ _ _ _
  | (simp only [List.length_append];done)
  | (refine⟨by first | assumption | exact aZ,?_,fun hd=>?_⟩
     ·first
       | assumption
       | (dsimp only;rw [O8];assumption)
     ·first
       | exact Bool.noConfusion hd
       | (refine⟨by dsimp only;decide,⟨u0,u1⟩,?_,?_,?_,?_,?_⟩<;>first | (exact nE') | exact hps | exact OT | (intro _;dsimp only;with_reducible exact aDE _ _ _ _ _ _ ⟨u0,u1⟩) | (intro _;exact trivial) | (intro _;exact⟨A8 (t:=t) (n:=n) hnn hme (dP _ _),eS (A7 (t:=t) (n:=n) hnn hme (dP _ _)) (by dsimp only;omega)⟩) | (intro _;exact hE.w (by assumption)) | (intro _;exact⟨hF.w (by assumption),eS hQ (by dsimp only;omega)⟩) | (intro _;dsimp only;with_reducible exact DZ _ _ _) | exact w7 _ _ _ _ _ _ _ hcu | (intro _;exact hC.w (by assumption))))
theorem OF{t n b:Int}{x:HPS}{st:STS}{s:MS}(hb:Bnd t n s)(hx:VG t n b st x)(hst:stW b st)(hbb:b≤900000):OD t n x st s:=aGZ (X4 hb hx hst hbb)
theorem OG{t n b:Int}{x:HPS}{st:STS}{s:MS}(hb:Bnd t n s)(hx:VG t n b st x)(hst:stW b st)(hbb:b≤900000):aEb t n b s (gS t n x st s):=aGU (X4 hb hx hst hbb)
theorem aBr{t n b u no lim:Int}{st:STS}(hu:0≤u∧u≤1000):(JJ t n u no lim st).run (fun r=>VG t n b st r.1∧r.2=st):=by
 unfold JJ
 (repeat' (with_reducible first | exact trivial | rfl | assumption | refine aGM ?_ ?_ | refine Tr.run_ite (fun _=>?_) (fun _=>?_) | refine aGO ?_ | refine And.intro ?_ ?_))
 all_goals first
  | exact aZ
  | exact⟨by dsimp only;decide,hu,fun e=>absurd e (by dsimp only;decide),fun e=>absurd e (by dsimp only;decide),fun e=>absurd e (by dsimp only;decide),fun e=>absurd e (by dsimp only;decide),OT⟩
theorem WJ{s k y:Int}(h:b9 s k y=true):rngU (tskV s k y):=by
 have h:=mC.1 h;unfold tskV;refine⟨?_,?_⟩<;>omega
theorem US(t n:Int):NZ t n:=⟨⟨rfl,rfl⟩,trivial⟩
theorem aD5(t n:Int):hdW t (aBf t n):=⟨⟨(by decide:(0:Int)≤0),(by decide:(0:Int)≤1000)⟩,⟨(by decide:(-1:Int)≤ -1),(by decide:(-1:Int)≤1000)⟩⟩
theorem S5(t n u:Int):sI t n u:=⟨⟨rfl,rfl⟩,trivial⟩
theorem aDg(t n:Int){u:Int}(hu:0≤u∧u≤1000):drW t (AN t n u):=⟨hu,⟨(by decide:(0:Int)≤0),(by decide:(0:Int)≤2)⟩⟩
theorem RS(t n u:Int):LP t n u:=⟨⟨rfl,rfl⟩,trivial⟩
theorem aC4(t n:Int){u:Int}(hu:0≤u∧u≤1000):awW t (Y6 t n u):=⟨hu⟩
theorem RL(t n u sh kd ky:Int):LO t n u sh kd ky:=⟨trivial,⟨rfl,rfl⟩,trivial⟩
theorem aC1(t n:Int){u:Int}(sh kd ky:Int)(hu:0≤u∧u≤1000):anW t (YY t n u sh kd ky):=⟨.inl rfl,hu,yP WJ CZ,CZ⟩
theorem U8(t n u no lim:Int)(st:STS):B2 t n u no lim st:=by
 unfold B2 JJ;exact⟨⟨⟨rfl,rfl,rfl⟩,by decide⟩,trivial⟩
theorem X3{t n b u no lim:Int}{st:STS}(hu:0≤u∧u≤1000):VG t n b st (vW t n u no lim st).1:=(aGU (aBr (b:=b) hu)).1
theorem T3{t n b:Int}(sh kd ky most:Int){st:STS}(hn:1≤n∧n≤1000)(hst:stW b st):uM t n sh kd ky most st:=aGZ (EK hn hst)
theorem aDK{t n b:Int}(sh kd ky most:Int){st:STS}(hn:1≤n∧n≤1000)(hst:stW b st):T9 t b st (j9 t n sh kd ky most st).1:=(aGU (EK (t:=t) hn hst)).1
theorem NN{t n b:Int}(sh kd ky most:Int){st:STS}(hn:1≤n∧n≤1000)(hst:stW b st):(j9 t n sh kd ky most st).2=st:=(aGU (EK (t:=t) hn hst)).2
structure S2 (t n b:Int) (st:STS) (x:DOS):Prop where
 h:x.at'=0∨x.at'=1∨x.at'=2∨x.at'=3∨x.at'=4∨x.at'=5∨x.at'=6∨x.at'=7∨x.at'=8∨x.at'=9
 hd:x.at'=0→hdW t x.hd
 hp:x.at'=1∨x.at'=5→VG t n b st x.hp
 en:x.at'=2→enI t n b x.en
 ft:x.at'=3→T9 t b st x.ft
 an:x.at'=4→anW t x.an
 aw:x.at'=6→awW t x.aw
 fn:x.at'=7→TX t x.fn∧K7 (b - st.R.length) x.fn
 dr:x.at'=8→drW t x.dr
 sw:x.at'=9→KR t n b x.sw
structure aDe (t n b:Int) (s:MS) (o:DqO):Prop where
 a:Act1 s o.s
 st:stW (b+1) o.st
 w:o.d=false→S2 t n (b+1) o.st o.x
theorem XP{t n b:Int}{x:DOS}{st:STS}{s:MS}(hb:Bnd t n s)(hx:S2 t n b st x)(hst:stW b st)(hbb:b≤900000):(dqT t n x st s).run (aDe t n b s):=by
 have hb':=hb;obtain⟨ht,hn,⟨c0,c1⟩,hw⟩:=hb;obtain⟨n0,n1⟩:=hn;obtain⟨t0,t1⟩:=ht;obtain⟨h,xhd,xhp,xen,xft,xan,xaw,xfn,xdr,xsw⟩:=hx;have hR0:=hst.ln;have hst1:stW (b+1) st:=iO hst (by omega)
 have hnn:1≤n∧n≤1000:=⟨n0,n1⟩;have hme:=hst.m;have b0:0≤b:=by omega
 unfold dqT;refine aGL (fun h0=>?c0) (fun h0=>aGL (fun h1=>?c1) (fun h1=>aGL (fun h2=>?c2) (fun h2=>aGL (fun h3=>?c3) (fun h3=>aGL (fun h4=>?c4) (fun h4=>aGL (fun h5=>?c5) (fun h5=>aGL (fun h6=>?c6) (fun h6=>aGL (fun h7=>?c7) (fun h7=>aGL (fun h8=>?c8) (fun h8=>aGL (fun h9=>?c9) (fun h9=>?c10))))))))))
 case' c0=>have hc:=xhd (fV h0);have hC:=aBn hb' hc;have hCo:=aBm hb' hc;have hA:=hC.a;have hS:=hst1;have hSl:=hS.ln;obtain⟨v0,v1⟩:=hC.p;unfold AC w2d w27 w28
 case' c1=>have hc:=xhp (.inl (fV h1));have hC:=OG hb' hc hst hbb;have hCo:=OF hb' hc hst hbb;have hA:=hC.a;have hS:=hC.st;have hme:=hS.m;have hSl:=hS.ln;unfold AD w25 w2a w28
 case' c2=>have hc:=xen (fV h2);have hC:=MZ hb' hc hst;have hCo:=MY hb' hc hst hbb;have hA:=hC.a;have hS:=hC.st;have hme:=hS.m;have hSl:=hS.ln;unfold AE w28
 case' c3=>have hc:=xft (fV h3);have hC:=aAZ hb' hc hst hbb;have hCo:=aAY hb' hc hst hbb;have hA:=hC.a;have hS:=hC.st;have hme:=hS.m;have hSl:=hS.ln;unfold AF w22 w29 w28
 case' c4=>have hc:=xan (fV h4);have hC:=Y5 hb' hc;have hCo:=Y4 hb' hc;have hA:=hC.a;have hS:=hst1;have hSl:=hS.ln;unfold AG w28
 case' c5=>have hc:=xhp (.inr (fV h5));have hC:=OG hb' hc hst hbb;have hCo:=OF hb' hc hst hbb;have hA:=hC.a;have hS:=hC.st;have hme:=hS.m;have hSl:=hS.ln;unfold AH w2a w28
 case' c6=>have hc:=xaw (fV h6);have hC:=ZE hb' hc;have hCo:=ZD hb' hc;have hA:=hC.a;have hS:=hst1;have hSl:=hS.ln;unfold AI w24 w28
 case' c7=>obtain⟨hfw,hfq⟩:=xfn (fV h7);have hF:=EJ hb' hfw hfq (by omega);have hFo:=EG hb' hfw hfq (by omega);have hA:=hF.a;have hQ:=hF.q;have hQl:=hQ.ln;have hS:stW (b+1) {me:=st.me,sp:=st.sp,R:=st.R++(aN t n x.fn s).x.ul } :=yR hst hQ;unfold AJ w28
 case' c8=>have hc:=xdr (fV h8);have hC:=aAi hb' hc;have hCo:=aAh hb' hc;have hA:=hC.a;have hS:=hst1;unfold AK w28
 case' c9=>have hc:=xsw (fV h9);have hC:=aCo hb' hc hst;have hCo:=aCn hb' hc hst hbb;have hA:=hC.a;have hS:=hC.st;unfold AM w28
 case c10=>
  simp only [cX,beq_eq_false_iff_ne]at h0 h1 h2 h3 h4 h5 h6 h7 h8 h9;rcases h with e | e | e | e | e | e | e | e | e | e<;>contradiction
 all_goals (repeat' (with_reducible first | exact trivial | rfl | assumption | refine aGM ?_ ?_ | refine Tr.run_ite (fun _=>?_) (fun _=>?_) | refine aGO ?_ | refine And.intro ?_ ?_))
 all_goals first
  | exact aZ
  | (intro _;decide)
  | assumption
  | exact S5 _ _ _
  | exact RS _ _ _
  | exact RL _ _ _ _ _ _
  | exact U8 _ _ _ _ _ _
  | exact qC hnn hme (dP _ _)
  | exact T3 _ _ _ _ hnn hS
  | (simp only [List.length_append,List.length_singleton];done)
  | (refine⟨by first | assumption | exact aZ,by first | assumption | (dsimp only;rw [NN _ _ _ _ hnn hS];assumption),fun hd=>?_⟩
     first
      | exact Bool.noConfusion hd
      | (refine⟨by dsimp only;decide,?_,?_,?_,?_,?_,?_,?_,?_,?_⟩<;>first | (exact nE') | (intro _;exact hC.w (by assumption)) | (intro _;exact X3 ⟨by first | omega | (simp_all [cC,aV];done) | (simp_all [cC,aV];omega),v1⟩) | (intro _;exact trivial) | (intro _;dsimp only;rw [NN _ _ _ _ hnn hS];exact aDK _ _ _ _ hnn hS) | (intro _;dsimp only;with_reducible exact aC4 _ _ hme) | (intro _;dsimp only;with_reducible exact aDg _ _ hme) | (intro _;dsimp only;with_reducible exact aC1 _ _ _ _ _ hme) | (intro _;exact⟨A8 (t:=t) (n:=n) hnn hme (dP _ _),eS (A7 (t:=t) (n:=n) hnn hme (dP _ _)) (by dsimp only;omega)⟩) | (intro _;exact X3 hme) | (intro _;exact⟨hF.w (by assumption),eS hQ (by dsimp only;omega)⟩)))
theorem Z9{t n b:Int}{x:DOS}{st:STS}{s:MS}(hb:Bnd t n s)(hx:S2 t n b st x)(hst:stW b st)(hbb:b≤900000):SR t n x st s:=aGZ (XP hb hx hst hbb)
theorem aAa{t n b:Int}{x:DOS}{st:STS}{s:MS}(hb:Bnd t n s)(hx:S2 t n b st x)(hst:stW b st)(hbb:b≤900000):aDe t n b s (dqF t n x st s):=aGU (XP hb hx hst hbb)
theorem ZW{t n b:Int}(sh kd ky lim:Int)(st:STS):(MA t n sh kd ky lim st).run (fun r=>S2 t n b st r.1∧r.2=st):=by
 unfold MA
 (repeat' (with_reducible first | exact trivial | rfl | assumption | refine aGM ?_ ?_ | refine Tr.run_ite (fun _=>?_) (fun _=>?_) | refine aGO ?_ | refine And.intro ?_ ?_))
 all_goals first
  | exact aZ
  | exact US _ _
  | (intro _;decide)
  | (refine⟨by dsimp only;decide,fun _=>aD5 t n,?_,?_,?_,?_,?_,?_,?_,?_⟩<;>(exact nE'))
structure hstW (e c:Int) (x:HST):Prop where
 he:(x.ev.length:Int)≤e
 hc:(x.cl.length:Int)≤c
 n0:0≤x.n0∧x.n0≤(x.cl.length:Int)
 n1:0≤x.n1∧x.n1≤(x.cl.length:Int)
 n2:0≤x.n2∧x.n2≤(x.cl.length:Int)
 n3:0≤x.n3∧x.n3≤(x.cl.length:Int)
 n4:0≤x.n4∧x.n4≤(x.cl.length:Int)
 n5:0≤x.n5∧x.n5≤(x.cl.length:Int)
 n6:0≤x.n6∧x.n6≤(x.cl.length:Int)
 n7:0≤x.n7∧x.n7≤(x.cl.length:Int)
theorem jN{e c e' c':Int}{x:HST}(h:hstW e c x)(h1:e≤e')(h2:c≤c'):hstW e' c' x:=⟨Int.le_trans h.he h1,Int.le_trans h.hc h2,h.n0,h.n1,h.n2,h.n3,h.n4,h.n5,h.n6,h.n7⟩
theorem nJ{P:Prop}(h:P:=by first | omega | (dsimp only;omega) | (simp only [List.length_append,List.length_singleton,List.length_set,List.length_cons,List.length_nil];done) | (simp only [List.length_append,List.length_singleton,List.length_set,List.length_cons,List.length_nil];omega) | (dsimp only;simp only [List.length_append,List.length_singleton,List.length_set];omega)):P:=h
theorem aD1{e c th:Int}{x:HST}(kd ky:Int)(h:hstW e c x)(he:e≤1000000)(hc:c≤1000000)(h0:0≤th∧th<8):(hbT th x kd ky).run (fun r=>hstW (e+1) (c+1) r.2):=by
 have hh:=h;obtain⟨a,b,m0,m1,m2,m3,m4,m5,m6,m7⟩:=h;unfold hbT;refine aGL (fun q0=>?c0) (fun q0=>aGL (fun q1=>?c1) (fun q1=>aGL (fun q2=>?c2) (fun q2=>aGL (fun q3=>?c3) (fun q3=>aGL (fun q4=>?c4) (fun q4=>aGL (fun q5=>?c5) (fun q5=>aGL (fun q6=>?c6) (fun q6=>aGL (fun q7=>?c7) (fun q7=>?c8))))))))
 case' c0=>unfold BM w2i w2h w2g
 case' c1=>unfold BN w2i w2h w2g
 case' c2=>unfold BO w2i w2h w2g
 case' c3=>unfold BP w2i w2h w2g
 case' c4=>unfold BQ w2i w2h w2g
 case' c5=>unfold BR w2i w2h w2g
 case' c6=>unfold BS w2i w2h w2g
 case' c7=>unfold BT w2i w2h w2g
 case c8=>
  have q0:=eL q0;have q1:=eL q1;have q2:=eL q2;have q3:=eL q3;have q4:=eL q4;have q5:=eL q5;have q6:=eL q6;have q7:=eL q7;omega
 all_goals (repeat' (with_reducible first | exact trivial | rfl | assumption | refine aGM ?_ ?_ | refine Tr.run_ite (fun _=>?_) (fun _=>?_) | refine aGO ?_ | refine And.intro ?_ ?_))
 all_goals first
  | exact aZ
  | exact jN hh (by omega) (by omega)
  | exact nJ
  | (refine⟨?_,?_,?_,?_,?_,?_,?_,?_,?_,?_⟩<;>exact nJ)
theorem X2{e c th:Int}{x:HST}(code:Int)(okk:Bool)(val:Int)(h:hstW e c x)(he:e≤1000000)(hc:c≤1000000)(h0:0≤th∧th<8):(heT th x code okk val).run (fun r=>hstW (e+1) (c) r.2):=by
 have hh:=h;obtain⟨a,b,m0,m1,m2,m3,m4,m5,m6,m7⟩:=h;unfold heT;refine aGL (fun q0=>?c0) (fun q0=>aGL (fun q1=>?c1) (fun q1=>aGL (fun q2=>?c2) (fun q2=>aGL (fun q3=>?c3) (fun q3=>aGL (fun q4=>?c4) (fun q4=>aGL (fun q5=>?c5) (fun q5=>aGL (fun q6=>?c6) (fun q6=>aGL (fun q7=>?c7) (fun q7=>?c8))))))))
 case' c0=>unfold BU w2k w30 w2z;have hW:=dB (x:=x.n0 - 1) ⟨by omega,by omega⟩;change W (x.n0 - 1)=x.n0 - 1 at hW
 case' c1=>unfold BV w2l w30 w2z;have hW:=dB (x:=x.n1 - 1) ⟨by omega,by omega⟩;change W (x.n1 - 1)=x.n1 - 1 at hW
 case' c2=>unfold BW w2m w30 w2z;have hW:=dB (x:=x.n2 - 1) ⟨by omega,by omega⟩;change W (x.n2 - 1)=x.n2 - 1 at hW
 case' c3=>unfold BX w2n w30 w2z;have hW:=dB (x:=x.n3 - 1) ⟨by omega,by omega⟩;change W (x.n3 - 1)=x.n3 - 1 at hW
 case' c4=>unfold BY w2o w30 w2z;have hW:=dB (x:=x.n4 - 1) ⟨by omega,by omega⟩;change W (x.n4 - 1)=x.n4 - 1 at hW
 case' c5=>unfold BZ w2p w30 w2z;have hW:=dB (x:=x.n5 - 1) ⟨by omega,by omega⟩;change W (x.n5 - 1)=x.n5 - 1 at hW
 case' c6=>unfold B0 w2q w30 w2z;have hW:=dB (x:=x.n6 - 1) ⟨by omega,by omega⟩;change W (x.n6 - 1)=x.n6 - 1 at hW
 case' c7=>unfold B1 w2j w30 w2z;have hW:=dB (x:=x.n7 - 1) ⟨by omega,by omega⟩;change W (x.n7 - 1)=x.n7 - 1 at hW
 case c8=>
  have q0:=eL q0;have q1:=eL q1;have q2:=eL q2;have q3:=eL q3;have q4:=eL q4;have q5:=eL q5;have q6:=eL q6;have q7:=eL q7;omega
 all_goals (repeat' (with_reducible first | exact trivial | rfl | assumption | refine aGM ?_ ?_ | refine Tr.run_ite (fun _=>?_) (fun _=>?_) | refine aGO ?_ | refine And.intro ?_ ?_))
 all_goals first
  | exact aZ
  | exact jN hh (by omega) (by omega)
  | exact nJ
  | (rw [hW];simp only [aV,Bool.not_eq_false',dT',Bool.not_eq_true',dF']at*;first | omega | exact nJ)
  | (refine⟨?_,?_,?_,?_,?_,?_,?_,?_,?_,?_⟩<;>exact nJ)
theorem NO{t b c:Int}{st:STS}{x:FTS}(h:T9 t b st x)(hbc:b≤c):T9 t c st x:=⟨h.h,fun e=>⟨(h.fn e).1,eS (h.fn e).2 (by omega)⟩,h.cl,h.ps⟩
theorem AR{t n b c:Int}{e:ENS}(hx:enI t n b e)(hbc:b≤c):enI t n c e:=by
 match e,hx with
 | ⟨0,sh,dn,x,y⟩,hx=>trivial
 | ⟨1,sh,dn,x,y⟩,hx=>exact hx
 | ⟨2,sh,dn,x,y⟩,hx=>trivial
 | ⟨3,sh,dn,x,y⟩,hx=>exact⟨⟨hx.1.1,Int.le_trans hx.1.2 hbc⟩,hx.2⟩
 | ⟨4,sh,dn,x,y⟩,hx=>exact⟨hx.1,hx.2.1,hx.2.2.1,hx.2.2.2.1,hx.2.2.2.2.1,Int.le_trans hx.2.2.2.2.2 hbc⟩
theorem KS{t n b c:Int}{e:SWS}(hx:KR t n b e)(hbc:b≤c):KR t n c e:=by
 match e,hx with
 | ⟨0,N,m,i,ks,fs,gs,j,l⟩,hx=>trivial
 | ⟨1,N,m,i,ks,fs,gs,j,l⟩,hx=>exact⟨⟨hx.1.1,Int.le_trans hx.1.2 hbc⟩,hx.2⟩
 | ⟨2,N,m,i,ks,fs,gs,j,l⟩,hx=>exact⟨hx.1,hx.2.1,hx.2.2.1,hx.2.2.2.1,hx.2.2.2.2.1,Int.le_trans hx.2.2.2.2.2 hbc⟩
theorem OE{t n b c:Int}{st:STS}{x:HPS}(h:VG t n b st x)(hbc:b≤c):VG t n c st x:=⟨h.h,h.u,h.ex,fun e=>AR (h.en e) hbc,fun e=>⟨(h.fn e).1,eS (h.fn e).2 (by omega)⟩,h.cl,h.ps⟩
theorem MB{t n b c:Int}{st:STS}{x:DOS}(h:S2 t n b st x)(hbc:b≤c):S2 t n c st x:=⟨h.h,h.hd,fun e=>OE (h.hp e) hbc,fun e=>AR (h.en e) hbc,fun e=>NO (h.ft e) hbc,h.an,h.aw,fun e=>⟨(h.fn e).1,eS (h.fn e).2 (by omega)⟩,h.dr,fun e=>KS (h.sw e) hbc⟩
structure W8 (t n b:Int) (w:WKS):Prop where
 ht:w.t=t
 hn:w.n=n
 st:stW b w.st
 d:w.b=true→S2 t n b w.st w.d∧w.en<(w.tk.length:Int)
 e0:0≤w.en
 e1:w.en≤(w.tk.length:Int)
 tl:(w.tl.length:Int)=w.en+(bif w.b then 1 else 0)
 sl:(w.sl.length:Int)≤w.en
 tk:(w.tk.length:Int)≤100000
structure QL (t n b:Int) (w:WK1):Prop where
 ht:w.t=t
 hn:w.n=n
 st:stW b w.st
 d:S2 t n b w.st w.d
 e0:0≤w.en
 e1:w.en<(w.tk.length:Int)
 tl:(w.tl.length:Int)=w.en+1
 sl:(w.sl.length:Int)≤w.en
 tk:(w.tk.length:Int)≤100000
theorem QO{t n b c:Int}{w:WKS}(h:W8 t n b w)(hbc:b≤c):W8 t n c w:=⟨h.ht,h.hn,iO h.st hbc,fun e=>⟨MB (h.d e).1 hbc,(h.d e).2⟩,h.e0,h.e1,h.tl,h.sl,h.tk⟩
theorem QI{t n b tr:Int}{w:WKS}(h:W8 t n b w)(hb:w.b=false)(hl:w.en<(w.tk.length:Int)):(KY tr w).run (QL t n b):=by
 obtain⟨rfl,rfl,hst,hd,e0,e1,htl,hsl,htk⟩:=h;rw [hb]at htl;have htl:(w.tl.length:Int)=w.en+0:=htl;have hN:=fun sh kd ky lim=>ZW (t:=w.t) (n:=w.n) (b:=b) sh kd ky lim w.st;unfold KY w33
 (repeat' (with_reducible first | exact trivial | rfl | assumption | refine aGM ?_ ?_ | refine Tr.run_ite (fun _=>?_) (fun _=>?_) | refine aGO ?_ | refine And.intro ?_ ?_))
 all_goals first
  | exact aZ
  | exact aGZ (hN _ _ _ _)
  | (simp only [List.length_append,List.length_singleton];done)
  | (refine⟨rfl,rfl,?_,?_,e0,hl,?_,hsl,htk⟩
     ·dsimp only;rw [show(dqNF _ _ _ _ _ _ _).2=w.st from(aGU (hN _ _ _ _)).2];exact hst
     ·dsimp only;rw [show(dqNF _ _ _ _ _ _ _).2=w.st from(aGU (hN _ _ _ _)).2];exact(aGU (hN _ _ _ _)).1
     ·dsimp only;rw [List.length_append,List.length_singleton];omega)
theorem aCs{t n b tr:Int}{w:WKS}(h:W8 t n b w)(hl:w.en<(w.tk.length:Int)):QJ tr w:=by
 unfold QJ;cases hb:w.b with
 | true=>trivial
 | false=>exact aGZ (QI h hb hl)
theorem aCt{t n b tr:Int}{w:WKS}(h:W8 t n b w)(hl:w.en<(w.tk.length:Int)):QL t n b (wbF tr w):=by
 unfold wbF;cases hb:w.b with
 | true=>
   obtain⟨h1,h2,h3,h4,h5,h6,h7,h8,h9⟩:=h;rw [hb]at h7;exact⟨h1,h2,h3,(h4 hb).1,h5,hl,h7,h8,h9⟩
 | false=>exact aGU (QI h hb hl)
structure aEN (t n b:Int) (s:MS) (o:WkO):Prop where
 a:Act1 s o.s
 w:W8 t n (b+1) o.x
theorem YP{t n b:Int}{w:WK1}{s:MS}(hb:Bnd t n s)(h:QL t n b w)(hbb:b≤900000):(wsT w s).run (aEN t n b s):=by
 obtain⟨rfl,rfl,hst,hd,e0,e1,htl,hsl,htk⟩:=h;have hD:=aAa hb hd hst hbb;have hDo:=Z9 hb hd hst hbb;have hA:=hD.a;have hW:W (w.en+1)=w.en+1:=dB ⟨by omega,by omega⟩
 unfold wsT w35 w34
 (repeat' (with_reducible first | exact trivial | rfl | assumption | refine aGM ?_ ?_ | refine Tr.run_ite (fun _=>?_) (fun _=>?_) | refine aGO ?_ | refine And.intro ?_ ?_))
 all_goals first
  | exact aZ
  | (simp only [List.length_append,List.length_singleton,List.length_set];done)
  | (refine⟨hA,⟨rfl,rfl,hD.st,?_,?_,?_,?_,?_,htk⟩⟩
     ·first
       | (intro e;exact Bool.noConfusion e)
       | (intro e;exact⟨hD.w (by assumption),e1⟩)
     ·first | exact e0 | (dsimp only;rw [hW];omega)
     ·first | (dsimp only;omega) | (dsimp only;rw [hW];omega)
     ·dsimp only;rw [List.length_set]
      first | (rw [hW];show _=w.en+1+0;omega) | (show _=w.en+1;omega)
     ·dsimp only
      first | (rw [hW];simp only [List.length_append,List.length_singleton];omega) | (rw [hW];omega) | omega)
theorem aCB{t n b:Int}{w:WK1}{s:MS}(hb:Bnd t n s)(h:QL t n b w)(hbb:b≤900000):W9 w s:=aGZ (YP hb h hbb)
theorem aCC{t n b:Int}{w:WK1}{s:MS}(hb:Bnd t n s)(h:QL t n b w)(hbb:b≤900000):aEN t n b s (wsF w s):=aGU (YP hb h hbb)
structure egW (t n:Int) (x:EGS):Prop where
 ht:1≤t∧t≤8
 hn:1≤n∧n≤1000
 st:x.s.t=t
 sn:x.s.n=n
 xt:x.th=t
 xn:x.nd=n
 k:0≤x.k∧x.k≤60000
 c:x.s.c=x.k
 w:VP x.s.xs
 l:(x.ws.length:Int)=t
 ws: ∀i,i<x.ws.length→W8 t n x.k (a8 x.ws i)
 h:hstW (2*x.k) x.k x.h
theorem C9{ws:List WKS}{i j:Nat}{w:WKS}(hi:i<ws.length):a8 (cQ ws i w) j=if i=j then w else a8 ws j:=by
 unfold a8 cQ;rw [gD',List.getElem?_set,gD']
 by_cases e:i=j
 ·subst e;rw [if_pos rfl,if_pos rfl,if_pos hi];rfl
 ·rw [if_neg e,if_neg e]
theorem sB(ws:List WKS)(i:Nat)(w:WKS):(cQ ws i w).length =ws.length:=by unfold cQ;exact List.length_set
theorem F2{ws:List WKS}{i:Nat}(hi:i<ws.length):cQ ws i (a8 ws i)=ws:=by
 unfold cQ a8;apply List.ext_getElem
 ·simp
 ·intro j h1 h2;rw [List.getElem_set];split
  ·rename_i e;subst e;rw [gD',gE' hi];rfl
  ·rfl
structure VU (t n:Int) (x:EGS) (r:Bool×EGS):Prop where
 no:r.1=false→r.2=x
 yes:r.1=true→egW t n r.2∧r.2.k=x.k+1∧r.2.sh=x.sh∧r.2.tr=x.tr
 w:egW t n r.2
theorem tO{t n:Int}{x:EGS}(h:egW t n x):VU t n x (false,x):=⟨fun _=>rfl,fun e=>Bool.noConfusion e,h⟩
theorem qM{t n:Int}{x:EGS}{s:MS}{h:HST}{i:Nat}{w:WKS}(hx:egW t n x)(hk:x.k<60000)(hi:i<x.ws.length)(ha:Act1 x.s s)(hw:W8 t n (x.k+1) w)(hh:hstW (2*(x.k+1)) (x.k+1) h):
 VU t n x (true,{sh:=x.sh,th:=x.th,nd:=x.nd,tr:=x.tr,s:=s,h:=h,ws:=cQ x.ws i w,k:=W (x.k+1) }):=by
 obtain⟨ht,hn,st,sn,xt,xn,k,c,wd,l,ws,hst⟩:=hx;have hW:W (x.k+1)=x.k+1:=dB ⟨by omega,by omega⟩
 rw [hW]
 have hr:egW t n {sh:=x.sh,th:=x.th,nd:=x.nd,tr:=x.tr,s:=s,h:=h,ws:=cQ x.ws i w,k:=x.k+1} :=by
  refine⟨ht,hn,ha.t.trans st,ha.n.trans sn,xt,xn,?_,?_,ha.w wd,?_,?_,hh⟩
  ·dsimp only;omega
  ·dsimp only;rw [ha.c,c]
  ·dsimp only;rw [sB];exact l
  ·intro j hj;dsimp only at hj⊢;rw [sB]at hj;rw [C9 hi];split
   ·exact hw
   ·exact QO (ws j hj) (by omega)
 exact⟨fun e=>Bool.noConfusion e,fun _=>⟨hr,rfl,rfl,rfl⟩,hr⟩
theorem YB{t n:Int}{x:EGS}(th:Int)(hx:egW t n x):(pkT th x).run (VU t n x):=by
 have hx':=hx;obtain⟨ht,hn,st,sn,xt,xn,hk,hc,wd,hl,hws,hst⟩:=hx;have hB:Bnd t n x.s:=⟨⟨ht.1,by omega⟩,hn,by omega,wd⟩
 unfold pkT w38 w39;refine Tr.run_ite (fun e1=>?_) (fun e1=>Tr.run_ite (fun e2=>?_) (fun e2=>?_))
 · (repeat' (with_reducible first | exact trivial | rfl | assumption | refine aGM ?_ ?_ | refine Tr.run_ite (fun _=>?_) (fun _=>?_) | refine aGO ?_ | refine And.intro ?_ ?_));exact tO hx'
 · (repeat' (with_reducible first | exact trivial | rfl | assumption | refine aGM ?_ ?_ | refine Tr.run_ite (fun _=>?_) (fun _=>?_) | refine aGO ?_ | refine And.intro ?_ ?_));exact tO hx'
 rw [aV,dF']at e1;rw [cC,dF']at e2;have hi:0+Int.toNat th*1<x.ws.length:=by omega
 have hw:=hws _ hi;have hself:=F2 hi;generalize hig:0+Int.toNat th*1=i at*;refine aGM ⟨by omega,by omega⟩ (aGM hi (aGM trivial (Tr.run_ite (fun e3=>?_) (fun e3=>Tr.run_ite (fun e4=>?_) (fun e4=>?_)))))
 · (repeat' (with_reducible first | exact trivial | rfl | assumption | refine aGM ?_ ?_ | refine Tr.run_ite (fun _=>?_) (fun _=>?_) | refine aGO ?_ | refine And.intro ?_ ?_))
   all_goals first | assumption | (rw [hself];exact tO hx')
 · (repeat' (with_reducible first | exact trivial | rfl | assumption | refine aGM ?_ ?_ | refine Tr.run_ite (fun _=>?_) (fun _=>?_) | refine aGO ?_ | refine And.intro ?_ ?_))
   all_goals first | assumption | (rw [hself];exact tO hx')
 rw [cC,dF']at e4
 have hen:(a8 x.ws i).en <((a8 x.ws i).tk.length :Int):=by
  have h0:=hw.e0;have h1:=hw.e1;have h2:=hw.tk;have h3:=eL e3;have hW:=dB (x:=((a8 x.ws i).tk.length :Int) - (a8 x.ws i).en) ⟨by omega,by omega⟩
  have h4:W (((a8 x.ws i).tk.length :Int) - (a8 x.ws i).en)≠0:=h3;have hW:W (((a8 x.ws i).tk.length :Int) - (a8 x.ws i).en)=((a8 x.ws i).tk.length :Int) - (a8 x.ws i).en :=hW;rw [hW]at h4;omega
 have h1w:=aCt (tr:=x.tr) hw hen;have h1o:=aCs (tr:=x.tr) hw hen;refine aGM h1o ?_;have hS:=aCC hB h1w (by omega)
 have hSo:=aCB hB h1w (by omega)
 generalize wbF x.tr (a8 x.ws i)=w1 at*;generalize hsg:wsF w1 x.s=o at*;have hth:0≤th∧th<8:=by omega
 refine Tr.run_ite (fun e5=>?_) (fun e5=>?_)
 ·have hH:=aD1 (th:=th) (kd:=(WK1.d w1).6) (ky:=(WK1.d w1).7) hst (by omega) (by omega) hth
  have hHo:hbOk th x.h (WK1.d w1).6 (WK1.d w1).7:=aGZ hH;have hHv:hstW (2*x.k+1) (x.k+1) (hbF th x.h (WK1.d w1).6 (WK1.d w1).7).2:=aGU hH;generalize hbF th x.h (WK1.d w1).6 (WK1.d w1).7=y at*;have hE:=X2 (th:=th) (code:=o.1) (okk:=o.2) (val:=o.3) hHv (by omega) (by omega) hth
  have hEo:heOk th y.2 o.1 o.2 o.3:=aGZ hE;have hEv:hstW (2*x.k+1+1) (x.k+1) (heF th y.2 o.1 o.2 o.3).2:=aGU hE
  (repeat' (with_reducible first | exact trivial | rfl | assumption | refine aGM ?_ ?_ | refine Tr.run_ite (fun _=>?_) (fun _=>?_) | refine aGO ?_ | refine And.intro ?_ ?_))
  all_goals first
   | assumption
   | exact qM hx' (by omega) hi hS.a hS.w (jN hEv (by omega) (by omega))
   | exact qM hx' (by omega) hi hS.a hS.w (jN hHv (by omega) (by omega))
 ·have hE:=X2 (th:=th) (code:=o.1) (okk:=o.2) (val:=o.3) hst (by omega) (by omega) hth
  have hEo:heOk th x.h o.1 o.2 o.3:=aGZ hE;have hEv:hstW (2*x.k+1) x.k (heF th x.h o.1 o.2 o.3).2:=aGU hE
  (repeat' (with_reducible first | exact trivial | rfl | assumption | refine aGM ?_ ?_ | refine Tr.run_ite (fun _=>?_) (fun _=>?_) | refine aGO ?_ | refine And.intro ?_ ?_))
  all_goals first
   | assumption
   | exact qM hx' (by omega) hi hS.a hS.w (jN hEv (by omega) (by omega))
   | exact qM hx' (by omega) hi hS.a hS.w (jN hst (by omega) (by omega))
theorem aBT{t n:Int}{x:EGS}(th:Int)(hx:egW t n x):VT th x:=aGZ (YB th hx)
theorem FH{t n:Int}{x:EGS}(th:Int)(hx:egW t n x):VU t n x (pkF th x):=aGU (YB th hx)
end Go.Sh
