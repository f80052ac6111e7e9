import Derived.Test.YteindpciaceeeaaGreatZSh32toSh33
set_option linter.all false
set_option maxHeartbeats 8000000
namespace Go.Sh
open Go Go.Proofs
variable [Con]
theorem LV{n:Nat}(th tm:Nat→Int)(hn:n≤4294967296):DD Tryz.prog 114 (WG n th tm) (DM th tm n 0 60000):=by
 intro l Fr hY;exact LT l n th tm _ hY _ (aDd l n th tm _ hY _ hn rfl rfl)
def jX:Code→Code
 | .seq x _=>x
 | .block _ c=>c
 | c=>c
def jY:Code→Code
 | .seq _ y=>y
 | c=>c
def D0:Code→Code
 | .rangeFunc _ _ a _=>a
 | c=>c
def D3:Code→Code
 | .rangeFunc _ _ _ b=>b
 | c=>c
noncomputable def mT:Code:=(Tryz.f85.body).getD .skip
noncomputable def YB:Code:=.seq (jX mT) (.seq (jX (jY mT)) (jX (jX (jY (jY mT)))))
noncomputable def rJ:Code:=jX (jY (jX (jY (jY mT))))
noncomputable def MT:Code:=jX (jY (jY (jY mT)))
def GS(x:EGS)(n:Nat)(row:Nat→List AVal)(K:List AVal→aC Ob→Prop):Prop:=K [.func (Fn.func 41) [.ptr 0 0] [],.view n 2 row,.ptr 1 0,.raw (Value.tuple {toList:=[] }),.int .i64 0,.ptr 2 0,.raw (Value.tuple {toList:=[] }),.view n 2 row,.func (Fn.func 114) [] [.ptr 3 0],.raw (Value.tuple {toList:=[] }),.raw (Value.tuple {toList:=[] }),.raw (Value.tuple {toList:=[] }),.raw (Value.tuple {toList:=[] }),.raw (Value.tuple {toList:=[] }),.raw (Value.tuple {toList:=[] }),.raw (Value.tuple {toList:=[] })] [some (.abs (.engine x) []),some (.cells [.func (Fn.func 41) [.ptr 0 0] []]),some (.cells [.int .i64 0]),some (.cells [.view n 2 row])]
theorem IV(x:EGS)(n:Nat)(row:Nat→List AVal)(K:List AVal→aC Ob→Prop)(h:GS x n row K):Ev (cN EU9 (mU EU9 LL 9) 16 YB ([.func (.func 41) [.ptr 0 0] [],.view n 2 row]++List.replicate 14 (.raw undef)) [some (.abs (.engine x) [])] K):=aK (q:=GS x n row K) (by kernel_rfl) h
def NH(x:EGS)(n:Nat)(row:Nat→List AVal)(c u:Int)(K:aC Ob→Prop):Prop:=O4 u x∧bif (pkF u x).1 then K [some (.abs (.engine (pkF u x).2) []),some (.cells [.func (Fn.func 41) [.ptr 0 0] []]),some (.cells [.int .i64 (W (c+1))])]else K [some (.abs (.engine (pkF u x).2) []),some (.cells [.func (Fn.func 41) [.ptr 0 0] []]),some (.cells [.int .i64 c])]
theorem IW(x:EGS)(n:Nat)(row:Nat→List AVal)(c u:Int)(K:aC Ob→Prop)(h:NH x n row c u K):Ev (cN EU9 (mU EU9 LL 9) 16 (D0 rJ) (List.set (([.func (.func 41) [.ptr 0 0] [],.view n 2 row,.ptr 1 0,.raw undef,.int .i64 0,.ptr 2 0,.raw undef,.view n 2 row,.O]:List AVal)++List.replicate 7 (.raw undef)) 9 (.int .i64 u)) [some (.abs (.engine x) []),some (.cells [.func (.func 41) [.ptr 0 0] []]),some (.cells [.int .i64 c])] (fun tm1 h1=>cN EU9 (mU EU9 LL 9) 16 (D3 rJ) tm1 h1 (fun _ h2=>K h2))):=aK (q:=NH x n row c u K) (by kernel_rfl) h
def NJ(x:EGS)(n:Nat)(row:Nat→List AVal)(c:Int)(K:List AVal→aC Ob→Prop):Prop:=K [.func (Fn.func 41) [.ptr 0 0] [],.view n 2 row,.ptr 1 0,.raw (Value.tuple {toList:=[] }),.int .i64 c,.ptr 2 0,.raw (Value.tuple {toList:=[] }),.view n 2 row,.O,.raw (Value.tuple {toList:=[] }),.raw (Value.tuple {toList:=[] }),.raw (Value.tuple {toList:=[] }),.raw (Value.tuple {toList:=[] }),.raw (Value.tuple {toList:=[] }),.raw (Value.tuple {toList:=[] }),.int .i64 c] [some (.abs (.engine x) []),some (.cells [.func (Fn.func 41) [.ptr 0 0] []]),some (.cells [.int .i64 c])]
theorem IX(x:EGS)(n:Nat)(row:Nat→List AVal)(c:Int)(K:List AVal→aC Ob→Prop)(h:NJ x n row c K):Ev (cN EU9 (mU EU9 LL 9) 16 MT ([.func (.func 41) [.ptr 0 0] [],.view n 2 row,.ptr 1 0,.raw undef,.int .i64 0,.ptr 2 0,.raw undef,.view n 2 row,.O]++List.replicate 7 (.raw undef)) [some (.abs (.engine x) []),some (.cells [.func (.func 41) [.ptr 0 0] []]),some (.cells [.int .i64 c])] K):=aK (q:=NJ x n row c K) (by kernel_rfl) h
theorem aHa{X:Type}{K:X→Prop} : ∀ {t:Tr X},t.run K→t.ok
 | .ret x,k=>trivial
 | .ite b l r,k=>by cases b with
   | true=>exact aHa (t:=l) k
   | false=>exact aHa (t:=r) k
 | .pre p t,k=>⟨k.1,aHa (t:=t) k.2⟩
theorem aG5{X:Type}{K:X→Prop} : ∀ {t:Tr X},t.run K→K t.val
 | .ret x,k=>k
 | .ite b l r,k=>by cases b with
   | true=>exact aG5 (t:=l) k
   | false=>exact aG5 (t:=r) k
 | .pre p t,k=>aG5 (t:=t) k.2
theorem Tr.run_ite{X:Type}{K:X→Prop}{b:Bool}{l r:Tr X}(h1:b=true→l.run K)(h2:b=false→r.run K):(Tr.ite b l r).run K:=aI h1 h2
theorem aGW{X:Type}{K:X→Prop}{b:Bool}{l r:Tr X}(h1:b=true→l.run K)(h2:b=false→r.run K):(bif b then l else r).run K:=by
 cases b with
 | true=>exact h1 rfl
 | false=>exact h2 rfl
theorem aGX{X:Type}{K:X→Prop}{p:Prop}{t:Tr X}(h1:p)(h2:t.run K):(Tr.pre p t).run K:=⟨h1,h2⟩
theorem aGZ{X:Type}{K:X→Prop}{x:X}(h:K x):(Tr.ret x).run K:=h
theorem nE'{P Q:Prop}(h:¬P:=by dsimp only;decide):P→Q:=fun e=>absurd e h
structure rngU (x:Int):Prop where
 h0:0≤x
 h1:x≤18446744073709551615
theorem CX:rngU 0:=⟨by decide,by decide⟩
theorem FU(x:Int):rngU (WU x):=⟨(LO x).1,(LO x).2⟩
theorem PU{xs:List Int}(h:WB xs)(a:Int):rngU (aE xs a):=⟨(uR h a).1,(uR h a).2⟩
theorem yM{b:Bool}{x y:Int}(h1:b=true→rngU x)(h2:rngU y):rngU (bif b then x else y):=by
 cases b with
 | true=>exact h1 rfl
 | false=>exact h2
theorem lB{n w:Int}(h:aM n w=true):0≤n∧n<2^w.toNat:=by
 unfold aM at h;simp only [Bool.and_eq_true,cC,aU,dT']at h;exact h
theorem L4(b:Bool):0≤bitI b∧bitI b≤1:=by cases b<;>decide
theorem PT{a b c d e f:Int}{m:Bool} :rngU (bif dOk a b c d e f then cJ a b c d m e f else 0):=by
 refine yM (fun h=>?_) CX;unfold dOk at h;simp only [Bool.and_eq_true]at h;obtain⟨h1,h2,h3,h4,h5,h6⟩:=h;have h1:=lB h1;have h2:=lB h2;have h3:=lB h3;have h4:=lB h4;have h5:=lB h5;have h6:=lB h6;have hb:=L4 m;simp only [Int.reduceToNat,Int.reducePow]at h1 h2 h3 h4 h5 h6;unfold cJ;exact⟨by omega,by omega⟩
theorem WW{a b c v:Int}{m:Bool} :rngU (bif bif aM a 10 then bif aM b 9 then bif aM c 5 then aM v 18 else false else false else false then cK a b m c v else 0):=by
 refine yM (fun h=>?_) CX;cases h1:aM a 10 with
 | false=>rw [h1]at h;cases h
 | true=>
   cases h2:aM b 9 with
   | false=>rw [h1,h2]at h;cases h
   | true=>
     cases h3:aM c 5 with
     | false=>rw [h1,h2,h3]at h;cases h
     | true=>
       rw [h1,h2,h3]at h;have h:=lB (show aM v 18=true from h)
       have h1:=lB h1;have h2:=lB h2;have h3:=lB h3;have hb:=L4 m;simp only [Int.reduceToNat,Int.reducePow]at h h1 h2 h3;unfold cK;exact⟨by omega,by omega⟩
structure Act1 (s s':MS):Prop where
 c:s'.c=s.c+1
 len:s'.xs.length=s.xs.length
 w:WB s.xs→WB s'.xs
 t:s'.t=s.t
 n:s'.n=s.n
theorem zF(s:MS)(k a o w:Int)(ok:Bool):Act1 s ⟨s.t,s.n,s.xs,s.c+1,k,a,o,w,ok⟩:=⟨rfl,rfl,id,rfl,rfl⟩
theorem xL(s:MS)(b v k a o w:Int)(ok:Bool)(h:rngU v):Act1 s ⟨s.t,s.n,aX s.xs b v,s.c+1,k,a,o,w,ok⟩:=⟨rfl,kT _ _ _,fun hw=>WC hw ⟨h.h0,h.h1⟩,rfl,rfl⟩
theorem GI(s:MS)(q:Bool)(b v k a o w:Int)(ok:Bool)(h:rngU v):Act1 s ⟨s.t,s.n,bif q then aX s.xs b v else s.xs,s.c+1,k,a,o,w,ok⟩:=by
 cases q with
 | true=>exact xL s b v k a o w ok h
 | false=>exact zF s k a o w ok
theorem SQ(x a:Int)(w:Int):0≤aA x a w∧aA x a w<2^w.toNat:=SN
structure Bnd (t n:Int) (s:MS):Prop where
 ht:1≤t∧t≤1000
 hn:1≤n∧n≤1000
 hc:0≤s.c∧s.c≤900000
 hw:WB s.xs
theorem nM{P:Prop}(h:P:=by(with_reducible first | exact CX | exact FU _ | exact PT | exact WW | assumption)):P:=h
theorem z6{P:Prop}(h:P:=by(simp only [aA,Int.reduceToNat,Int.reducePow];omega)):P:=h
theorem aY{P:Prop}(h:P:=by(first
 | with_reducible exact trivial
 | with_reducible rfl
 | with_reducible assumption
 | with_reducible exact zF _ _ _ _ _ _
 | ((with_reducible refine xL _ _ _ _ _ _ _ _ ?_);exact nM)
 | ((with_reducible refine GI _ _ _ _ _ _ _ _ _ ?_);exact nM)
 | omega
 | exact z6
 | decide)):P:=h
theorem vH{P:Prop}(h:P:=by first | exact nM | (exact PU (by assumption) _)):P:=h
theorem dH{P:Prop}(h:P:=by(dsimp only;first | omega | (constructor<;>omega) | exact z6)):P:=h
structure X5 (t:Int) (x:CLS):Prop where
 h:x.at'=0∨x.at'=1∨x.at'=2∨x.at'=3
structure aDp (t:Int) (s:MS) (o:ClO):Prop where
 a:Act1 s o.s
 w:o.d=false→X5 t o.x
theorem X6{t n:Int}{x:CLS}{s:MS}(hb:Bnd t n s)(hx:X5 t x):(clT t n x s).run (aDp t s):=by
 obtain⟨⟨t0,t1⟩,⟨n0,n1⟩,⟨c0,c1⟩,hw⟩:=hb;obtain⟨h⟩:=hx;unfold clT;refine aGW (fun h0=>?_) (fun h0=>aGW (fun h1=>?_) (fun h1=>aGW (fun h2=>?_) (fun h2=>aGW (fun h3=>?_) (fun h3=>?_))))
 ·unfold zW
  (repeat' (with_reducible first | exact trivial | rfl | assumption | refine aGX ?_ ?_ | refine Tr.run_ite (fun _=>?_) (fun _=>?_) | refine aGZ ?_ | refine And.intro ?_ ?_))
  all_goals first | exact aY | (refine⟨by exact aY,fun hd=>?_⟩;first | (exact Bool.noConfusion hd) | exact⟨by dsimp only;decide⟩)
 ·unfold zX w04 w05 w06
  (repeat' (with_reducible first | exact trivial | rfl | assumption | refine aGX ?_ ?_ | refine Tr.run_ite (fun _=>?_) (fun _=>?_) | refine aGZ ?_ | refine And.intro ?_ ?_))
  all_goals first | exact aY | (refine⟨by exact aY,fun hd=>?_⟩;first | (exact Bool.noConfusion hd) | exact⟨by dsimp only;decide⟩)
 ·unfold zY w05 w06
  (repeat' (with_reducible first | exact trivial | rfl | assumption | refine aGX ?_ ?_ | refine Tr.run_ite (fun _=>?_) (fun _=>?_) | refine aGZ ?_ | refine And.intro ?_ ?_))
  all_goals first | exact aY | (refine⟨by exact aY,fun hd=>?_⟩;first | (exact Bool.noConfusion hd) | exact⟨by dsimp only;decide⟩)
 ·unfold zZ w07
  (repeat' (with_reducible first | exact trivial | rfl | assumption | refine aGX ?_ ?_ | refine Tr.run_ite (fun _=>?_) (fun _=>?_) | refine aGZ ?_ | refine And.intro ?_ ?_))
  all_goals first | exact aY | (refine⟨by exact aY,fun hd=>?_⟩;first | (exact Bool.noConfusion hd) | exact⟨by dsimp only;decide⟩)
 ·simp only [cL,beq_eq_false_iff_ne]at h0 h1 h2 h3;rcases h with e | e | e | e<;>contradiction
theorem DZ{t n:Int}{x:CLS}{s:MS}(hb:Bnd t n s)(hx:X5 t x):L8 t n x s:=aHa (X6 hb hx)
theorem xS{t n:Int}{x:CLS}{s:MS}(hb:Bnd t n s)(hx:X5 t x):aDp t s (oQ t n x s):=aG5 (X6 hb hx)
structure hdW (t:Int) (x:HDS):Prop where
 h:0≤x.at'∧x.at'≤1000
 u: -1≤x.u∧x.u≤1000
structure aEm (t:Int) (s:MS) (o:HdO):Prop where
 a:Act1 s o.s
 w:o.d=false→hdW t o.x
 p: -1≤o.x.u∧o.x.u≤1000
theorem YM{t n:Int}{x:HDS}{s:MS}(hb:Bnd t n s)(hx:hdW t x):(hdT t n x s).run (aEm t s):=by
 obtain⟨⟨t0,t1⟩,⟨n0,n1⟩,⟨c0,c1⟩,hw⟩:=hb;obtain⟨⟨h0,h1⟩,⟨u0,u1⟩⟩:=hx;have hW:W (x.at'+1)=x.at'+1:=cW ⟨by omega,by omega⟩
 unfold hdT;unfold U7 w08 w09;rw [hW]
 (repeat' (with_reducible first | exact trivial | rfl | assumption | refine aGX ?_ ?_ | refine Tr.run_ite (fun _=>?_) (fun _=>?_) | refine aGZ ?_ | refine And.intro ?_ ?_))
 all_goals first | exact aY | (refine⟨by exact aY,fun hd=>by first | (exact Bool.noConfusion hd) | (refine⟨?_,?_⟩<;>dsimp only at hd⊢ <;>first | omega | (simp only [cC,dF']at hd;omega)),?_⟩;exact dH)
theorem aBB{t n:Int}{x:HDS}{s:MS}(hb:Bnd t n s)(hx:hdW t x):aBy t n x s:=aHa (YM hb hx)
theorem aBC{t n:Int}{x:HDS}{s:MS}(hb:Bnd t n s)(hx:hdW t x):aEm t s (pS t n x s):=aG5 (YM hb hx)
structure drW (t:Int) (x:DRS):Prop where
 h:0≤x.th∧x.th≤1000
 u:0≤x.at'∧x.at'≤2
structure aDv (t:Int) (s:MS) (o:DrO):Prop where
 a:Act1 s o.s
 w:o.d=false→drW t o.x
theorem X9{t n:Int}{x:DRS}{s:MS}(hb:Bnd t n s)(hx:drW t x):(drT t n x s).run (aDv t s):=by
 obtain⟨⟨t0,t1⟩,⟨n0,n1⟩,⟨c0,c1⟩,hw⟩:=hb;obtain⟨⟨h0,h1⟩,⟨u0,u1⟩⟩:=hx;have hW:W (x.at'+1)=x.at'+1:=cW ⟨by omega,by omega⟩
 unfold drT;unfold TE;rw [hW]
 (repeat' (with_reducible first | exact trivial | rfl | assumption | refine aGX ?_ ?_ | refine Tr.run_ite (fun _=>?_) (fun _=>?_) | refine aGZ ?_ | refine And.intro ?_ ?_))
 all_goals first | exact aY | (refine⟨by exact aY,fun hd=>?_⟩;first | (exact Bool.noConfusion hd) | (refine⟨?_,?_⟩<;>dsimp only at hd⊢ <;>first | omega | (simp only [cC,dF']at hd;omega)))
theorem aAy{t n:Int}{x:DRS}{s:MS}(hb:Bnd t n s)(hx:drW t x):aAv t n x s:=aHa (X9 hb hx)
theorem aAz{t n:Int}{x:DRS}{s:MS}(hb:Bnd t n s)(hx:drW t x):aDv t s (RG t n x s):=aG5 (X9 hb hx)
structure anW (t:Int) (x:ANS):Prop where
 h:x.at'=0∨x.at'=1∨x.at'=2∨x.at'=3∨x.at'=4
 m:0≤x.me∧x.me≤1000
 b:rngU x.bits
 q:rngU x.no
structure aDf (t:Int) (s:MS) (o:AnO):Prop where
 a:Act1 s o.s
 w:o.d=false→anW t o.x
theorem X2{t n:Int}{x:ANS}{s:MS}(hb:Bnd t n s)(hx:anW t x):(anT t n x s).run (aDf t s):=by
 obtain⟨⟨t0,t1⟩,⟨n0,n1⟩,⟨c0,c1⟩,hw⟩:=hb;obtain⟨h,⟨m0,m1⟩,b,q⟩:=hx;unfold anT;refine aGW (fun h0=>?_) (fun h0=>aGW (fun h1=>?_) (fun h1=>aGW (fun h2=>?_) (fun h2=>aGW (fun h3=>?_) (fun h3=>aGW (fun h4=>?_) (fun h4=>?_)))))
 ·unfold zJ w0a
  (repeat' (with_reducible first | exact trivial | rfl | assumption | refine aGX ?_ ?_ | refine Tr.run_ite (fun _=>?_) (fun _=>?_) | refine aGZ ?_ | refine And.intro ?_ ?_))
  all_goals first | exact aY | (refine⟨by exact aY,fun hd=>?_⟩;first | (exact Bool.noConfusion hd) | exact⟨by dsimp only;decide,⟨m0,m1⟩,by assumption,by exact vH⟩)
 ·unfold zK
  (repeat' (with_reducible first | exact trivial | rfl | assumption | refine aGX ?_ ?_ | refine Tr.run_ite (fun _=>?_) (fun _=>?_) | refine aGZ ?_ | refine And.intro ?_ ?_))
  all_goals first | exact aY | (refine⟨by exact aY,fun hd=>?_⟩;first | (exact Bool.noConfusion hd) | exact⟨by dsimp only;decide,⟨m0,m1⟩,by assumption,by exact vH⟩)
 ·unfold zL w0a
  (repeat' (with_reducible first | exact trivial | rfl | assumption | refine aGX ?_ ?_ | refine Tr.run_ite (fun _=>?_) (fun _=>?_) | refine aGZ ?_ | refine And.intro ?_ ?_))
  all_goals first | exact aY | (refine⟨by exact aY,fun hd=>?_⟩;first | (exact Bool.noConfusion hd) | exact⟨by dsimp only;decide,⟨m0,m1⟩,by assumption,by exact vH⟩)
 ·unfold zM w0a
  (repeat' (with_reducible first | exact trivial | rfl | assumption | refine aGX ?_ ?_ | refine Tr.run_ite (fun _=>?_) (fun _=>?_) | refine aGZ ?_ | refine And.intro ?_ ?_))
  all_goals first | exact aY | (refine⟨by exact aY,fun hd=>?_⟩;first | (exact Bool.noConfusion hd) | exact⟨by dsimp only;decide,⟨m0,m1⟩,by assumption,by exact vH⟩)
 ·unfold zN w0b w0a
  (repeat' (with_reducible first | exact trivial | rfl | assumption | refine aGX ?_ ?_ | refine Tr.run_ite (fun _=>?_) (fun _=>?_) | refine aGZ ?_ | refine And.intro ?_ ?_))
  all_goals first | exact aY | (refine⟨by exact aY,fun hd=>?_⟩;first | (exact Bool.noConfusion hd) | exact⟨by dsimp only;decide,⟨m0,m1⟩,by assumption,by exact vH⟩)
 ·simp only [cL,beq_eq_false_iff_ne]at h0 h1 h2 h3 h4;rcases h with e | e | e | e | e<;>contradiction
theorem ZP{t n:Int}{x:ANS}{s:MS}(hb:Bnd t n s)(hx:anW t x):ZN t n x s:=aHa (X2 hb hx)
theorem ZQ{t n:Int}{x:ANS}{s:MS}(hb:Bnd t n s)(hx:anW t x):aDf t s (DR t n x s):=aG5 (X2 hb hx)
structure awW (t:Int) (x:AWS):Prop where
 m:0≤x.me∧x.me≤1000
structure aDk (t:Int) (s:MS) (o:AwO):Prop where
 a:Act1 s o.s
 w:o.d=false→awW t o.x
theorem X4{t n:Int}{x:AWS}{s:MS}(hb:Bnd t n s)(hx:awW t x):(awT t n x s).run (aDk t s):=by
 obtain⟨⟨t0,t1⟩,⟨n0,n1⟩,⟨c0,c1⟩,hw⟩:=hb;obtain⟨⟨m0,m1⟩⟩:=hx;unfold awT;unfold SC w0c
 (repeat' (with_reducible first | exact trivial | rfl | assumption | refine aGX ?_ ?_ | refine Tr.run_ite (fun _=>?_) (fun _=>?_) | refine aGZ ?_ | refine And.intro ?_ ?_))
 all_goals first | exact aY | (refine⟨by exact aY,fun hd=>?_⟩;first | (exact Bool.noConfusion hd) | exact⟨⟨m0,m1⟩⟩)
theorem ZY{t n:Int}{x:AWS}{s:MS}(hb:Bnd t n s)(hx:awW t x):ZV t n x s:=aHa (X4 hb hx)
theorem ZZ{t n:Int}{x:AWS}{s:MS}(hb:Bnd t n s)(hx:awW t x):aDk t s (sD t n x s):=aG5 (X4 hb hx)
structure exW (t:Int) (x:EXS):Prop where
 h:x.at'=0∨x.at'=1∨x.at'=2∨x.at'=3∨x.at'=4∨x.at'=5∨x.at'=6∨x.at'=7∨x.at'=8∨x.at'=9
 m:0≤x.u∧x.u≤1000
 po:0≤x.popped∧x.popped≤1000
structure aDW (t:Int) (s:MS) (o:ExO):Prop where
 a:Act1 s o.s
 w:o.d=false→exW t o.x
 p:0≤o.x.popped∧o.x.popped≤1000
theorem YD{t n:Int}{x:EXS}{s:MS}(hb:Bnd t n s)(hx:exW t x):(exT t n x s).run (aDW t s):=by
 obtain⟨⟨t0,t1⟩,⟨n0,n1⟩,⟨c0,c1⟩,hw⟩:=hb;obtain⟨h,⟨m0,m1⟩,⟨p0,p1⟩⟩:=hx;unfold exT;refine aGW (fun h0=>?_) (fun h0=>aGW (fun h1=>?_) (fun h1=>aGW (fun h2=>?_) (fun h2=>aGW (fun h3=>?_) (fun h3=>aGW (fun h4=>?_) (fun h4=>aGW (fun h5=>?_) (fun h5=>aGW (fun h6=>?_) (fun h6=>aGW (fun h7=>?_) (fun h7=>aGW (fun h8=>?_) (fun h8=>aGW (fun h9=>?_) (fun h9=>?_))))))))))
 ·unfold AU w0n w0m w0l w0s w0i w0g
  (repeat' (with_reducible first | exact trivial | rfl | assumption | refine aGX ?_ ?_ | refine Tr.run_ite (fun _=>?_) (fun _=>?_) | refine aGZ ?_ | refine And.intro ?_ ?_))
  all_goals first | exact aY | (refine⟨by exact aY,fun hd=>by first | (exact Bool.noConfusion hd) | exact⟨by dsimp only;decide,⟨m0,m1⟩,by exact dH⟩,?_⟩;exact dH)
 ·unfold AV w0f w0o w0r w0j
  (repeat' (with_reducible first | exact trivial | rfl | assumption | refine aGX ?_ ?_ | refine Tr.run_ite (fun _=>?_) (fun _=>?_) | refine aGZ ?_ | refine And.intro ?_ ?_))
  all_goals first | exact aY | (refine⟨by exact aY,fun hd=>by first | (exact Bool.noConfusion hd) | exact⟨by dsimp only;decide,⟨m0,m1⟩,by exact dH⟩,?_⟩;exact dH)
 ·unfold AW w0e w0k
  (repeat' (with_reducible first | exact trivial | rfl | assumption | refine aGX ?_ ?_ | refine Tr.run_ite (fun _=>?_) (fun _=>?_) | refine aGZ ?_ | refine And.intro ?_ ?_))
  all_goals first | exact aY | (refine⟨by exact aY,fun hd=>by first | (exact Bool.noConfusion hd) | exact⟨by dsimp only;decide,⟨m0,m1⟩,by exact dH⟩,?_⟩;exact dH)
 ·unfold AX w0k w0g
  (repeat' (with_reducible first | exact trivial | rfl | assumption | refine aGX ?_ ?_ | refine Tr.run_ite (fun _=>?_) (fun _=>?_) | refine aGZ ?_ | refine And.intro ?_ ?_))
  all_goals first | exact aY | (refine⟨by exact aY,fun hd=>by first | (exact Bool.noConfusion hd) | exact⟨by dsimp only;decide,⟨m0,m1⟩,by exact dH⟩,?_⟩;exact dH)
 ·unfold AY w0k w0g
  (repeat' (with_reducible first | exact trivial | rfl | assumption | refine aGX ?_ ?_ | refine Tr.run_ite (fun _=>?_) (fun _=>?_) | refine aGZ ?_ | refine And.intro ?_ ?_))
  all_goals first | exact aY | (refine⟨by exact aY,fun hd=>by first | (exact Bool.noConfusion hd) | exact⟨by dsimp only;decide,⟨m0,m1⟩,by exact dH⟩,?_⟩;exact dH)
 ·unfold AZ w0p w0r w0d w0j
  (repeat' (with_reducible first | exact trivial | rfl | assumption | refine aGX ?_ ?_ | refine Tr.run_ite (fun _=>?_) (fun _=>?_) | refine aGZ ?_ | refine And.intro ?_ ?_))
  all_goals first | exact aY | (refine⟨by exact aY,fun hd=>by first | (exact Bool.noConfusion hd) | exact⟨by dsimp only;decide,⟨m0,m1⟩,by exact dH⟩,?_⟩;exact dH)
 ·unfold A0 w0t
  (repeat' (with_reducible first | exact trivial | rfl | assumption | refine aGX ?_ ?_ | refine Tr.run_ite (fun _=>?_) (fun _=>?_) | refine aGZ ?_ | refine And.intro ?_ ?_))
  all_goals first | exact aY | (refine⟨by exact aY,fun hd=>by first | (exact Bool.noConfusion hd) | exact⟨by dsimp only;decide,⟨m0,m1⟩,by exact dH⟩,?_⟩;exact dH)
 ·unfold A1 w0g
  (repeat' (with_reducible first | exact trivial | rfl | assumption | refine aGX ?_ ?_ | refine Tr.run_ite (fun _=>?_) (fun _=>?_) | refine aGZ ?_ | refine And.intro ?_ ?_))
  all_goals first | exact aY | (refine⟨by exact aY,fun hd=>by first | (exact Bool.noConfusion hd) | exact⟨by dsimp only;decide,⟨m0,m1⟩,by exact dH⟩,?_⟩;exact dH)
 ·unfold A2 w0h w0q w0g
  (repeat' (with_reducible first | exact trivial | rfl | assumption | refine aGX ?_ ?_ | refine Tr.run_ite (fun _=>?_) (fun _=>?_) | refine aGZ ?_ | refine And.intro ?_ ?_))
  all_goals first | exact aY | (refine⟨by exact aY,fun hd=>by first | (exact Bool.noConfusion hd) | exact⟨by dsimp only;decide,⟨m0,m1⟩,by exact dH⟩,?_⟩;exact dH)
 ·unfold A3 w0u
  (repeat' (with_reducible first | exact trivial | rfl | assumption | refine aGX ?_ ?_ | refine Tr.run_ite (fun _=>?_) (fun _=>?_) | refine aGZ ?_ | refine And.intro ?_ ?_))
  all_goals first | exact aY | (refine⟨by exact aY,fun hd=>by first | (exact Bool.noConfusion hd) | exact⟨by dsimp only;decide,⟨m0,m1⟩,by exact dH⟩,?_⟩;exact dH)
 ·simp only [cL,beq_eq_false_iff_ne]at h0 h1 h2 h3 h4 h5 h6 h7 h8 h9;rcases h with e | e | e | e | e | e | e | e | e | e<;>contradiction
theorem aAX{t n:Int}{x:EXS}{s:MS}(hb:Bnd t n s)(hx:exW t x):aAV t n x s:=aHa (YD hb hx)
theorem aAY{t n:Int}{x:EXS}{s:MS}(hb:Bnd t n s)(hx:exW t x):aDW t s (AT t n x s):=aG5 (YD hb hx)
structure YX (t:Int) (x:PRS):Prop where
 h:True
structure aEP (t:Int) (s:MS) (st:STS) (o:PrO):Prop where
 a:Act1 s o.s
 w:o.d=false→YX t o.x
 st:o.st=st
theorem YY{t n:Int}{x:PRS}{st:STS}{s:MS}(hb:Bnd t n s)(hx:YX t x):(prT t n x st s).run (aEP t s st):=by
 obtain⟨⟨t0,t1⟩,⟨n0,n1⟩,⟨c0,c1⟩,hw⟩:=hb;obtain⟨h⟩:=hx;unfold prT;unfold WM w0v
 (repeat' (with_reducible first | exact trivial | rfl | assumption | refine aGX ?_ ?_ | refine Tr.run_ite (fun _=>?_) (fun _=>?_) | refine aGZ ?_ | refine And.intro ?_ ?_))
 all_goals first | exact aY | (refine⟨by exact aY,fun hd=>?_,rfl⟩;first | (exact Bool.noConfusion hd) | exact⟨trivial⟩)
theorem PI{t n:Int}{x:PRS}{st:STS}{s:MS}(hb:Bnd t n s)(hx:YX t x):PG t n x st s:=aHa (YY hb hx)
theorem PJ{t n:Int}{x:PRS}{st:STS}{s:MS}(hb:Bnd t n s)(hx:YX t x):aEP t s st (prF t n x st s):=aG5 (YY hb hx)
theorem f6{a b:Int}(h:ieq a b=true):a=b:=by simpa [cL]using h
theorem eT{a b:Int}(h:ieq a b=false):a≠b:=by simpa [cL]using h
def eA(l:List Int):Prop:= ∀r∈l,0≤r∧r≤1000
theorem rT:eA []:=fun r h=>nomatch h
theorem vA{l:List Int}{a:Int}(h:eA l)(ha:0≤a∧a≤1000):eA (l++ [a]):=by
 intro r hr;rcases List.mem_append.1 hr with h1 | h1
 ·exact h r h1
 ·rw [List.mem_singleton.1 h1];exact ha
theorem KZ{l m:List Int}(h:eA l)(hm:eA m):eA (l++m):=by
 intro r hr;rcases List.mem_append.1 hr with h1 | h1
 ·exact h r h1
 ·exact hm r h1
theorem jE(t n a:Int):pW t n a:=⟨⟨rfl,rfl⟩,trivial⟩
theorem DY(t n a:Int):X5 t (xQ t n a):=⟨.inl rfl⟩
theorem aFw(x a:Int):0≤aA x a 9∧aA x a 9≤1000:=by
 have:=SQ x a 9;simp only [Int.reduceToNat,Int.reducePow]at this;omega
structure LI (b:Int) (x:FNS):Prop where
 m:0≤x.me∧x.me≤1000
 cu:0≤x.curr∧x.curr≤1000
 ul:eA x.ul
 ln:(x.ul.length:Int)≤b
structure UD (t:Int) (x:FNS):Prop where
 h:x.at'=0∨x.at'=1∨x.at'=2∨x.at'=3∨x.at'=4∨x.at'=5∨x.at'=6
 cl:x.at'=4→X5 t x.cl
structure aDZ (t b:Int) (s:MS) (o:FnO):Prop where
 a:Act1 s o.s
 q:LI (b+1) o.x
 w:o.d=false→UD t o.x
theorem pH{P:Prop}(h:P:=by(refine⟨?_,⟨?_,?_,?_,?_⟩,fun hd=>?_⟩<;>first
 | exact aY
 | (exact(xS (by assumption) (by assumption)).a)
 | (constructor<;>assumption)
 | exact aFw _ _
 | (exact vA (by assumption) ⟨by assumption,by assumption⟩)
 | exact rT
 | (dsimp only;simp only [List.length_append,List.length_singleton,List.length_nil];omega)
 | exact Bool.noConfusion hd
 | exact⟨by dsimp only;decide,fun e=>absurd e (by dsimp only;decide)⟩
 | exact⟨by dsimp only;decide,fun e=>(xS (by assumption) (by assumption)).w (by assumption)⟩
 | exact⟨by dsimp only;decide,fun e=>by dsimp only;with_reducible exact DY _ _ _⟩)):P:=h
theorem YE{t n b:Int}{x:FNS}{s:MS}(hb:Bnd t n s)(hx:UD t x)(hq:LI b x)(hbb:b≤900000):(fnT t n x s).run (aDZ t b s):=by
 have hb':=hb;obtain⟨⟨t0,t1⟩,⟨n0,n1⟩,⟨c0,c1⟩,hw⟩:=hb;obtain⟨h,hcl⟩:=hx;obtain⟨⟨m0,m1⟩,⟨q0,q1⟩,hul,hln⟩:=hq;have b0:0≤b:=by omega
 unfold fnT;refine aGW (fun h0=>?_) (fun h0=>aGW (fun h1=>?_) (fun h1=>aGW (fun h2=>?_) (fun h2=>aGW (fun h3=>?_) (fun h3=>aGW (fun h4=>?_) (fun h4=>aGW (fun h5=>?_) (fun h5=>aGW (fun h6=>?_) (fun h6=>?_)))))))
 ·unfold A8 w11 w16 w0z w13 w15 w14 w1f
  (repeat' (with_reducible first | exact trivial | rfl | assumption | refine aGX ?_ ?_ | refine Tr.run_ite (fun _=>?_) (fun _=>?_) | refine aGZ ?_ | refine And.intro ?_ ?_))
  all_goals first | exact aY | exact jE _ _ _ | (simp only [List.length_append,List.length_singleton];done) | exact pH
 ·unfold A9
  (repeat' (with_reducible first | exact trivial | rfl | assumption | refine aGX ?_ ?_ | refine Tr.run_ite (fun _=>?_) (fun _=>?_) | refine aGZ ?_ | refine And.intro ?_ ?_))
  all_goals first | exact aY | exact jE _ _ _ | (simp only [List.length_append,List.length_singleton];done) | exact pH
 ·unfold BA w11 w16 w0z w13 w15 w1f w14
  (repeat' (with_reducible first | exact trivial | rfl | assumption | refine aGX ?_ ?_ | refine Tr.run_ite (fun _=>?_) (fun _=>?_) | refine aGZ ?_ | refine And.intro ?_ ?_))
  all_goals first | exact aY | exact jE _ _ _ | (simp only [List.length_append,List.length_singleton];done) | exact pH
 ·unfold BB w1b w1d w1c w1a
  (repeat' (with_reducible first | exact trivial | rfl | assumption | refine aGX ?_ ?_ | refine Tr.run_ite (fun _=>?_) (fun _=>?_) | refine aGZ ?_ | refine And.intro ?_ ?_))
  all_goals first | exact aY | exact jE _ _ _ | (simp only [List.length_append,List.length_singleton];done) | exact pH
 ·unfold BC w19 w14;have hcl4:=hcl (f6 h4);have hclo:=DZ hb' hcl4
  (repeat' (with_reducible first | exact trivial | rfl | assumption | refine aGX ?_ ?_ | refine Tr.run_ite (fun _=>?_) (fun _=>?_) | refine aGZ ?_ | refine And.intro ?_ ?_))
  all_goals first | exact aY | exact jE _ _ _ | (simp only [List.length_append,List.length_singleton];done) | exact pH
 ·unfold BD w0x w0w w19 w14
  (repeat' (with_reducible first | exact trivial | rfl | assumption | refine aGX ?_ ?_ | refine Tr.run_ite (fun _=>?_) (fun _=>?_) | refine aGZ ?_ | refine And.intro ?_ ?_))
  all_goals first | exact aY | exact jE _ _ _ | (simp only [List.length_append,List.length_singleton];done) | exact pH
 ·unfold BE w14 w1g
  (repeat' (with_reducible first | exact trivial | rfl | assumption | refine aGX ?_ ?_ | refine Tr.run_ite (fun _=>?_) (fun _=>?_) | refine aGZ ?_ | refine And.intro ?_ ?_))
  all_goals first | exact aY | exact jE _ _ _ | (simp only [List.length_append,List.length_singleton];done) | exact pH
 ·simp only [cL,beq_eq_false_iff_ne]at h0 h1 h2 h3 h4 h5 h6;rcases h with e | e | e | e | e | e | e<;>contradiction
theorem EE{t n b:Int}{x:FNS}{s:MS}(hb:Bnd t n s)(hx:UD t x)(hq:LI b x)(hbb:b≤900000):JA t n x s:=aHa (YE hb hx hq hbb)
theorem EG{t n b:Int}{x:FNS}{s:MS}(hb:Bnd t n s)(hx:UD t x)(hq:LI b x)(hbb:b≤900000):aDZ t b s (aN t n x s):=aG5 (YE hb hx hq hbb)
theorem dO(sh ky:Int):0≤fD sh ky∧fD sh ky≤3:=by
 unfold fD;cases ieq sh 2 with
 | true=>exact⟨Int.emod_nonneg _ (by decide),by have:=Int.emod_lt_of_pos ky (b:=4) (by decide);show ky%4≤3;omega⟩
 | false=>exact⟨Int.le_refl 0,(by decide:(0:Int)≤3)⟩
theorem EC{t n me hd key lim:Int}(hn:1≤n∧n≤1000)(hm:0≤me∧me≤1000)(hh:0≤hd∧hd≤3):(NO t n me hd key lim).run (fun x=>UD t x∧LI 0 x):=by
 obtain⟨n0,n1⟩:=hn;obtain⟨m0,m1⟩:=hm;obtain⟨e0,e1⟩:=hh;unfold NO w1h
 (repeat' (with_reducible first | exact trivial | rfl | assumption | refine aGX ?_ ?_ | refine Tr.run_ite (fun _=>?_) (fun _=>?_) | refine aGZ ?_ | refine And.intro ?_ ?_))
 all_goals first | exact aY | exact⟨by dsimp only;decide,fun e=>absurd e (by dsimp only;decide)⟩ | exact⟨⟨m0,m1⟩,⟨(by decide:(0:Int)≤0),(by decide:(0:Int)≤1000)⟩,rT,(by decide:((0:Nat):Int)≤0)⟩
theorem HK(sh kd ky pred pw cw sp:Int){curr:Int}(hc:0≤curr∧curr≤1000):(CP sh kd ky pred pw curr cw sp).run (fun p=>0≤p.pops∧p.pops≤1000):=by
 obtain⟨c0,c1⟩:=hc;unfold CP w00 w02 w01 w03
 (repeat' (with_reducible first | exact trivial | rfl | assumption | refine aGX ?_ ?_ | refine Tr.run_ite (fun _=>?_) (fun _=>?_) | refine aGZ ?_ | refine And.intro ?_ ?_))
 all_goals first | exact aY | (dsimp only;first | assumption | decide)
theorem CR(sh kd ky pred pw cw sp:Int){curr:Int}(hc:0≤curr∧curr≤1000):uY sh kd ky pred pw curr cw sp:=aHa (HK sh kd ky pred pw cw sp hc)
theorem w6(sh kd ky pred pw cw sp:Int){curr:Int}(hc:0≤curr∧curr≤1000):0≤(bM sh kd ky pred pw curr cw sp).pops ∧(bM sh kd ky pred pw curr cw sp).pops ≤1000:=aG5 (HK sh kd ky pred pw cw sp hc)
theorem CQ(a b c d e f g h i):(uZ a b c d e f g h i).run rngU:=by
 unfold uZ
 (repeat' (with_reducible first | exact trivial | rfl | assumption | refine aGX ?_ ?_ | refine Tr.run_ite (fun _=>?_) (fun _=>?_) | refine aGZ ?_ | refine And.intro ?_ ?_))
 all_goals first | exact aY | exact nM
theorem KJ(a b c d e f g h i):yH a b c d e f g h i:=aHa (CQ a b c d e f g h i)
theorem KI(a b c d e f g h i):rngU (dJ a b c d e f g h i):=aG5 (CQ a b c d e f g h i)
theorem CO(a b c d e f g h i j):(uX a b c d e f g h i j).run (fun r=>rngU r.1):=by
 unfold uX
 (repeat' (with_reducible first | exact trivial | rfl | assumption | refine aGX ?_ ?_ | refine Tr.run_ite (fun _=>?_) (fun _=>?_) | refine aGZ ?_ | refine And.intro ?_ ?_))
 all_goals first | exact aY | exact nM
theorem KG(a b c d e f g h i j):yG a b c d e f g h i j:=aHa (CO a b c d e f g h i j)
theorem KF(a b c d e f g h i j):rngU (gI a b c d e f g h i j).1:=aG5 (CO a b c d e f g h i j)
theorem CN(a b c d e f g h i):(uV a b c d e f g h i).run (fun _=>True):=by
 unfold uV
 (repeat' (with_reducible first | exact trivial | rfl | assumption | refine aGX ?_ ?_ | refine Tr.run_ite (fun _=>?_) (fun _=>?_) | refine aGZ ?_ | refine And.intro ?_ ?_))
 all_goals exact aY
theorem wZ(p:PLN):oG p.1 p.2 p.3 p.4 p.5 p.6 p.7 p.8 p.9:=aHa (CN _ _ _ _ _ _ _ _ _)
theorem uW(a b c d e f g h i):oG a b c d e f g h i:=aHa (CN _ _ _ _ _ _ _ _ _)
theorem eQ{b c:Int}{x:FNS}(h:LI b x)(hbc:b≤c):LI c x:=⟨h.m,h.cu,h.ul,Int.le_trans h.ln hbc⟩
theorem qE{t n me hd key lim:Int}(hn:1≤n∧n≤1000)(hm:0≤me∧me≤1000)(hh:0≤hd∧hd≤3):oR t n me hd key lim:=aHa (EC hn hm hh)
theorem A7{t n me hd key lim:Int}(hn:1≤n∧n≤1000)(hm:0≤me∧me≤1000)(hh:0≤hd∧hd≤3):UD t (uJ t n me hd key lim):=by
 have h:=aG5 (EC (t:=t) (key:=key) (lim:=lim) hn hm hh);exact h.1
theorem A6{t n me hd key lim:Int}(hn:1≤n∧n≤1000)(hm:0≤me∧me≤1000)(hh:0≤hd∧hd≤3):LI 0 (uJ t n me hd key lim):=by
 have h:=aG5 (EC (t:=t) (key:=key) (lim:=lim) hn hm hh);exact h.2
theorem PF(t n key nx:Int)(st:STS):(WK t n key nx st).run (fun r=>r.2=st):=⟨⟨rfl,rfl,rfl⟩,rfl⟩
theorem HL(t n key nx:Int)(st:STS):CS t n key nx st:=aHa (PF t n key nx st)
theorem PE(t n key nx:Int)(st:STS):(qN t n key nx st).2=st:=aG5 (PF t n key nx st)
structure stW (b:Int) (st:STS):Prop where
 m:0≤st.me∧st.me≤1000
 r:eA st.R
 ln:(st.R.length:Int)≤b
theorem iR{b c:Int}{st:STS}(h:stW b st)(hbc:b≤c):stW c st:=⟨h.m,h.r,Int.le_trans h.ln hbc⟩
theorem yO{b:Int}{st:STS}{k:Int}{x:FNS}(h:stW b st)(hq:LI (b - st.R.length+1) x):stW (b+1) {me:=st.me,sp:=k,R:=st.R++x.ul} :=
 ⟨h.m,KZ h.r hq.ul,by have:=hq.ln;simp only [List.length_append];omega⟩
theorem vB{b:Int}{st:STS}{k a:Int}(h:stW b st)(ha:0≤a∧a≤1000):stW (b+1) {me:=st.me,sp:=k,R:=st.R++ [a] } :=
 ⟨h.m,vA h.r ha,by have:=h.ln;simp only [List.length_append,List.length_singleton];omega⟩
theorem P6{b:Int}{st:STS}(h:stW b st)(k:Int):stW (b+1) {me:=st.me,sp:=k,R:=st.R} :=⟨h.m,h.r,by have:=h.ln;show(st.R.length:Int)≤_;omega⟩
structure UN (t b:Int) (st:STS) (x:FTS):Prop where
 h:x.at'=0∨x.at'=1∨x.at'=2∨x.at'=3
 fn:x.at'=0→UD t x.fn∧LI (b - st.R.length) x.fn
 cl:x.at'=1→X5 t x.cl
 ps:0≤x.p.pops∧x.p.pops≤1000
structure aD2 (t b:Int) (s:MS) (o:FtO):Prop where
 a:Act1 s o.s
 st:stW (b+1) o.st
 w:o.d=false→UN t (b+1) o.st o.x
theorem YG{t n b:Int}{x:FTS}{st:STS}{s:MS}(hb:Bnd t n s)(hx:UN t b st x)(hst:stW b st)(hbb:b≤900000):(ftT t n x st s).run (aD2 t b s):=by
 have hb':=hb;obtain⟨ht,hn,⟨c0,c1⟩,hw⟩:=hb;obtain⟨n0,n1⟩:=hn;obtain⟨t0,t1⟩:=ht;obtain⟨h,hfn,hcl,hps⟩:=hx;have hR0:=hst.ln;have hst1:stW (b+1) st:=iR hst (by omega)
 have hnn:1≤n∧n≤1000:=⟨n0,n1⟩;have b0:0≤b:=by omega
 unfold ftT;refine aGW (fun h0=>?_) (fun h0=>aGW (fun h1=>?_) (fun h1=>aGW (fun h2=>?_) (fun h2=>aGW (fun h3=>?_) (fun h3=>?_))))
 ·obtain⟨hfw,hfq⟩:=hfn (f6 h0);have hF:=EG hb' hfw hfq (by omega)
  have hFo:=EE hb' hfw hfq (by omega)
  have hA:=hF.a;have hQ:=hF.q;have hQl:=hQ.ln;have hS:stW (b+1) {me:=st.me,sp:=st.sp,R:=st.R++(aN t n x.fn s).x.ul } :=yO hst hQ;have hcu:=hQ.cu;unfold BG w1i w1q w1k w1o
  (repeat' (with_reducible first | exact trivial | rfl | assumption | refine aGX ?_ ?_ | refine Tr.run_ite (fun _=>?_) (fun _=>?_) | refine aGZ ?_ | refine And.intro ?_ ?_))
  all_goals first
   | exact aY
   | exact CR _ _ _ _ _ _ _ hcu
   | exact wZ _
   | exact uW _ _ _ _ _ _ _ _ _
   | exact jE _ _ _
   | exact HL _ _ _ _ _
   | (simp only [List.length_append];done)
   | (refine⟨by first | assumption | exact aY,?_,fun hd=>?_⟩
      ·first
        | assumption
        | (dsimp only;rw [PE];assumption)
      ·first
        | exact Bool.noConfusion hd
        | (refine⟨by dsimp only;decide,?_,?_,?_⟩
           ·first | (exact nE') | (intro _;exact⟨hF.w (by assumption),eQ hQ (by dsimp only;omega)⟩)
           ·first | (exact nE') | (intro _;dsimp only;with_reducible exact DY _ _ _)
           ·first | exact hps | exact w6 _ _ _ _ _ _ _ hcu))
 ·have hc:=hcl (f6 h1);have hC:=xS hb' hc;have hCo:=DZ hb' hc;have hA:=hC.a;unfold BH
  (repeat' (with_reducible first | exact trivial | rfl | assumption | refine aGX ?_ ?_ | refine Tr.run_ite (fun _=>?_) (fun _=>?_) | refine aGZ ?_ | refine And.intro ?_ ?_))
  all_goals first
   | exact aY
   | exact qE hnn hst.m (dO _ _)
   | (refine⟨by assumption,by assumption,fun hd=>?_⟩
      first
       | exact Bool.noConfusion hd
       | (refine⟨by dsimp only;decide,?_,?_,hps⟩
          ·first | (exact nE') | (intro _;exact⟨A7 (t:=t) (n:=n) hnn hst.m (dO _ _),eQ (A6 (t:=t) (n:=n) hnn hst.m (dO _ _)) (by dsimp only;omega)⟩)
          ·first | (exact nE') | (intro _;exact hC.w (by assumption))))
 ·have hP:=PJ (st:=st) hb' (show YX t x.pr from⟨trivial⟩)
  have hPo:=PI (st:=st) hb' (show YX t x.pr from⟨trivial⟩)
  have hA:=hP.a;have hPs:stW (b+1) (prF t n x.pr st s).st :=by rw [hP.st];exact hst1
  unfold BI
  (repeat' (with_reducible first | exact trivial | rfl | assumption | refine aGX ?_ ?_ | refine Tr.run_ite (fun _=>?_) (fun _=>?_) | refine aGZ ?_ | refine And.intro ?_ ?_))
  all_goals first
   | exact aY
   | (refine⟨by assumption,by assumption,fun hd=>?_⟩
      first
       | exact Bool.noConfusion hd
       | exact⟨by dsimp only;decide,fun e=>absurd e (by dsimp only;decide),fun e=>absurd e (by dsimp only;decide),hps⟩)
 ·have hW:=KI (FTS.p x).1 (FTS.p x).2 (FTS.p x).3 (FTS.p x).4 (FTS.p x).5 (FTS.p x).6 (FTS.p x).7 (FTS.p x).8 (FTS.p x).9;have hWo:=KJ (FTS.p x).1 (FTS.p x).2 (FTS.p x).3 (FTS.p x).4 (FTS.p x).5 (FTS.p x).6 (FTS.p x).7 (FTS.p x).8 (FTS.p x).9;have hS1:stW (b+1) {me:=st.me,sp:=0,R:=st.R++ [(FTS.p x).9] } :=vB hst hps;have hS2:stW (b+1) {me:=st.me,sp:=st.sp,R:=st.R++ [(FTS.p x).9] } :=vB hst hps;have hS3:stW (b+1) {me:=st.me,sp:=0,R:=st.R} :=P6 hst 0;unfold BJ w1j
  (repeat' (with_reducible first | exact trivial | rfl | assumption | refine aGX ?_ ?_ | refine Tr.run_ite (fun _=>?_) (fun _=>?_) | refine aGZ ?_ | refine And.intro ?_ ?_))
  all_goals first
   | exact aY
   | exact qE hnn hst.m (dO _ _)
   | (simp only [List.length_append,List.length_singleton];done)
   | (refine⟨by exact aY,by assumption,fun hd=>?_⟩
      first
       | exact Bool.noConfusion hd
       | (refine⟨by dsimp only;decide,?_,?_,hps⟩
          ·first | (exact nE') | (intro _;exact⟨A7 (t:=t) (n:=n) hnn hst.m (dO _ _),eQ (A6 (t:=t) (n:=n) hnn hst.m (dO _ _)) (by dsimp only;omega)⟩)
          · (exact nE')))
 ·simp only [cL,beq_eq_false_iff_ne]at h0 h1 h2 h3;rcases h with e | e | e | e<;>contradiction
theorem aBd{t n b:Int}{x:FTS}{st:STS}{s:MS}(hb:Bnd t n s)(hx:UN t b st x)(hst:stW b st)(hbb:b≤900000):UI t n x st s:=aHa (YG hb hx hst hbb)
theorem aBe{t n b:Int}{x:FTS}{st:STS}{s:MS}(hb:Bnd t n s)(hx:UN t b st x)(hst:stW b st)(hbb:b≤900000):aD2 t b s (iD t n x st s):=aG5 (YG hb hx hst hbb)
theorem EJ{t n b sh kd ky most:Int}{st:STS}(hn:1≤n∧n≤1000)(hst:stW b st):(NP t n sh kd ky most st).run (fun r=>UN t b st r.1∧r.2=st):=by
 have hR0:=hst.ln;unfold NP
 (repeat' (with_reducible first | exact trivial | rfl | assumption | refine aGX ?_ ?_ | refine Tr.run_ite (fun _=>?_) (fun _=>?_) | refine aGZ ?_ | refine And.intro ?_ ?_))
 all_goals first
  | exact aY
  | exact qE hn hst.m (dO _ _)
  | exact⟨by dsimp only;decide,fun _=>⟨A7 (t:=t) (n:=n) hn hst.m (dO _ _),eQ (A6 (t:=t) (n:=n) hn hst.m (dO _ _)) (by omega)⟩,fun e=>absurd e (by dsimp only;decide),⟨(by decide:(0:Int)≤0),(by decide:(0:Int)≤1000)⟩⟩
theorem eL(s:MS)(a:Int):Act1 s (s.loadd a):=⟨rfl,rfl,id,rfl,rfl⟩
theorem wA(s:MS)(a o x:Int):Act1 s (s.cased a o (WU x)):=GI s _ _ _ _ _ _ _ _ (FU x)
theorem nX(s:MS)(a x:Int):Act1 s (s.added a x):=xL s _ _ _ _ _ _ _ (FU _)
theorem mB{m:List (Int×Int)}{l:List Int}(h:eA l):eA (cG m l):=fun r hr=>h r (List.mem_filter.1 hr).1
theorem sU{m:List (Int×Int)}{l:List Int}(h:eA l):eA (a8 m l):=fun r hr=>h r (List.mem_filter.1 hr).1
theorem CD(m:List (Int×Int))(l:List Int):(cG m l).length ≤l.length:=List.length_filter_le _ _
theorem C0{l:List Int}(h:eA l){j:Nat}(hj:j<l.length): -1000000≤List.getD l (j+Int.toNat 0*1) 0∧List.getD l (j+Int.toNat 0*1) 0≤1000000:=by
 have e:j+Int.toNat 0*1=j:=by simp
 rw [e,gD',gE' hj];have:=h _ (List.getElem_mem hj);show _≤l[j]∧l[j]≤_;omega
theorem CI{n a:Int}(hn:1≤n)(ha:1≤a):1≤cX n a∧cX n a≤n:=by
 unfold cX;rw [Int.tmod_eq_emod_of_nonneg (by omega)]
 have:=Int.emod_nonneg a (show n≠0 by omega)
 have:=Int.emod_lt_of_pos a (show 0<n by omega)
 omega
theorem R7{t n me:Int}(hn:1≤n):1≤at0 t n me∧at0 t n me≤n:=by
 unfold at0;cases h:bW n (aQ t n me)with
 | true=>exact uQ.1 h
 | false=>exact⟨(by decide:(1:Int)≤1),hn⟩
def enI(t n b:Int)(e:ENS):Prop:=match e.ph with
 | 0=>True
 | 1=>okAl n e.x
 | 2=>True
 | 3=>(eA e.y.N∧(e.y.N.length:Int)≤b)∧0≤e.y.i∧e.y.i<2*t
 | 4=>2*t≤e.y.i∧1≤e.y.l∧e.y.gs.length=e.y.j+e.y.l∧eA e.y.gs∧eA e.y.ks∧(e.y.ks.length:Int)≤b
 | _=>False
structure aAL (t n b:Int) (s:MS) (o:EO):Prop where
 a:Act1 s o.s
 st:stW (b+1) o.st
 w:o.d=false→enI t n (b+1) o.e
theorem NB{t n b:Int}{e:ENS}{st:STS}{s:MS}(hb:Bnd t n s)(hx:enI t n b e)(hst:stW b st)(hbb:b≤900000):J7 t n e st s:=by
 obtain⟨ht,hn,hc,hw⟩:=hb;have hl:=hst.ln;refine⟨ht,hn,⟨hc.1,by omega⟩,hst.m,by omega,?_⟩
 match e,hx with
 | ⟨0,sh,dn,x,y⟩,hx=>trivial
 | ⟨1,sh,dn,x,y⟩,hx=>exact hx
 | ⟨2,sh,dn,x,y⟩,hx=>trivial
 | ⟨3,sh,dn,x,y⟩,hx=>
   obtain⟨⟨h1,h2⟩,h3⟩:=hx;exact⟨by dsimp only at h2⊢;omega,h3⟩
 | ⟨4,sh,dn,x,y⟩,hx=>
   obtain⟨a1,a2,a3,a4,a5⟩:=hx;exact⟨a1,a2,a3,C0 a4 (by omega)⟩
theorem GN{t n b:Int}{e:ENS}{st:STS}{x:AL}{s s0:MS}(ha:Act1 s0 s)(hst:stW b st)(hg:x.got=0)(hx:1≤x.at'∧x.at'≤n)(hl0:0≤x.left+1)(hl:x.left≤1000):aAL t n b s0 (IU e st x s):=by
 have hl1:=hst.ln;unfold IU;split
 ·exact⟨ha,⟨hst.m,hst.r,by dsimp only;omega⟩,fun _=>trivial⟩
 ·rename_i h;rw [cC,dF']at h;exact⟨ha,iR hst (by omega),fun _=>⟨hg,hx,by show(0:Int)≤x.left;omega,hl⟩⟩
theorem wM{t n b:Int}{e:ENS}{st:STS}{x:AL}{s:MS}(hn:1≤n)(hst:stW b st)(hx:okAl n x):aAL t n b s (rL n e st x s):=by
 obtain⟨hg,ha,hl⟩:=hx;have hl1:=hst.ln;unfold rL;split
 ·split
  ·exact⟨wA _ _ _ _,⟨hst.m,hst.r,by dsimp only;omega⟩,fun h=>Bool.noConfusion h⟩
  ·exact GN (wA _ _ _ _) hst rfl (CI hn ha.1) (by dsimp only;omega) (by dsimp only;omega)
 ·split
  ·exact GN (eL _ _) hst rfl (CI hn ha.1) (by dsimp only;omega) (by dsimp only;omega)
  ·exact⟨eL _ _,iR hst (by omega),fun _=>⟨rfl,ha,hl⟩⟩
theorem NC{t n b:Int}{e:ENS}{st:STS}{s:MS}(hb:Bnd t n s)(hx:enI t n b e)(hst:stW b st):aAL t n b s (enF t n e st s):=by
 obtain⟨ht,hn,hc,hw⟩:=hb;have hl1:=hst.ln;have hst1:stW (b+1) st:=iR hst (by omega)
 match e,hx with
 | ⟨0,sh,dn,x,y⟩,hx=>
   unfold enF;dsimp only;cases hc:ieq st.sp 0 with
   | true=>exact wM hn.1 hst ⟨rfl,R7 hn.1,by dsimp only;omega⟩
   | false=>exact⟨eL _ _,hst1,fun h=>Bool.noConfusion h⟩
 | ⟨1,sh,dn,x,y⟩,hx=>exact wM hn.1 hst hx
 | ⟨2,sh,dn,x,y⟩,hx=>
   exact⟨eL _ _,hst1,fun _=>⟨⟨hst.r,by show(st.R.length:Int)≤_;omega⟩,(by decide:(0:Int)≤1),by show(1:Int)<_;omega⟩⟩
 | ⟨3,sh,dn,x,y⟩,hx=>
   obtain⟨⟨hN,hNl⟩,hi0,hi1⟩:=hx;dsimp only at hN hNl hi0 hi1;have hk:=CD (bA y.m n y.i s) y.N;unfold enF;dsimp only;generalize hsm:bA y.m n y.i s=sm at hk⊢;cases h1:ieq (y.i+1) (2*t)with
   | false=>
     have h1:=eT h1;exact⟨eL _ _,hst1,fun _=>⟨⟨hN,by show((y.N).length :Int)≤_;omega⟩,by show 0≤y.i+1;omega,by show y.i+1<2*t;omega⟩⟩
   | true=>
     have h1:=f6 h1;cases h2:ieq ((a8 sm y.N).length :Int) 0 with
     | true=>exact⟨eL _ _,⟨hst.m,mB hN,by show((cG sm y.N).length :Int)≤_;omega⟩,fun h=>Bool.noConfusion h⟩
     | false=>
       have h2:=eT h2;exact⟨eL _ _,hst1,fun _=>⟨by show 2*t≤y.i+1;omega,by show 1≤(a8 sm y.N).length;omega,by show(a8 sm y.N).length =0+(a8 sm y.N).length;omega,sU hN,mB hN,by show((cG sm y.N).length :Int)≤_;omega⟩⟩
 | ⟨4,sh,dn,x,y⟩,hx=>
   obtain⟨a1,a2,a3,a4,a5,a6⟩:=hx;dsimp only at a1 a2 a3 a4 a5 a6;unfold enF;dsimp only;cases h1:ieq ((y.l - 1:Nat):Int) 0 with
   | true=>exact⟨nX _ _ _,⟨hst.m,a5,by show((y.ks).length :Int)≤_;omega⟩,fun _=>trivial⟩
   | false=>
     have h1:=eT h1;exact⟨nX _ _ _,hst1,fun _=>⟨a1,by show 1≤y.l - 1;omega,by show(y.gs).length =y.j+1+(y.l - 1);omega,a4,a5,by show((y.ks).length :Int)≤_;omega⟩⟩
def K2(t n b:Int)(y:SWS):Prop:=match y.ph with
 | 0=>True
 | 1=>(eA y.N∧(y.N.length:Int)≤b)∧0≤y.i∧y.i<2*t
 | 2=>2*t≤y.i∧1≤y.l∧y.gs.length=y.j+y.l∧eA y.gs∧eA y.ks∧(y.ks.length:Int)≤b
 | _=>False
structure aFY (t n b:Int) (s:MS) (o:SO):Prop where
 a:Act1 s o.s
 st:stW (b+1) o.st
 w:o.d=false→K2 t n (b+1) o.e
theorem aCy{t n b:Int}{e:SWS}{st:STS}{s:MS}(hb:Bnd t n s)(hx:K2 t n b e)(hst:stW b st)(hbb:b≤900000):qL t n e st s:=by
 obtain⟨ht,hn,hc,hw⟩:=hb;have hl:=hst.ln;refine⟨ht,hn,⟨hc.1,by omega⟩,by omega,?_⟩
 match e,hx with
 | ⟨0,N,m,i,ks,fs,gs,j,l⟩,hx=>trivial
 | ⟨1,N,m,i,ks,fs,gs,j,l⟩,hx=>
   obtain⟨⟨h1,h2⟩,h3⟩:=hx;exact⟨by dsimp only at h2⊢;omega,h3⟩
 | ⟨2,N,m,i,ks,fs,gs,j,l⟩,hx=>
   obtain⟨a1,a2,a3,a4,a5⟩:=hx;exact⟨a1,a2,a3,C0 a4 (by omega)⟩
theorem aCz{t n b:Int}{e:SWS}{st:STS}{s:MS}(hb:Bnd t n s)(hx:K2 t n b e)(hst:stW b st):aFY t n b s (swF t n e st s):=by
 obtain⟨ht,hn,hc,hw⟩:=hb;have hl1:=hst.ln;have hst1:stW (b+1) st:=iR hst (by omega)
 match e,hx with
 | ⟨0,N,m,i,ks,fs,gs,j,l⟩,hx=>
   exact⟨eL _ _,hst1,fun _=>⟨⟨hst.r,by show(st.R.length:Int)≤_;omega⟩,(by decide:(0:Int)≤1),by show(1:Int)<_;omega⟩⟩
 | ⟨1,N,m,i,ks,fs,gs,j,l⟩,hx=>
   obtain⟨⟨hN,hNl⟩,hi0,hi1⟩:=hx;dsimp only at hN hNl hi0 hi1;have hk:=CD (bA m n i s) N;unfold swF;dsimp only;generalize hsm:bA m n i s=sm at hk⊢;cases h1:ieq (i+1) (2*t)with
   | false=>
     have h1:=eT h1;exact⟨eL _ _,hst1,fun _=>⟨⟨hN,by show((N).length :Int)≤_;omega⟩,by show 0≤i+1;omega,by show i+1<2*t;omega⟩⟩
   | true=>
     have h1:=f6 h1;cases h2:ieq ((a8 sm N).length :Int) 0 with
     | true=>exact⟨eL _ _,⟨hst.m,mB hN,by show((cG sm N).length :Int)≤_;omega⟩,fun h=>Bool.noConfusion h⟩
     | false=>
       have h2:=eT h2;exact⟨eL _ _,hst1,fun _=>⟨by show 2*t≤i+1;omega,by show 1≤(a8 sm N).length;omega,by show(a8 sm N).length =0+(a8 sm N).length;omega,sU hN,mB hN,by show((cG sm N).length :Int)≤_;omega⟩⟩
 | ⟨2,N,m,i,ks,fs,gs,j,l⟩,hx=>
   obtain⟨a1,a2,a3,a4,a5,a6⟩:=hx;dsimp only at a1 a2 a3 a4 a5 a6;unfold swF;dsimp only;cases h1:ieq ((l - 1:Nat):Int) 0 with
   | true=>exact⟨nX _ _ _,⟨hst.m,a5,by show((ks).length :Int)≤_;omega⟩,fun h=>Bool.noConfusion h⟩
   | false=>
     have h1:=eT h1;exact⟨nX _ _ _,hst1,fun _=>⟨a1,by show 1≤l - 1;omega,by show(gs).length =j+1+(l - 1);omega,a4,a5,by show((ks).length :Int)≤_;omega⟩⟩
theorem T4(t n u sh kd ky att:Int):NK t n u sh kd ky att:=⟨⟨rfl,rfl⟩,trivial⟩
theorem aDV(t n:Int){u:Int}(sh kd ky att:Int)(hu:0≤u∧u≤1000):exW t (aAR t n u sh kd ky att):=⟨.inl rfl,hu,⟨(by decide:(0:Int)≤0),(by decide:(0:Int)≤1000)⟩⟩
structure VU (t n b:Int) (st:STS) (x:HPS):Prop where
 h:x.at'=0∨x.at'=1∨x.at'=2∨x.at'=3∨x.at'=4∨x.at'=5∨x.at'=6∨x.at'=7∨x.at'=8∨x.at'=9
 u:0≤x.u∧x.u≤1000
 ex:x.at'=3→exW t x.ex
 en:x.at'=4→enI t n b x.en
 fn:x.at'=5→UD t x.fn∧LI (b - st.R.length) x.fn
 cl:x.at'=7→X5 t x.cl
 ps:0≤x.p.pops∧x.p.pops≤1000
structure aEr (t n b:Int) (s:MS) (o:HpO):Prop where
 a:Act1 s o.s
 st:stW (b+1) o.st
 w:o.d=false→VU t n (b+1) o.st o.x
theorem OX:(0:Int)≤0∧(0:Int)≤1000:=⟨by decide,by decide⟩
theorem YP{t n b:Int}{x:HPS}{st:STS}{s:MS}(hb:Bnd t n s)(hx:VU t n b st x)(hst:stW b st)(hbb:b≤900000):(hpT t n x st s).run (aEr t n b s):=by
 have hb':=hb;obtain⟨ht,hn,⟨c0,c1⟩,hw⟩:=hb;obtain⟨n0,n1⟩:=hn;obtain⟨t0,t1⟩:=ht;obtain⟨h,hu,hex,hen,hfn,hcl,hps⟩:=hx;have hR0:=hst.ln;have hst1:stW (b+1) st:=iR hst (by omega)
 have hnn:1≤n∧n≤1000:=⟨n0,n1⟩;have hme:=hst.m;obtain⟨u0,u1⟩:=hu;have b0:0≤b:=by omega
 obtain⟨k0,k1⟩:=uR hw (2*n+5+2*t+3*x.1+1);unfold hpT;refine aGW (fun h0=>?c0) (fun h0=>aGW (fun h1=>?c1) (fun h1=>aGW (fun h2=>?c2) (fun h2=>aGW (fun h3=>?c3) (fun h3=>aGW (fun h4=>?c4) (fun h4=>aGW (fun h5=>?c5) (fun h5=>aGW (fun h6=>?c6) (fun h6=>aGW (fun h7=>?c7) (fun h7=>aGW (fun h8=>?c8) (fun h8=>aGW (fun h9=>?c9) (fun h9=>?c10))))))))))
 case' c0=>unfold B2 w1y
 case' c1=>unfold B3 w1y
 case' c2=>unfold B4 w1u w1y
 case' c3=>have he:=hex (f6 h3);have hE:=aAY hb' he;have hEo:=aAX hb' he;have hA:=hE.a;have hS:stW (b+1) {me:=st.me,sp:=st.sp,R:=st.R++ [(ExO.x (AT t n x.11 s)).1] } :=vB hst hE.p;unfold B5
 case' c4=>have he:=hen (f6 h4);have hE:=NC hb' he hst;have hEo:=NB hb' he hst hbb;have hA:=hE.a;have hS:=hE.st;have hme:=hS.m;have hSl:=hS.ln;unfold B6
 case' c5=>obtain⟨hfw,hfq⟩:=hfn (f6 h5);have hF:=EG hb' hfw hfq (by omega);have hFo:=EE hb' hfw hfq (by omega);have hA:=hF.a;have hQ:=hF.q;have hQl:=hQ.ln;have hS:stW (b+1) {me:=st.me,sp:=st.sp,R:=st.R++(aN t n x.fn s).x.ul } :=yO hst hQ;have hcu:=hQ.cu;unfold B7 w1t w1x
 case' c6=>unfold B8 w1y
 case' c7=>have hc:=hcl (f6 h7);have hC:=xS hb' hc;have hCo:=DZ hb' hc;have hA:=hC.a;unfold B9
 case' c8=>have hP:=PJ (st:=st) hb' (show YX t x.pr from⟨trivial⟩);have hPo:=PI (st:=st) hb' (show YX t x.pr from⟨trivial⟩);have hA:=hP.a;have hPs:stW (b+1) (prF t n x.pr st s).st :=(by rw [hP.st];exact hst1);unfold CA
 case' c9=>have hD:=KF (HPS.p x).1 (HPS.p x).2 (HPS.p x).3 (HPS.p x).4 (HPS.p x).5 (HPS.p x).6 (HPS.p x).7 (HPS.p x).8 (HPS.p x).9 (aA x.6 0 12);have hDo:=KG (HPS.p x).1 (HPS.p x).2 (HPS.p x).3 (HPS.p x).4 (HPS.p x).5 (HPS.p x).6 (HPS.p x).7 (HPS.p x).8 (HPS.p x).9 (aA x.6 0 12);have hS3:stW (b+1) {me:=st.me,sp:=0,R:=st.R} :=P6 hst 0;unfold CB w1v w1y
 case c10=>
  simp only [cL,beq_eq_false_iff_ne]at h0 h1 h2 h3 h4 h5 h6 h7 h8 h9;rcases h with e | e | e | e | e | e | e | e | e | e<;>contradiction
 all_goals (repeat' (with_reducible first | exact trivial | rfl | assumption | refine aGX ?_ ?_ | refine Tr.run_ite (fun _=>?_) (fun _=>?_) | refine aGZ ?_ | refine And.intro ?_ ?_))
 all_goals first
  | exact aY
  | (simp only [List.length_append,List.length_singleton];done)
  | exact T4 _ _ _ _ _ _ _
  | exact qE hnn hme (dO _ _)
  | exact CR _ _ _ _ _ _ _ hcu
  | exact wZ _
  | exact uW _ _ _ _ _ _ _ _ _
  | exact jE _ _ _
  | exact HL _ _ _ _ _
  | (simp only [List.length_append];done)
  | (refine⟨by first | assumption | exact aY,?_,fun hd=>?_⟩
     ·first
       | assumption
       | (dsimp only;rw [PE];assumption)
     ·first
       | exact Bool.noConfusion hd
       | (refine⟨by dsimp only;decide,⟨u0,u1⟩,?_,?_,?_,?_,?_⟩<;>first | (exact nE') | exact hps | exact OX | (intro _;dsimp only;with_reducible exact aDV _ _ _ _ _ _ ⟨u0,u1⟩) | (intro _;exact trivial) | (intro _;exact⟨A7 (t:=t) (n:=n) hnn hme (dO _ _),eQ (A6 (t:=t) (n:=n) hnn hme (dO _ _)) (by dsimp only;omega)⟩) | (intro _;exact hE.w (by assumption)) | (intro _;exact⟨hF.w (by assumption),eQ hQ (by dsimp only;omega)⟩) | (intro _;dsimp only;with_reducible exact DY _ _ _) | exact w6 _ _ _ _ _ _ _ hcu | (intro _;exact hC.w (by assumption))))
theorem OH{t n b:Int}{x:HPS}{st:STS}{s:MS}(hb:Bnd t n s)(hx:VU t n b st x)(hst:stW b st)(hbb:b≤900000):OF t n x st s:=aHa (YP hb hx hst hbb)
theorem OI{t n b:Int}{x:HPS}{st:STS}{s:MS}(hb:Bnd t n s)(hx:VU t n b st x)(hst:stW b st)(hbb:b≤900000):aEr t n b s (gS t n x st s):=aG5 (YP hb hx hst hbb)
theorem aBG{t n b u no lim:Int}{st:STS}(hu:0≤u∧u≤1000):(JQ t n u no lim st).run (fun r=>VU t n b st r.1∧r.2=st):=by
 unfold JQ
 (repeat' (with_reducible first | exact trivial | rfl | assumption | refine aGX ?_ ?_ | refine Tr.run_ite (fun _=>?_) (fun _=>?_) | refine aGZ ?_ | refine And.intro ?_ ?_))
 all_goals first
  | exact aY
  | exact⟨by dsimp only;decide,hu,fun e=>absurd e (by dsimp only;decide),fun e=>absurd e (by dsimp only;decide),fun e=>absurd e (by dsimp only;decide),fun e=>absurd e (by dsimp only;decide),OX⟩
theorem WX{s k y:Int}(h:b9 s k y=true):rngU (tskV s k y):=by
 have h:=l9.1 h;unfold tskV;refine⟨?_,?_⟩<;>omega
theorem U5(t n:Int):OA t n:=⟨⟨rfl,rfl⟩,trivial⟩
theorem aEl(t n:Int):hdW t (aBu t n):=⟨⟨(by decide:(0:Int)≤0),(by decide:(0:Int)≤1000)⟩,⟨(by decide:(-1:Int)≤ -1),(by decide:(-1:Int)≤1000)⟩⟩
theorem TC(t n u:Int):sE t n u:=⟨⟨rfl,rfl⟩,trivial⟩
theorem aDu(t n:Int){u:Int}(hu:0≤u∧u≤1000):drW t (AM t n u):=⟨hu,⟨(by decide:(0:Int)≤0),(by decide:(0:Int)≤2)⟩⟩
theorem SA(t n u:Int):L0 t n u:=⟨⟨rfl,rfl⟩,trivial⟩
theorem aDj(t n:Int){u:Int}(hu:0≤u∧u≤1000):awW t (ZR t n u):=⟨hu⟩
theorem RY(t n u sh kd ky:Int):LY t n u sh kd ky:=⟨trivial,⟨rfl,rfl⟩,trivial⟩
theorem aDe(t n:Int){u:Int}(sh kd ky:Int)(hu:0≤u∧u≤1000):anW t (ZJ t n u sh kd ky):=⟨.inl rfl,hu,yM WX CX,CX⟩
theorem VN(t n u no lim:Int)(st:STS):B1 t n u no lim st:=by
 unfold B1 JQ;exact⟨⟨⟨rfl,rfl,rfl⟩,by decide⟩,trivial⟩
theorem YO{t n b u no lim:Int}{st:STS}(hu:0≤u∧u≤1000):VU t n b st (vU t n u no lim st).1:=(aG5 (aBG (b:=b) hu)).1
theorem UH{t n b:Int}(sh kd ky most:Int){st:STS}(hn:1≤n∧n≤1000)(hst:stW b st):uK t n sh kd ky most st:=aHa (EJ hn hst)
theorem aD1{t n b:Int}(sh kd ky most:Int){st:STS}(hn:1≤n∧n≤1000)(hst:stW b st):UN t b st (j9 t n sh kd ky most st).1:=(aG5 (EJ (t:=t) hn hst)).1
theorem NQ{t n b:Int}(sh kd ky most:Int){st:STS}(hn:1≤n∧n≤1000)(hst:stW b st):(j9 t n sh kd ky most st).2=st:=(aG5 (EJ (t:=t) hn hst)).2
structure S9 (t n b:Int) (st:STS) (x:DOS):Prop where
 h:x.at'=0∨x.at'=1∨x.at'=2∨x.at'=3∨x.at'=4∨x.at'=5∨x.at'=6∨x.at'=7∨x.at'=8∨x.at'=9
 hd:x.at'=0→hdW t x.hd
 hp:x.at'=1∨x.at'=5→VU t n b st x.hp
 en:x.at'=2→enI t n b x.en
 ft:x.at'=3→UN t b st x.ft
 an:x.at'=4→anW t x.an
 aw:x.at'=6→awW t x.aw
 fn:x.at'=7→UD t x.fn∧LI (b - st.R.length) x.fn
 dr:x.at'=8→drW t x.dr
 sw:x.at'=9→K2 t n b x.sw
structure aDs (t n b:Int) (s:MS) (o:DqO):Prop where
 a:Act1 s o.s
 st:stW (b+1) o.st
 w:o.d=false→S9 t n (b+1) o.st o.x
theorem X8{t n b:Int}{x:DOS}{st:STS}{s:MS}(hb:Bnd t n s)(hx:S9 t n b st x)(hst:stW b st)(hbb:b≤900000):(dqT t n x st s).run (aDs t n b s):=by
 have hb':=hb;obtain⟨ht,hn,⟨c0,c1⟩,hw⟩:=hb;obtain⟨n0,n1⟩:=hn;obtain⟨t0,t1⟩:=ht;obtain⟨h,xhd,xhp,xen,xft,xan,xaw,xfn,xdr,xsw⟩:=hx;have hR0:=hst.ln;have hst1:stW (b+1) st:=iR hst (by omega)
 have hnn:1≤n∧n≤1000:=⟨n0,n1⟩;have hme:=hst.m;have b0:0≤b:=by omega
 unfold dqT;refine aGW (fun h0=>?c0) (fun h0=>aGW (fun h1=>?c1) (fun h1=>aGW (fun h2=>?c2) (fun h2=>aGW (fun h3=>?c3) (fun h3=>aGW (fun h4=>?c4) (fun h4=>aGW (fun h5=>?c5) (fun h5=>aGW (fun h6=>?c6) (fun h6=>aGW (fun h7=>?c7) (fun h7=>aGW (fun h8=>?c8) (fun h8=>aGW (fun h9=>?c9) (fun h9=>?c10))))))))))
 case' c0=>have hc:=xhd (f6 h0);have hC:=aBC hb' hc;have hCo:=aBB hb' hc;have hA:=hC.a;have hS:=hst1;have hSl:=hS.ln;obtain⟨v0,v1⟩:=hC.p;unfold AB w2d w27 w28
 case' c1=>have hc:=xhp (.inl (f6 h1));have hC:=OI hb' hc hst hbb;have hCo:=OH hb' hc hst hbb;have hA:=hC.a;have hS:=hC.st;have hme:=hS.m;have hSl:=hS.ln;unfold AC w25 w2a w28
 case' c2=>have hc:=xen (f6 h2);have hC:=NC hb' hc hst;have hCo:=NB hb' hc hst hbb;have hA:=hC.a;have hS:=hC.st;have hme:=hS.m;have hSl:=hS.ln;unfold AD w28
 case' c3=>have hc:=xft (f6 h3);have hC:=aBe hb' hc hst hbb;have hCo:=aBd hb' hc hst hbb;have hA:=hC.a;have hS:=hC.st;have hme:=hS.m;have hSl:=hS.ln;unfold AE w22 w29 w28
 case' c4=>have hc:=xan (f6 h4);have hC:=ZQ hb' hc;have hCo:=ZP hb' hc;have hA:=hC.a;have hS:=hst1;have hSl:=hS.ln;unfold AF w28
 case' c5=>have hc:=xhp (.inr (f6 h5));have hC:=OI hb' hc hst hbb;have hCo:=OH hb' hc hst hbb;have hA:=hC.a;have hS:=hC.st;have hme:=hS.m;have hSl:=hS.ln;unfold AG w2a w28
 case' c6=>have hc:=xaw (f6 h6);have hC:=ZZ hb' hc;have hCo:=ZY hb' hc;have hA:=hC.a;have hS:=hst1;have hSl:=hS.ln;unfold AH w24 w28
 case' c7=>obtain⟨hfw,hfq⟩:=xfn (f6 h7);have hF:=EG hb' hfw hfq (by omega);have hFo:=EE hb' hfw hfq (by omega);have hA:=hF.a;have hQ:=hF.q;have hQl:=hQ.ln;have hS:stW (b+1) {me:=st.me,sp:=st.sp,R:=st.R++(aN t n x.fn s).x.ul } :=yO hst hQ;unfold AI w28
 case' c8=>have hc:=xdr (f6 h8);have hC:=aAz hb' hc;have hCo:=aAy hb' hc;have hA:=hC.a;have hS:=hst1;unfold AJ w28
 case' c9=>have hc:=xsw (f6 h9);have hC:=aCz hb' hc hst;have hCo:=aCy hb' hc hst hbb;have hA:=hC.a;have hS:=hC.st;unfold AK w28
 case c10=>
  simp only [cL,beq_eq_false_iff_ne]at h0 h1 h2 h3 h4 h5 h6 h7 h8 h9;rcases h with e | e | e | e | e | e | e | e | e | e<;>contradiction
 all_goals (repeat' (with_reducible first | exact trivial | rfl | assumption | refine aGX ?_ ?_ | refine Tr.run_ite (fun _=>?_) (fun _=>?_) | refine aGZ ?_ | refine And.intro ?_ ?_))
 all_goals first
  | exact aY
  | (intro _;decide)
  | assumption
  | exact TC _ _ _
  | exact SA _ _ _
  | exact RY _ _ _ _ _ _
  | exact VN _ _ _ _ _ _
  | exact qE hnn hme (dO _ _)
  | exact UH _ _ _ _ hnn hS
  | (simp only [List.length_append,List.length_singleton];done)
  | (refine⟨by first | assumption | exact aY,by first | assumption | (dsimp only;rw [NQ _ _ _ _ hnn hS];assumption),fun hd=>?_⟩
     first
      | exact Bool.noConfusion hd
      | (refine⟨by dsimp only;decide,?_,?_,?_,?_,?_,?_,?_,?_,?_⟩<;>first | (exact nE') | (intro _;exact hC.w (by assumption)) | (intro _;exact YO ⟨by first | omega | (simp_all [cC,aU];done) | (simp_all [cC,aU];omega),v1⟩) | (intro _;exact trivial) | (intro _;dsimp only;rw [NQ _ _ _ _ hnn hS];exact aD1 _ _ _ _ hnn hS) | (intro _;dsimp only;with_reducible exact aDj _ _ hme) | (intro _;dsimp only;with_reducible exact aDu _ _ hme) | (intro _;dsimp only;with_reducible exact aDe _ _ _ _ _ hme) | (intro _;exact⟨A7 (t:=t) (n:=n) hnn hme (dO _ _),eQ (A6 (t:=t) (n:=n) hnn hme (dO _ _)) (by dsimp only;omega)⟩) | (intro _;exact YO hme) | (intro _;exact⟨hF.w (by assumption),eQ hQ (by dsimp only;omega)⟩)))
theorem aAq{t n b:Int}{x:DOS}{st:STS}{s:MS}(hb:Bnd t n s)(hx:S9 t n b st x)(hst:stW b st)(hbb:b≤900000):SY t n x st s:=aHa (X8 hb hx hst hbb)
theorem aAr{t n b:Int}{x:DOS}{st:STS}{s:MS}(hb:Bnd t n s)(hx:S9 t n b st x)(hst:stW b st)(hbb:b≤900000):aDs t n b s (tI t n x st s):=aG5 (X8 hb hx hst hbb)
theorem aAd{t n b:Int}(sh kd ky lim:Int)(st:STS):(MJ t n sh kd ky lim st).run (fun r=>S9 t n b st r.1∧r.2=st):=by
 unfold MJ
 (repeat' (with_reducible first | exact trivial | rfl | assumption | refine aGX ?_ ?_ | refine Tr.run_ite (fun _=>?_) (fun _=>?_) | refine aGZ ?_ | refine And.intro ?_ ?_))
 all_goals first
  | exact aY
  | exact U5 _ _
  | (intro _;decide)
  | (refine⟨by dsimp only;decide,fun _=>aEl t n,?_,?_,?_,?_,?_,?_,?_,?_⟩<;>(exact nE'))
structure hstW (e c:Int) (x:HST):Prop where
 he:(x.ev.length:Int)≤e
 hc:(x.cl.length:Int)≤c
 n0:0≤x.n0∧x.n0≤(x.cl.length:Int)
 n1:0≤x.n1∧x.n1≤(x.cl.length:Int)
 n2:0≤x.n2∧x.n2≤(x.cl.length:Int)
 n3:0≤x.n3∧x.n3≤(x.cl.length:Int)
 n4:0≤x.n4∧x.n4≤(x.cl.length:Int)
 n5:0≤x.n5∧x.n5≤(x.cl.length:Int)
 n6:0≤x.n6∧x.n6≤(x.cl.length:Int)
 n7:0≤x.n7∧x.n7≤(x.cl.length:Int)
theorem jP{e c e' c':Int}{x:HST}(h:hstW e c x)(h1:e≤e')(h2:c≤c'):hstW e' c' x:=⟨Int.le_trans h.he h1,Int.le_trans h.hc h2,h.n0,h.n1,h.n2,h.n3,h.n4,h.n5,h.n6,h.n7⟩
theorem nH{P:Prop}(h:P:=by first | omega | (dsimp only;omega) | (simp only [List.length_append,List.length_singleton,List.length_set,List.length_cons,List.length_nil];done) | (simp only [List.length_append,List.length_singleton,List.length_set,List.length_cons,List.length_nil];omega) | (dsimp only;simp only [List.length_append,List.length_singleton,List.length_set];omega)):P:=h
theorem YJ{e c th:Int}{x:HST}(kd ky:Int)(h:hstW e c x)(he:e≤1000000)(hc:c≤1000000)(h0:0≤th∧th<8):(hbT th x kd ky).run (fun r=>hstW (e+1) (c+1) r.2):=by
 have hh:=h;obtain⟨a,b,m0,m1,m2,m3,m4,m5,m6,m7⟩:=h;unfold hbT;refine aGW (fun q0=>?c0) (fun q0=>aGW (fun q1=>?c1) (fun q1=>aGW (fun q2=>?c2) (fun q2=>aGW (fun q3=>?c3) (fun q3=>aGW (fun q4=>?c4) (fun q4=>aGW (fun q5=>?c5) (fun q5=>aGW (fun q6=>?c6) (fun q6=>aGW (fun q7=>?c7) (fun q7=>?c8))))))))
 case' c0=>unfold BL w2i w2h w2g
 case' c1=>unfold BM w2i w2h w2g
 case' c2=>unfold BN w2i w2h w2g
 case' c3=>unfold BO w2i w2h w2g
 case' c4=>unfold BP w2i w2h w2g
 case' c5=>unfold BQ w2i w2h w2g
 case' c6=>unfold BR w2i w2h w2g
 case' c7=>unfold BS w2i w2h w2g
 case c8=>
  have q0:=eT q0;have q1:=eT q1;have q2:=eT q2;have q3:=eT q3;have q4:=eT q4;have q5:=eT q5;have q6:=eT q6;have q7:=eT q7;omega
 all_goals (repeat' (with_reducible first | exact trivial | rfl | assumption | refine aGX ?_ ?_ | refine Tr.run_ite (fun _=>?_) (fun _=>?_) | refine aGZ ?_ | refine And.intro ?_ ?_))
 all_goals first
  | exact aY
  | exact jP hh (by omega) (by omega)
  | exact nH
  | (refine⟨?_,?_,?_,?_,?_,?_,?_,?_,?_,?_⟩<;>exact nH)
theorem YN{e c th:Int}{x:HST}(code:Int)(okk:Bool)(val:Int)(h:hstW e c x)(he:e≤1000000)(hc:c≤1000000)(h0:0≤th∧th<8):(heT th x code okk val).run (fun r=>hstW (e+1) (c) r.2):=by
 have hh:=h;obtain⟨a,b,m0,m1,m2,m3,m4,m5,m6,m7⟩:=h;unfold heT;refine aGW (fun q0=>?c0) (fun q0=>aGW (fun q1=>?c1) (fun q1=>aGW (fun q2=>?c2) (fun q2=>aGW (fun q3=>?c3) (fun q3=>aGW (fun q4=>?c4) (fun q4=>aGW (fun q5=>?c5) (fun q5=>aGW (fun q6=>?c6) (fun q6=>aGW (fun q7=>?c7) (fun q7=>?c8))))))))
 case' c0=>unfold BT w2k w30 w2z;have hW:=cW (x:=x.n0 - 1) ⟨by omega,by omega⟩;change W (x.n0 - 1)=x.n0 - 1 at hW
 case' c1=>unfold BU w2l w30 w2z;have hW:=cW (x:=x.n1 - 1) ⟨by omega,by omega⟩;change W (x.n1 - 1)=x.n1 - 1 at hW
 case' c2=>unfold BV w2m w30 w2z;have hW:=cW (x:=x.n2 - 1) ⟨by omega,by omega⟩;change W (x.n2 - 1)=x.n2 - 1 at hW
 case' c3=>unfold BW w2n w30 w2z;have hW:=cW (x:=x.n3 - 1) ⟨by omega,by omega⟩;change W (x.n3 - 1)=x.n3 - 1 at hW
 case' c4=>unfold BX w2o w30 w2z;have hW:=cW (x:=x.n4 - 1) ⟨by omega,by omega⟩;change W (x.n4 - 1)=x.n4 - 1 at hW
 case' c5=>unfold BY w2p w30 w2z;have hW:=cW (x:=x.n5 - 1) ⟨by omega,by omega⟩;change W (x.n5 - 1)=x.n5 - 1 at hW
 case' c6=>unfold BZ w2q w30 w2z;have hW:=cW (x:=x.n6 - 1) ⟨by omega,by omega⟩;change W (x.n6 - 1)=x.n6 - 1 at hW
 case' c7=>unfold B0 w2j w30 w2z;have hW:=cW (x:=x.n7 - 1) ⟨by omega,by omega⟩;change W (x.n7 - 1)=x.n7 - 1 at hW
 case c8=>
  have q0:=eT q0;have q1:=eT q1;have q2:=eT q2;have q3:=eT q3;have q4:=eT q4;have q5:=eT q5;have q6:=eT q6;have q7:=eT q7;omega
 all_goals (repeat' (with_reducible first | exact trivial | rfl | assumption | refine aGX ?_ ?_ | refine Tr.run_ite (fun _=>?_) (fun _=>?_) | refine aGZ ?_ | refine And.intro ?_ ?_))
 all_goals first
  | exact aY
  | exact jP hh (by omega) (by omega)
  | exact nH
  | (rw [hW];simp only [aU,Bool.not_eq_false',dT',Bool.not_eq_true',dF']at*;first | omega | exact nH)
  | (refine⟨?_,?_,?_,?_,?_,?_,?_,?_,?_,?_⟩<;>exact nH)
theorem NR{t b c:Int}{st:STS}{x:FTS}(h:UN t b st x)(hbc:b≤c):UN t c st x:=⟨h.h,fun e=>⟨(h.fn e).1,eQ (h.fn e).2 (by omega)⟩,h.cl,h.ps⟩
theorem AQ{t n b c:Int}{e:ENS}(hx:enI t n b e)(hbc:b≤c):enI t n c e:=by
 match e,hx with
 | ⟨0,sh,dn,x,y⟩,hx=>trivial
 | ⟨1,sh,dn,x,y⟩,hx=>exact hx
 | ⟨2,sh,dn,x,y⟩,hx=>trivial
 | ⟨3,sh,dn,x,y⟩,hx=>exact⟨⟨hx.1.1,Int.le_trans hx.1.2 hbc⟩,hx.2⟩
 | ⟨4,sh,dn,x,y⟩,hx=>exact⟨hx.1,hx.2.1,hx.2.2.1,hx.2.2.2.1,hx.2.2.2.2.1,Int.le_trans hx.2.2.2.2.2 hbc⟩
theorem K3{t n b c:Int}{e:SWS}(hx:K2 t n b e)(hbc:b≤c):K2 t n c e:=by
 match e,hx with
 | ⟨0,N,m,i,ks,fs,gs,j,l⟩,hx=>trivial
 | ⟨1,N,m,i,ks,fs,gs,j,l⟩,hx=>exact⟨⟨hx.1.1,Int.le_trans hx.1.2 hbc⟩,hx.2⟩
 | ⟨2,N,m,i,ks,fs,gs,j,l⟩,hx=>exact⟨hx.1,hx.2.1,hx.2.2.1,hx.2.2.2.1,hx.2.2.2.2.1,Int.le_trans hx.2.2.2.2.2 hbc⟩
theorem OG{t n b c:Int}{st:STS}{x:HPS}(h:VU t n b st x)(hbc:b≤c):VU t n c st x:=⟨h.h,h.u,h.ex,fun e=>AQ (h.en e) hbc,fun e=>⟨(h.fn e).1,eQ (h.fn e).2 (by omega)⟩,h.cl,h.ps⟩
theorem MK{t n b c:Int}{st:STS}{x:DOS}(h:S9 t n b st x)(hbc:b≤c):S9 t n c st x:=⟨h.h,h.hd,fun e=>OG (h.hp e) hbc,fun e=>AQ (h.en e) hbc,fun e=>NR (h.ft e) hbc,h.an,h.aw,fun e=>⟨(h.fn e).1,eQ (h.fn e).2 (by omega)⟩,h.dr,fun e=>K3 (h.sw e) hbc⟩
structure XS (t n b:Int) (w:WKS):Prop where
 ht:w.t=t
 hn:w.n=n
 st:stW b w.st
 d:w.b=true→S9 t n b w.st w.d∧w.en<(w.tk.length:Int)
 e0:0≤w.en
 e1:w.en≤(w.tk.length:Int)
 tl:(w.tl.length:Int)=w.en+(bif w.b then 1 else 0)
 sl:(w.sl.length:Int)≤w.en
 tk:(w.tk.length:Int)≤100000
structure QX (t n b:Int) (w:WK1):Prop where
 ht:w.t=t
 hn:w.n=n
 st:stW b w.st
 d:S9 t n b w.st w.d
 e0:0≤w.en
 e1:w.en<(w.tk.length:Int)
 tl:(w.tl.length:Int)=w.en+1
 sl:(w.sl.length:Int)≤w.en
 tk:(w.tk.length:Int)≤100000
theorem QZ{t n b c:Int}{w:WKS}(h:XS t n b w)(hbc:b≤c):XS t n c w:=⟨h.ht,h.hn,iR h.st hbc,fun e=>⟨MK (h.d e).1 hbc,(h.d e).2⟩,h.e0,h.e1,h.tl,h.sl,h.tk⟩
theorem QT{t n b tr:Int}{w:WKS}(h:XS t n b w)(hb:w.b=false)(hl:w.en<(w.tk.length:Int)):(LA tr w).run (QX t n b):=by
 obtain⟨rfl,rfl,hst,hd,e0,e1,htl,hsl,htk⟩:=h;rw [hb]at htl;have htl:(w.tl.length:Int)=w.en+0:=htl;have hN:=fun sh kd ky lim=>aAd (t:=w.t) (n:=w.n) (b:=b) sh kd ky lim w.st;unfold LA w33
 (repeat' (with_reducible first | exact trivial | rfl | assumption | refine aGX ?_ ?_ | refine Tr.run_ite (fun _=>?_) (fun _=>?_) | refine aGZ ?_ | refine And.intro ?_ ?_))
 all_goals first
  | exact aY
  | exact aHa (hN _ _ _ _)
  | (simp only [List.length_append,List.length_singleton];done)
  | (refine⟨rfl,rfl,?_,?_,e0,hl,?_,hsl,htk⟩
     ·dsimp only;rw [show(dqNF _ _ _ _ _ _ _).2=w.st from(aG5 (hN _ _ _ _)).2];exact hst
     ·dsimp only;rw [show(dqNF _ _ _ _ _ _ _).2=w.st from(aG5 (hN _ _ _ _)).2];exact(aG5 (hN _ _ _ _)).1
     ·dsimp only;rw [List.length_append,List.length_singleton];omega)
theorem aCG{t n b tr:Int}{w:WKS}(h:XS t n b w)(hl:w.en<(w.tk.length:Int)):QU tr w:=by
 unfold QU;cases hb:w.b with
 | true=>trivial
 | false=>exact aHa (QT h hb hl)
theorem aCH{t n b tr:Int}{w:WKS}(h:XS t n b w)(hl:w.en<(w.tk.length:Int)):QX t n b (wbF tr w):=by
 unfold wbF;cases hb:w.b with
 | true=>
   obtain⟨h1,h2,h3,h4,h5,h6,h7,h8,h9⟩:=h;rw [hb]at h7;exact⟨h1,h2,h3,(h4 hb).1,h5,hl,h7,h8,h9⟩
 | false=>exact aG5 (QT h hb hl)
structure aE7 (t n b:Int) (s:MS) (o:WkO):Prop where
 a:Act1 s o.s
 w:XS t n (b+1) o.x
theorem ZA{t n b:Int}{w:WK1}{s:MS}(hb:Bnd t n s)(h:QX t n b w)(hbb:b≤900000):(wsT w s).run (aE7 t n b s):=by
 obtain⟨rfl,rfl,hst,hd,e0,e1,htl,hsl,htk⟩:=h;have hD:=aAr hb hd hst hbb;have hDo:=aAq hb hd hst hbb;have hA:=hD.a;have hW:W (w.en+1)=w.en+1:=cW ⟨by omega,by omega⟩
 unfold wsT w35 w34
 (repeat' (with_reducible first | exact trivial | rfl | assumption | refine aGX ?_ ?_ | refine Tr.run_ite (fun _=>?_) (fun _=>?_) | refine aGZ ?_ | refine And.intro ?_ ?_))
 all_goals first
  | exact aY
  | (simp only [List.length_append,List.length_singleton,List.length_set];done)
  | (refine⟨hA,⟨rfl,rfl,hD.st,?_,?_,?_,?_,?_,htk⟩⟩
     ·first
       | (intro e;exact Bool.noConfusion e)
       | (intro e;exact⟨hD.w (by assumption),e1⟩)
     ·first | exact e0 | (dsimp only;rw [hW];omega)
     ·first | (dsimp only;omega) | (dsimp only;rw [hW];omega)
     ·dsimp only;rw [List.length_set]
      first | (rw [hW];show _=w.en+1+0;omega) | (show _=w.en+1;omega)
     ·dsimp only
      first | (rw [hW];simp only [List.length_append,List.length_singleton];omega) | (rw [hW];omega) | omega)
theorem aCO{t n b:Int}{w:WK1}{s:MS}(hb:Bnd t n s)(h:QX t n b w)(hbb:b≤900000):XT w s:=aHa (ZA hb h hbb)
theorem aCP{t n b:Int}{w:WK1}{s:MS}(hb:Bnd t n s)(h:QX t n b w)(hbb:b≤900000):aE7 t n b s (wsF w s):=aG5 (ZA hb h hbb)
structure egW (t n:Int) (x:EGS):Prop where
 ht:1≤t∧t≤8
 hn:1≤n∧n≤1000
 st:x.s.t=t
 sn:x.s.n=n
 xt:x.th=t
 xn:x.nd=n
 k:0≤x.k∧x.k≤60000
 c:x.s.c=x.k
 w:WB x.s.xs
 l:(x.ws.length:Int)=t
 ws: ∀i,i<x.ws.length→XS t n x.k (bF x.ws i)
 h:hstW (2*x.k) x.k x.h
theorem QY{ws:List WKS}{i j:Nat}{w:WKS}(hi:i<ws.length):bF (dL ws i w) j=if i=j then w else bF ws j:=by
 unfold bF dL;rw [gD',List.getElem?_set,gD']
 by_cases e:i=j
 ·subst e;rw [if_pos rfl,if_pos rfl,if_pos hi];rfl
 ·rw [if_neg e,if_neg e]
theorem xH(ws:List WKS)(i:Nat)(w:WKS):(dL ws i w).length =ws.length:=by unfold dL;exact List.length_set
theorem F8{ws:List WKS}{i:Nat}(hi:i<ws.length):dL ws i (bF ws i)=ws:=by
 unfold dL bF;apply List.ext_getElem
 ·simp
 ·intro j h1 h2;rw [List.getElem_set];split
  ·rename_i e;subst e;rw [gD',gE' hi];rfl
  ·rfl
structure WF (t n:Int) (x:EGS) (r:Bool×EGS):Prop where
 no:r.1=false→r.2=x
 yes:r.1=true→egW t n r.2∧r.2.k=x.k+1∧r.2.sh=x.sh∧r.2.tr=x.tr
 w:egW t n r.2
theorem tM{t n:Int}{x:EGS}(h:egW t n x):WF t n x (false,x):=⟨fun _=>rfl,fun e=>Bool.noConfusion e,h⟩
theorem qM{t n:Int}{x:EGS}{s:MS}{h:HST}{i:Nat}{w:WKS}(hx:egW t n x)(hk:x.k<60000)(hi:i<x.ws.length)(ha:Act1 x.s s)(hw:XS t n (x.k+1) w)(hh:hstW (2*(x.k+1)) (x.k+1) h):
 WF t n x (true,{sh:=x.sh,th:=x.th,nd:=x.nd,tr:=x.tr,s:=s,h:=h,ws:=dL x.ws i w,k:=W (x.k+1) }):=by
 obtain⟨ht,hn,st,sn,xt,xn,k,c,wd,l,ws,hst⟩:=hx;have hW:W (x.k+1)=x.k+1:=cW ⟨by omega,by omega⟩
 rw [hW]
 have hr:egW t n {sh:=x.sh,th:=x.th,nd:=x.nd,tr:=x.tr,s:=s,h:=h,ws:=dL x.ws i w,k:=x.k+1} :=by
  refine⟨ht,hn,ha.t.trans st,ha.n.trans sn,xt,xn,?_,?_,ha.w wd,?_,?_,hh⟩
  ·dsimp only;omega
  ·dsimp only;rw [ha.c,c]
  ·dsimp only;rw [xH];exact l
  ·intro j hj;dsimp only at hj⊢;rw [xH]at hj;rw [QY hi];split
   ·exact hw
   ·exact QZ (ws j hj) (by omega)
 exact⟨fun e=>Bool.noConfusion e,fun _=>⟨hr,rfl,rfl,rfl⟩,hr⟩
theorem YV{t n:Int}{x:EGS}(th:Int)(hx:egW t n x):(pkT th x).run (WF t n x):=by
 have hx':=hx;obtain⟨ht,hn,st,sn,xt,xn,hk,hc,wd,hl,hws,hst⟩:=hx;have hB:Bnd t n x.s:=⟨⟨ht.1,by omega⟩,hn,by omega,wd⟩
 unfold pkT w38 w39;refine Tr.run_ite (fun e1=>?_) (fun e1=>Tr.run_ite (fun e2=>?_) (fun e2=>?_))
 · (repeat' (with_reducible first | exact trivial | rfl | assumption | refine aGX ?_ ?_ | refine Tr.run_ite (fun _=>?_) (fun _=>?_) | refine aGZ ?_ | refine And.intro ?_ ?_));exact tM hx'
 · (repeat' (with_reducible first | exact trivial | rfl | assumption | refine aGX ?_ ?_ | refine Tr.run_ite (fun _=>?_) (fun _=>?_) | refine aGZ ?_ | refine And.intro ?_ ?_));exact tM hx'
 rw [aU,dF']at e1;rw [cC,dF']at e2;have hi:0+Int.toNat th*1<x.ws.length:=by omega
 have hw:=hws _ hi;have hself:=F8 hi;generalize hig:0+Int.toNat th*1=i at*;refine aGX ⟨by omega,by omega⟩ (aGX hi (aGX trivial (Tr.run_ite (fun e3=>?_) (fun e3=>Tr.run_ite (fun e4=>?_) (fun e4=>?_)))))
 · (repeat' (with_reducible first | exact trivial | rfl | assumption | refine aGX ?_ ?_ | refine Tr.run_ite (fun _=>?_) (fun _=>?_) | refine aGZ ?_ | refine And.intro ?_ ?_))
   all_goals first | assumption | (rw [hself];exact tM hx')
 · (repeat' (with_reducible first | exact trivial | rfl | assumption | refine aGX ?_ ?_ | refine Tr.run_ite (fun _=>?_) (fun _=>?_) | refine aGZ ?_ | refine And.intro ?_ ?_))
   all_goals first | assumption | (rw [hself];exact tM hx')
 rw [cC,dF']at e4
 have hen:(bF x.ws i).en <((bF x.ws i).tk.length :Int):=by
  have h0:=hw.e0;have h1:=hw.e1;have h2:=hw.tk;have h3:=eT e3;have hW:=cW (x:=((bF x.ws i).tk.length :Int) - (bF x.ws i).en) ⟨by omega,by omega⟩
  have h4:W (((bF x.ws i).tk.length :Int) - (bF x.ws i).en)≠0:=h3;have hW:W (((bF x.ws i).tk.length :Int) - (bF x.ws i).en)=((bF x.ws i).tk.length :Int) - (bF x.ws i).en :=hW;rw [hW]at h4;omega
 have h1w:=aCH (tr:=x.tr) hw hen;have h1o:=aCG (tr:=x.tr) hw hen;refine aGX h1o ?_;have hS:=aCP hB h1w (by omega)
 have hSo:=aCO hB h1w (by omega)
 generalize wbF x.tr (bF x.ws i)=w1 at*;generalize hsg:wsF w1 x.s=o at*;have hth:0≤th∧th<8:=by omega
 refine Tr.run_ite (fun e5=>?_) (fun e5=>?_)
 ·have hH:=YJ (th:=th) (kd:=(WK1.d w1).6) (ky:=(WK1.d w1).7) hst (by omega) (by omega) hth
  have hHo:hbOk th x.h (WK1.d w1).6 (WK1.d w1).7:=aHa hH;have hHv:hstW (2*x.k+1) (x.k+1) (hbF th x.h (WK1.d w1).6 (WK1.d w1).7).2:=aG5 hH;generalize hbF th x.h (WK1.d w1).6 (WK1.d w1).7=y at*;have hE:=YN (th:=th) (code:=o.1) (okk:=o.2) (val:=o.3) hHv (by omega) (by omega) hth
  have hEo:heOk th y.2 o.1 o.2 o.3:=aHa hE;have hEv:hstW (2*x.k+1+1) (x.k+1) (heF th y.2 o.1 o.2 o.3).2:=aG5 hE
  (repeat' (with_reducible first | exact trivial | rfl | assumption | refine aGX ?_ ?_ | refine Tr.run_ite (fun _=>?_) (fun _=>?_) | refine aGZ ?_ | refine And.intro ?_ ?_))
  all_goals first
   | assumption
   | exact qM hx' (by omega) hi hS.a hS.w (jP hEv (by omega) (by omega))
   | exact qM hx' (by omega) hi hS.a hS.w (jP hHv (by omega) (by omega))
 ·have hE:=YN (th:=th) (code:=o.1) (okk:=o.2) (val:=o.3) hst (by omega) (by omega) hth
  have hEo:heOk th x.h o.1 o.2 o.3:=aHa hE;have hEv:hstW (2*x.k+1) x.k (heF th x.h o.1 o.2 o.3).2:=aG5 hE
  (repeat' (with_reducible first | exact trivial | rfl | assumption | refine aGX ?_ ?_ | refine Tr.run_ite (fun _=>?_) (fun _=>?_) | refine aGZ ?_ | refine And.intro ?_ ?_))
  all_goals first
   | assumption
   | exact qM hx' (by omega) hi hS.a hS.w (jP hEv (by omega) (by omega))
   | exact qM hx' (by omega) hi hS.a hS.w (jP hst (by omega) (by omega))
theorem O5{t n:Int}{x:EGS}(th:Int)(hx:egW t n x):O4 th x:=aHa (YV th hx)
theorem yE{t n:Int}{x:EGS}(th:Int)(hx:egW t n x):WF t n x (pkF th x):=aG5 (YV th hx)
end Go.Sh
