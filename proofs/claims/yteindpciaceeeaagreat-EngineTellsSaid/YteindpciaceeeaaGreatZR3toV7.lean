import Derived.Test.YteindpciaceeeaaGreatZSh32toSh33
set_option linter.all false
set_option maxHeartbeats 8000000
namespace Go.Sh
open Go Go.Proofs
variable [Con]
theorem L2{n:Nat}(th tm:Nat→Int)(hn:n≤4294967296):DF Tryz.prog 114 (WB n th tm) (zH th tm n 0 60000):=by
 intro l Fr hY;exact LY l n th tm _ hY _ (aC6 l n th tm _ hY _ hn rfl rfl)
def kC:Code→Code
 | .seq x _=>x
 | .block _ c=>c
 | c=>c
def kD:Code→Code
 | .seq _ y=>y
 | c=>c
def D4:Code→Code
 | .rangeFunc _ _ a _=>a
 | c=>c
def D5:Code→Code
 | .rangeFunc _ _ _ b=>b
 | c=>c
noncomputable def m9:Code:=(Tryz.f85.body).getD .skip
noncomputable def X1:Code:=.seq (kC m9) (.seq (kC (kD m9)) (kC (kC (kD (kD m9)))))
noncomputable def rO:Code:=kC (kD (kC (kD (kD m9))))
noncomputable def M7:Code:=kC (kD (kD (kD m9)))
def GZ(x:EGS)(n:Nat)(row:Nat→List AVal)(K:List AVal→aC Ob→Prop):Prop:=K [.func (Fn.func 41) [.ptr 0 0] [],.view n 2 row,.ptr 1 0,.raw (Value.tuple {toList:=[] }),.int .i64 0,.ptr 2 0,.raw (Value.tuple {toList:=[] }),.view n 2 row,.func (Fn.func 114) [] [.ptr 3 0],.raw (Value.tuple {toList:=[] }),.raw (Value.tuple {toList:=[] }),.raw (Value.tuple {toList:=[] }),.raw (Value.tuple {toList:=[] }),.raw (Value.tuple {toList:=[] }),.raw (Value.tuple {toList:=[] }),.raw (Value.tuple {toList:=[] })] [some (.abs (.engine x) []),some (.cells [.func (Fn.func 41) [.ptr 0 0] []]),some (.cells [.int .i64 0]),some (.cells [.view n 2 row])]
theorem I0(x:EGS)(n:Nat)(row:Nat→List AVal)(K:List AVal→aC Ob→Prop)(h:GZ x n row K):Ev (cQ EU9 (nA EU9 LL 9) 16 X1 ([.func (.func 41) [.ptr 0 0] [],.view n 2 row]++List.replicate 14 (.raw undef)) [some (.abs (.engine x) [])] K):=aK (q:=GZ x n row K) (by kernel_rfl) h
def NQ(x:EGS)(n:Nat)(row:Nat→List AVal)(c u:Int)(K:aC Ob→Prop):Prop:=PA u x∧bif (pkF u x).1 then K [some (.abs (.engine (pkF u x).2) []),some (.cells [.func (Fn.func 41) [.ptr 0 0] []]),some (.cells [.int .i64 (W (c+1))])]else K [some (.abs (.engine (pkF u x).2) []),some (.cells [.func (Fn.func 41) [.ptr 0 0] []]),some (.cells [.int .i64 c])]
theorem I1(x:EGS)(n:Nat)(row:Nat→List AVal)(c u:Int)(K:aC Ob→Prop)(h:NQ x n row c u K):Ev (cQ EU9 (nA EU9 LL 9) 16 (D4 rO) (List.set (([.func (.func 41) [.ptr 0 0] [],.view n 2 row,.ptr 1 0,.raw undef,.int .i64 0,.ptr 2 0,.raw undef,.view n 2 row,.O]:List AVal)++List.replicate 7 (.raw undef)) 9 (.int .i64 u)) [some (.abs (.engine x) []),some (.cells [.func (.func 41) [.ptr 0 0] []]),some (.cells [.int .i64 c])] (fun tm1 h1=>cQ EU9 (nA EU9 LL 9) 16 (D5 rO) tm1 h1 (fun _ h2=>K h2))):=aK (q:=NQ x n row c u K) (by kernel_rfl) h
def NT(x:EGS)(n:Nat)(row:Nat→List AVal)(c:Int)(K:List AVal→aC Ob→Prop):Prop:=K [.func (Fn.func 41) [.ptr 0 0] [],.view n 2 row,.ptr 1 0,.raw (Value.tuple {toList:=[] }),.int .i64 c,.ptr 2 0,.raw (Value.tuple {toList:=[] }),.view n 2 row,.O,.raw (Value.tuple {toList:=[] }),.raw (Value.tuple {toList:=[] }),.raw (Value.tuple {toList:=[] }),.raw (Value.tuple {toList:=[] }),.raw (Value.tuple {toList:=[] }),.raw (Value.tuple {toList:=[] }),.int .i64 c] [some (.abs (.engine x) []),some (.cells [.func (Fn.func 41) [.ptr 0 0] []]),some (.cells [.int .i64 c])]
theorem I2(x:EGS)(n:Nat)(row:Nat→List AVal)(c:Int)(K:List AVal→aC Ob→Prop)(h:NT x n row c K):Ev (cQ EU9 (nA EU9 LL 9) 16 M7 ([.func (.func 41) [.ptr 0 0] [],.view n 2 row,.ptr 1 0,.raw undef,.int .i64 0,.ptr 2 0,.raw undef,.view n 2 row,.O]++List.replicate 7 (.raw undef)) [some (.abs (.engine x) []),some (.cells [.func (.func 41) [.ptr 0 0] []]),some (.cells [.int .i64 c])] K):=aK (q:=NT x n row c K) (by kernel_rfl) h
theorem aGP{X:Type}{K:X→Prop} : ∀ {t:Tr X},t.run K→t.ok
 | .ret x,k=>trivial
 | .ite b l r,k=>by cases b with
   | true=>exact aGP (t:=l) k
   | false=>exact aGP (t:=r) k
 | .pre p t,k=>⟨k.1,aGP (t:=t) k.2⟩
theorem aGK{X:Type}{K:X→Prop} : ∀ {t:Tr X},t.run K→K t.val
 | .ret x,k=>k
 | .ite b l r,k=>by cases b with
   | true=>exact aGK (t:=l) k
   | false=>exact aGK (t:=r) k
 | .pre p t,k=>aGK (t:=t) k.2
theorem Tr.run_ite{X:Type}{K:X→Prop}{b:Bool}{l r:Tr X}(h1:b=true→l.run K)(h2:b=false→r.run K):(Tr.ite b l r).run K:=aI h1 h2
theorem aGD{X:Type}{K:X→Prop}{b:Bool}{l r:Tr X}(h1:b=true→l.run K)(h2:b=false→r.run K):(bif b then l else r).run K:=by
 cases b with
 | true=>exact h1 rfl
 | false=>exact h2 rfl
theorem aGA{X:Type}{K:X→Prop}{p:Prop}{t:Tr X}(h1:p)(h2:t.run K):(Tr.pre p t).run K:=⟨h1,h2⟩
theorem aGC{X:Type}{K:X→Prop}{x:X}(h:K x):(Tr.ret x).run K:=h
theorem nE'{P Q:Prop}(h:¬P:=by dsimp only;decide):P→Q:=fun e=>absurd e h
structure rngU (x:Int):Prop where
 h0:0≤x
 h1:x≤18446744073709551615
theorem C0:rngU 0:=⟨by decide,by decide⟩
theorem FY(x:Int):rngU (WU x):=⟨(LS x).1,(LS x).2⟩
theorem P1{xs:List Int}(h:VX xs)(a:Int):rngU (aE xs a):=⟨(uV h a).1,(uV h a).2⟩
theorem yO{b:Bool}{x y:Int}(h1:b=true→rngU x)(h2:rngU y):rngU (bif b then x else y):=by
 cases b with
 | true=>exact h1 rfl
 | false=>exact h2
theorem lI{n w:Int}(h:aN n w=true):0≤n∧n<2^w.toNat:=by
 unfold aN at h;simp only [Bool.and_eq_true,cE,aU,dT']at h;exact h
theorem MA(b:Bool):0≤bitI b∧bitI b≤1:=by cases b<;>decide
theorem P0{a b c d e f:Int}{m:Bool} :rngU (bif dOk a b c d e f then cM a b c d m e f else 0):=by
 refine yO (fun h=>?_) C0;unfold dOk at h;simp only [Bool.and_eq_true]at h;obtain⟨h1,h2,h3,h4,h5,h6⟩:=h;have h1:=lI h1;have h2:=lI h2;have h3:=lI h3;have h4:=lI h4;have h5:=lI h5;have h6:=lI h6;have hb:=MA m;simp only [Int.reduceToNat,Int.reducePow]at h1 h2 h3 h4 h5 h6;unfold cM;exact⟨by omega,by omega⟩
theorem WQ{a b c v:Int}{m:Bool} :rngU (bif bif aN a 10 then bif aN b 9 then bif aN c 5 then aN v 18 else false else false else false then cN a b m c v else 0):=by
 refine yO (fun h=>?_) C0;cases h1:aN a 10 with
 | false=>rw [h1]at h;cases h
 | true=>
   cases h2:aN b 9 with
   | false=>rw [h1,h2]at h;cases h
   | true=>
     cases h3:aN c 5 with
     | false=>rw [h1,h2,h3]at h;cases h
     | true=>
       rw [h1,h2,h3]at h;have h:=lI (show aN v 18=true from h)
       have h1:=lI h1;have h2:=lI h2;have h3:=lI h3;have hb:=MA m;simp only [Int.reduceToNat,Int.reducePow]at h h1 h2 h3;unfold cN;exact⟨by omega,by omega⟩
structure Act1 (s s':MS):Prop where
 c:s'.c=s.c+1
 len:s'.xs.length=s.xs.length
 w:VX s.xs→VX s'.xs
 t:s'.t=s.t
 n:s'.n=s.n
theorem zG(s:MS)(k a o w:Int)(ok:Bool):Act1 s ⟨s.t,s.n,s.xs,s.c+1,k,a,o,w,ok⟩:=⟨rfl,rfl,id,rfl,rfl⟩
theorem xN(s:MS)(b v k a o w:Int)(ok:Bool)(h:rngU v):Act1 s ⟨s.t,s.n,aY s.xs b v,s.c+1,k,a,o,w,ok⟩:=⟨rfl,k9 _ _ _,fun hw=>VY hw ⟨h.h0,h.h1⟩,rfl,rfl⟩
theorem GM(s:MS)(q:Bool)(b v k a o w:Int)(ok:Bool)(h:rngU v):Act1 s ⟨s.t,s.n,bif q then aY s.xs b v else s.xs,s.c+1,k,a,o,w,ok⟩:=by
 cases q with
 | true=>exact xN s b v k a o w ok h
 | false=>exact zG s k a o w ok
theorem SR(x a:Int)(w:Int):0≤aA x a w∧aA x a w<2^w.toNat:=SP
structure Bnd (t n:Int) (s:MS):Prop where
 ht:1≤t∧t≤1000
 hn:1≤n∧n≤1000
 hc:0≤s.c∧s.c≤900000
 hw:VX s.xs
theorem nT{P:Prop}(h:P:=by(with_reducible first | exact C0 | exact FY _ | exact P0 | exact WQ | assumption)):P:=h
theorem z8{P:Prop}(h:P:=by(simp only [aA,Int.reduceToNat,Int.reducePow];omega)):P:=h
theorem aL{P:Prop}(h:P:=by(first
 | with_reducible exact trivial
 | with_reducible rfl
 | with_reducible assumption
 | with_reducible exact zG _ _ _ _ _ _
 | ((with_reducible refine xN _ _ _ _ _ _ _ _ ?_);exact nT)
 | ((with_reducible refine GM _ _ _ _ _ _ _ _ _ ?_);exact nT)
 | omega
 | exact z8
 | decide)):P:=h
theorem vM{P:Prop}(h:P:=by first | exact nT | (exact P1 (by assumption) _)):P:=h
theorem dG{P:Prop}(h:P:=by(dsimp only;first | omega | (constructor<;>omega) | exact z8)):P:=h
structure XW (t:Int) (x:CLS):Prop where
 h:x.at'=0∨x.at'=1∨x.at'=2∨x.at'=3
structure aDd (t:Int) (s:MS) (o:ClO):Prop where
 a:Act1 s o.s
 w:o.d=false→XW t o.x
theorem XX{t n:Int}{x:CLS}{s:MS}(hb:Bnd t n s)(hx:XW t x):(clT t n x s).run (aDd t s):=by
 obtain⟨⟨t0,t1⟩,⟨n0,n1⟩,⟨c0,c1⟩,hw⟩:=hb;obtain⟨h⟩:=hx;unfold clT;refine aGD (fun h0=>?_) (fun h0=>aGD (fun h1=>?_) (fun h1=>aGD (fun h2=>?_) (fun h2=>aGD (fun h3=>?_) (fun h3=>?_))))
 ·unfold zY
  (repeat' (with_reducible first | exact trivial | rfl | assumption | refine aGA ?_ ?_ | refine Tr.run_ite (fun _=>?_) (fun _=>?_) | refine aGC ?_ | refine And.intro ?_ ?_))
  all_goals first | exact aL | (refine⟨by exact aL,fun hd=>?_⟩;first | (exact Bool.noConfusion hd) | exact⟨by dsimp only;decide⟩)
 ·unfold zZ w04 w05 w06
  (repeat' (with_reducible first | exact trivial | rfl | assumption | refine aGA ?_ ?_ | refine Tr.run_ite (fun _=>?_) (fun _=>?_) | refine aGC ?_ | refine And.intro ?_ ?_))
  all_goals first | exact aL | (refine⟨by exact aL,fun hd=>?_⟩;first | (exact Bool.noConfusion hd) | exact⟨by dsimp only;decide⟩)
 ·unfold z6 w05 w06
  (repeat' (with_reducible first | exact trivial | rfl | assumption | refine aGA ?_ ?_ | refine Tr.run_ite (fun _=>?_) (fun _=>?_) | refine aGC ?_ | refine And.intro ?_ ?_))
  all_goals first | exact aL | (refine⟨by exact aL,fun hd=>?_⟩;first | (exact Bool.noConfusion hd) | exact⟨by dsimp only;decide⟩)
 ·unfold z7 w07
  (repeat' (with_reducible first | exact trivial | rfl | assumption | refine aGA ?_ ?_ | refine Tr.run_ite (fun _=>?_) (fun _=>?_) | refine aGC ?_ | refine And.intro ?_ ?_))
  all_goals first | exact aL | (refine⟨by exact aL,fun hd=>?_⟩;first | (exact Bool.noConfusion hd) | exact⟨by dsimp only;decide⟩)
 ·simp only [cO,beq_eq_false_iff_ne]at h0 h1 h2 h3;rcases h with e | e | e | e<;>contradiction
theorem D3{t n:Int}{x:CLS}{s:MS}(hb:Bnd t n s)(hx:XW t x):ME t n x s:=aGP (XX hb hx)
theorem xU{t n:Int}{x:CLS}{s:MS}(hb:Bnd t n s)(hx:XW t x):aDd t s (oU t n x s):=aGK (XX hb hx)
structure hdW (t:Int) (x:HDS):Prop where
 h:0≤x.at'∧x.at'≤1000
 u: -1≤x.u∧x.u≤1000
structure aEb (t:Int) (s:MS) (o:HdO):Prop where
 a:Act1 s o.s
 w:o.d=false→hdW t o.x
 p: -1≤o.x.u∧o.x.u≤1000
theorem YB{t n:Int}{x:HDS}{s:MS}(hb:Bnd t n s)(hx:hdW t x):(hdT t n x s).run (aEb t s):=by
 obtain⟨⟨t0,t1⟩,⟨n0,n1⟩,⟨c0,c1⟩,hw⟩:=hb;obtain⟨⟨h0,h1⟩,⟨u0,u1⟩⟩:=hx;have hW:W (x.at'+1)=x.at'+1:=cX ⟨by omega,by omega⟩
 unfold hdT;unfold U1 w08 w09;rw [hW]
 (repeat' (with_reducible first | exact trivial | rfl | assumption | refine aGA ?_ ?_ | refine Tr.run_ite (fun _=>?_) (fun _=>?_) | refine aGC ?_ | refine And.intro ?_ ?_))
 all_goals first | exact aL | (refine⟨by exact aL,fun hd=>by first | (exact Bool.noConfusion hd) | (refine⟨?_,?_⟩<;>dsimp only at hd⊢ <;>first | omega | (simp only [cE,dF']at hd;omega)),?_⟩;exact dG)
theorem aBv{t n:Int}{x:HDS}{s:MS}(hb:Bnd t n s)(hx:hdW t x):aBs t n x s:=aGP (YB hb hx)
theorem aBw{t n:Int}{x:HDS}{s:MS}(hb:Bnd t n s)(hx:hdW t x):aEb t s (pX t n x s):=aGK (YB hb hx)
structure drW (t:Int) (x:DRS):Prop where
 h:0≤x.th∧x.th≤1000
 u:0≤x.at'∧x.at'≤2
structure aDj (t:Int) (s:MS) (o:DrO):Prop where
 a:Act1 s o.s
 w:o.d=false→drW t o.x
theorem XZ{t n:Int}{x:DRS}{s:MS}(hb:Bnd t n s)(hx:drW t x):(drT t n x s).run (aDj t s):=by
 obtain⟨⟨t0,t1⟩,⟨n0,n1⟩,⟨c0,c1⟩,hw⟩:=hb;obtain⟨⟨h0,h1⟩,⟨u0,u1⟩⟩:=hx;have hW:W (x.at'+1)=x.at'+1:=cX ⟨by omega,by omega⟩
 unfold drT;unfold TE;rw [hW]
 (repeat' (with_reducible first | exact trivial | rfl | assumption | refine aGA ?_ ?_ | refine Tr.run_ite (fun _=>?_) (fun _=>?_) | refine aGC ?_ | refine And.intro ?_ ?_))
 all_goals first | exact aL | (refine⟨by exact aL,fun hd=>?_⟩;first | (exact Bool.noConfusion hd) | (refine⟨?_,?_⟩<;>dsimp only at hd⊢ <;>first | omega | (simp only [cE,dF']at hd;omega)))
theorem aAp{t n:Int}{x:DRS}{s:MS}(hb:Bnd t n s)(hx:drW t x):aAm t n x s:=aGP (XZ hb hx)
theorem aAq{t n:Int}{x:DRS}{s:MS}(hb:Bnd t n s)(hx:drW t x):aDj t s (RJ t n x s):=aGK (XZ hb hx)
structure anW (t:Int) (x:ANS):Prop where
 h:x.at'=0∨x.at'=1∨x.at'=2∨x.at'=3∨x.at'=4
 m:0≤x.me∧x.me≤1000
 b:rngU x.bits
 q:rngU x.no
structure aC8 (t:Int) (s:MS) (o:AnO):Prop where
 a:Act1 s o.s
 w:o.d=false→anW t o.x
theorem XS{t n:Int}{x:ANS}{s:MS}(hb:Bnd t n s)(hx:anW t x):(anT t n x s).run (aC8 t s):=by
 obtain⟨⟨t0,t1⟩,⟨n0,n1⟩,⟨c0,c1⟩,hw⟩:=hb;obtain⟨h,⟨m0,m1⟩,b,q⟩:=hx;unfold anT;refine aGD (fun h0=>?_) (fun h0=>aGD (fun h1=>?_) (fun h1=>aGD (fun h2=>?_) (fun h2=>aGD (fun h3=>?_) (fun h3=>aGD (fun h4=>?_) (fun h4=>?_)))))
 ·unfold zL w0a
  (repeat' (with_reducible first | exact trivial | rfl | assumption | refine aGA ?_ ?_ | refine Tr.run_ite (fun _=>?_) (fun _=>?_) | refine aGC ?_ | refine And.intro ?_ ?_))
  all_goals first | exact aL | (refine⟨by exact aL,fun hd=>?_⟩;first | (exact Bool.noConfusion hd) | exact⟨by dsimp only;decide,⟨m0,m1⟩,by assumption,by exact vM⟩)
 ·unfold zM
  (repeat' (with_reducible first | exact trivial | rfl | assumption | refine aGA ?_ ?_ | refine Tr.run_ite (fun _=>?_) (fun _=>?_) | refine aGC ?_ | refine And.intro ?_ ?_))
  all_goals first | exact aL | (refine⟨by exact aL,fun hd=>?_⟩;first | (exact Bool.noConfusion hd) | exact⟨by dsimp only;decide,⟨m0,m1⟩,by assumption,by exact vM⟩)
 ·unfold zN w0a
  (repeat' (with_reducible first | exact trivial | rfl | assumption | refine aGA ?_ ?_ | refine Tr.run_ite (fun _=>?_) (fun _=>?_) | refine aGC ?_ | refine And.intro ?_ ?_))
  all_goals first | exact aL | (refine⟨by exact aL,fun hd=>?_⟩;first | (exact Bool.noConfusion hd) | exact⟨by dsimp only;decide,⟨m0,m1⟩,by assumption,by exact vM⟩)
 ·unfold zO w0a
  (repeat' (with_reducible first | exact trivial | rfl | assumption | refine aGA ?_ ?_ | refine Tr.run_ite (fun _=>?_) (fun _=>?_) | refine aGC ?_ | refine And.intro ?_ ?_))
  all_goals first | exact aL | (refine⟨by exact aL,fun hd=>?_⟩;first | (exact Bool.noConfusion hd) | exact⟨by dsimp only;decide,⟨m0,m1⟩,by assumption,by exact vM⟩)
 ·unfold zP w0b w0a
  (repeat' (with_reducible first | exact trivial | rfl | assumption | refine aGA ?_ ?_ | refine Tr.run_ite (fun _=>?_) (fun _=>?_) | refine aGC ?_ | refine And.intro ?_ ?_))
  all_goals first | exact aL | (refine⟨by exact aL,fun hd=>?_⟩;first | (exact Bool.noConfusion hd) | exact⟨by dsimp only;decide,⟨m0,m1⟩,by assumption,by exact vM⟩)
 ·simp only [cO,beq_eq_false_iff_ne]at h0 h1 h2 h3 h4;rcases h with e | e | e | e | e<;>contradiction
theorem ZG{t n:Int}{x:ANS}{s:MS}(hb:Bnd t n s)(hx:anW t x):ZE t n x s:=aGP (XS hb hx)
theorem ZH{t n:Int}{x:ANS}{s:MS}(hb:Bnd t n s)(hx:anW t x):aC8 t s (DT t n x s):=aGK (XS hb hx)
structure awW (t:Int) (x:AWS):Prop where
 m:0≤x.me∧x.me≤1000
structure aDa (t:Int) (s:MS) (o:AwO):Prop where
 a:Act1 s o.s
 w:o.d=false→awW t o.x
theorem XV{t n:Int}{x:AWS}{s:MS}(hb:Bnd t n s)(hx:awW t x):(awT t n x s).run (aDa t s):=by
 obtain⟨⟨t0,t1⟩,⟨n0,n1⟩,⟨c0,c1⟩,hw⟩:=hb;obtain⟨⟨m0,m1⟩⟩:=hx;unfold awT;unfold SC w0c
 (repeat' (with_reducible first | exact trivial | rfl | assumption | refine aGA ?_ ?_ | refine Tr.run_ite (fun _=>?_) (fun _=>?_) | refine aGC ?_ | refine And.intro ?_ ?_))
 all_goals first | exact aL | (refine⟨by exact aL,fun hd=>?_⟩;first | (exact Bool.noConfusion hd) | exact⟨⟨m0,m1⟩⟩)
theorem ZP{t n:Int}{x:AWS}{s:MS}(hb:Bnd t n s)(hx:awW t x):ZM t n x s:=aGP (XV hb hx)
theorem ZQ{t n:Int}{x:AWS}{s:MS}(hb:Bnd t n s)(hx:awW t x):aDa t s (sH t n x s):=aGK (XV hb hx)
structure exW (t:Int) (x:EXS):Prop where
 h:x.at'=0∨x.at'=1∨x.at'=2∨x.at'=3∨x.at'=4∨x.at'=5∨x.at'=6∨x.at'=7∨x.at'=8∨x.at'=9
 m:0≤x.u∧x.u≤1000
 po:0≤x.popped∧x.popped≤1000
structure aDL (t:Int) (s:MS) (o:ExO):Prop where
 a:Act1 s o.s
 w:o.d=false→exW t o.x
 p:0≤o.x.popped∧o.x.popped≤1000
theorem X3{t n:Int}{x:EXS}{s:MS}(hb:Bnd t n s)(hx:exW t x):(exT t n x s).run (aDL t s):=by
 obtain⟨⟨t0,t1⟩,⟨n0,n1⟩,⟨c0,c1⟩,hw⟩:=hb;obtain⟨h,⟨m0,m1⟩,⟨p0,p1⟩⟩:=hx;unfold exT;refine aGD (fun h0=>?_) (fun h0=>aGD (fun h1=>?_) (fun h1=>aGD (fun h2=>?_) (fun h2=>aGD (fun h3=>?_) (fun h3=>aGD (fun h4=>?_) (fun h4=>aGD (fun h5=>?_) (fun h5=>aGD (fun h6=>?_) (fun h6=>aGD (fun h7=>?_) (fun h7=>aGD (fun h8=>?_) (fun h8=>aGD (fun h9=>?_) (fun h9=>?_))))))))))
 ·unfold AW w0n w0m w0l w0s w0i w0g
  (repeat' (with_reducible first | exact trivial | rfl | assumption | refine aGA ?_ ?_ | refine Tr.run_ite (fun _=>?_) (fun _=>?_) | refine aGC ?_ | refine And.intro ?_ ?_))
  all_goals first | exact aL | (refine⟨by exact aL,fun hd=>by first | (exact Bool.noConfusion hd) | exact⟨by dsimp only;decide,⟨m0,m1⟩,by exact dG⟩,?_⟩;exact dG)
 ·unfold AX w0f w0o w0r w0j
  (repeat' (with_reducible first | exact trivial | rfl | assumption | refine aGA ?_ ?_ | refine Tr.run_ite (fun _=>?_) (fun _=>?_) | refine aGC ?_ | refine And.intro ?_ ?_))
  all_goals first | exact aL | (refine⟨by exact aL,fun hd=>by first | (exact Bool.noConfusion hd) | exact⟨by dsimp only;decide,⟨m0,m1⟩,by exact dG⟩,?_⟩;exact dG)
 ·unfold AY w0e w0k
  (repeat' (with_reducible first | exact trivial | rfl | assumption | refine aGA ?_ ?_ | refine Tr.run_ite (fun _=>?_) (fun _=>?_) | refine aGC ?_ | refine And.intro ?_ ?_))
  all_goals first | exact aL | (refine⟨by exact aL,fun hd=>by first | (exact Bool.noConfusion hd) | exact⟨by dsimp only;decide,⟨m0,m1⟩,by exact dG⟩,?_⟩;exact dG)
 ·unfold AZ w0k w0g
  (repeat' (with_reducible first | exact trivial | rfl | assumption | refine aGA ?_ ?_ | refine Tr.run_ite (fun _=>?_) (fun _=>?_) | refine aGC ?_ | refine And.intro ?_ ?_))
  all_goals first | exact aL | (refine⟨by exact aL,fun hd=>by first | (exact Bool.noConfusion hd) | exact⟨by dsimp only;decide,⟨m0,m1⟩,by exact dG⟩,?_⟩;exact dG)
 ·unfold A0 w0k w0g
  (repeat' (with_reducible first | exact trivial | rfl | assumption | refine aGA ?_ ?_ | refine Tr.run_ite (fun _=>?_) (fun _=>?_) | refine aGC ?_ | refine And.intro ?_ ?_))
  all_goals first | exact aL | (refine⟨by exact aL,fun hd=>by first | (exact Bool.noConfusion hd) | exact⟨by dsimp only;decide,⟨m0,m1⟩,by exact dG⟩,?_⟩;exact dG)
 ·unfold A1 w0p w0r w0d w0j
  (repeat' (with_reducible first | exact trivial | rfl | assumption | refine aGA ?_ ?_ | refine Tr.run_ite (fun _=>?_) (fun _=>?_) | refine aGC ?_ | refine And.intro ?_ ?_))
  all_goals first | exact aL | (refine⟨by exact aL,fun hd=>by first | (exact Bool.noConfusion hd) | exact⟨by dsimp only;decide,⟨m0,m1⟩,by exact dG⟩,?_⟩;exact dG)
 ·unfold A2 w0t
  (repeat' (with_reducible first | exact trivial | rfl | assumption | refine aGA ?_ ?_ | refine Tr.run_ite (fun _=>?_) (fun _=>?_) | refine aGC ?_ | refine And.intro ?_ ?_))
  all_goals first | exact aL | (refine⟨by exact aL,fun hd=>by first | (exact Bool.noConfusion hd) | exact⟨by dsimp only;decide,⟨m0,m1⟩,by exact dG⟩,?_⟩;exact dG)
 ·unfold A3 w0g
  (repeat' (with_reducible first | exact trivial | rfl | assumption | refine aGA ?_ ?_ | refine Tr.run_ite (fun _=>?_) (fun _=>?_) | refine aGC ?_ | refine And.intro ?_ ?_))
  all_goals first | exact aL | (refine⟨by exact aL,fun hd=>by first | (exact Bool.noConfusion hd) | exact⟨by dsimp only;decide,⟨m0,m1⟩,by exact dG⟩,?_⟩;exact dG)
 ·unfold A4 w0h w0q w0g
  (repeat' (with_reducible first | exact trivial | rfl | assumption | refine aGA ?_ ?_ | refine Tr.run_ite (fun _=>?_) (fun _=>?_) | refine aGC ?_ | refine And.intro ?_ ?_))
  all_goals first | exact aL | (refine⟨by exact aL,fun hd=>by first | (exact Bool.noConfusion hd) | exact⟨by dsimp only;decide,⟨m0,m1⟩,by exact dG⟩,?_⟩;exact dG)
 ·unfold A5 w0u
  (repeat' (with_reducible first | exact trivial | rfl | assumption | refine aGA ?_ ?_ | refine Tr.run_ite (fun _=>?_) (fun _=>?_) | refine aGC ?_ | refine And.intro ?_ ?_))
  all_goals first | exact aL | (refine⟨by exact aL,fun hd=>by first | (exact Bool.noConfusion hd) | exact⟨by dsimp only;decide,⟨m0,m1⟩,by exact dG⟩,?_⟩;exact dG)
 ·simp only [cO,beq_eq_false_iff_ne]at h0 h1 h2 h3 h4 h5 h6 h7 h8 h9;rcases h with e | e | e | e | e | e | e | e | e | e<;>contradiction
theorem aAR{t n:Int}{x:EXS}{s:MS}(hb:Bnd t n s)(hx:exW t x):aAP t n x s:=aGP (X3 hb hx)
theorem aAS{t n:Int}{x:EXS}{s:MS}(hb:Bnd t n s)(hx:exW t x):aDL t s (AV t n x s):=aGK (X3 hb hx)
structure YM (t:Int) (x:PRS):Prop where
 h:True
structure aEC (t:Int) (s:MS) (st:STS) (o:PrO):Prop where
 a:Act1 s o.s
 w:o.d=false→YM t o.x
 st:o.st=st
theorem YN{t n:Int}{x:PRS}{st:STS}{s:MS}(hb:Bnd t n s)(hx:YM t x):(prT t n x st s).run (aEC t s st):=by
 obtain⟨⟨t0,t1⟩,⟨n0,n1⟩,⟨c0,c1⟩,hw⟩:=hb;obtain⟨h⟩:=hx;unfold prT;unfold WH w0v
 (repeat' (with_reducible first | exact trivial | rfl | assumption | refine aGA ?_ ?_ | refine Tr.run_ite (fun _=>?_) (fun _=>?_) | refine aGC ?_ | refine And.intro ?_ ?_))
 all_goals first | exact aL | (refine⟨by exact aL,fun hd=>?_,rfl⟩;first | (exact Bool.noConfusion hd) | exact⟨trivial⟩)
theorem PP{t n:Int}{x:PRS}{st:STS}{s:MS}(hb:Bnd t n s)(hx:YM t x):PN t n x st s:=aGP (YN hb hx)
theorem PQ{t n:Int}{x:PRS}{st:STS}{s:MS}(hb:Bnd t n s)(hx:YM t x):aEC t s st (prF t n x st s):=aGK (YN hb hx)
theorem f0{a b:Int}(h:ieq a b=true):a=b:=by simpa [cO]using h
theorem eS{a b:Int}(h:ieq a b=false):a≠b:=by simpa [cO]using h
def eB(l:List Int):Prop:= ∀r∈l,0≤r∧r≤1000
theorem rX:eB []:=fun r h=>nomatch h
theorem vD{l:List Int}{a:Int}(h:eB l)(ha:0≤a∧a≤1000):eB (l++ [a]):=by
 intro r hr;rcases List.mem_append.1 hr with h1 | h1
 ·exact h r h1
 ·rw [List.mem_singleton.1 h1];exact ha
theorem K6{l m:List Int}(h:eB l)(hm:eB m):eB (l++m):=by
 intro r hr;rcases List.mem_append.1 hr with h1 | h1
 ·exact h r h1
 ·exact hm r h1
theorem jK(t n a:Int):qB t n a:=⟨⟨rfl,rfl⟩,trivial⟩
theorem D0(t n a:Int):XW t (xS t n a):=⟨.inl rfl⟩
theorem aFd(x a:Int):0≤aA x a 9∧aA x a 9≤1000:=by
 have:=SR x a 9;simp only [Int.reduceToNat,Int.reducePow]at this;omega
structure LN (b:Int) (x:FNS):Prop where
 m:0≤x.me∧x.me≤1000
 cu:0≤x.curr∧x.curr≤1000
 ul:eB x.ul
 ln:(x.ul.length:Int)≤b
structure T8 (t:Int) (x:FNS):Prop where
 h:x.at'=0∨x.at'=1∨x.at'=2∨x.at'=3∨x.at'=4∨x.at'=5∨x.at'=6
 cl:x.at'=4→XW t x.cl
structure aDO (t b:Int) (s:MS) (o:FnO):Prop where
 a:Act1 s o.s
 q:LN (b+1) o.x
 w:o.d=false→T8 t o.x
theorem pM{P:Prop}(h:P:=by(refine⟨?_,⟨?_,?_,?_,?_⟩,fun hd=>?_⟩<;>first
 | exact aL
 | (exact(xU (by assumption) (by assumption)).a)
 | (constructor<;>assumption)
 | exact aFd _ _
 | (exact vD (by assumption) ⟨by assumption,by assumption⟩)
 | exact rX
 | (dsimp only;simp only [List.length_append,List.length_singleton,List.length_nil];omega)
 | exact Bool.noConfusion hd
 | exact⟨by dsimp only;decide,fun e=>absurd e (by dsimp only;decide)⟩
 | exact⟨by dsimp only;decide,fun e=>(xU (by assumption) (by assumption)).w (by assumption)⟩
 | exact⟨by dsimp only;decide,fun e=>by dsimp only;with_reducible exact D0 _ _ _⟩)):P:=h
theorem X4{t n b:Int}{x:FNS}{s:MS}(hb:Bnd t n s)(hx:T8 t x)(hq:LN b x)(hbb:b≤900000):(fnT t n x s).run (aDO t b s):=by
 have hb':=hb;obtain⟨⟨t0,t1⟩,⟨n0,n1⟩,⟨c0,c1⟩,hw⟩:=hb;obtain⟨h,hcl⟩:=hx;obtain⟨⟨m0,m1⟩,⟨q0,q1⟩,hul,hln⟩:=hq;have b0:0≤b:=by omega
 unfold fnT;refine aGD (fun h0=>?_) (fun h0=>aGD (fun h1=>?_) (fun h1=>aGD (fun h2=>?_) (fun h2=>aGD (fun h3=>?_) (fun h3=>aGD (fun h4=>?_) (fun h4=>aGD (fun h5=>?_) (fun h5=>aGD (fun h6=>?_) (fun h6=>?_)))))))
 ·unfold A8 w11 w16 w0z w13 w15 w14 w1f
  (repeat' (with_reducible first | exact trivial | rfl | assumption | refine aGA ?_ ?_ | refine Tr.run_ite (fun _=>?_) (fun _=>?_) | refine aGC ?_ | refine And.intro ?_ ?_))
  all_goals first | exact aL | exact jK _ _ _ | (simp only [List.length_append,List.length_singleton];done) | exact pM
 ·unfold A9
  (repeat' (with_reducible first | exact trivial | rfl | assumption | refine aGA ?_ ?_ | refine Tr.run_ite (fun _=>?_) (fun _=>?_) | refine aGC ?_ | refine And.intro ?_ ?_))
  all_goals first | exact aL | exact jK _ _ _ | (simp only [List.length_append,List.length_singleton];done) | exact pM
 ·unfold BA w11 w16 w0z w13 w15 w1f w14
  (repeat' (with_reducible first | exact trivial | rfl | assumption | refine aGA ?_ ?_ | refine Tr.run_ite (fun _=>?_) (fun _=>?_) | refine aGC ?_ | refine And.intro ?_ ?_))
  all_goals first | exact aL | exact jK _ _ _ | (simp only [List.length_append,List.length_singleton];done) | exact pM
 ·unfold BB w1b w1d w1c w1a
  (repeat' (with_reducible first | exact trivial | rfl | assumption | refine aGA ?_ ?_ | refine Tr.run_ite (fun _=>?_) (fun _=>?_) | refine aGC ?_ | refine And.intro ?_ ?_))
  all_goals first | exact aL | exact jK _ _ _ | (simp only [List.length_append,List.length_singleton];done) | exact pM
 ·unfold BC w19 w14;have hcl4:=hcl (f0 h4);have hclo:=D3 hb' hcl4
  (repeat' (with_reducible first | exact trivial | rfl | assumption | refine aGA ?_ ?_ | refine Tr.run_ite (fun _=>?_) (fun _=>?_) | refine aGC ?_ | refine And.intro ?_ ?_))
  all_goals first | exact aL | exact jK _ _ _ | (simp only [List.length_append,List.length_singleton];done) | exact pM
 ·unfold BD w0x w0w w19 w14
  (repeat' (with_reducible first | exact trivial | rfl | assumption | refine aGA ?_ ?_ | refine Tr.run_ite (fun _=>?_) (fun _=>?_) | refine aGC ?_ | refine And.intro ?_ ?_))
  all_goals first | exact aL | exact jK _ _ _ | (simp only [List.length_append,List.length_singleton];done) | exact pM
 ·unfold BE w14 w1g
  (repeat' (with_reducible first | exact trivial | rfl | assumption | refine aGA ?_ ?_ | refine Tr.run_ite (fun _=>?_) (fun _=>?_) | refine aGC ?_ | refine And.intro ?_ ?_))
  all_goals first | exact aL | exact jK _ _ _ | (simp only [List.length_append,List.length_singleton];done) | exact pM
 ·simp only [cO,beq_eq_false_iff_ne]at h0 h1 h2 h3 h4 h5 h6;rcases h with e | e | e | e | e | e | e<;>contradiction
theorem EJ{t n b:Int}{x:FNS}{s:MS}(hb:Bnd t n s)(hx:T8 t x)(hq:LN b x)(hbb:b≤900000):JF t n x s:=aGP (X4 hb hx hq hbb)
theorem EK{t n b:Int}{x:FNS}{s:MS}(hb:Bnd t n s)(hx:T8 t x)(hq:LN b x)(hbb:b≤900000):aDO t b s (aO t n x s):=aGK (X4 hb hx hq hbb)
theorem cB(sh ky:Int):0≤fC sh ky∧fC sh ky≤3:=by
 unfold fC;cases ieq sh 2 with
 | true=>exact⟨Int.emod_nonneg _ (by decide),by have:=Int.emod_lt_of_pos ky (b:=4) (by decide);show ky%4≤3;omega⟩
 | false=>exact⟨Int.le_refl 0,(by decide:(0:Int)≤3)⟩
theorem EG{t n me hd key lim:Int}(hn:1≤n∧n≤1000)(hm:0≤me∧me≤1000)(hh:0≤hd∧hd≤3):(NY t n me hd key lim).run (fun x=>T8 t x∧LN 0 x):=by
 obtain⟨n0,n1⟩:=hn;obtain⟨m0,m1⟩:=hm;obtain⟨e0,e1⟩:=hh;unfold NY w1h
 (repeat' (with_reducible first | exact trivial | rfl | assumption | refine aGA ?_ ?_ | refine Tr.run_ite (fun _=>?_) (fun _=>?_) | refine aGC ?_ | refine And.intro ?_ ?_))
 all_goals first | exact aL | exact⟨by dsimp only;decide,fun e=>absurd e (by dsimp only;decide)⟩ | exact⟨⟨m0,m1⟩,⟨(by decide:(0:Int)≤0),(by decide:(0:Int)≤1000)⟩,rX,(by decide:((0:Nat):Int)≤0)⟩
theorem HP(sh kd ky pred pw cw sp:Int){curr:Int}(hc:0≤curr∧curr≤1000):(CS sh kd ky pred pw curr cw sp).run (fun p=>0≤p.pops∧p.pops≤1000):=by
 obtain⟨c0,c1⟩:=hc;unfold CS w00 w02 w01 w03
 (repeat' (with_reducible first | exact trivial | rfl | assumption | refine aGA ?_ ?_ | refine Tr.run_ite (fun _=>?_) (fun _=>?_) | refine aGC ?_ | refine And.intro ?_ ?_))
 all_goals first | exact aL | (dsimp only;first | assumption | decide)
theorem CU(sh kd ky pred pw cw sp:Int){curr:Int}(hc:0≤curr∧curr≤1000):u6 sh kd ky pred pw curr cw sp:=aGP (HP sh kd ky pred pw cw sp hc)
theorem w8(sh kd ky pred pw cw sp:Int){curr:Int}(hc:0≤curr∧curr≤1000):0≤(bL sh kd ky pred pw curr cw sp).pops ∧(bL sh kd ky pred pw curr cw sp).pops ≤1000:=aGK (HP sh kd ky pred pw cw sp hc)
theorem CT(a b c d e f g h i):(u7 a b c d e f g h i).run rngU:=by
 unfold u7
 (repeat' (with_reducible first | exact trivial | rfl | assumption | refine aGA ?_ ?_ | refine Tr.run_ite (fun _=>?_) (fun _=>?_) | refine aGC ?_ | refine And.intro ?_ ?_))
 all_goals first | exact aL | exact nT
theorem KO(a b c d e f g h i):yJ a b c d e f g h i:=aGP (CT a b c d e f g h i)
theorem KN(a b c d e f g h i):rngU (dI a b c d e f g h i):=aGK (CT a b c d e f g h i)
theorem CR(a b c d e f g h i j):(u5 a b c d e f g h i j).run (fun r=>rngU r.1):=by
 unfold u5
 (repeat' (with_reducible first | exact trivial | rfl | assumption | refine aGA ?_ ?_ | refine Tr.run_ite (fun _=>?_) (fun _=>?_) | refine aGC ?_ | refine And.intro ?_ ?_))
 all_goals first | exact aL | exact nT
theorem KL(a b c d e f g h i j):yI a b c d e f g h i j:=aGP (CR a b c d e f g h i j)
theorem KK(a b c d e f g h i j):rngU (gK a b c d e f g h i j).1:=aGK (CR a b c d e f g h i j)
theorem CQ(a b c d e f g h i):(uZ a b c d e f g h i).run (fun _=>True):=by
 unfold uZ
 (repeat' (with_reducible first | exact trivial | rfl | assumption | refine aGA ?_ ?_ | refine Tr.run_ite (fun _=>?_) (fun _=>?_) | refine aGC ?_ | refine And.intro ?_ ?_))
 all_goals exact aL
theorem w7(p:PLN):oL p.1 p.2 p.3 p.4 p.5 p.6 p.7 p.8 p.9:=aGP (CQ _ _ _ _ _ _ _ _ _)
theorem u4(a b c d e f g h i):oL a b c d e f g h i:=aGP (CQ _ _ _ _ _ _ _ _ _)
theorem dZ{b c:Int}{x:FNS}(h:LN b x)(hbc:b≤c):LN c x:=⟨h.m,h.cu,h.ul,Int.le_trans h.ln hbc⟩
theorem d9{t n me hd key lim:Int}(hn:1≤n∧n≤1000)(hm:0≤me∧me≤1000)(hh:0≤hd∧hd≤3):oV t n me hd key lim:=aGP (EG hn hm hh)
theorem uN{t n me hd key lim:Int}(hn:1≤n∧n≤1000)(hm:0≤me∧me≤1000)(hh:0≤hd∧hd≤3):T8 t (uL t n me hd key lim):=by
 have h:=aGK (EG (t:=t) (key:=key) (lim:=lim) hn hm hh);exact h.1
theorem uM{t n me hd key lim:Int}(hn:1≤n∧n≤1000)(hm:0≤me∧me≤1000)(hh:0≤hd∧hd≤3):LN 0 (uL t n me hd key lim):=by
 have h:=aGK (EG (t:=t) (key:=key) (lim:=lim) hn hm hh);exact h.2
theorem PM(t n key nx:Int)(st:STS):(WF t n key nx st).run (fun r=>r.2=st):=⟨⟨rfl,rfl,rfl⟩,rfl⟩
theorem HQ(t n key nx:Int)(st:STS):CV t n key nx st:=aGP (PM t n key nx st)
theorem PL(t n key nx:Int)(st:STS):(qS t n key nx st).2=st:=aGK (PM t n key nx st)
structure stW (b:Int) (st:STS):Prop where
 m:0≤st.me∧st.me≤1000
 r:eB st.R
 ln:(st.R.length:Int)≤b
theorem iX{b c:Int}{st:STS}(h:stW b st)(hbc:b≤c):stW c st:=⟨h.m,h.r,Int.le_trans h.ln hbc⟩
theorem yR{b:Int}{st:STS}{k:Int}{x:FNS}(h:stW b st)(hq:LN (b - st.R.length+1) x):stW (b+1) {me:=st.me,sp:=k,R:=st.R++x.ul} :=
 ⟨h.m,K6 h.r hq.ul,by have:=hq.ln;simp only [List.length_append];omega⟩
theorem vE{b:Int}{st:STS}{k a:Int}(h:stW b st)(ha:0≤a∧a≤1000):stW (b+1) {me:=st.me,sp:=k,R:=st.R++ [a] } :=
 ⟨h.m,vD h.r ha,by have:=h.ln;simp only [List.length_append,List.length_singleton];omega⟩
theorem QF{b:Int}{st:STS}(h:stW b st)(k:Int):stW (b+1) {me:=st.me,sp:=k,R:=st.R} :=⟨h.m,h.r,by have:=h.ln;show(st.R.length:Int)≤_;omega⟩
structure UH (t b:Int) (st:STS) (x:FTS):Prop where
 h:x.at'=0∨x.at'=1∨x.at'=2∨x.at'=3
 fn:x.at'=0→T8 t x.fn∧LN (b - st.R.length) x.fn
 cl:x.at'=1→XW t x.cl
 ps:0≤x.p.pops∧x.p.pops≤1000
structure aDQ (t b:Int) (s:MS) (o:FtO):Prop where
 a:Act1 s o.s
 st:stW (b+1) o.st
 w:o.d=false→UH t (b+1) o.st o.x
theorem X6{t n b:Int}{x:FTS}{st:STS}{s:MS}(hb:Bnd t n s)(hx:UH t b st x)(hst:stW b st)(hbb:b≤900000):(ftT t n x st s).run (aDQ t b s):=by
 have hb':=hb;obtain⟨ht,hn,⟨c0,c1⟩,hw⟩:=hb;obtain⟨n0,n1⟩:=hn;obtain⟨t0,t1⟩:=ht;obtain⟨h,hfn,hcl,hps⟩:=hx;have hR0:=hst.ln;have hst1:stW (b+1) st:=iX hst (by omega)
 have hnn:1≤n∧n≤1000:=⟨n0,n1⟩;have b0:0≤b:=by omega
 unfold ftT;refine aGD (fun h0=>?_) (fun h0=>aGD (fun h1=>?_) (fun h1=>aGD (fun h2=>?_) (fun h2=>aGD (fun h3=>?_) (fun h3=>?_))))
 ·obtain⟨hfw,hfq⟩:=hfn (f0 h0);have hF:=EK hb' hfw hfq (by omega)
  have hFo:=EJ hb' hfw hfq (by omega)
  have hA:=hF.a;have hQ:=hF.q;have hQl:=hQ.ln;have hS:stW (b+1) {me:=st.me,sp:=st.sp,R:=st.R++(aO t n x.fn s).x.ul } :=yR hst hQ;have hcu:=hQ.cu;unfold BG w1i w1q w1k w1o
  (repeat' (with_reducible first | exact trivial | rfl | assumption | refine aGA ?_ ?_ | refine Tr.run_ite (fun _=>?_) (fun _=>?_) | refine aGC ?_ | refine And.intro ?_ ?_))
  all_goals first
   | exact aL
   | exact CU _ _ _ _ _ _ _ hcu
   | exact w7 _
   | exact u4 _ _ _ _ _ _ _ _ _
   | exact jK _ _ _
   | exact HQ _ _ _ _ _
   | (simp only [List.length_append];done)
   | (refine⟨by first | assumption | exact aL,?_,fun hd=>?_⟩
      ·first
        | assumption
        | (dsimp only;rw [PL];assumption)
      ·first
        | exact Bool.noConfusion hd
        | (refine⟨by dsimp only;decide,?_,?_,?_⟩
           ·first | (exact nE') | (intro _;exact⟨hF.w (by assumption),dZ hQ (by dsimp only;omega)⟩)
           ·first | (exact nE') | (intro _;dsimp only;with_reducible exact D0 _ _ _)
           ·first | exact hps | exact w8 _ _ _ _ _ _ _ hcu))
 ·have hc:=hcl (f0 h1);have hC:=xU hb' hc;have hCo:=D3 hb' hc;have hA:=hC.a;unfold BH
  (repeat' (with_reducible first | exact trivial | rfl | assumption | refine aGA ?_ ?_ | refine Tr.run_ite (fun _=>?_) (fun _=>?_) | refine aGC ?_ | refine And.intro ?_ ?_))
  all_goals first
   | exact aL
   | exact d9 hnn hst.m (cB _ _)
   | (refine⟨by assumption,by assumption,fun hd=>?_⟩
      first
       | exact Bool.noConfusion hd
       | (refine⟨by dsimp only;decide,?_,?_,hps⟩
          ·first | (exact nE') | (intro _;exact⟨uN (t:=t) (n:=n) hnn hst.m (cB _ _),dZ (uM (t:=t) (n:=n) hnn hst.m (cB _ _)) (by dsimp only;omega)⟩)
          ·first | (exact nE') | (intro _;exact hC.w (by assumption))))
 ·have hP:=PQ (st:=st) hb' (show YM t x.pr from⟨trivial⟩)
  have hPo:=PP (st:=st) hb' (show YM t x.pr from⟨trivial⟩)
  have hA:=hP.a;have hPs:stW (b+1) (prF t n x.pr st s).st :=by rw [hP.st];exact hst1
  unfold BI
  (repeat' (with_reducible first | exact trivial | rfl | assumption | refine aGA ?_ ?_ | refine Tr.run_ite (fun _=>?_) (fun _=>?_) | refine aGC ?_ | refine And.intro ?_ ?_))
  all_goals first
   | exact aL
   | (refine⟨by assumption,by assumption,fun hd=>?_⟩
      first
       | exact Bool.noConfusion hd
       | exact⟨by dsimp only;decide,fun e=>absurd e (by dsimp only;decide),fun e=>absurd e (by dsimp only;decide),hps⟩)
 ·have hW:=KN (FTS.p x).1 (FTS.p x).2 (FTS.p x).3 (FTS.p x).4 (FTS.p x).5 (FTS.p x).6 (FTS.p x).7 (FTS.p x).8 (FTS.p x).9;have hWo:=KO (FTS.p x).1 (FTS.p x).2 (FTS.p x).3 (FTS.p x).4 (FTS.p x).5 (FTS.p x).6 (FTS.p x).7 (FTS.p x).8 (FTS.p x).9;have hS1:stW (b+1) {me:=st.me,sp:=0,R:=st.R++ [(FTS.p x).9] } :=vE hst hps;have hS2:stW (b+1) {me:=st.me,sp:=st.sp,R:=st.R++ [(FTS.p x).9] } :=vE hst hps;have hS3:stW (b+1) {me:=st.me,sp:=0,R:=st.R} :=QF hst 0;unfold BJ w1j
  (repeat' (with_reducible first | exact trivial | rfl | assumption | refine aGA ?_ ?_ | refine Tr.run_ite (fun _=>?_) (fun _=>?_) | refine aGC ?_ | refine And.intro ?_ ?_))
  all_goals first
   | exact aL
   | exact d9 hnn hst.m (cB _ _)
   | (simp only [List.length_append,List.length_singleton];done)
   | (refine⟨by exact aL,by assumption,fun hd=>?_⟩
      first
       | exact Bool.noConfusion hd
       | (refine⟨by dsimp only;decide,?_,?_,hps⟩
          ·first | (exact nE') | (intro _;exact⟨uN (t:=t) (n:=n) hnn hst.m (cB _ _),dZ (uM (t:=t) (n:=n) hnn hst.m (cB _ _)) (by dsimp only;omega)⟩)
          · (exact nE')))
 ·simp only [cO,beq_eq_false_iff_ne]at h0 h1 h2 h3;rcases h with e | e | e | e<;>contradiction
theorem aA7{t n b:Int}{x:FTS}{st:STS}{s:MS}(hb:Bnd t n s)(hx:UH t b st x)(hst:stW b st)(hbb:b≤900000):UC t n x st s:=aGP (X6 hb hx hst hbb)
theorem aA8{t n b:Int}{x:FTS}{st:STS}{s:MS}(hb:Bnd t n s)(hx:UH t b st x)(hst:stW b st)(hbb:b≤900000):aDQ t b s (iG t n x st s):=aGK (X6 hb hx hst hbb)
theorem EL{t n b sh kd ky most:Int}{st:STS}(hn:1≤n∧n≤1000)(hst:stW b st):(NZ t n sh kd ky most st).run (fun r=>UH t b st r.1∧r.2=st):=by
 have hR0:=hst.ln;unfold NZ
 (repeat' (with_reducible first | exact trivial | rfl | assumption | refine aGA ?_ ?_ | refine Tr.run_ite (fun _=>?_) (fun _=>?_) | refine aGC ?_ | refine And.intro ?_ ?_))
 all_goals first
  | exact aL
  | exact d9 hn hst.m (cB _ _)
  | exact⟨by dsimp only;decide,fun _=>⟨uN (t:=t) (n:=n) hn hst.m (cB _ _),dZ (uM (t:=t) (n:=n) hn hst.m (cB _ _)) (by omega)⟩,fun e=>absurd e (by dsimp only;decide),⟨(by decide:(0:Int)≤0),(by decide:(0:Int)≤1000)⟩⟩
theorem eL(s:MS)(a:Int):Act1 s (s.loadd a):=⟨rfl,rfl,id,rfl,rfl⟩
theorem wD(s:MS)(a o x:Int):Act1 s (s.cased a o (WU x)):=GM s _ _ _ _ _ _ _ _ (FY x)
theorem oA(s:MS)(a x:Int):Act1 s (s.added a x):=xN s _ _ _ _ _ _ _ (FY _)
theorem mK{m:List (Int×Int)}{l:List Int}(h:eB l):eB (cI m l):=fun r hr=>h r (List.mem_filter.1 hr).1
theorem sY{m:List (Int×Int)}{l:List Int}(h:eB l):eB (aZ m l):=fun r hr=>h r (List.mem_filter.1 hr).1
theorem CE(m:List (Int×Int))(l:List Int):(cI m l).length ≤l.length:=List.length_filter_le _ _
theorem C4{l:List Int}(h:eB l){j:Nat}(hj:j<l.length): -1000000≤List.getD l (j+Int.toNat 0*1) 0∧List.getD l (j+Int.toNat 0*1) 0≤1000000:=by
 have e:j+Int.toNat 0*1=j:=by simp
 rw [e,gD',gE' hj];have:=h _ (List.getElem_mem hj);show _≤l[j]∧l[j]≤_;omega
theorem CJ{n a:Int}(hn:1≤n)(ha:1≤a):1≤cZ n a∧cZ n a≤n:=by
 unfold cZ;rw [Int.tmod_eq_emod_of_nonneg (by omega)]
 have:=Int.emod_nonneg a (show n≠0 by omega)
 have:=Int.emod_lt_of_pos a (show 0<n by omega)
 omega
theorem R8{t n me:Int}(hn:1≤n):1≤at0 t n me∧at0 t n me≤n:=by
 unfold at0;cases h:bW n (aR t n me)with
 | true=>exact uU.1 h
 | false=>exact⟨(by decide:(1:Int)≤1),hn⟩
def enI(t n b:Int)(e:ENS):Prop:=match e.ph with
 | 0=>True
 | 1=>okAl n e.x
 | 2=>True
 | 3=>(eB e.y.N∧(e.y.N.length:Int)≤b)∧0≤e.y.i∧e.y.i<2*t
 | 4=>2*t≤e.y.i∧1≤e.y.l∧e.y.gs.length=e.y.j+e.y.l∧eB e.y.gs∧eB e.y.ks∧(e.y.ks.length:Int)≤b
 | _=>False
structure aAD (t n b:Int) (s:MS) (o:EO):Prop where
 a:Act1 s o.s
 st:stW (b+1) o.st
 w:o.d=false→enI t n (b+1) o.e
theorem NJ{t n b:Int}{e:ENS}{st:STS}{s:MS}(hb:Bnd t n s)(hx:enI t n b e)(hst:stW b st)(hbb:b≤900000):KC t n e st s:=by
 obtain⟨ht,hn,hc,hw⟩:=hb;have hl:=hst.ln;refine⟨ht,hn,⟨hc.1,by omega⟩,hst.m,by omega,?_⟩
 match e,hx with
 | ⟨0,sh,dn,x,y⟩,hx=>trivial
 | ⟨1,sh,dn,x,y⟩,hx=>exact hx
 | ⟨2,sh,dn,x,y⟩,hx=>trivial
 | ⟨3,sh,dn,x,y⟩,hx=>
   obtain⟨⟨h1,h2⟩,h3⟩:=hx;exact⟨by dsimp only at h2⊢;omega,h3⟩
 | ⟨4,sh,dn,x,y⟩,hx=>
   obtain⟨a1,a2,a3,a4,a5⟩:=hx;exact⟨a1,a2,a3,C4 a4 (by omega)⟩
theorem GV{t n b:Int}{e:ENS}{st:STS}{x:AL}{s s0:MS}(ha:Act1 s0 s)(hst:stW b st)(hg:x.got=0)(hx:1≤x.at'∧x.at'≤n)(hl0:0≤x.left+1)(hl:x.left≤1000):aAD t n b s0 (IZ e st x s):=by
 have hl1:=hst.ln;unfold IZ;split
 ·exact⟨ha,⟨hst.m,hst.r,by dsimp only;omega⟩,fun _=>trivial⟩
 ·rename_i h;rw [cE,dF']at h;exact⟨ha,iX hst (by omega),fun _=>⟨hg,hx,by show(0:Int)≤x.left;omega,hl⟩⟩
theorem wP{t n b:Int}{e:ENS}{st:STS}{x:AL}{s:MS}(hn:1≤n)(hst:stW b st)(hx:okAl n x):aAD t n b s (rP n e st x s):=by
 obtain⟨hg,ha,hl⟩:=hx;have hl1:=hst.ln;unfold rP;split
 ·split
  ·exact⟨wD _ _ _ _,⟨hst.m,hst.r,by dsimp only;omega⟩,fun h=>Bool.noConfusion h⟩
  ·exact GV (wD _ _ _ _) hst rfl (CJ hn ha.1) (by dsimp only;omega) (by dsimp only;omega)
 ·split
  ·exact GV (eL _ _) hst rfl (CJ hn ha.1) (by dsimp only;omega) (by dsimp only;omega)
  ·exact⟨eL _ _,iX hst (by omega),fun _=>⟨rfl,ha,hl⟩⟩
theorem NK{t n b:Int}{e:ENS}{st:STS}{s:MS}(hb:Bnd t n s)(hx:enI t n b e)(hst:stW b st):aAD t n b s (enF t n e st s):=by
 obtain⟨ht,hn,hc,hw⟩:=hb;have hl1:=hst.ln;have hst1:stW (b+1) st:=iX hst (by omega)
 match e,hx with
 | ⟨0,sh,dn,x,y⟩,hx=>
   unfold enF;dsimp only;cases hc:ieq st.sp 0 with
   | true=>exact wP hn.1 hst ⟨rfl,R8 hn.1,by dsimp only;omega⟩
   | false=>exact⟨eL _ _,hst1,fun h=>Bool.noConfusion h⟩
 | ⟨1,sh,dn,x,y⟩,hx=>exact wP hn.1 hst hx
 | ⟨2,sh,dn,x,y⟩,hx=>
   exact⟨eL _ _,hst1,fun _=>⟨⟨hst.r,by show(st.R.length:Int)≤_;omega⟩,(by decide:(0:Int)≤1),by show(1:Int)<_;omega⟩⟩
 | ⟨3,sh,dn,x,y⟩,hx=>
   obtain⟨⟨hN,hNl⟩,hi0,hi1⟩:=hx;dsimp only at hN hNl hi0 hi1;have hk:=CE (a8 y.m n y.i s) y.N;unfold enF;dsimp only;generalize hsm:a8 y.m n y.i s=sm at hk⊢;cases h1:ieq (y.i+1) (2*t)with
   | false=>
     have h1:=eS h1;exact⟨eL _ _,hst1,fun _=>⟨⟨hN,by show((y.N).length :Int)≤_;omega⟩,by show 0≤y.i+1;omega,by show y.i+1<2*t;omega⟩⟩
   | true=>
     have h1:=f0 h1;cases h2:ieq ((aZ sm y.N).length :Int) 0 with
     | true=>exact⟨eL _ _,⟨hst.m,mK hN,by show((cI sm y.N).length :Int)≤_;omega⟩,fun h=>Bool.noConfusion h⟩
     | false=>
       have h2:=eS h2;exact⟨eL _ _,hst1,fun _=>⟨by show 2*t≤y.i+1;omega,by show 1≤(aZ sm y.N).length;omega,by show(aZ sm y.N).length =0+(aZ sm y.N).length;omega,sY hN,mK hN,by show((cI sm y.N).length :Int)≤_;omega⟩⟩
 | ⟨4,sh,dn,x,y⟩,hx=>
   obtain⟨a1,a2,a3,a4,a5,a6⟩:=hx;dsimp only at a1 a2 a3 a4 a5 a6;unfold enF;dsimp only;cases h1:ieq ((y.l - 1:Nat):Int) 0 with
   | true=>exact⟨oA _ _ _,⟨hst.m,a5,by show((y.ks).length :Int)≤_;omega⟩,fun _=>trivial⟩
   | false=>
     have h1:=eS h1;exact⟨oA _ _ _,hst1,fun _=>⟨a1,by show 1≤y.l - 1;omega,by show(y.gs).length =y.j+1+(y.l - 1);omega,a4,a5,by show((y.ks).length :Int)≤_;omega⟩⟩
def K8(t n b:Int)(y:SWS):Prop:=match y.ph with
 | 0=>True
 | 1=>(eB y.N∧(y.N.length:Int)≤b)∧0≤y.i∧y.i<2*t
 | 2=>2*t≤y.i∧1≤y.l∧y.gs.length=y.j+y.l∧eB y.gs∧eB y.ks∧(y.ks.length:Int)≤b
 | _=>False
structure aFF (t n b:Int) (s:MS) (o:SO):Prop where
 a:Act1 s o.s
 st:stW (b+1) o.st
 w:o.d=false→K8 t n (b+1) o.e
theorem aCr{t n b:Int}{e:SWS}{st:STS}{s:MS}(hb:Bnd t n s)(hx:K8 t n b e)(hst:stW b st)(hbb:b≤900000):qQ t n e st s:=by
 obtain⟨ht,hn,hc,hw⟩:=hb;have hl:=hst.ln;refine⟨ht,hn,⟨hc.1,by omega⟩,by omega,?_⟩
 match e,hx with
 | ⟨0,N,m,i,ks,fs,gs,j,l⟩,hx=>trivial
 | ⟨1,N,m,i,ks,fs,gs,j,l⟩,hx=>
   obtain⟨⟨h1,h2⟩,h3⟩:=hx;exact⟨by dsimp only at h2⊢;omega,h3⟩
 | ⟨2,N,m,i,ks,fs,gs,j,l⟩,hx=>
   obtain⟨a1,a2,a3,a4,a5⟩:=hx;exact⟨a1,a2,a3,C4 a4 (by omega)⟩
theorem aCs{t n b:Int}{e:SWS}{st:STS}{s:MS}(hb:Bnd t n s)(hx:K8 t n b e)(hst:stW b st):aFF t n b s (swF t n e st s):=by
 obtain⟨ht,hn,hc,hw⟩:=hb;have hl1:=hst.ln;have hst1:stW (b+1) st:=iX hst (by omega)
 match e,hx with
 | ⟨0,N,m,i,ks,fs,gs,j,l⟩,hx=>
   exact⟨eL _ _,hst1,fun _=>⟨⟨hst.r,by show(st.R.length:Int)≤_;omega⟩,(by decide:(0:Int)≤1),by show(1:Int)<_;omega⟩⟩
 | ⟨1,N,m,i,ks,fs,gs,j,l⟩,hx=>
   obtain⟨⟨hN,hNl⟩,hi0,hi1⟩:=hx;dsimp only at hN hNl hi0 hi1;have hk:=CE (a8 m n i s) N;unfold swF;dsimp only;generalize hsm:a8 m n i s=sm at hk⊢;cases h1:ieq (i+1) (2*t)with
   | false=>
     have h1:=eS h1;exact⟨eL _ _,hst1,fun _=>⟨⟨hN,by show((N).length :Int)≤_;omega⟩,by show 0≤i+1;omega,by show i+1<2*t;omega⟩⟩
   | true=>
     have h1:=f0 h1;cases h2:ieq ((aZ sm N).length :Int) 0 with
     | true=>exact⟨eL _ _,⟨hst.m,mK hN,by show((cI sm N).length :Int)≤_;omega⟩,fun h=>Bool.noConfusion h⟩
     | false=>
       have h2:=eS h2;exact⟨eL _ _,hst1,fun _=>⟨by show 2*t≤i+1;omega,by show 1≤(aZ sm N).length;omega,by show(aZ sm N).length =0+(aZ sm N).length;omega,sY hN,mK hN,by show((cI sm N).length :Int)≤_;omega⟩⟩
 | ⟨2,N,m,i,ks,fs,gs,j,l⟩,hx=>
   obtain⟨a1,a2,a3,a4,a5,a6⟩:=hx;dsimp only at a1 a2 a3 a4 a5 a6;unfold swF;dsimp only;cases h1:ieq ((l - 1:Nat):Int) 0 with
   | true=>exact⟨oA _ _ _,⟨hst.m,a5,by show((ks).length :Int)≤_;omega⟩,fun h=>Bool.noConfusion h⟩
   | false=>
     have h1:=eS h1;exact⟨oA _ _ _,hst1,fun _=>⟨a1,by show 1≤l - 1;omega,by show(gs).length =j+1+(l - 1);omega,a4,a5,by show((ks).length :Int)≤_;omega⟩⟩
theorem TY(t n u sh kd ky att:Int):NU t n u sh kd ky att:=⟨⟨rfl,rfl⟩,trivial⟩
theorem aDK(t n:Int){u:Int}(sh kd ky att:Int)(hu:0≤u∧u≤1000):exW t (aAL t n u sh kd ky att):=⟨.inl rfl,hu,⟨(by decide:(0:Int)≤0),(by decide:(0:Int)≤1000)⟩⟩
structure VN (t n b:Int) (st:STS) (x:HPS):Prop where
 h:x.at'=0∨x.at'=1∨x.at'=2∨x.at'=3∨x.at'=4∨x.at'=5∨x.at'=6∨x.at'=7∨x.at'=8∨x.at'=9
 u:0≤x.u∧x.u≤1000
 ex:x.at'=3→exW t x.ex
 en:x.at'=4→enI t n b x.en
 fn:x.at'=5→T8 t x.fn∧LN (b - st.R.length) x.fn
 cl:x.at'=7→XW t x.cl
 ps:0≤x.p.pops∧x.p.pops≤1000
structure aEg (t n b:Int) (s:MS) (o:HpO):Prop where
 a:Act1 s o.s
 st:stW (b+1) o.st
 w:o.d=false→VN t n (b+1) o.st o.x
theorem lN:(0:Int)≤0∧(0:Int)≤1000:=⟨by decide,by decide⟩
theorem YE{t n b:Int}{x:HPS}{st:STS}{s:MS}(hb:Bnd t n s)(hx:VN t n b st x)(hst:stW b st)(hbb:b≤900000):(hpT t n x st s).run (aEg t n b s):=by
 have hb':=hb;obtain⟨ht,hn,⟨c0,c1⟩,hw⟩:=hb;obtain⟨n0,n1⟩:=hn;obtain⟨t0,t1⟩:=ht;obtain⟨h,hu,hex,hen,hfn,hcl,hps⟩:=hx;have hR0:=hst.ln;have hst1:stW (b+1) st:=iX hst (by omega)
 have hnn:1≤n∧n≤1000:=⟨n0,n1⟩;have hme:=hst.m;obtain⟨u0,u1⟩:=hu;have b0:0≤b:=by omega
 obtain⟨k0,k1⟩:=uV hw (2*n+5+2*t+3*x.1+1);unfold hpT;refine aGD (fun h0=>?_) (fun h0=>aGD (fun h1=>?_) (fun h1=>aGD (fun h2=>?_) (fun h2=>aGD (fun h3=>?_) (fun h3=>aGD (fun h4=>?_) (fun h4=>aGD (fun h5=>?_) (fun h5=>aGD (fun h6=>?_) (fun h6=>aGD (fun h7=>?_) (fun h7=>aGD (fun h8=>?_) (fun h8=>aGD (fun h9=>?_) (fun h9=>?_))))))))))
 ·unfold B2 w1y
  (repeat' (with_reducible first | exact trivial | rfl | assumption | refine aGA ?_ ?_ | refine Tr.run_ite (fun _=>?_) (fun _=>?_) | refine aGC ?_ | refine And.intro ?_ ?_))
  all_goals first
   | exact aL
   | (simp only [List.length_append,List.length_singleton];done)
   | (refine⟨by first | assumption | exact aL,by assumption,fun hd=>?_⟩
      first
       | exact Bool.noConfusion hd
       | (refine⟨by dsimp only;decide,⟨u0,u1⟩,?_,?_,?_,?_,?_⟩
          · (exact nE')
          · (exact nE')
          · (exact nE')
          · (exact nE')
          ·first | exact hps | exact lN))
 ·unfold B3 w1y
  (repeat' (with_reducible first | exact trivial | rfl | assumption | refine aGA ?_ ?_ | refine Tr.run_ite (fun _=>?_) (fun _=>?_) | refine aGC ?_ | refine And.intro ?_ ?_))
  all_goals first
   | exact aL
   | (simp only [List.length_append,List.length_singleton];done)
   | (refine⟨by first | assumption | exact aL,by assumption,fun hd=>?_⟩
      first
       | exact Bool.noConfusion hd
       | (refine⟨by dsimp only;decide,⟨u0,u1⟩,?_,?_,?_,?_,?_⟩
          · (exact nE')
          · (exact nE')
          · (exact nE')
          · (exact nE')
          ·first | exact hps | exact lN))
 ·unfold B4 w1u w1y
  (repeat' (with_reducible first | exact trivial | rfl | assumption | refine aGA ?_ ?_ | refine Tr.run_ite (fun _=>?_) (fun _=>?_) | refine aGC ?_ | refine And.intro ?_ ?_))
  all_goals first
   | exact aL
   | exact TY _ _ _ _ _ _ _
   | exact d9 hnn hme (cB _ _)
   | (simp only [List.length_append,List.length_singleton];done)
   | (refine⟨by first | assumption | exact aL,by assumption,fun hd=>?_⟩
      first
       | exact Bool.noConfusion hd
       | (refine⟨by dsimp only;decide,⟨u0,u1⟩,?_,?_,?_,?_,?_⟩
          ·first | (exact nE') | (intro _;dsimp only;with_reducible exact aDK _ _ _ _ _ _ ⟨u0,u1⟩)
          ·first | (exact nE') | (intro _;exact trivial)
          ·first | (exact nE') | (intro _;exact⟨uN (t:=t) (n:=n) hnn hme (cB _ _),dZ (uM (t:=t) (n:=n) hnn hme (cB _ _)) (by dsimp only;omega)⟩)
          · (exact nE')
          ·first | exact hps | exact lN))
 ·have he:=hex (f0 h3);have hE:=aAS hb' he;have hEo:=aAR hb' he;have hA:=hE.a;have hS:stW (b+1) {me:=st.me,sp:=st.sp,R:=st.R++ [(ExO.x (AV t n x.11 s)).1] } :=vE hst hE.p;unfold B5
  (repeat' (with_reducible first | exact trivial | rfl | assumption | refine aGA ?_ ?_ | refine Tr.run_ite (fun _=>?_) (fun _=>?_) | refine aGC ?_ | refine And.intro ?_ ?_))
  all_goals first
   | exact aL
   | (simp only [List.length_append,List.length_singleton];done)
   | (refine⟨by first | assumption | exact aL,by assumption,fun hd=>?_⟩
      first
       | exact Bool.noConfusion hd
       | (refine⟨by dsimp only;decide,⟨u0,u1⟩,?_,?_,?_,?_,?_⟩
          ·first | (exact nE') | (intro _;exact hE.w (by assumption))
          · (exact nE')
          · (exact nE')
          · (exact nE')
          ·first | exact hps | exact lN))
 ·have he:=hen (f0 h4);have hE:=NK hb' he hst;have hEo:=NJ hb' he hst hbb;have hA:=hE.a;have hS:=hE.st;have hme:=hS.m;have hSl:=hS.ln;unfold B6
  (repeat' (with_reducible first | exact trivial | rfl | assumption | refine aGA ?_ ?_ | refine Tr.run_ite (fun _=>?_) (fun _=>?_) | refine aGC ?_ | refine And.intro ?_ ?_))
  all_goals first
   | exact aL
   | exact d9 hnn hme (cB _ _)
   | (simp only [List.length_append,List.length_singleton];done)
   | (refine⟨by first | assumption | exact aL,by assumption,fun hd=>?_⟩
      first
       | exact Bool.noConfusion hd
       | (refine⟨by dsimp only;decide,⟨u0,u1⟩,?_,?_,?_,?_,?_⟩
          · (exact nE')
          ·first | (exact nE') | (intro _;exact hE.w (by assumption))
          ·first | (exact nE') | (intro _;exact⟨uN (t:=t) (n:=n) hnn hme (cB _ _),dZ (uM (t:=t) (n:=n) hnn hme (cB _ _)) (by dsimp only;omega)⟩)
          · (exact nE')
          ·first | exact hps | exact lN))
 ·obtain⟨hfw,hfq⟩:=hfn (f0 h5);have hF:=EK hb' hfw hfq (by omega)
  have hFo:=EJ hb' hfw hfq (by omega)
  have hA:=hF.a;have hQ:=hF.q;have hQl:=hQ.ln;have hS:stW (b+1) {me:=st.me,sp:=st.sp,R:=st.R++(aO t n x.fn s).x.ul } :=yR hst hQ;have hcu:=hQ.cu;unfold B7 w1t w1x
  (repeat' (with_reducible first | exact trivial | rfl | assumption | refine aGA ?_ ?_ | refine Tr.run_ite (fun _=>?_) (fun _=>?_) | refine aGC ?_ | refine And.intro ?_ ?_))
  all_goals first
   | exact aL
   | exact CU _ _ _ _ _ _ _ hcu
   | exact w7 _
   | exact u4 _ _ _ _ _ _ _ _ _
   | exact jK _ _ _
   | exact HQ _ _ _ _ _
   | (simp only [List.length_append];done)
   | (refine⟨by first | assumption | exact aL,?_,fun hd=>?_⟩
      ·first
        | assumption
        | (dsimp only;rw [PL];assumption)
      ·first
        | exact Bool.noConfusion hd
        | (refine⟨by dsimp only;decide,⟨u0,u1⟩,?_,?_,?_,?_,?_⟩
           · (exact nE')
           · (exact nE')
           ·first | (exact nE') | (intro _;exact⟨hF.w (by assumption),dZ hQ (by dsimp only;omega)⟩)
           ·first | (exact nE') | (intro _;dsimp only;with_reducible exact D0 _ _ _)
           ·first | exact hps | exact w8 _ _ _ _ _ _ _ hcu))
 ·unfold B8 w1y
  (repeat' (with_reducible first | exact trivial | rfl | assumption | refine aGA ?_ ?_ | refine Tr.run_ite (fun _=>?_) (fun _=>?_) | refine aGC ?_ | refine And.intro ?_ ?_))
  all_goals first
   | exact aL
   | (simp only [List.length_append,List.length_singleton];done)
   | (refine⟨by first | assumption | exact aL,by assumption,fun hd=>?_⟩
      first
       | exact Bool.noConfusion hd
       | (refine⟨by dsimp only;decide,⟨u0,u1⟩,?_,?_,?_,?_,?_⟩
          · (exact nE')
          · (exact nE')
          · (exact nE')
          · (exact nE')
          ·first | exact hps | exact lN))
 ·have hc:=hcl (f0 h7);have hC:=xU hb' hc;have hCo:=D3 hb' hc;have hA:=hC.a;unfold B9
  (repeat' (with_reducible first | exact trivial | rfl | assumption | refine aGA ?_ ?_ | refine Tr.run_ite (fun _=>?_) (fun _=>?_) | refine aGC ?_ | refine And.intro ?_ ?_))
  all_goals first
   | exact aL
   | (simp only [List.length_append,List.length_singleton];done)
   | (refine⟨by first | assumption | exact aL,by assumption,fun hd=>?_⟩
      first
       | exact Bool.noConfusion hd
       | (refine⟨by dsimp only;decide,⟨u0,u1⟩,?_,?_,?_,?_,?_⟩
          · (exact nE')
          · (exact nE')
          · (exact nE')
          ·first | (exact nE') | (intro _;exact hC.w (by assumption))
          ·first | exact hps | exact lN))
 ·have hP:=PQ (st:=st) hb' (show YM t x.pr from⟨trivial⟩)
  have hPo:=PP (st:=st) hb' (show YM t x.pr from⟨trivial⟩)
  have hA:=hP.a;have hPs:stW (b+1) (prF t n x.pr st s).st :=by rw [hP.st];exact hst1
  unfold CA
  (repeat' (with_reducible first | exact trivial | rfl | assumption | refine aGA ?_ ?_ | refine Tr.run_ite (fun _=>?_) (fun _=>?_) | refine aGC ?_ | refine And.intro ?_ ?_))
  all_goals first
   | exact aL
   | (simp only [List.length_append,List.length_singleton];done)
   | (refine⟨by first | assumption | exact aL,by assumption,fun hd=>?_⟩
      first
       | exact Bool.noConfusion hd
       | (refine⟨by dsimp only;decide,⟨u0,u1⟩,?_,?_,?_,?_,?_⟩
          · (exact nE')
          · (exact nE')
          · (exact nE')
          · (exact nE')
          ·first | exact hps | exact lN))
 ·have hD:=KK (HPS.p x).1 (HPS.p x).2 (HPS.p x).3 (HPS.p x).4 (HPS.p x).5 (HPS.p x).6 (HPS.p x).7 (HPS.p x).8 (HPS.p x).9 (aA x.6 0 12);have hDo:=KL (HPS.p x).1 (HPS.p x).2 (HPS.p x).3 (HPS.p x).4 (HPS.p x).5 (HPS.p x).6 (HPS.p x).7 (HPS.p x).8 (HPS.p x).9 (aA x.6 0 12);have hS3:stW (b+1) {me:=st.me,sp:=0,R:=st.R} :=QF hst 0;unfold CB w1v w1y
  (repeat' (with_reducible first | exact trivial | rfl | assumption | refine aGA ?_ ?_ | refine Tr.run_ite (fun _=>?_) (fun _=>?_) | refine aGC ?_ | refine And.intro ?_ ?_))
  all_goals first
   | exact aL
   | (simp only [List.length_append,List.length_singleton];done)
   | (refine⟨by first | assumption | exact aL,by assumption,fun hd=>?_⟩
      first
       | exact Bool.noConfusion hd
       | (refine⟨by dsimp only;decide,⟨u0,u1⟩,?_,?_,?_,?_,?_⟩
          · (exact nE')
          · (exact nE')
          · (exact nE')
          · (exact nE')
          ·first | exact hps | exact lN))
 ·simp only [cO,beq_eq_false_iff_ne]at h0 h1 h2 h3 h4 h5 h6 h7 h8 h9;rcases h with e | e | e | e | e | e | e | e | e | e<;>contradiction
theorem OP{t n b:Int}{x:HPS}{st:STS}{s:MS}(hb:Bnd t n s)(hx:VN t n b st x)(hst:stW b st)(hbb:b≤900000):ON t n x st s:=aGP (YE hb hx hst hbb)
theorem OQ{t n b:Int}{x:HPS}{st:STS}{s:MS}(hb:Bnd t n s)(hx:VN t n b st x)(hst:stW b st)(hbb:b≤900000):aEg t n b s (gU t n x st s):=aGK (YE hb hx hst hbb)
theorem aBA{t n b u no lim:Int}{st:STS}(hu:0≤u∧u≤1000):(JV t n u no lim st).run (fun r=>VN t n b st r.1∧r.2=st):=by
 unfold JV
 (repeat' (with_reducible first | exact trivial | rfl | assumption | refine aGA ?_ ?_ | refine Tr.run_ite (fun _=>?_) (fun _=>?_) | refine aGC ?_ | refine And.intro ?_ ?_))
 all_goals first
  | exact aL
  | exact⟨by dsimp only;decide,hu,fun e=>absurd e (by dsimp only;decide),fun e=>absurd e (by dsimp only;decide),fun e=>absurd e (by dsimp only;decide),fun e=>absurd e (by dsimp only;decide),lN⟩
theorem WR{s k y:Int}(h:b9 s k y=true):rngU (tskV s k y):=by
 have h:=mI.1 h;unfold tskV;refine⟨?_,?_⟩<;>omega
theorem UZ(t n:Int):OI t n:=⟨⟨rfl,rfl⟩,trivial⟩
theorem aEa(t n:Int):hdW t (aBo t n):=⟨⟨(by decide:(0:Int)≤0),(by decide:(0:Int)≤1000)⟩,⟨(by decide:(-1:Int)≤ -1),(by decide:(-1:Int)≤1000)⟩⟩
theorem iF(t n u:Int):sI t n u:=⟨⟨rfl,rfl⟩,trivial⟩
theorem GS(t n:Int){u:Int}(hu:0≤u∧u≤1000):drW t (AO t n u):=⟨hu,⟨(by decide:(0:Int)≤0),(by decide:(0:Int)≤2)⟩⟩
theorem iB(t n u:Int):L6 t n u:=⟨⟨rfl,rfl⟩,trivial⟩
theorem XU(t n:Int){u:Int}(hu:0≤u∧u≤1000):awW t (ZI t n u):=⟨hu⟩
theorem iA(t n u sh kd ky:Int):L5 t n u sh kd ky:=⟨trivial,⟨rfl,rfl⟩,trivial⟩
theorem aC7(t n:Int){u:Int}(sh kd ky:Int)(hu:0≤u∧u≤1000):anW t (ZA t n u sh kd ky):=⟨.inl rfl,hu,yO WR C0,C0⟩
theorem iI(t n u no lim:Int)(st:STS):B1 t n u no lim st:=by
 unfold B1 JV;exact⟨⟨⟨rfl,rfl,rfl⟩,by decide⟩,trivial⟩
theorem YD{t n b u no lim:Int}{st:STS}(hu:0≤u∧u≤1000):VN t n b st (vX t n u no lim st).1:=(aGK (aBA (b:=b) hu)).1
theorem iH{t n b:Int}(sh kd ky most:Int){st:STS}(hn:1≤n∧n≤1000)(hst:stW b st):uO t n sh kd ky most st:=aGP (EL hn hst)
theorem G3{t n b:Int}(sh kd ky most:Int){st:STS}(hn:1≤n∧n≤1000)(hst:stW b st):UH t b st (kF t n sh kd ky most st).1:=(aGK (EL (t:=t) hn hst)).1
theorem gF{t n b:Int}(sh kd ky most:Int){st:STS}(hn:1≤n∧n≤1000)(hst:stW b st):(kF t n sh kd ky most st).2=st:=(aGK (EL (t:=t) hn hst)).2
structure TA (t n b:Int) (st:STS) (x:DOS):Prop where
 h:x.at'=0∨x.at'=1∨x.at'=2∨x.at'=3∨x.at'=4∨x.at'=5∨x.at'=6∨x.at'=7∨x.at'=8∨x.at'=9
 hd:x.at'=0→hdW t x.hd
 hp:x.at'=1∨x.at'=5→VN t n b st x.hp
 en:x.at'=2→enI t n b x.en
 ft:x.at'=3→UH t b st x.ft
 an:x.at'=4→anW t x.an
 aw:x.at'=6→awW t x.aw
 fn:x.at'=7→T8 t x.fn∧LN (b - st.R.length) x.fn
 dr:x.at'=8→drW t x.dr
 sw:x.at'=9→K8 t n b x.sw
structure aDh (t n b:Int) (s:MS) (o:DqO):Prop where
 a:Act1 s o.s
 st:stW (b+1) o.st
 w:o.d=false→TA t n (b+1) o.st o.x
theorem XY{t n b:Int}{x:DOS}{st:STS}{s:MS}(hb:Bnd t n s)(hx:TA t n b st x)(hst:stW b st)(hbb:b≤900000):(dqT t n x st s).run (aDh t n b s):=by
 have hb':=hb;obtain⟨ht,hn,⟨c0,c1⟩,hw⟩:=hb;obtain⟨n0,n1⟩:=hn;obtain⟨t0,t1⟩:=ht;obtain⟨h,xhd,xhp,xen,xft,xan,xaw,xfn,xdr,xsw⟩:=hx;have hR0:=hst.ln;have hst1:stW (b+1) st:=iX hst (by omega)
 have hnn:1≤n∧n≤1000:=⟨n0,n1⟩;have hme:=hst.m;have b0:0≤b:=by omega
 unfold dqT;refine aGD (fun h0=>?_) (fun h0=>aGD (fun h1=>?_) (fun h1=>aGD (fun h2=>?_) (fun h2=>aGD (fun h3=>?_) (fun h3=>aGD (fun h4=>?_) (fun h4=>aGD (fun h5=>?_) (fun h5=>aGD (fun h6=>?_) (fun h6=>aGD (fun h7=>?_) (fun h7=>aGD (fun h8=>?_) (fun h8=>aGD (fun h9=>?_) (fun h9=>?_))))))))))
 ·have hc:=xhd (f0 h0);have hC:=aBw hb' hc;have hCo:=aBv hb' hc;have hA:=hC.a;have hS:=hst1;have hSl:=hS.ln;obtain⟨v0,v1⟩:=hC.p;unfold AD w2d w27 w28
  (repeat' (with_reducible first | exact trivial | rfl | assumption | refine aGA ?_ ?_ | refine Tr.run_ite (fun _=>?_) (fun _=>?_) | refine aGC ?_ | refine And.intro ?_ ?_))
  all_goals first
   | exact aL
   | (intro _;decide)
   | assumption
   | exact iF _ _ _
   | exact iB _ _ _
   | exact iA _ _ _ _ _ _
   | exact iI _ _ _ _ _ _
   | exact d9 hnn hme (cB _ _)
   | exact iH _ _ _ _ hnn hS
   | (simp only [List.length_append,List.length_singleton];done)
   | (refine⟨by first | assumption | exact aL,by first | assumption | (dsimp only;rw [gF _ _ _ _ hnn hS];assumption),fun hd=>?_⟩
      first
       | exact Bool.noConfusion hd
       | (refine⟨by dsimp only;decide,?_,?_,?_,?_,?_,?_,?_,?_,?_⟩
          ·first | (exact nE') | (intro _;exact hC.w (by assumption))
          ·first | (exact nE') | (intro _;exact YD ⟨by first | omega | (simp_all [cE,aU];done) | (simp_all [cE,aU];omega),v1⟩)
          ·first | (exact nE') | (intro _;exact trivial)
          ·first | (exact nE') | (intro _;dsimp only;rw [gF _ _ _ _ hnn hS];exact G3 _ _ _ _ hnn hS)
          · (exact nE')
          · (exact nE')
          · (exact nE')
          · (exact nE')
          · (exact nE')))
 ·have hc:=xhp (.inl (f0 h1));have hC:=OQ hb' hc hst hbb;have hCo:=OP hb' hc hst hbb;have hA:=hC.a;have hS:=hC.st;have hme:=hS.m;have hSl:=hS.ln;unfold AE w25 w2a w28
  (repeat' (with_reducible first | exact trivial | rfl | assumption | refine aGA ?_ ?_ | refine Tr.run_ite (fun _=>?_) (fun _=>?_) | refine aGC ?_ | refine And.intro ?_ ?_))
  all_goals first
   | exact aL
   | (intro _;decide)
   | assumption
   | exact iF _ _ _
   | exact iB _ _ _
   | exact iA _ _ _ _ _ _
   | exact iI _ _ _ _ _ _
   | exact d9 hnn hme (cB _ _)
   | exact iH _ _ _ _ hnn hS
   | (simp only [List.length_append,List.length_singleton];done)
   | (refine⟨by first | assumption | exact aL,by first | assumption | (dsimp only;rw [gF _ _ _ _ hnn hS];assumption),fun hd=>?_⟩
      first
       | exact Bool.noConfusion hd
       | (refine⟨by dsimp only;decide,?_,?_,?_,?_,?_,?_,?_,?_,?_⟩
          · (exact nE')
          ·first | (exact nE') | (intro _;exact hC.w (by assumption))
          ·first | (exact nE') | (intro _;exact trivial)
          ·first | (exact nE') | (intro _;dsimp only;rw [gF _ _ _ _ hnn hS];exact G3 _ _ _ _ hnn hS)
          · (exact nE')
          ·first | (exact nE') | (intro _;dsimp only;with_reducible exact XU _ _ hme)
          · (exact nE')
          · (exact nE')
          · (exact nE')))
 ·have hc:=xen (f0 h2);have hC:=NK hb' hc hst;have hCo:=NJ hb' hc hst hbb;have hA:=hC.a;have hS:=hC.st;have hme:=hS.m;have hSl:=hS.ln;unfold AF w28
  (repeat' (with_reducible first | exact trivial | rfl | assumption | refine aGA ?_ ?_ | refine Tr.run_ite (fun _=>?_) (fun _=>?_) | refine aGC ?_ | refine And.intro ?_ ?_))
  all_goals first
   | exact aL
   | (intro _;decide)
   | assumption
   | exact iF _ _ _
   | exact iB _ _ _
   | exact iA _ _ _ _ _ _
   | exact iI _ _ _ _ _ _
   | exact d9 hnn hme (cB _ _)
   | exact iH _ _ _ _ hnn hS
   | (simp only [List.length_append,List.length_singleton];done)
   | (refine⟨by first | assumption | exact aL,by first | assumption | (dsimp only;rw [gF _ _ _ _ hnn hS];assumption),fun hd=>?_⟩
      first
       | exact Bool.noConfusion hd
       | (refine⟨by dsimp only;decide,?_,?_,?_,?_,?_,?_,?_,?_,?_⟩
          · (exact nE')
          · (exact nE')
          ·first | (exact nE') | (intro _;exact hC.w (by assumption))
          ·first | (exact nE') | (intro _;dsimp only;rw [gF _ _ _ _ hnn hS];exact G3 _ _ _ _ hnn hS)
          · (exact nE')
          · (exact nE')
          · (exact nE')
          ·first | (exact nE') | (intro _;dsimp only;with_reducible exact GS _ _ hme)
          · (exact nE')))
 ·have hc:=xft (f0 h3);have hC:=aA8 hb' hc hst hbb;have hCo:=aA7 hb' hc hst hbb;have hA:=hC.a;have hS:=hC.st;have hme:=hS.m;have hSl:=hS.ln;unfold AG w22 w29 w28
  (repeat' (with_reducible first | exact trivial | rfl | assumption | refine aGA ?_ ?_ | refine Tr.run_ite (fun _=>?_) (fun _=>?_) | refine aGC ?_ | refine And.intro ?_ ?_))
  all_goals first
   | exact aL
   | (intro _;decide)
   | assumption
   | exact iF _ _ _
   | exact iB _ _ _
   | exact iA _ _ _ _ _ _
   | exact iI _ _ _ _ _ _
   | exact d9 hnn hme (cB _ _)
   | exact iH _ _ _ _ hnn hS
   | (simp only [List.length_append,List.length_singleton];done)
   | (refine⟨by first | assumption | exact aL,by first | assumption | (dsimp only;rw [gF _ _ _ _ hnn hS];assumption),fun hd=>?_⟩
      first
       | exact Bool.noConfusion hd
       | (refine⟨by dsimp only;decide,?_,?_,?_,?_,?_,?_,?_,?_,?_⟩
          · (exact nE')
          · (exact nE')
          · (exact nE')
          ·first | (exact nE') | (intro _;exact hC.w (by assumption))
          ·first | (exact nE') | (intro _;dsimp only;with_reducible exact aC7 _ _ _ _ _ hme)
          · (exact nE')
          ·first | (exact nE') | (intro _;exact⟨uN (t:=t) (n:=n) hnn hme (cB _ _),dZ (uM (t:=t) (n:=n) hnn hme (cB _ _)) (by dsimp only;omega)⟩)
          ·first | (exact nE') | (intro _;dsimp only;with_reducible exact GS _ _ hme)
          · (exact nE')))
 ·have hc:=xan (f0 h4);have hC:=ZH hb' hc;have hCo:=ZG hb' hc;have hA:=hC.a;have hS:=hst1;have hSl:=hS.ln;unfold AH w28
  (repeat' (with_reducible first | exact trivial | rfl | assumption | refine aGA ?_ ?_ | refine Tr.run_ite (fun _=>?_) (fun _=>?_) | refine aGC ?_ | refine And.intro ?_ ?_))
  all_goals first
   | exact aL
   | (intro _;decide)
   | assumption
   | exact iF _ _ _
   | exact iB _ _ _
   | exact iA _ _ _ _ _ _
   | exact iI _ _ _ _ _ _
   | exact d9 hnn hme (cB _ _)
   | exact iH _ _ _ _ hnn hS
   | (simp only [List.length_append,List.length_singleton];done)
   | (refine⟨by first | assumption | exact aL,by first | assumption | (dsimp only;rw [gF _ _ _ _ hnn hS];assumption),fun hd=>?_⟩
      first
       | exact Bool.noConfusion hd
       | (refine⟨by dsimp only;decide,?_,?_,?_,?_,?_,?_,?_,?_,?_⟩
          · (exact nE')
          ·first | (exact nE') | (intro _;exact YD hme)
          · (exact nE')
          · (exact nE')
          ·first | (exact nE') | (intro _;exact hC.w (by assumption))
          · (exact nE')
          · (exact nE')
          · (exact nE')
          · (exact nE')))
 ·have hc:=xhp (.inr (f0 h5));have hC:=OQ hb' hc hst hbb;have hCo:=OP hb' hc hst hbb;have hA:=hC.a;have hS:=hC.st;have hme:=hS.m;have hSl:=hS.ln;unfold AI w2a w28
  (repeat' (with_reducible first | exact trivial | rfl | assumption | refine aGA ?_ ?_ | refine Tr.run_ite (fun _=>?_) (fun _=>?_) | refine aGC ?_ | refine And.intro ?_ ?_))
  all_goals first
   | exact aL
   | (intro _;decide)
   | assumption
   | exact iF _ _ _
   | exact iB _ _ _
   | exact iA _ _ _ _ _ _
   | exact iI _ _ _ _ _ _
   | exact d9 hnn hme (cB _ _)
   | exact iH _ _ _ _ hnn hS
   | (simp only [List.length_append,List.length_singleton];done)
   | (refine⟨by first | assumption | exact aL,by first | assumption | (dsimp only;rw [gF _ _ _ _ hnn hS];assumption),fun hd=>?_⟩
      first
       | exact Bool.noConfusion hd
       | (refine⟨by dsimp only;decide,?_,?_,?_,?_,?_,?_,?_,?_,?_⟩
          · (exact nE')
          ·first | (exact nE') | (intro _;exact hC.w (by assumption))
          ·first | (exact nE') | (intro _;exact trivial)
          ·first | (exact nE') | (intro _;dsimp only;rw [gF _ _ _ _ hnn hS];exact G3 _ _ _ _ hnn hS)
          · (exact nE')
          ·first | (exact nE') | (intro _;dsimp only;with_reducible exact XU _ _ hme)
          · (exact nE')
          · (exact nE')
          · (exact nE')))
 ·have hc:=xaw (f0 h6);have hC:=ZQ hb' hc;have hCo:=ZP hb' hc;have hA:=hC.a;have hS:=hst1;have hSl:=hS.ln;unfold AJ w24 w28
  (repeat' (with_reducible first | exact trivial | rfl | assumption | refine aGA ?_ ?_ | refine Tr.run_ite (fun _=>?_) (fun _=>?_) | refine aGC ?_ | refine And.intro ?_ ?_))
  all_goals first
   | exact aL
   | (intro _;decide)
   | assumption
   | exact iF _ _ _
   | exact iB _ _ _
   | exact iA _ _ _ _ _ _
   | exact iI _ _ _ _ _ _
   | exact d9 hnn hme (cB _ _)
   | exact iH _ _ _ _ hnn hS
   | (simp only [List.length_append,List.length_singleton];done)
   | (refine⟨by first | assumption | exact aL,by first | assumption | (dsimp only;rw [gF _ _ _ _ hnn hS];assumption),fun hd=>?_⟩
      first
       | exact Bool.noConfusion hd
       | (refine⟨by dsimp only;decide,?_,?_,?_,?_,?_,?_,?_,?_,?_⟩
          · (exact nE')
          · (exact nE')
          · (exact nE')
          · (exact nE')
          · (exact nE')
          ·first | (exact nE') | (intro _;exact hC.w (by assumption))
          ·first | (exact nE') | (intro _;exact⟨uN (t:=t) (n:=n) hnn hme (cB _ _),dZ (uM (t:=t) (n:=n) hnn hme (cB _ _)) (by dsimp only;omega)⟩)
          ·first | (exact nE') | (intro _;dsimp only;with_reducible exact GS _ _ hme)
          · (exact nE')))
 ·obtain⟨hfw,hfq⟩:=xfn (f0 h7);have hF:=EK hb' hfw hfq (by omega)
  have hFo:=EJ hb' hfw hfq (by omega)
  have hA:=hF.a;have hQ:=hF.q;have hQl:=hQ.ln;have hS:stW (b+1) {me:=st.me,sp:=st.sp,R:=st.R++(aO t n x.fn s).x.ul } :=yR hst hQ;unfold AK w28
  (repeat' (with_reducible first | exact trivial | rfl | assumption | refine aGA ?_ ?_ | refine Tr.run_ite (fun _=>?_) (fun _=>?_) | refine aGC ?_ | refine And.intro ?_ ?_))
  all_goals first
   | exact aL
   | (intro _;decide)
   | assumption
   | exact iF _ _ _
   | exact iB _ _ _
   | exact iA _ _ _ _ _ _
   | exact iI _ _ _ _ _ _
   | exact d9 hnn hme (cB _ _)
   | exact iH _ _ _ _ hnn hS
   | (simp only [List.length_append,List.length_singleton];done)
   | (refine⟨by first | assumption | exact aL,by first | assumption | (dsimp only;rw [gF _ _ _ _ hnn hS];assumption),fun hd=>?_⟩
      first
       | exact Bool.noConfusion hd
       | (refine⟨by dsimp only;decide,?_,?_,?_,?_,?_,?_,?_,?_,?_⟩
          · (exact nE')
          · (exact nE')
          · (exact nE')
          · (exact nE')
          · (exact nE')
          · (exact nE')
          ·first | (exact nE') | (intro _;exact⟨hF.w (by assumption),dZ hQ (by dsimp only;omega)⟩)
          ·first | (exact nE') | (intro _;dsimp only;with_reducible exact GS _ _ hme)
          · (exact nE')))
 ·have hc:=xdr (f0 h8);have hC:=aAq hb' hc;have hCo:=aAp hb' hc;have hA:=hC.a;have hS:=hst1;unfold AM w28
  (repeat' (with_reducible first | exact trivial | rfl | assumption | refine aGA ?_ ?_ | refine Tr.run_ite (fun _=>?_) (fun _=>?_) | refine aGC ?_ | refine And.intro ?_ ?_))
  all_goals first
   | exact aL
   | (intro _;decide)
   | assumption
   | exact iF _ _ _
   | exact iB _ _ _
   | exact iA _ _ _ _ _ _
   | exact iI _ _ _ _ _ _
   | exact d9 hnn hme (cB _ _)
   | exact iH _ _ _ _ hnn hS
   | (simp only [List.length_append,List.length_singleton];done)
   | (refine⟨by first | assumption | exact aL,by first | assumption | (dsimp only;rw [gF _ _ _ _ hnn hS];assumption),fun hd=>?_⟩
      first
       | exact Bool.noConfusion hd
       | (refine⟨by dsimp only;decide,?_,?_,?_,?_,?_,?_,?_,?_,?_⟩
          · (exact nE')
          · (exact nE')
          · (exact nE')
          · (exact nE')
          · (exact nE')
          · (exact nE')
          · (exact nE')
          ·first | (exact nE') | (intro _;exact hC.w (by assumption))
          ·first | (exact nE') | (intro _;exact trivial)))
 ·have hc:=xsw (f0 h9);have hC:=aCs hb' hc hst;have hCo:=aCr hb' hc hst hbb;have hA:=hC.a;have hS:=hC.st;unfold AN w28
  (repeat' (with_reducible first | exact trivial | rfl | assumption | refine aGA ?_ ?_ | refine Tr.run_ite (fun _=>?_) (fun _=>?_) | refine aGC ?_ | refine And.intro ?_ ?_))
  all_goals first
   | exact aL
   | (intro _;decide)
   | assumption
   | exact iF _ _ _
   | exact iB _ _ _
   | exact iA _ _ _ _ _ _
   | exact iI _ _ _ _ _ _
   | exact d9 hnn hme (cB _ _)
   | exact iH _ _ _ _ hnn hS
   | (simp only [List.length_append,List.length_singleton];done)
   | (refine⟨by first | assumption | exact aL,by first | assumption | (dsimp only;rw [gF _ _ _ _ hnn hS];assumption),fun hd=>?_⟩
      first
       | exact Bool.noConfusion hd
       | (refine⟨by dsimp only;decide,?_,?_,?_,?_,?_,?_,?_,?_,?_⟩
          · (exact nE')
          · (exact nE')
          · (exact nE')
          · (exact nE')
          · (exact nE')
          · (exact nE')
          · (exact nE')
          · (exact nE')
          ·first | (exact nE') | (intro _;exact hC.w (by assumption))))
 ·simp only [cO,beq_eq_false_iff_ne]at h0 h1 h2 h3 h4 h5 h6 h7 h8 h9;rcases h with e | e | e | e | e | e | e | e | e | e<;>contradiction
theorem aAh{t n b:Int}{x:DOS}{st:STS}{s:MS}(hb:Bnd t n s)(hx:TA t n b st x)(hst:stW b st)(hbb:b≤900000):SZ t n x st s:=aGP (XY hb hx hst hbb)
theorem aAi{t n b:Int}{x:DOS}{st:STS}{s:MS}(hb:Bnd t n s)(hx:TA t n b st x)(hst:stW b st)(hbb:b≤900000):aDh t n b s (tK t n x st s):=aGK (XY hb hx hst hbb)
theorem Z4{t n b:Int}(sh kd ky lim:Int)(st:STS):(MQ t n sh kd ky lim st).run (fun r=>TA t n b st r.1∧r.2=st):=by
 unfold MQ
 (repeat' (with_reducible first | exact trivial | rfl | assumption | refine aGA ?_ ?_ | refine Tr.run_ite (fun _=>?_) (fun _=>?_) | refine aGC ?_ | refine And.intro ?_ ?_))
 all_goals first
  | exact aL
  | exact UZ _ _
  | (intro _;decide)
  | (refine⟨by dsimp only;decide,fun _=>aEa t n,?_,?_,?_,?_,?_,?_,?_,?_⟩<;>(exact nE'))
structure hstW (e c:Int) (x:HST):Prop where
 he:(x.ev.length:Int)≤e
 hc:(x.cl.length:Int)≤c
 n0:0≤x.n0∧x.n0≤(x.cl.length:Int)
 n1:0≤x.n1∧x.n1≤(x.cl.length:Int)
 n2:0≤x.n2∧x.n2≤(x.cl.length:Int)
 n3:0≤x.n3∧x.n3≤(x.cl.length:Int)
 n4:0≤x.n4∧x.n4≤(x.cl.length:Int)
 n5:0≤x.n5∧x.n5≤(x.cl.length:Int)
 n6:0≤x.n6∧x.n6≤(x.cl.length:Int)
 n7:0≤x.n7∧x.n7≤(x.cl.length:Int)
theorem cK{e c e' c':Int}{x:HST}(h:hstW e c x)(h1:e≤e')(h2:c≤c'):hstW e' c' x:=⟨Int.le_trans h.he h1,Int.le_trans h.hc h2,h.n0,h.n1,h.n2,h.n3,h.n4,h.n5,h.n6,h.n7⟩
theorem bO{P:Prop}(h:P:=by first | omega | (dsimp only;omega) | (simp only [List.length_append,List.length_singleton,List.length_set,List.length_cons,List.length_nil];done) | (simp only [List.length_append,List.length_singleton,List.length_set,List.length_cons,List.length_nil];omega) | (dsimp only;simp only [List.length_append,List.length_singleton,List.length_set];omega)):P:=h
theorem aD6{e c th:Int}{x:HST}(kd ky:Int)(h:hstW e c x)(he:e≤1000000)(hc:c≤1000000)(h0:0≤th∧th<8):(hbT th x kd ky).run (fun r=>hstW (e+1) (c+1) r.2):=by
 have hh:=h;obtain⟨a,b,m0,m1,m2,m3,m4,m5,m6,m7⟩:=h;unfold hbT;refine aGD (fun q0=>?_) (fun q0=>aGD (fun q1=>?_) (fun q1=>aGD (fun q2=>?_) (fun q2=>aGD (fun q3=>?_) (fun q3=>aGD (fun q4=>?_) (fun q4=>aGD (fun q5=>?_) (fun q5=>aGD (fun q6=>?_) (fun q6=>aGD (fun q7=>?_) (fun q7=>?_))))))))
 ·unfold BL w2i w2h w2g
  (repeat' (with_reducible first | exact trivial | rfl | assumption | refine aGA ?_ ?_ | refine Tr.run_ite (fun _=>?_) (fun _=>?_) | refine aGC ?_ | refine And.intro ?_ ?_))
  all_goals first
   | exact aL
   | exact cK hh (by omega) (by omega)
   | exact bO
   | (refine⟨?_,?_,?_,?_,?_,?_,?_,?_,?_,?_⟩<;>exact bO)
 ·unfold BM w2i w2h w2g
  (repeat' (with_reducible first | exact trivial | rfl | assumption | refine aGA ?_ ?_ | refine Tr.run_ite (fun _=>?_) (fun _=>?_) | refine aGC ?_ | refine And.intro ?_ ?_))
  all_goals first
   | exact aL
   | exact cK hh (by omega) (by omega)
   | exact bO
   | (refine⟨?_,?_,?_,?_,?_,?_,?_,?_,?_,?_⟩<;>exact bO)
 ·unfold BN w2i w2h w2g
  (repeat' (with_reducible first | exact trivial | rfl | assumption | refine aGA ?_ ?_ | refine Tr.run_ite (fun _=>?_) (fun _=>?_) | refine aGC ?_ | refine And.intro ?_ ?_))
  all_goals first
   | exact aL
   | exact cK hh (by omega) (by omega)
   | exact bO
   | (refine⟨?_,?_,?_,?_,?_,?_,?_,?_,?_,?_⟩<;>exact bO)
 ·unfold BO w2i w2h w2g
  (repeat' (with_reducible first | exact trivial | rfl | assumption | refine aGA ?_ ?_ | refine Tr.run_ite (fun _=>?_) (fun _=>?_) | refine aGC ?_ | refine And.intro ?_ ?_))
  all_goals first
   | exact aL
   | exact cK hh (by omega) (by omega)
   | exact bO
   | (refine⟨?_,?_,?_,?_,?_,?_,?_,?_,?_,?_⟩<;>exact bO)
 ·unfold BP w2i w2h w2g
  (repeat' (with_reducible first | exact trivial | rfl | assumption | refine aGA ?_ ?_ | refine Tr.run_ite (fun _=>?_) (fun _=>?_) | refine aGC ?_ | refine And.intro ?_ ?_))
  all_goals first
   | exact aL
   | exact cK hh (by omega) (by omega)
   | exact bO
   | (refine⟨?_,?_,?_,?_,?_,?_,?_,?_,?_,?_⟩<;>exact bO)
 ·unfold BQ w2i w2h w2g
  (repeat' (with_reducible first | exact trivial | rfl | assumption | refine aGA ?_ ?_ | refine Tr.run_ite (fun _=>?_) (fun _=>?_) | refine aGC ?_ | refine And.intro ?_ ?_))
  all_goals first
   | exact aL
   | exact cK hh (by omega) (by omega)
   | exact bO
   | (refine⟨?_,?_,?_,?_,?_,?_,?_,?_,?_,?_⟩<;>exact bO)
 ·unfold BR w2i w2h w2g
  (repeat' (with_reducible first | exact trivial | rfl | assumption | refine aGA ?_ ?_ | refine Tr.run_ite (fun _=>?_) (fun _=>?_) | refine aGC ?_ | refine And.intro ?_ ?_))
  all_goals first
   | exact aL
   | exact cK hh (by omega) (by omega)
   | exact bO
   | (refine⟨?_,?_,?_,?_,?_,?_,?_,?_,?_,?_⟩<;>exact bO)
 ·unfold BS w2i w2h w2g
  (repeat' (with_reducible first | exact trivial | rfl | assumption | refine aGA ?_ ?_ | refine Tr.run_ite (fun _=>?_) (fun _=>?_) | refine aGC ?_ | refine And.intro ?_ ?_))
  all_goals first
   | exact aL
   | exact cK hh (by omega) (by omega)
   | exact bO
   | (refine⟨?_,?_,?_,?_,?_,?_,?_,?_,?_,?_⟩<;>exact bO)
 ·have q0:=eS q0;have q1:=eS q1;have q2:=eS q2;have q3:=eS q3;have q4:=eS q4;have q5:=eS q5;have q6:=eS q6;have q7:=eS q7;omega
theorem YC{e c th:Int}{x:HST}(code:Int)(okk:Bool)(val:Int)(h:hstW e c x)(he:e≤1000000)(hc:c≤1000000)(h0:0≤th∧th<8):(heT th x code okk val).run (fun r=>hstW (e+1) (c) r.2):=by
 have hh:=h;obtain⟨a,b,m0,m1,m2,m3,m4,m5,m6,m7⟩:=h;unfold heT;refine aGD (fun q0=>?_) (fun q0=>aGD (fun q1=>?_) (fun q1=>aGD (fun q2=>?_) (fun q2=>aGD (fun q3=>?_) (fun q3=>aGD (fun q4=>?_) (fun q4=>aGD (fun q5=>?_) (fun q5=>aGD (fun q6=>?_) (fun q6=>aGD (fun q7=>?_) (fun q7=>?_))))))))
 ·unfold BT w2k w30 w2z;have hW:=cX (x:=x.n0 - 1) ⟨by omega,by omega⟩
  change W (x.n0 - 1)=x.n0 - 1 at hW
  (repeat' (with_reducible first | exact trivial | rfl | assumption | refine aGA ?_ ?_ | refine Tr.run_ite (fun _=>?_) (fun _=>?_) | refine aGC ?_ | refine And.intro ?_ ?_))
  all_goals first
   | exact aL
   | exact cK hh (by omega) (by omega)
   | exact bO
   | (rw [hW];simp only [aU,Bool.not_eq_false',dT',Bool.not_eq_true',dF']at*;first | omega | exact bO)
   | (refine⟨?_,?_,?_,?_,?_,?_,?_,?_,?_,?_⟩<;>exact bO)
 ·unfold BU w2l w30 w2z;have hW:=cX (x:=x.n1 - 1) ⟨by omega,by omega⟩
  change W (x.n1 - 1)=x.n1 - 1 at hW
  (repeat' (with_reducible first | exact trivial | rfl | assumption | refine aGA ?_ ?_ | refine Tr.run_ite (fun _=>?_) (fun _=>?_) | refine aGC ?_ | refine And.intro ?_ ?_))
  all_goals first
   | exact aL
   | exact cK hh (by omega) (by omega)
   | exact bO
   | (rw [hW];simp only [aU,Bool.not_eq_false',dT',Bool.not_eq_true',dF']at*;first | omega | exact bO)
   | (refine⟨?_,?_,?_,?_,?_,?_,?_,?_,?_,?_⟩<;>exact bO)
 ·unfold BV w2m w30 w2z;have hW:=cX (x:=x.n2 - 1) ⟨by omega,by omega⟩
  change W (x.n2 - 1)=x.n2 - 1 at hW
  (repeat' (with_reducible first | exact trivial | rfl | assumption | refine aGA ?_ ?_ | refine Tr.run_ite (fun _=>?_) (fun _=>?_) | refine aGC ?_ | refine And.intro ?_ ?_))
  all_goals first
   | exact aL
   | exact cK hh (by omega) (by omega)
   | exact bO
   | (rw [hW];simp only [aU,Bool.not_eq_false',dT',Bool.not_eq_true',dF']at*;first | omega | exact bO)
   | (refine⟨?_,?_,?_,?_,?_,?_,?_,?_,?_,?_⟩<;>exact bO)
 ·unfold BW w2n w30 w2z;have hW:=cX (x:=x.n3 - 1) ⟨by omega,by omega⟩
  change W (x.n3 - 1)=x.n3 - 1 at hW
  (repeat' (with_reducible first | exact trivial | rfl | assumption | refine aGA ?_ ?_ | refine Tr.run_ite (fun _=>?_) (fun _=>?_) | refine aGC ?_ | refine And.intro ?_ ?_))
  all_goals first
   | exact aL
   | exact cK hh (by omega) (by omega)
   | exact bO
   | (rw [hW];simp only [aU,Bool.not_eq_false',dT',Bool.not_eq_true',dF']at*;first | omega | exact bO)
   | (refine⟨?_,?_,?_,?_,?_,?_,?_,?_,?_,?_⟩<;>exact bO)
 ·unfold BX w2o w30 w2z;have hW:=cX (x:=x.n4 - 1) ⟨by omega,by omega⟩
  change W (x.n4 - 1)=x.n4 - 1 at hW
  (repeat' (with_reducible first | exact trivial | rfl | assumption | refine aGA ?_ ?_ | refine Tr.run_ite (fun _=>?_) (fun _=>?_) | refine aGC ?_ | refine And.intro ?_ ?_))
  all_goals first
   | exact aL
   | exact cK hh (by omega) (by omega)
   | exact bO
   | (rw [hW];simp only [aU,Bool.not_eq_false',dT',Bool.not_eq_true',dF']at*;first | omega | exact bO)
   | (refine⟨?_,?_,?_,?_,?_,?_,?_,?_,?_,?_⟩<;>exact bO)
 ·unfold BY w2p w30 w2z;have hW:=cX (x:=x.n5 - 1) ⟨by omega,by omega⟩
  change W (x.n5 - 1)=x.n5 - 1 at hW
  (repeat' (with_reducible first | exact trivial | rfl | assumption | refine aGA ?_ ?_ | refine Tr.run_ite (fun _=>?_) (fun _=>?_) | refine aGC ?_ | refine And.intro ?_ ?_))
  all_goals first
   | exact aL
   | exact cK hh (by omega) (by omega)
   | exact bO
   | (rw [hW];simp only [aU,Bool.not_eq_false',dT',Bool.not_eq_true',dF']at*;first | omega | exact bO)
   | (refine⟨?_,?_,?_,?_,?_,?_,?_,?_,?_,?_⟩<;>exact bO)
 ·unfold BZ w2q w30 w2z;have hW:=cX (x:=x.n6 - 1) ⟨by omega,by omega⟩
  change W (x.n6 - 1)=x.n6 - 1 at hW
  (repeat' (with_reducible first | exact trivial | rfl | assumption | refine aGA ?_ ?_ | refine Tr.run_ite (fun _=>?_) (fun _=>?_) | refine aGC ?_ | refine And.intro ?_ ?_))
  all_goals first
   | exact aL
   | exact cK hh (by omega) (by omega)
   | exact bO
   | (rw [hW];simp only [aU,Bool.not_eq_false',dT',Bool.not_eq_true',dF']at*;first | omega | exact bO)
   | (refine⟨?_,?_,?_,?_,?_,?_,?_,?_,?_,?_⟩<;>exact bO)
 ·unfold B0 w2j w30 w2z;have hW:=cX (x:=x.n7 - 1) ⟨by omega,by omega⟩
  change W (x.n7 - 1)=x.n7 - 1 at hW
  (repeat' (with_reducible first | exact trivial | rfl | assumption | refine aGA ?_ ?_ | refine Tr.run_ite (fun _=>?_) (fun _=>?_) | refine aGC ?_ | refine And.intro ?_ ?_))
  all_goals first
   | exact aL
   | exact cK hh (by omega) (by omega)
   | exact bO
   | (rw [hW];simp only [aU,Bool.not_eq_false',dT',Bool.not_eq_true',dF']at*;first | omega | exact bO)
   | (refine⟨?_,?_,?_,?_,?_,?_,?_,?_,?_,?_⟩<;>exact bO)
 ·have q0:=eS q0;have q1:=eS q1;have q2:=eS q2;have q3:=eS q3;have q4:=eS q4;have q5:=eS q5;have q6:=eS q6;have q7:=eS q7;omega
theorem OA{t b c:Int}{st:STS}{x:FTS}(h:UH t b st x)(hbc:b≤c):UH t c st x:=⟨h.h,fun e=>⟨(h.fn e).1,dZ (h.fn e).2 (by omega)⟩,h.cl,h.ps⟩
theorem AS{t n b c:Int}{e:ENS}(hx:enI t n b e)(hbc:b≤c):enI t n c e:=by
 match e,hx with
 | ⟨0,sh,dn,x,y⟩,hx=>trivial
 | ⟨1,sh,dn,x,y⟩,hx=>exact hx
 | ⟨2,sh,dn,x,y⟩,hx=>trivial
 | ⟨3,sh,dn,x,y⟩,hx=>exact⟨⟨hx.1.1,Int.le_trans hx.1.2 hbc⟩,hx.2⟩
 | ⟨4,sh,dn,x,y⟩,hx=>exact⟨hx.1,hx.2.1,hx.2.2.1,hx.2.2.2.1,hx.2.2.2.2.1,Int.le_trans hx.2.2.2.2.2 hbc⟩
theorem K9{t n b c:Int}{e:SWS}(hx:K8 t n b e)(hbc:b≤c):K8 t n c e:=by
 match e,hx with
 | ⟨0,N,m,i,ks,fs,gs,j,l⟩,hx=>trivial
 | ⟨1,N,m,i,ks,fs,gs,j,l⟩,hx=>exact⟨⟨hx.1.1,Int.le_trans hx.1.2 hbc⟩,hx.2⟩
 | ⟨2,N,m,i,ks,fs,gs,j,l⟩,hx=>exact⟨hx.1,hx.2.1,hx.2.2.1,hx.2.2.2.1,hx.2.2.2.2.1,Int.le_trans hx.2.2.2.2.2 hbc⟩
theorem OO{t n b c:Int}{st:STS}{x:HPS}(h:VN t n b st x)(hbc:b≤c):VN t n c st x:=⟨h.h,h.u,h.ex,fun e=>AS (h.en e) hbc,fun e=>⟨(h.fn e).1,dZ (h.fn e).2 (by omega)⟩,h.cl,h.ps⟩
theorem MR{t n b c:Int}{st:STS}{x:DOS}(h:TA t n b st x)(hbc:b≤c):TA t n c st x:=⟨h.h,h.hd,fun e=>OO (h.hp e) hbc,fun e=>AS (h.en e) hbc,fun e=>OA (h.ft e) hbc,h.an,h.aw,fun e=>⟨(h.fn e).1,dZ (h.fn e).2 (by omega)⟩,h.dr,fun e=>K9 (h.sw e) hbc⟩
structure XI (t n b:Int) (w:WKS):Prop where
 ht:w.t=t
 hn:w.n=n
 st:stW b w.st
 d:w.b=true→TA t n b w.st w.d∧w.en<(w.tk.length:Int)
 e0:0≤w.en
 e1:w.en≤(w.tk.length:Int)
 tl:(w.tl.length:Int)=w.en+(bif w.b then 1 else 0)
 sl:(w.sl.length:Int)≤w.en
 tk:(w.tk.length:Int)≤100000
structure QY (t n b:Int) (w:WK1):Prop where
 ht:w.t=t
 hn:w.n=n
 st:stW b w.st
 d:TA t n b w.st w.d
 e0:0≤w.en
 e1:w.en<(w.tk.length:Int)
 tl:(w.tl.length:Int)=w.en+1
 sl:(w.sl.length:Int)≤w.en
 tk:(w.tk.length:Int)≤100000
theorem Q0{t n b c:Int}{w:WKS}(h:XI t n b w)(hbc:b≤c):XI t n c w:=⟨h.ht,h.hn,iX h.st hbc,fun e=>⟨MR (h.d e).1 hbc,(h.d e).2⟩,h.e0,h.e1,h.tl,h.sl,h.tk⟩
theorem QU{t n b tr:Int}{w:WKS}(h:XI t n b w)(hb:w.b=false)(hl:w.en<(w.tk.length:Int)):(LE tr w).run (QY t n b):=by
 obtain⟨rfl,rfl,hst,hd,e0,e1,htl,hsl,htk⟩:=h;rw [hb]at htl;have htl:(w.tl.length:Int)=w.en+0:=htl;have hN:=fun sh kd ky lim=>Z4 (t:=w.t) (n:=w.n) (b:=b) sh kd ky lim w.st;unfold LE w33
 (repeat' (with_reducible first | exact trivial | rfl | assumption | refine aGA ?_ ?_ | refine Tr.run_ite (fun _=>?_) (fun _=>?_) | refine aGC ?_ | refine And.intro ?_ ?_))
 all_goals first
  | exact aL
  | exact aGP (hN _ _ _ _)
  | (simp only [List.length_append,List.length_singleton];done)
  | (refine⟨rfl,rfl,?_,?_,e0,hl,?_,hsl,htk⟩
     ·dsimp only;rw [show(dqNF _ _ _ _ _ _ _).2=w.st from(aGK (hN _ _ _ _)).2];exact hst
     ·dsimp only;rw [show(dqNF _ _ _ _ _ _ _).2=w.st from(aGK (hN _ _ _ _)).2];exact(aGK (hN _ _ _ _)).1
     ·dsimp only;rw [List.length_append,List.length_singleton];omega)
theorem aCw{t n b tr:Int}{w:WKS}(h:XI t n b w)(hl:w.en<(w.tk.length:Int)):QV tr w:=by
 unfold QV;cases hb:w.b with
 | true=>trivial
 | false=>exact aGP (QU h hb hl)
theorem aCx{t n b tr:Int}{w:WKS}(h:XI t n b w)(hl:w.en<(w.tk.length:Int)):QY t n b (wbF tr w):=by
 unfold wbF;cases hb:w.b with
 | true=>
   obtain⟨h1,h2,h3,h4,h5,h6,h7,h8,h9⟩:=h;rw [hb]at h7;exact⟨h1,h2,h3,(h4 hb).1,h5,hl,h7,h8,h9⟩
 | false=>exact aGK (QU h hb hl)
structure aEO (t n b:Int) (s:MS) (o:WkO):Prop where
 a:Act1 s o.s
 w:XI t n (b+1) o.x
theorem Y0{t n b:Int}{w:WK1}{s:MS}(hb:Bnd t n s)(h:QY t n b w)(hbb:b≤900000):(wsT w s).run (aEO t n b s):=by
 obtain⟨rfl,rfl,hst,hd,e0,e1,htl,hsl,htk⟩:=h;have hD:=aAi hb hd hst hbb;have hDo:=aAh hb hd hst hbb;have hA:=hD.a;have hW:W (w.en+1)=w.en+1:=cX ⟨by omega,by omega⟩
 unfold wsT w35 w34
 (repeat' (with_reducible first | exact trivial | rfl | assumption | refine aGA ?_ ?_ | refine Tr.run_ite (fun _=>?_) (fun _=>?_) | refine aGC ?_ | refine And.intro ?_ ?_))
 all_goals first
  | exact aL
  | (simp only [List.length_append,List.length_singleton,List.length_set];done)
  | (refine⟨hA,⟨rfl,rfl,hD.st,?_,?_,?_,?_,?_,htk⟩⟩
     ·first
       | (intro e;exact Bool.noConfusion e)
       | (intro e;exact⟨hD.w (by assumption),e1⟩)
     ·first | exact e0 | (dsimp only;rw [hW];omega)
     ·first | (dsimp only;omega) | (dsimp only;rw [hW];omega)
     ·dsimp only;rw [List.length_set]
      first | (rw [hW];show _=w.en+1+0;omega) | (show _=w.en+1;omega)
     ·dsimp only
      first | (rw [hW];simp only [List.length_append,List.length_singleton];omega) | (rw [hW];omega) | omega)
theorem aCE{t n b:Int}{w:WK1}{s:MS}(hb:Bnd t n s)(h:QY t n b w)(hbb:b≤900000):XJ w s:=aGP (Y0 hb h hbb)
theorem aCF{t n b:Int}{w:WK1}{s:MS}(hb:Bnd t n s)(h:QY t n b w)(hbb:b≤900000):aEO t n b s (wsF w s):=aGK (Y0 hb h hbb)
structure egW (t n:Int) (x:EGS):Prop where
 ht:1≤t∧t≤8
 hn:1≤n∧n≤1000
 st:x.s.t=t
 sn:x.s.n=n
 xt:x.th=t
 xn:x.nd=n
 k:0≤x.k∧x.k≤60000
 c:x.s.c=x.k
 w:VX x.s.xs
 l:(x.ws.length:Int)=t
 ws: ∀i,i<x.ws.length→XI t n x.k (bE x.ws i)
 h:hstW (2*x.k) x.k x.h
theorem QZ{ws:List WKS}{i j:Nat}{w:WKS}(hi:i<ws.length):bE (dL ws i w) j=if i=j then w else bE ws j:=by
 unfold bE dL;rw [gD',List.getElem?_set,gD']
 by_cases e:i=j
 ·subst e;rw [if_pos rfl,if_pos rfl,if_pos hi];rfl
 ·rw [if_neg e,if_neg e]
theorem xJ(ws:List WKS)(i:Nat)(w:WKS):(dL ws i w).length =ws.length:=by unfold dL;exact List.length_set
theorem GC{ws:List WKS}{i:Nat}(hi:i<ws.length):dL ws i (bE ws i)=ws:=by
 unfold dL bE;apply List.ext_getElem
 ·simp
 ·intro j h1 h2;rw [List.getElem_set];split
  ·rename_i e;subst e;rw [gD',gE' hi];rfl
  ·rfl
structure WA (t n:Int) (x:EGS) (r:Bool×EGS):Prop where
 no:r.1=false→r.2=x
 yes:r.1=true→egW t n r.2∧r.2.k=x.k+1∧r.2.sh=x.sh∧r.2.tr=x.tr
 w:egW t n r.2
theorem tO{t n:Int}{x:EGS}(h:egW t n x):WA t n x (false,x):=⟨fun _=>rfl,fun e=>Bool.noConfusion e,h⟩
theorem qR{t n:Int}{x:EGS}{s:MS}{h:HST}{i:Nat}{w:WKS}(hx:egW t n x)(hk:x.k<60000)(hi:i<x.ws.length)(ha:Act1 x.s s)(hw:XI t n (x.k+1) w)(hh:hstW (2*(x.k+1)) (x.k+1) h):
 WA t n x (true,{sh:=x.sh,th:=x.th,nd:=x.nd,tr:=x.tr,s:=s,h:=h,ws:=dL x.ws i w,k:=W (x.k+1) }):=by
 obtain⟨ht,hn,st,sn,xt,xn,k,c,wd,l,ws,hst⟩:=hx;have hW:W (x.k+1)=x.k+1:=cX ⟨by omega,by omega⟩
 rw [hW]
 have hr:egW t n {sh:=x.sh,th:=x.th,nd:=x.nd,tr:=x.tr,s:=s,h:=h,ws:=dL x.ws i w,k:=x.k+1} :=by
  refine⟨ht,hn,ha.t.trans st,ha.n.trans sn,xt,xn,?_,?_,ha.w wd,?_,?_,hh⟩
  ·dsimp only;omega
  ·dsimp only;rw [ha.c,c]
  ·dsimp only;rw [xJ];exact l
  ·intro j hj;dsimp only at hj⊢;rw [xJ]at hj;rw [QZ hi];split
   ·exact hw
   ·exact Q0 (ws j hj) (by omega)
 exact⟨fun e=>Bool.noConfusion e,fun _=>⟨hr,rfl,rfl,rfl⟩,hr⟩
theorem YK{t n:Int}{x:EGS}(th:Int)(hx:egW t n x):(pkT th x).run (WA t n x):=by
 have hx':=hx;obtain⟨ht,hn,st,sn,xt,xn,hk,hc,wd,hl,hws,hst⟩:=hx;have hB:Bnd t n x.s:=⟨⟨ht.1,by omega⟩,hn,by omega,wd⟩
 unfold pkT w38 w39;refine Tr.run_ite (fun e1=>?_) (fun e1=>Tr.run_ite (fun e2=>?_) (fun e2=>?_))
 · (repeat' (with_reducible first | exact trivial | rfl | assumption | refine aGA ?_ ?_ | refine Tr.run_ite (fun _=>?_) (fun _=>?_) | refine aGC ?_ | refine And.intro ?_ ?_));exact tO hx'
 · (repeat' (with_reducible first | exact trivial | rfl | assumption | refine aGA ?_ ?_ | refine Tr.run_ite (fun _=>?_) (fun _=>?_) | refine aGC ?_ | refine And.intro ?_ ?_));exact tO hx'
 rw [aU,dF']at e1;rw [cE,dF']at e2;have hi:0+Int.toNat th*1<x.ws.length:=by omega
 have hw:=hws _ hi;have hself:=GC hi;generalize hig:0+Int.toNat th*1=i at*;refine aGA ⟨by omega,by omega⟩ (aGA hi (aGA trivial (Tr.run_ite (fun e3=>?_) (fun e3=>Tr.run_ite (fun e4=>?_) (fun e4=>?_)))))
 · (repeat' (with_reducible first | exact trivial | rfl | assumption | refine aGA ?_ ?_ | refine Tr.run_ite (fun _=>?_) (fun _=>?_) | refine aGC ?_ | refine And.intro ?_ ?_))
   all_goals first | assumption | (rw [hself];exact tO hx')
 · (repeat' (with_reducible first | exact trivial | rfl | assumption | refine aGA ?_ ?_ | refine Tr.run_ite (fun _=>?_) (fun _=>?_) | refine aGC ?_ | refine And.intro ?_ ?_))
   all_goals first | assumption | (rw [hself];exact tO hx')
 rw [cE,dF']at e4
 have hen:(bE x.ws i).en <((bE x.ws i).tk.length :Int):=by
  have h0:=hw.e0;have h1:=hw.e1;have h2:=hw.tk;have h3:=eS e3;have hW:=cX (x:=((bE x.ws i).tk.length :Int) - (bE x.ws i).en) ⟨by omega,by omega⟩
  have h4:W (((bE x.ws i).tk.length :Int) - (bE x.ws i).en)≠0:=h3;have hW:W (((bE x.ws i).tk.length :Int) - (bE x.ws i).en)=((bE x.ws i).tk.length :Int) - (bE x.ws i).en :=hW;rw [hW]at h4;omega
 have h1w:=aCx (tr:=x.tr) hw hen;have h1o:=aCw (tr:=x.tr) hw hen;refine aGA h1o ?_;have hS:=aCF hB h1w (by omega)
 have hSo:=aCE hB h1w (by omega)
 generalize wbF x.tr (bE x.ws i)=w1 at*;generalize hsg:wsF w1 x.s=o at*;have hth:0≤th∧th<8:=by omega
 refine Tr.run_ite (fun e5=>?_) (fun e5=>?_)
 ·have hH:=aD6 (th:=th) (kd:=(WK1.d w1).6) (ky:=(WK1.d w1).7) hst (by omega) (by omega) hth
  have hHo:hbOk th x.h (WK1.d w1).6 (WK1.d w1).7:=aGP hH;have hHv:hstW (2*x.k+1) (x.k+1) (hbF th x.h (WK1.d w1).6 (WK1.d w1).7).2:=aGK hH;generalize hbF th x.h (WK1.d w1).6 (WK1.d w1).7=y at*;have hE:=YC (th:=th) (code:=o.1) (okk:=o.2) (val:=o.3) hHv (by omega) (by omega) hth
  have hEo:heOk th y.2 o.1 o.2 o.3:=aGP hE;have hEv:hstW (2*x.k+1+1) (x.k+1) (heF th y.2 o.1 o.2 o.3).2:=aGK hE
  (repeat' (with_reducible first | exact trivial | rfl | assumption | refine aGA ?_ ?_ | refine Tr.run_ite (fun _=>?_) (fun _=>?_) | refine aGC ?_ | refine And.intro ?_ ?_))
  all_goals first
   | assumption
   | exact qR hx' (by omega) hi hS.a hS.w (cK hEv (by omega) (by omega))
   | exact qR hx' (by omega) hi hS.a hS.w (cK hHv (by omega) (by omega))
 ·have hE:=YC (th:=th) (code:=o.1) (okk:=o.2) (val:=o.3) hst (by omega) (by omega) hth
  have hEo:heOk th x.h o.1 o.2 o.3:=aGP hE;have hEv:hstW (2*x.k+1) x.k (heF th x.h o.1 o.2 o.3).2:=aGK hE
  (repeat' (with_reducible first | exact trivial | rfl | assumption | refine aGA ?_ ?_ | refine Tr.run_ite (fun _=>?_) (fun _=>?_) | refine aGC ?_ | refine And.intro ?_ ?_))
  all_goals first
   | assumption
   | exact qR hx' (by omega) hi hS.a hS.w (cK hEv (by omega) (by omega))
   | exact qR hx' (by omega) hi hS.a hS.w (cK hst (by omega) (by omega))
theorem PB{t n:Int}{x:EGS}(th:Int)(hx:egW t n x):PA th x:=aGP (YK th hx)
theorem PC{t n:Int}{x:EGS}(th:Int)(hx:egW t n x):WA t n x (pkF th x):=aGK (YK th hx)
end Go.Sh
