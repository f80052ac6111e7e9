import Derived.Test.YteindpciaceeeaaGreatZSh32toSh33
set_option linter.all false
set_option maxHeartbeats 8000000
namespace Go.Sh
open Go Go.Proofs
variable [Con]
theorem LM{n:Nat}(th tm:Nat→Int)(hn:n≤4294967296):DF Tryz.prog 114 (VW n th tm) (DO th tm n 0 60000):=by
 intro l Fr hY;exact LJ l n th tm _ hY _ (aC1 l n th tm _ hY _ hn rfl rfl)
def jX:Code→Code
 | .seq x _=>x
 | .block _ c=>c
 | c=>c
def jY:Code→Code
 | .seq _ y=>y
 | c=>c
def D4:Code→Code
 | .rangeFunc _ _ a _=>a
 | c=>c
def D5:Code→Code
 | .rangeFunc _ _ _ b=>b
 | c=>c
noncomputable def mV:Code:=(Tryz.f85.body).getD .skip
noncomputable def XT:Code:=.seq (jX mV) (.seq (jX (jY mV)) (jX (jX (jY (jY mV)))))
noncomputable def rL:Code:=jX (jY (jX (jY (jY mV))))
noncomputable def MJ:Code:=jX (jY (jY (jY mV)))
def GP(x:EGS)(n:Nat)(row:Nat→List AVal)(K:List AVal→aC Ob→Prop):Prop:=K [.func (Fn.func 41) [.ptr 0 0] [],.view n 2 row,.ptr 1 0,.raw (Value.tuple {toList:=[] }),.int .i64 0,.ptr 2 0,.raw (Value.tuple {toList:=[] }),.view n 2 row,.func (Fn.func 114) [] [.ptr 3 0],.raw (Value.tuple {toList:=[] }),.raw (Value.tuple {toList:=[] }),.raw (Value.tuple {toList:=[] }),.raw (Value.tuple {toList:=[] }),.raw (Value.tuple {toList:=[] }),.raw (Value.tuple {toList:=[] }),.raw (Value.tuple {toList:=[] })] [some (.abs (.engine x) []),some (.cells [.func (Fn.func 41) [.ptr 0 0] []]),some (.cells [.int .i64 0]),some (.cells [.view n 2 row])]
theorem IR(x:EGS)(n:Nat)(row:Nat→List AVal)(K:List AVal→aC Ob→Prop)(h:GP x n row K):Ev (cR EU9 (mW EU9 LL 9) 16 XT ([.func (.func 41) [.ptr 0 0] [],.view n 2 row]++List.replicate 14 (.raw undef)) [some (.abs (.engine x) [])] K):=aJ (q:=GP x n row K) (by kernel_rfl) h
def ND(x:EGS)(n:Nat)(row:Nat→List AVal)(c u:Int)(K:aC Ob→Prop):Prop:=VU u x∧bif (pkF u x).1 then K [some (.abs (.engine (pkF u x).2) []),some (.cells [.func (Fn.func 41) [.ptr 0 0] []]),some (.cells [.int .i64 (W (c+1))])]else K [some (.abs (.engine (pkF u x).2) []),some (.cells [.func (Fn.func 41) [.ptr 0 0] []]),some (.cells [.int .i64 c])]
theorem IS(x:EGS)(n:Nat)(row:Nat→List AVal)(c u:Int)(K:aC Ob→Prop)(h:ND x n row c u K):Ev (cR EU9 (mW EU9 LL 9) 16 (D4 rL) (List.set (([.func (.func 41) [.ptr 0 0] [],.view n 2 row,.ptr 1 0,.raw undef,.int .i64 0,.ptr 2 0,.raw undef,.view n 2 row,.O]:List AVal)++List.replicate 7 (.raw undef)) 9 (.int .i64 u)) [some (.abs (.engine x) []),some (.cells [.func (.func 41) [.ptr 0 0] []]),some (.cells [.int .i64 c])] (fun tm1 h1=>cR EU9 (mW EU9 LL 9) 16 (D5 rL) tm1 h1 (fun _ h2=>K h2))):=aJ (q:=ND x n row c u K) (by kernel_rfl) h
def NH(x:EGS)(n:Nat)(row:Nat→List AVal)(c:Int)(K:List AVal→aC Ob→Prop):Prop:=K [.func (Fn.func 41) [.ptr 0 0] [],.view n 2 row,.ptr 1 0,.raw (Value.tuple {toList:=[] }),.int .i64 c,.ptr 2 0,.raw (Value.tuple {toList:=[] }),.view n 2 row,.O,.raw (Value.tuple {toList:=[] }),.raw (Value.tuple {toList:=[] }),.raw (Value.tuple {toList:=[] }),.raw (Value.tuple {toList:=[] }),.raw (Value.tuple {toList:=[] }),.raw (Value.tuple {toList:=[] }),.int .i64 c] [some (.abs (.engine x) []),some (.cells [.func (Fn.func 41) [.ptr 0 0] []]),some (.cells [.int .i64 c])]
theorem IT(x:EGS)(n:Nat)(row:Nat→List AVal)(c:Int)(K:List AVal→aC Ob→Prop)(h:NH x n row c K):Ev (cR EU9 (mW EU9 LL 9) 16 MJ ([.func (.func 41) [.ptr 0 0] [],.view n 2 row,.ptr 1 0,.raw undef,.int .i64 0,.ptr 2 0,.raw undef,.view n 2 row,.O]++List.replicate 7 (.raw undef)) [some (.abs (.engine x) []),some (.cells [.func (.func 41) [.ptr 0 0] []]),some (.cells [.int .i64 c])] K):=aJ (q:=NH x n row c K) (by kernel_rfl) h
theorem aG0{X:Type}{K:X→Prop} : ∀ {t:Tr X},t.run K→t.ok
 | .ret x,k=>trivial
 | .ite b l r,k=>by cases b with
   | true=>exact aG0 (t:=l) k
   | false=>exact aG0 (t:=r) k
 | .pre p t,k=>⟨k.1,aG0 (t:=t) k.2⟩
theorem aGV{X:Type}{K:X→Prop} : ∀ {t:Tr X},t.run K→K t.val
 | .ret x,k=>k
 | .ite b l r,k=>by cases b with
   | true=>exact aGV (t:=l) k
   | false=>exact aGV (t:=r) k
 | .pre p t,k=>aGV (t:=t) k.2
theorem Tr.run_ite{X:Type}{K:X→Prop}{b:Bool}{l r:Tr X}(h1:b=true→l.run K)(h2:b=false→r.run K):(Tr.ite b l r).run K:=aL h1 h2
theorem aGM{X:Type}{K:X→Prop}{b:Bool}{l r:Tr X}(h1:b=true→l.run K)(h2:b=false→r.run K):(bif b then l else r).run K:=by
 cases b with
 | true=>exact h1 rfl
 | false=>exact h2 rfl
theorem aGN{X:Type}{K:X→Prop}{p:Prop}{t:Tr X}(h1:p)(h2:t.run K):(Tr.pre p t).run K:=⟨h1,h2⟩
theorem aGP{X:Type}{K:X→Prop}{x:X}(h:K x):(Tr.ret x).run K:=h
theorem nE'{P Q:Prop}(h:¬P:=by dsimp only;decide):P→Q:=fun e=>absurd e h
structure rngU (x:Int):Prop where
 h0:0≤x
 h1:x≤18446744073709551615
theorem C0:rngU 0:=⟨by decide,by decide⟩
theorem FS(x:Int):rngU (WU x):=⟨(LE x).1,(LE x).2⟩
theorem PQ{xs:List Int}(h:VQ xs)(a:Int):rngU (aE xs a):=⟨(uV h a).1,(uV h a).2⟩
theorem yQ{b:Bool}{x y:Int}(h1:b=true→rngU x)(h2:rngU y):rngU (bif b then x else y):=by
 cases b with
 | true=>exact h1 rfl
 | false=>exact h2
theorem lD{n w:Int}(h:aK n w=true):0≤n∧n<2^w.toNat:=by
 unfold aK at h;simp only [Bool.and_eq_true,cC,aV,dT']at h;exact h
theorem LU(b:Bool):0≤bitI b∧bitI b≤1:=by cases b<;>decide
theorem PP{a b c d e f:Int}{m:Bool} :rngU (bif dOk a b c d e f then cM a b c d m e f else 0):=by
 refine yQ (fun h=>?_) C0;unfold dOk at h;simp only [Bool.and_eq_true]at h;obtain⟨h1,h2,h3,h4,h5,h6⟩:=h;have h1:=lD h1;have h2:=lD h2;have h3:=lD h3;have h4:=lD h4;have h5:=lD h5;have h6:=lD h6;have hb:=LU m;simp only [Int.reduceToNat,Int.reducePow]at h1 h2 h3 h4 h5 h6;unfold cM;exact⟨by omega,by omega⟩
theorem WJ{a b c v:Int}{m:Bool} :rngU (bif bif aK a 10 then bif aK b 9 then bif aK c 5 then aK v 18 else false else false else false then cN a b m c v else 0):=by
 refine yQ (fun h=>?_) C0;cases h1:aK a 10 with
 | false=>rw [h1]at h;cases h
 | true=>
   cases h2:aK b 9 with
   | false=>rw [h1,h2]at h;cases h
   | true=>
     cases h3:aK c 5 with
     | false=>rw [h1,h2,h3]at h;cases h
     | true=>
       rw [h1,h2,h3]at h;have h:=lD (show aK v 18=true from h)
       have h1:=lD h1;have h2:=lD h2;have h3:=lD h3;have hb:=LU m;simp only [Int.reduceToNat,Int.reducePow]at h h1 h2 h3;unfold cN;exact⟨by omega,by omega⟩
structure Act1 (s s':MS):Prop where
 c:s'.c=s.c+1
 len:s'.xs.length=s.xs.length
 w:VQ s.xs→VQ s'.xs
 t:s'.t=s.t
 n:s'.n=s.n
theorem zG(s:MS)(k a o w:Int)(ok:Bool):Act1 s ⟨s.t,s.n,s.xs,s.c+1,k,a,o,w,ok⟩:=⟨rfl,rfl,id,rfl,rfl⟩
theorem xO(s:MS)(b v k a o w:Int)(ok:Bool)(h:rngU v):Act1 s ⟨s.t,s.n,aY s.xs b v,s.c+1,k,a,o,w,ok⟩:=⟨rfl,kU _ _ _,fun hw=>VR hw ⟨h.h0,h.h1⟩,rfl,rfl⟩
theorem F8(s:MS)(q:Bool)(b v k a o w:Int)(ok:Bool)(h:rngU v):Act1 s ⟨s.t,s.n,bif q then aY s.xs b v else s.xs,s.c+1,k,a,o,w,ok⟩:=by
 cases q with
 | true=>exact xO s b v k a o w ok h
 | false=>exact zG s k a o w ok
theorem SJ(x a:Int)(w:Int):0≤aA x a w∧aA x a w<2^w.toNat:=SH
structure Bnd (t n:Int) (s:MS):Prop where
 ht:1≤t∧t≤1000
 hn:1≤n∧n≤1000
 hc:0≤s.c∧s.c≤900000
 hw:VQ s.xs
theorem nO{P:Prop}(h:P:=by(with_reducible first | exact C0 | exact FS _ | exact PP | exact WJ | assumption)):P:=h
theorem z8{P:Prop}(h:P:=by(simp only [aA,Int.reduceToNat,Int.reducePow];omega)):P:=h
theorem aZ{P:Prop}(h:P:=by(first
 | with_reducible exact trivial
 | with_reducible rfl
 | with_reducible assumption
 | with_reducible exact zG _ _ _ _ _ _
 | ((with_reducible refine xO _ _ _ _ _ _ _ _ ?_);exact nO)
 | ((with_reducible refine F8 _ _ _ _ _ _ _ _ _ ?_);exact nO)
 | omega
 | exact z8
 | decide)):P:=h
theorem vN{P:Prop}(h:P:=by first | exact nO | (exact PQ (by assumption) _)):P:=h
theorem dI{P:Prop}(h:P:=by(dsimp only;first | omega | (constructor<;>omega) | exact z8)):P:=h
structure XM (t:Int) (x:CLS):Prop where
 h:x.at'=0∨x.at'=1∨x.at'=2∨x.at'=3
structure aDa (t:Int) (s:MS) (o:ClO):Prop where
 a:Act1 s o.s
 w:o.d=false→XM t o.x
theorem XN{t n:Int}{x:CLS}{s:MS}(hb:Bnd t n s)(hx:XM t x):(clT t n x s).run (aDa t s):=by
 obtain⟨⟨t0,t1⟩,⟨n0,n1⟩,⟨c0,c1⟩,hw⟩:=hb;obtain⟨h⟩:=hx;unfold clT;refine aGM (fun h0=>?_) (fun h0=>aGM (fun h1=>?_) (fun h1=>aGM (fun h2=>?_) (fun h2=>aGM (fun h3=>?_) (fun h3=>?_))))
 ·unfold zX
  (repeat' (with_reducible first | exact trivial | rfl | assumption | refine aGN ?_ ?_ | refine Tr.run_ite (fun _=>?_) (fun _=>?_) | refine aGP ?_ | refine And.intro ?_ ?_))
  all_goals first | exact aZ | (refine⟨by exact aZ,fun hd=>?_⟩;first | (exact Bool.noConfusion hd) | exact⟨by dsimp only;decide⟩)
 ·unfold zY w04 w05 w06
  (repeat' (with_reducible first | exact trivial | rfl | assumption | refine aGN ?_ ?_ | refine Tr.run_ite (fun _=>?_) (fun _=>?_) | refine aGP ?_ | refine And.intro ?_ ?_))
  all_goals first | exact aZ | (refine⟨by exact aZ,fun hd=>?_⟩;first | (exact Bool.noConfusion hd) | exact⟨by dsimp only;decide⟩)
 ·unfold zZ w05 w06
  (repeat' (with_reducible first | exact trivial | rfl | assumption | refine aGN ?_ ?_ | refine Tr.run_ite (fun _=>?_) (fun _=>?_) | refine aGP ?_ | refine And.intro ?_ ?_))
  all_goals first | exact aZ | (refine⟨by exact aZ,fun hd=>?_⟩;first | (exact Bool.noConfusion hd) | exact⟨by dsimp only;decide⟩)
 ·unfold z6 w07
  (repeat' (with_reducible first | exact trivial | rfl | assumption | refine aGN ?_ ?_ | refine Tr.run_ite (fun _=>?_) (fun _=>?_) | refine aGP ?_ | refine And.intro ?_ ?_))
  all_goals first | exact aZ | (refine⟨by exact aZ,fun hd=>?_⟩;first | (exact Bool.noConfusion hd) | exact⟨by dsimp only;decide⟩)
 ·simp only [cX,beq_eq_false_iff_ne]at h0 h1 h2 h3;rcases h with e | e | e | e<;>contradiction
theorem D3{t n:Int}{x:CLS}{s:MS}(hb:Bnd t n s)(hx:XM t x):LY t n x s:=aG0 (XN hb hx)
theorem xV{t n:Int}{x:CLS}{s:MS}(hb:Bnd t n s)(hx:XM t x):aDa t s (oP t n x s):=aGV (XN hb hx)
structure hdW (t:Int) (x:HDS):Prop where
 h:0≤x.at'∧x.at'≤1000
 u: -1≤x.u∧x.u≤1000
structure aD7 (t:Int) (s:MS) (o:HdO):Prop where
 a:Act1 s o.s
 w:o.d=false→hdW t o.x
 p: -1≤o.x.u∧o.x.u≤1000
theorem X2{t n:Int}{x:HDS}{s:MS}(hb:Bnd t n s)(hx:hdW t x):(hdT t n x s).run (aD7 t s):=by
 obtain⟨⟨t0,t1⟩,⟨n0,n1⟩,⟨c0,c1⟩,hw⟩:=hb;obtain⟨⟨h0,h1⟩,⟨u0,u1⟩⟩:=hx;have hW:W (x.at'+1)=x.at'+1:=dB ⟨by omega,by omega⟩
 unfold hdT;unfold UV w08 w09;rw [hW]
 (repeat' (with_reducible first | exact trivial | rfl | assumption | refine aGN ?_ ?_ | refine Tr.run_ite (fun _=>?_) (fun _=>?_) | refine aGP ?_ | refine And.intro ?_ ?_))
 all_goals first | exact aZ | (refine⟨by exact aZ,fun hd=>by first | (exact Bool.noConfusion hd) | (refine⟨?_,?_⟩<;>dsimp only at hd⊢ <;>first | omega | (simp only [cC,dF']at hd;omega)),?_⟩;exact dI)
theorem aBn{t n:Int}{x:HDS}{s:MS}(hb:Bnd t n s)(hx:hdW t x):aBk t n x s:=aG0 (X2 hb hx)
theorem aBo{t n:Int}{x:HDS}{s:MS}(hb:Bnd t n s)(hx:hdW t x):aD7 t s (pO t n x s):=aGV (X2 hb hx)
structure drW (t:Int) (x:DRS):Prop where
 h:0≤x.th∧x.th≤1000
 u:0≤x.at'∧x.at'≤2
structure aDi (t:Int) (s:MS) (o:DrO):Prop where
 a:Act1 s o.s
 w:o.d=false→drW t o.x
theorem XR{t n:Int}{x:DRS}{s:MS}(hb:Bnd t n s)(hx:drW t x):(drT t n x s).run (aDi t s):=by
 obtain⟨⟨t0,t1⟩,⟨n0,n1⟩,⟨c0,c1⟩,hw⟩:=hb;obtain⟨⟨h0,h1⟩,⟨u0,u1⟩⟩:=hx;have hW:W (x.at'+1)=x.at'+1:=dB ⟨by omega,by omega⟩
 unfold drT;unfold S8;rw [hW]
 (repeat' (with_reducible first | exact trivial | rfl | assumption | refine aGN ?_ ?_ | refine Tr.run_ite (fun _=>?_) (fun _=>?_) | refine aGP ?_ | refine And.intro ?_ ?_))
 all_goals first | exact aZ | (refine⟨by exact aZ,fun hd=>?_⟩;first | (exact Bool.noConfusion hd) | (refine⟨?_,?_⟩<;>dsimp only at hd⊢ <;>first | omega | (simp only [cC,dF']at hd;omega)))
theorem aAi{t n:Int}{x:DRS}{s:MS}(hb:Bnd t n s)(hx:drW t x):aAf t n x s:=aG0 (XR hb hx)
theorem aAj{t n:Int}{x:DRS}{s:MS}(hb:Bnd t n s)(hx:drW t x):aDi t s (QY t n x s):=aGV (XR hb hx)
structure anW (t:Int) (x:ANS):Prop where
 h:x.at'=0∨x.at'=1∨x.at'=2∨x.at'=3∨x.at'=4
 m:0≤x.me∧x.me≤1000
 b:rngU x.bits
 q:rngU x.no
structure aC3 (t:Int) (s:MS) (o:AnO):Prop where
 a:Act1 s o.s
 w:o.d=false→anW t o.x
theorem XJ{t n:Int}{x:ANS}{s:MS}(hb:Bnd t n s)(hx:anW t x):(anT t n x s).run (aC3 t s):=by
 obtain⟨⟨t0,t1⟩,⟨n0,n1⟩,⟨c0,c1⟩,hw⟩:=hb;obtain⟨h,⟨m0,m1⟩,b,q⟩:=hx;unfold anT;refine aGM (fun h0=>?_) (fun h0=>aGM (fun h1=>?_) (fun h1=>aGM (fun h2=>?_) (fun h2=>aGM (fun h3=>?_) (fun h3=>aGM (fun h4=>?_) (fun h4=>?_)))))
 ·unfold zK w0a
  (repeat' (with_reducible first | exact trivial | rfl | assumption | refine aGN ?_ ?_ | refine Tr.run_ite (fun _=>?_) (fun _=>?_) | refine aGP ?_ | refine And.intro ?_ ?_))
  all_goals first | exact aZ | (refine⟨by exact aZ,fun hd=>?_⟩;first | (exact Bool.noConfusion hd) | exact⟨by dsimp only;decide,⟨m0,m1⟩,by assumption,by exact vN⟩)
 ·unfold zL
  (repeat' (with_reducible first | exact trivial | rfl | assumption | refine aGN ?_ ?_ | refine Tr.run_ite (fun _=>?_) (fun _=>?_) | refine aGP ?_ | refine And.intro ?_ ?_))
  all_goals first | exact aZ | (refine⟨by exact aZ,fun hd=>?_⟩;first | (exact Bool.noConfusion hd) | exact⟨by dsimp only;decide,⟨m0,m1⟩,by assumption,by exact vN⟩)
 ·unfold zM w0a
  (repeat' (with_reducible first | exact trivial | rfl | assumption | refine aGN ?_ ?_ | refine Tr.run_ite (fun _=>?_) (fun _=>?_) | refine aGP ?_ | refine And.intro ?_ ?_))
  all_goals first | exact aZ | (refine⟨by exact aZ,fun hd=>?_⟩;first | (exact Bool.noConfusion hd) | exact⟨by dsimp only;decide,⟨m0,m1⟩,by assumption,by exact vN⟩)
 ·unfold zN w0a
  (repeat' (with_reducible first | exact trivial | rfl | assumption | refine aGN ?_ ?_ | refine Tr.run_ite (fun _=>?_) (fun _=>?_) | refine aGP ?_ | refine And.intro ?_ ?_))
  all_goals first | exact aZ | (refine⟨by exact aZ,fun hd=>?_⟩;first | (exact Bool.noConfusion hd) | exact⟨by dsimp only;decide,⟨m0,m1⟩,by assumption,by exact vN⟩)
 ·unfold zO w0b w0a
  (repeat' (with_reducible first | exact trivial | rfl | assumption | refine aGN ?_ ?_ | refine Tr.run_ite (fun _=>?_) (fun _=>?_) | refine aGP ?_ | refine And.intro ?_ ?_))
  all_goals first | exact aZ | (refine⟨by exact aZ,fun hd=>?_⟩;first | (exact Bool.noConfusion hd) | exact⟨by dsimp only;decide,⟨m0,m1⟩,by assumption,by exact vN⟩)
 ·simp only [cX,beq_eq_false_iff_ne]at h0 h1 h2 h3 h4;rcases h with e | e | e | e | e<;>contradiction
theorem Y5{t n:Int}{x:ANS}{s:MS}(hb:Bnd t n s)(hx:anW t x):Y3 t n x s:=aG0 (XJ hb hx)
theorem Y6{t n:Int}{x:ANS}{s:MS}(hb:Bnd t n s)(hx:anW t x):aC3 t s (DT t n x s):=aGV (XJ hb hx)
structure awW (t:Int) (x:AWS):Prop where
 m:0≤x.me∧x.me≤1000
structure aC6 (t:Int) (s:MS) (o:AwO):Prop where
 a:Act1 s o.s
 w:o.d=false→awW t o.x
theorem XL{t n:Int}{x:AWS}{s:MS}(hb:Bnd t n s)(hx:awW t x):(awT t n x s).run (aC6 t s):=by
 obtain⟨⟨t0,t1⟩,⟨n0,n1⟩,⟨c0,c1⟩,hw⟩:=hb;obtain⟨⟨m0,m1⟩⟩:=hx;unfold awT;unfold RV w0c
 (repeat' (with_reducible first | exact trivial | rfl | assumption | refine aGN ?_ ?_ | refine Tr.run_ite (fun _=>?_) (fun _=>?_) | refine aGP ?_ | refine And.intro ?_ ?_))
 all_goals first | exact aZ | (refine⟨by exact aZ,fun hd=>?_⟩;first | (exact Bool.noConfusion hd) | exact⟨⟨m0,m1⟩⟩)
theorem ZE{t n:Int}{x:AWS}{s:MS}(hb:Bnd t n s)(hx:awW t x):ZB t n x s:=aG0 (XL hb hx)
theorem ZF{t n:Int}{x:AWS}{s:MS}(hb:Bnd t n s)(hx:awW t x):aC6 t s (sH t n x s):=aGV (XL hb hx)
structure exW (t:Int) (x:EXS):Prop where
 h:x.at'=0∨x.at'=1∨x.at'=2∨x.at'=3∨x.at'=4∨x.at'=5∨x.at'=6∨x.at'=7∨x.at'=8∨x.at'=9
 m:0≤x.u∧x.u≤1000
 po:0≤x.popped∧x.popped≤1000
structure aDG (t:Int) (s:MS) (o:ExO):Prop where
 a:Act1 s o.s
 w:o.d=false→exW t o.x
 p:0≤o.x.popped∧o.x.popped≤1000
theorem XV{t n:Int}{x:EXS}{s:MS}(hb:Bnd t n s)(hx:exW t x):(exT t n x s).run (aDG t s):=by
 obtain⟨⟨t0,t1⟩,⟨n0,n1⟩,⟨c0,c1⟩,hw⟩:=hb;obtain⟨h,⟨m0,m1⟩,⟨p0,p1⟩⟩:=hx;unfold exT;refine aGM (fun h0=>?_) (fun h0=>aGM (fun h1=>?_) (fun h1=>aGM (fun h2=>?_) (fun h2=>aGM (fun h3=>?_) (fun h3=>aGM (fun h4=>?_) (fun h4=>aGM (fun h5=>?_) (fun h5=>aGM (fun h6=>?_) (fun h6=>aGM (fun h7=>?_) (fun h7=>aGM (fun h8=>?_) (fun h8=>aGM (fun h9=>?_) (fun h9=>?_))))))))))
 ·unfold AW w0n w0m w0l w0s w0i w0g
  (repeat' (with_reducible first | exact trivial | rfl | assumption | refine aGN ?_ ?_ | refine Tr.run_ite (fun _=>?_) (fun _=>?_) | refine aGP ?_ | refine And.intro ?_ ?_))
  all_goals first | exact aZ | (refine⟨by exact aZ,fun hd=>by first | (exact Bool.noConfusion hd) | exact⟨by dsimp only;decide,⟨m0,m1⟩,by exact dI⟩,?_⟩;exact dI)
 ·unfold AX w0f w0o w0r w0j
  (repeat' (with_reducible first | exact trivial | rfl | assumption | refine aGN ?_ ?_ | refine Tr.run_ite (fun _=>?_) (fun _=>?_) | refine aGP ?_ | refine And.intro ?_ ?_))
  all_goals first | exact aZ | (refine⟨by exact aZ,fun hd=>by first | (exact Bool.noConfusion hd) | exact⟨by dsimp only;decide,⟨m0,m1⟩,by exact dI⟩,?_⟩;exact dI)
 ·unfold AY w0e w0k
  (repeat' (with_reducible first | exact trivial | rfl | assumption | refine aGN ?_ ?_ | refine Tr.run_ite (fun _=>?_) (fun _=>?_) | refine aGP ?_ | refine And.intro ?_ ?_))
  all_goals first | exact aZ | (refine⟨by exact aZ,fun hd=>by first | (exact Bool.noConfusion hd) | exact⟨by dsimp only;decide,⟨m0,m1⟩,by exact dI⟩,?_⟩;exact dI)
 ·unfold AZ w0k w0g
  (repeat' (with_reducible first | exact trivial | rfl | assumption | refine aGN ?_ ?_ | refine Tr.run_ite (fun _=>?_) (fun _=>?_) | refine aGP ?_ | refine And.intro ?_ ?_))
  all_goals first | exact aZ | (refine⟨by exact aZ,fun hd=>by first | (exact Bool.noConfusion hd) | exact⟨by dsimp only;decide,⟨m0,m1⟩,by exact dI⟩,?_⟩;exact dI)
 ·unfold A0 w0k w0g
  (repeat' (with_reducible first | exact trivial | rfl | assumption | refine aGN ?_ ?_ | refine Tr.run_ite (fun _=>?_) (fun _=>?_) | refine aGP ?_ | refine And.intro ?_ ?_))
  all_goals first | exact aZ | (refine⟨by exact aZ,fun hd=>by first | (exact Bool.noConfusion hd) | exact⟨by dsimp only;decide,⟨m0,m1⟩,by exact dI⟩,?_⟩;exact dI)
 ·unfold A1 w0p w0r w0d w0j
  (repeat' (with_reducible first | exact trivial | rfl | assumption | refine aGN ?_ ?_ | refine Tr.run_ite (fun _=>?_) (fun _=>?_) | refine aGP ?_ | refine And.intro ?_ ?_))
  all_goals first | exact aZ | (refine⟨by exact aZ,fun hd=>by first | (exact Bool.noConfusion hd) | exact⟨by dsimp only;decide,⟨m0,m1⟩,by exact dI⟩,?_⟩;exact dI)
 ·unfold A2 w0t
  (repeat' (with_reducible first | exact trivial | rfl | assumption | refine aGN ?_ ?_ | refine Tr.run_ite (fun _=>?_) (fun _=>?_) | refine aGP ?_ | refine And.intro ?_ ?_))
  all_goals first | exact aZ | (refine⟨by exact aZ,fun hd=>by first | (exact Bool.noConfusion hd) | exact⟨by dsimp only;decide,⟨m0,m1⟩,by exact dI⟩,?_⟩;exact dI)
 ·unfold A3 w0g
  (repeat' (with_reducible first | exact trivial | rfl | assumption | refine aGN ?_ ?_ | refine Tr.run_ite (fun _=>?_) (fun _=>?_) | refine aGP ?_ | refine And.intro ?_ ?_))
  all_goals first | exact aZ | (refine⟨by exact aZ,fun hd=>by first | (exact Bool.noConfusion hd) | exact⟨by dsimp only;decide,⟨m0,m1⟩,by exact dI⟩,?_⟩;exact dI)
 ·unfold A4 w0h w0q w0g
  (repeat' (with_reducible first | exact trivial | rfl | assumption | refine aGN ?_ ?_ | refine Tr.run_ite (fun _=>?_) (fun _=>?_) | refine aGP ?_ | refine And.intro ?_ ?_))
  all_goals first | exact aZ | (refine⟨by exact aZ,fun hd=>by first | (exact Bool.noConfusion hd) | exact⟨by dsimp only;decide,⟨m0,m1⟩,by exact dI⟩,?_⟩;exact dI)
 ·unfold A5 w0u
  (repeat' (with_reducible first | exact trivial | rfl | assumption | refine aGN ?_ ?_ | refine Tr.run_ite (fun _=>?_) (fun _=>?_) | refine aGP ?_ | refine And.intro ?_ ?_))
  all_goals first | exact aZ | (refine⟨by exact aZ,fun hd=>by first | (exact Bool.noConfusion hd) | exact⟨by dsimp only;decide,⟨m0,m1⟩,by exact dI⟩,?_⟩;exact dI)
 ·simp only [cX,beq_eq_false_iff_ne]at h0 h1 h2 h3 h4 h5 h6 h7 h8 h9;rcases h with e | e | e | e | e | e | e | e | e | e<;>contradiction
theorem aAJ{t n:Int}{x:EXS}{s:MS}(hb:Bnd t n s)(hx:exW t x):aAH t n x s:=aG0 (XV hb hx)
theorem aAK{t n:Int}{x:EXS}{s:MS}(hb:Bnd t n s)(hx:exW t x):aDG t s (AV t n x s):=aGV (XV hb hx)
structure YE (t:Int) (x:PRS):Prop where
 h:True
structure aEz (t:Int) (s:MS) (st:STS) (o:PrO):Prop where
 a:Act1 s o.s
 w:o.d=false→YE t o.x
 st:o.st=st
theorem YF{t n:Int}{x:PRS}{st:STS}{s:MS}(hb:Bnd t n s)(hx:YE t x):(prT t n x st s).run (aEz t s st):=by
 obtain⟨⟨t0,t1⟩,⟨n0,n1⟩,⟨c0,c1⟩,hw⟩:=hb;obtain⟨h⟩:=hx;unfold prT;unfold WB w0v
 (repeat' (with_reducible first | exact trivial | rfl | assumption | refine aGN ?_ ?_ | refine Tr.run_ite (fun _=>?_) (fun _=>?_) | refine aGP ?_ | refine And.intro ?_ ?_))
 all_goals first | exact aZ | (refine⟨by exact aZ,fun hd=>?_,rfl⟩;first | (exact Bool.noConfusion hd) | exact⟨trivial⟩)
theorem PF{t n:Int}{x:PRS}{st:STS}{s:MS}(hb:Bnd t n s)(hx:YE t x):PB t n x st s:=aG0 (YF hb hx)
theorem PG{t n:Int}{x:PRS}{st:STS}{s:MS}(hb:Bnd t n s)(hx:YE t x):aEz t s st (prF t n x st s):=aGV (YF hb hx)
theorem fV{a b:Int}(h:ieq a b=true):a=b:=by simpa [cX]using h
theorem eM{a b:Int}(h:ieq a b=false):a≠b:=by simpa [cX]using h
def eA(l:List Int):Prop:= ∀r∈l,0≤r∧r≤1000
theorem rU:eA []:=fun r h=>nomatch h
theorem vE{l:List Int}{a:Int}(h:eA l)(ha:0≤a∧a≤1000):eA (l++ [a]):=by
 intro r hr;rcases List.mem_append.1 hr with h1 | h1
 ·exact h r h1
 ·rw [List.mem_singleton.1 h1];exact ha
theorem KQ{l m:List Int}(h:eA l)(hm:eA m):eA (l++m):=by
 intro r hr;rcases List.mem_append.1 hr with h1 | h1
 ·exact h r h1
 ·exact hm r h1
theorem jD(t n a:Int):pT t n a:=⟨⟨rfl,rfl⟩,trivial⟩
theorem D0(t n a:Int):XM t (xT t n a):=⟨.inl rfl⟩
theorem aFh(x a:Int):0≤aA x a 9∧aA x a 9≤1000:=by
 have:=SJ x a 9;simp only [Int.reduceToNat,Int.reducePow]at this;omega
structure K8 (b:Int) (x:FNS):Prop where
 m:0≤x.me∧x.me≤1000
 cu:0≤x.curr∧x.curr≤1000
 ul:eA x.ul
 ln:(x.ul.length:Int)≤b
structure TY (t:Int) (x:FNS):Prop where
 h:x.at'=0∨x.at'=1∨x.at'=2∨x.at'=3∨x.at'=4∨x.at'=5∨x.at'=6
 cl:x.at'=4→XM t x.cl
structure aDJ (t b:Int) (s:MS) (o:FnO):Prop where
 a:Act1 s o.s
 q:K8 (b+1) o.x
 w:o.d=false→TY t o.x
theorem pF{P:Prop}(h:P:=by(refine⟨?_,⟨?_,?_,?_,?_⟩,fun hd=>?_⟩<;>first
 | exact aZ
 | (exact(xV (by assumption) (by assumption)).a)
 | (constructor<;>assumption)
 | exact aFh _ _
 | (exact vE (by assumption) ⟨by assumption,by assumption⟩)
 | exact rU
 | (dsimp only;simp only [List.length_append,List.length_singleton,List.length_nil];omega)
 | exact Bool.noConfusion hd
 | exact⟨by dsimp only;decide,fun e=>absurd e (by dsimp only;decide)⟩
 | exact⟨by dsimp only;decide,fun e=>(xV (by assumption) (by assumption)).w (by assumption)⟩
 | exact⟨by dsimp only;decide,fun e=>by dsimp only;with_reducible exact D0 _ _ _⟩)):P:=h
theorem XW{t n b:Int}{x:FNS}{s:MS}(hb:Bnd t n s)(hx:TY t x)(hq:K8 b x)(hbb:b≤900000):(fnT t n x s).run (aDJ t b s):=by
 have hb':=hb;obtain⟨⟨t0,t1⟩,⟨n0,n1⟩,⟨c0,c1⟩,hw⟩:=hb;obtain⟨h,hcl⟩:=hx;obtain⟨⟨m0,m1⟩,⟨q0,q1⟩,hul,hln⟩:=hq;have b0:0≤b:=by omega
 unfold fnT;refine aGM (fun h0=>?_) (fun h0=>aGM (fun h1=>?_) (fun h1=>aGM (fun h2=>?_) (fun h2=>aGM (fun h3=>?_) (fun h3=>aGM (fun h4=>?_) (fun h4=>aGM (fun h5=>?_) (fun h5=>aGM (fun h6=>?_) (fun h6=>?_)))))))
 ·unfold BA w11 w16 w0z w13 w15 w14 w1f
  (repeat' (with_reducible first | exact trivial | rfl | assumption | refine aGN ?_ ?_ | refine Tr.run_ite (fun _=>?_) (fun _=>?_) | refine aGP ?_ | refine And.intro ?_ ?_))
  all_goals first | exact aZ | exact jD _ _ _ | (simp only [List.length_append,List.length_singleton];done) | exact pF
 ·unfold BB
  (repeat' (with_reducible first | exact trivial | rfl | assumption | refine aGN ?_ ?_ | refine Tr.run_ite (fun _=>?_) (fun _=>?_) | refine aGP ?_ | refine And.intro ?_ ?_))
  all_goals first | exact aZ | exact jD _ _ _ | (simp only [List.length_append,List.length_singleton];done) | exact pF
 ·unfold BC w11 w16 w0z w13 w15 w1f w14
  (repeat' (with_reducible first | exact trivial | rfl | assumption | refine aGN ?_ ?_ | refine Tr.run_ite (fun _=>?_) (fun _=>?_) | refine aGP ?_ | refine And.intro ?_ ?_))
  all_goals first | exact aZ | exact jD _ _ _ | (simp only [List.length_append,List.length_singleton];done) | exact pF
 ·unfold BD w1b w1d w1c w1a
  (repeat' (with_reducible first | exact trivial | rfl | assumption | refine aGN ?_ ?_ | refine Tr.run_ite (fun _=>?_) (fun _=>?_) | refine aGP ?_ | refine And.intro ?_ ?_))
  all_goals first | exact aZ | exact jD _ _ _ | (simp only [List.length_append,List.length_singleton];done) | exact pF
 ·unfold BE w19 w14;have hcl4:=hcl (fV h4);have hclo:=D3 hb' hcl4
  (repeat' (with_reducible first | exact trivial | rfl | assumption | refine aGN ?_ ?_ | refine Tr.run_ite (fun _=>?_) (fun _=>?_) | refine aGP ?_ | refine And.intro ?_ ?_))
  all_goals first | exact aZ | exact jD _ _ _ | (simp only [List.length_append,List.length_singleton];done) | exact pF
 ·unfold BF w0x w0w w19 w14
  (repeat' (with_reducible first | exact trivial | rfl | assumption | refine aGN ?_ ?_ | refine Tr.run_ite (fun _=>?_) (fun _=>?_) | refine aGP ?_ | refine And.intro ?_ ?_))
  all_goals first | exact aZ | exact jD _ _ _ | (simp only [List.length_append,List.length_singleton];done) | exact pF
 ·unfold BG w14 w1g
  (repeat' (with_reducible first | exact trivial | rfl | assumption | refine aGN ?_ ?_ | refine Tr.run_ite (fun _=>?_) (fun _=>?_) | refine aGP ?_ | refine And.intro ?_ ?_))
  all_goals first | exact aZ | exact jD _ _ _ | (simp only [List.length_append,List.length_singleton];done) | exact pF
 ·simp only [cX,beq_eq_false_iff_ne]at h0 h1 h2 h3 h4 h5 h6;rcases h with e | e | e | e | e | e | e<;>contradiction
theorem EJ{t n b:Int}{x:FNS}{s:MS}(hb:Bnd t n s)(hx:TY t x)(hq:K8 b x)(hbb:b≤900000):I6 t n x s:=aG0 (XW hb hx hq hbb)
theorem EK{t n b:Int}{x:FNS}{s:MS}(hb:Bnd t n s)(hx:TY t x)(hq:K8 b x)(hbb:b≤900000):aDJ t b s (aN t n x s):=aGV (XW hb hx hq hbb)
theorem dP(sh ky:Int):0≤fG sh ky∧fG sh ky≤3:=by
 unfold fG;cases ieq sh 2 with
 | true=>exact⟨Int.emod_nonneg _ (by decide),by have:=Int.emod_lt_of_pos ky (b:=4) (by decide);show ky%4≤3;omega⟩
 | false=>exact⟨Int.le_refl 0,(by decide:(0:Int)≤3)⟩
theorem EG{t n me hd key lim:Int}(hn:1≤n∧n≤1000)(hm:0≤me∧me≤1000)(hh:0≤hd∧hd≤3):(NM t n me hd key lim).run (fun x=>TY t x∧K8 0 x):=by
 obtain⟨n0,n1⟩:=hn;obtain⟨m0,m1⟩:=hm;obtain⟨e0,e1⟩:=hh;unfold NM w1h
 (repeat' (with_reducible first | exact trivial | rfl | assumption | refine aGN ?_ ?_ | refine Tr.run_ite (fun _=>?_) (fun _=>?_) | refine aGP ?_ | refine And.intro ?_ ?_))
 all_goals first | exact aZ | exact⟨by dsimp only;decide,fun e=>absurd e (by dsimp only;decide)⟩ | exact⟨⟨m0,m1⟩,⟨(by decide:(0:Int)≤0),(by decide:(0:Int)≤1000)⟩,rU,(by decide:((0:Nat):Int)≤0)⟩
theorem HI(sh kd ky pred pw cw sp:Int){curr:Int}(hc:0≤curr∧curr≤1000):(CS sh kd ky pred pw curr cw sp).run (fun p=>0≤p.pops∧p.pops≤1000):=by
 obtain⟨c0,c1⟩:=hc;unfold CS w00 w02 w01 w03
 (repeat' (with_reducible first | exact trivial | rfl | assumption | refine aGN ?_ ?_ | refine Tr.run_ite (fun _=>?_) (fun _=>?_) | refine aGP ?_ | refine And.intro ?_ ?_))
 all_goals first | exact aZ | (dsimp only;first | assumption | decide)
theorem CU(sh kd ky pred pw cw sp:Int){curr:Int}(hc:0≤curr∧curr≤1000):u7 sh kd ky pred pw curr cw sp:=aG0 (HI sh kd ky pred pw cw sp hc)
theorem w8(sh kd ky pred pw cw sp:Int){curr:Int}(hc:0≤curr∧curr≤1000):0≤(bL sh kd ky pred pw curr cw sp).pops ∧(bL sh kd ky pred pw curr cw sp).pops ≤1000:=aGV (HI sh kd ky pred pw cw sp hc)
theorem CT(a b c d e f g h i):(u9 a b c d e f g h i).run rngU:=by
 unfold u9
 (repeat' (with_reducible first | exact trivial | rfl | assumption | refine aGN ?_ ?_ | refine Tr.run_ite (fun _=>?_) (fun _=>?_) | refine aGP ?_ | refine And.intro ?_ ?_))
 all_goals first | exact aZ | exact nO
theorem KD(a b c d e f g h i):yL a b c d e f g h i:=aG0 (CT a b c d e f g h i)
theorem KC(a b c d e f g h i):rngU (dK a b c d e f g h i):=aGV (CT a b c d e f g h i)
theorem CR(a b c d e f g h i j):(u6 a b c d e f g h i j).run (fun r=>rngU r.1):=by
 unfold u6
 (repeat' (with_reducible first | exact trivial | rfl | assumption | refine aGN ?_ ?_ | refine Tr.run_ite (fun _=>?_) (fun _=>?_) | refine aGP ?_ | refine And.intro ?_ ?_))
 all_goals first | exact aZ | exact nO
theorem KA(a b c d e f g h i j):yK a b c d e f g h i j:=aG0 (CR a b c d e f g h i j)
theorem J9(a b c d e f g h i j):rngU (gK a b c d e f g h i j).1:=aGV (CR a b c d e f g h i j)
theorem CQ(a b c d e f g h i):(u4 a b c d e f g h i).run (fun _=>True):=by
 unfold u4
 (repeat' (with_reducible first | exact trivial | rfl | assumption | refine aGN ?_ ?_ | refine Tr.run_ite (fun _=>?_) (fun _=>?_) | refine aGP ?_ | refine And.intro ?_ ?_))
 all_goals exact aZ
theorem w7(p:PLN):oG p.1 p.2 p.3 p.4 p.5 p.6 p.7 p.8 p.9:=aG0 (CQ _ _ _ _ _ _ _ _ _)
theorem u5(a b c d e f g h i):oG a b c d e f g h i:=aG0 (CQ _ _ _ _ _ _ _ _ _)
theorem eS{b c:Int}{x:FNS}(h:K8 b x)(hbc:b≤c):K8 c x:=⟨h.m,h.cu,h.ul,Int.le_trans h.ln hbc⟩
theorem qC{t n me hd key lim:Int}(hn:1≤n∧n≤1000)(hm:0≤me∧me≤1000)(hh:0≤hd∧hd≤3):oQ t n me hd key lim:=aG0 (EG hn hm hh)
theorem A9{t n me hd key lim:Int}(hn:1≤n∧n≤1000)(hm:0≤me∧me≤1000)(hh:0≤hd∧hd≤3):TY t (uM t n me hd key lim):=by
 have h:=aGV (EG (t:=t) (key:=key) (lim:=lim) hn hm hh);exact h.1
theorem A8{t n me hd key lim:Int}(hn:1≤n∧n≤1000)(hm:0≤me∧me≤1000)(hh:0≤hd∧hd≤3):K8 0 (uM t n me hd key lim):=by
 have h:=aGV (EG (t:=t) (key:=key) (lim:=lim) hn hm hh);exact h.2
theorem PA(t n key nx:Int)(st:STS):(V9 t n key nx st).run (fun r=>r.2=st):=⟨⟨rfl,rfl,rfl⟩,rfl⟩
theorem HJ(t n key nx:Int)(st:STS):CV t n key nx st:=aG0 (PA t n key nx st)
theorem O9(t n key nx:Int)(st:STS):(qN t n key nx st).2=st:=aGV (PA t n key nx st)
structure stW (b:Int) (st:STS):Prop where
 m:0≤st.me∧st.me≤1000
 r:eA st.R
 ln:(st.R.length:Int)≤b
theorem iO{b c:Int}{st:STS}(h:stW b st)(hbc:b≤c):stW c st:=⟨h.m,h.r,Int.le_trans h.ln hbc⟩
theorem yS{b:Int}{st:STS}{k:Int}{x:FNS}(h:stW b st)(hq:K8 (b - st.R.length+1) x):stW (b+1) {me:=st.me,sp:=k,R:=st.R++x.ul} :=
 ⟨h.m,KQ h.r hq.ul,by have:=hq.ln;simp only [List.length_append];omega⟩
theorem vF{b:Int}{st:STS}{k a:Int}(h:stW b st)(ha:0≤a∧a≤1000):stW (b+1) {me:=st.me,sp:=k,R:=st.R++ [a] } :=
 ⟨h.m,vE h.r ha,by have:=h.ln;simp only [List.length_append,List.length_singleton];omega⟩
theorem PZ{b:Int}{st:STS}(h:stW b st)(k:Int):stW (b+1) {me:=st.me,sp:=k,R:=st.R} :=⟨h.m,h.r,by have:=h.ln;show(st.R.length:Int)≤_;omega⟩
structure UA (t b:Int) (st:STS) (x:FTS):Prop where
 h:x.at'=0∨x.at'=1∨x.at'=2∨x.at'=3
 fn:x.at'=0→TY t x.fn∧K8 (b - st.R.length) x.fn
 cl:x.at'=1→XM t x.cl
 ps:0≤x.p.pops∧x.p.pops≤1000
structure aDM (t b:Int) (s:MS) (o:FtO):Prop where
 a:Act1 s o.s
 st:stW (b+1) o.st
 w:o.d=false→UA t (b+1) o.st o.x
theorem XY{t n b:Int}{x:FTS}{st:STS}{s:MS}(hb:Bnd t n s)(hx:UA t b st x)(hst:stW b st)(hbb:b≤900000):(ftT t n x st s).run (aDM t b s):=by
 have hb':=hb;obtain⟨ht,hn,⟨c0,c1⟩,hw⟩:=hb;obtain⟨n0,n1⟩:=hn;obtain⟨t0,t1⟩:=ht;obtain⟨h,hfn,hcl,hps⟩:=hx;have hR0:=hst.ln;have hst1:stW (b+1) st:=iO hst (by omega)
 have hnn:1≤n∧n≤1000:=⟨n0,n1⟩;have b0:0≤b:=by omega
 unfold ftT;refine aGM (fun h0=>?_) (fun h0=>aGM (fun h1=>?_) (fun h1=>aGM (fun h2=>?_) (fun h2=>aGM (fun h3=>?_) (fun h3=>?_))))
 ·obtain⟨hfw,hfq⟩:=hfn (fV h0);have hF:=EK hb' hfw hfq (by omega)
  have hFo:=EJ hb' hfw hfq (by omega)
  have hA:=hF.a;have hQ:=hF.q;have hQl:=hQ.ln;have hS:stW (b+1) {me:=st.me,sp:=st.sp,R:=st.R++(aN t n x.fn s).x.ul } :=yS hst hQ;have hcu:=hQ.cu;unfold BI w1i w1q w1k w1o
  (repeat' (with_reducible first | exact trivial | rfl | assumption | refine aGN ?_ ?_ | refine Tr.run_ite (fun _=>?_) (fun _=>?_) | refine aGP ?_ | refine And.intro ?_ ?_))
  all_goals first
   | exact aZ
   | exact CU _ _ _ _ _ _ _ hcu
   | exact w7 _
   | exact u5 _ _ _ _ _ _ _ _ _
   | exact jD _ _ _
   | exact HJ _ _ _ _ _
   | (simp only [List.length_append];done)
   | (refine⟨by first | assumption | exact aZ,?_,fun hd=>?_⟩
      ·first
        | assumption
        | (dsimp only;rw [O9];assumption)
      ·first
        | exact Bool.noConfusion hd
        | (refine⟨by dsimp only;decide,?_,?_,?_⟩
           ·first | (exact nE') | (intro _;exact⟨hF.w (by assumption),eS hQ (by dsimp only;omega)⟩)
           ·first | (exact nE') | (intro _;dsimp only;with_reducible exact D0 _ _ _)
           ·first | exact hps | exact w8 _ _ _ _ _ _ _ hcu))
 ·have hc:=hcl (fV h1);have hC:=xV hb' hc;have hCo:=D3 hb' hc;have hA:=hC.a;unfold BJ
  (repeat' (with_reducible first | exact trivial | rfl | assumption | refine aGN ?_ ?_ | refine Tr.run_ite (fun _=>?_) (fun _=>?_) | refine aGP ?_ | refine And.intro ?_ ?_))
  all_goals first
   | exact aZ
   | exact qC hnn hst.m (dP _ _)
   | (refine⟨by assumption,by assumption,fun hd=>?_⟩
      first
       | exact Bool.noConfusion hd
       | (refine⟨by dsimp only;decide,?_,?_,hps⟩
          ·first | (exact nE') | (intro _;exact⟨A9 (t:=t) (n:=n) hnn hst.m (dP _ _),eS (A8 (t:=t) (n:=n) hnn hst.m (dP _ _)) (by dsimp only;omega)⟩)
          ·first | (exact nE') | (intro _;exact hC.w (by assumption))))
 ·have hP:=PG (st:=st) hb' (show YE t x.pr from⟨trivial⟩)
  have hPo:=PF (st:=st) hb' (show YE t x.pr from⟨trivial⟩)
  have hA:=hP.a;have hPs:stW (b+1) (prF t n x.pr st s).st :=by rw [hP.st];exact hst1
  unfold BK
  (repeat' (with_reducible first | exact trivial | rfl | assumption | refine aGN ?_ ?_ | refine Tr.run_ite (fun _=>?_) (fun _=>?_) | refine aGP ?_ | refine And.intro ?_ ?_))
  all_goals first
   | exact aZ
   | (refine⟨by assumption,by assumption,fun hd=>?_⟩
      first
       | exact Bool.noConfusion hd
       | exact⟨by dsimp only;decide,fun e=>absurd e (by dsimp only;decide),fun e=>absurd e (by dsimp only;decide),hps⟩)
 ·have hW:=KC (FTS.p x).1 (FTS.p x).2 (FTS.p x).3 (FTS.p x).4 (FTS.p x).5 (FTS.p x).6 (FTS.p x).7 (FTS.p x).8 (FTS.p x).9;have hWo:=KD (FTS.p x).1 (FTS.p x).2 (FTS.p x).3 (FTS.p x).4 (FTS.p x).5 (FTS.p x).6 (FTS.p x).7 (FTS.p x).8 (FTS.p x).9;have hS1:stW (b+1) {me:=st.me,sp:=0,R:=st.R++ [(FTS.p x).9] } :=vF hst hps;have hS2:stW (b+1) {me:=st.me,sp:=st.sp,R:=st.R++ [(FTS.p x).9] } :=vF hst hps;have hS3:stW (b+1) {me:=st.me,sp:=0,R:=st.R} :=PZ hst 0;unfold BL w1j
  (repeat' (with_reducible first | exact trivial | rfl | assumption | refine aGN ?_ ?_ | refine Tr.run_ite (fun _=>?_) (fun _=>?_) | refine aGP ?_ | refine And.intro ?_ ?_))
  all_goals first
   | exact aZ
   | exact qC hnn hst.m (dP _ _)
   | (simp only [List.length_append,List.length_singleton];done)
   | (refine⟨by exact aZ,by assumption,fun hd=>?_⟩
      first
       | exact Bool.noConfusion hd
       | (refine⟨by dsimp only;decide,?_,?_,hps⟩
          ·first | (exact nE') | (intro _;exact⟨A9 (t:=t) (n:=n) hnn hst.m (dP _ _),eS (A8 (t:=t) (n:=n) hnn hst.m (dP _ _)) (by dsimp only;omega)⟩)
          · (exact nE')))
 ·simp only [cX,beq_eq_false_iff_ne]at h0 h1 h2 h3;rcases h with e | e | e | e<;>contradiction
theorem aAZ{t n b:Int}{x:FTS}{st:STS}{s:MS}(hb:Bnd t n s)(hx:UA t b st x)(hst:stW b st)(hbb:b≤900000):T5 t n x st s:=aG0 (XY hb hx hst hbb)
theorem aA0{t n b:Int}{x:FTS}{st:STS}{s:MS}(hb:Bnd t n s)(hx:UA t b st x)(hst:stW b st)(hbb:b≤900000):aDM t b s (iB t n x st s):=aGV (XY hb hx hst hbb)
theorem EL{t n b sh kd ky most:Int}{st:STS}(hn:1≤n∧n≤1000)(hst:stW b st):(NN t n sh kd ky most st).run (fun r=>UA t b st r.1∧r.2=st):=by
 have hR0:=hst.ln;unfold NN
 (repeat' (with_reducible first | exact trivial | rfl | assumption | refine aGN ?_ ?_ | refine Tr.run_ite (fun _=>?_) (fun _=>?_) | refine aGP ?_ | refine And.intro ?_ ?_))
 all_goals first
  | exact aZ
  | exact qC hn hst.m (dP _ _)
  | exact⟨by dsimp only;decide,fun _=>⟨A9 (t:=t) (n:=n) hn hst.m (dP _ _),eS (A8 (t:=t) (n:=n) hn hst.m (dP _ _)) (by omega)⟩,fun e=>absurd e (by dsimp only;decide),⟨(by decide:(0:Int)≤0),(by decide:(0:Int)≤1000)⟩⟩
theorem eN(s:MS)(a:Int):Act1 s (s.loadd a):=⟨rfl,rfl,id,rfl,rfl⟩
theorem wD(s:MS)(a o x:Int):Act1 s (s.cased a o (WU x)):=F8 s _ _ _ _ _ _ _ _ (FS x)
theorem nX(s:MS)(a x:Int):Act1 s (s.added a x):=xO s _ _ _ _ _ _ _ (FS _)
theorem mE{m:List (Int×Int)}{l:List Int}(h:eA l):eA (cJ m l):=fun r hr=>h r (List.mem_filter.1 hr).1
theorem sY{m:List (Int×Int)}{l:List Int}(h:eA l):eA (bA m l):=fun r hr=>h r (List.mem_filter.1 hr).1
theorem CF(m:List (Int×Int))(l:List Int):(cJ m l).length ≤l.length:=List.length_filter_le _ _
theorem C3{l:List Int}(h:eA l){j:Nat}(hj:j<l.length): -1000000≤List.getD l (j+Int.toNat 0*1) 0∧List.getD l (j+Int.toNat 0*1) 0≤1000000:=by
 have e:j+Int.toNat 0*1=j:=by simp
 rw [e,gD',gE' hj];have:=h _ (List.getElem_mem hj);show _≤l[j]∧l[j]≤_;omega
theorem CK{n a:Int}(hn:1≤n)(ha:1≤a):1≤cZ n a∧cZ n a≤n:=by
 unfold cZ;rw [Int.tmod_eq_emod_of_nonneg (by omega)]
 have:=Int.emod_nonneg a (show n≠0 by omega)
 have:=Int.emod_lt_of_pos a (show 0<n by omega)
 omega
theorem RQ{t n me:Int}(hn:1≤n):1≤at0 t n me∧at0 t n me≤n:=by
 unfold at0;cases h:bW n (aQ t n me)with
 | true=>exact uU.1 h
 | false=>exact⟨(by decide:(1:Int)≤1),hn⟩
def enI(t n b:Int)(e:ENS):Prop:=match e.ph with
 | 0=>True
 | 1=>okAl n e.x
 | 2=>True
 | 3=>(eA e.y.N∧(e.y.N.length:Int)≤b)∧0≤e.y.i∧e.y.i<2*t
 | 4=>2*t≤e.y.i∧1≤e.y.l∧e.y.gs.length=e.y.j+e.y.l∧eA e.y.gs∧eA e.y.ks∧(e.y.ks.length:Int)≤b
 | _=>False
structure aAv (t n b:Int) (s:MS) (o:EO):Prop where
 a:Act1 s o.s
 st:stW (b+1) o.st
 w:o.d=false→enI t n (b+1) o.e
theorem MZ{t n b:Int}{e:ENS}{st:STS}{s:MS}(hb:Bnd t n s)(hx:enI t n b e)(hst:stW b st)(hbb:b≤900000):J1 t n e st s:=by
 obtain⟨ht,hn,hc,hw⟩:=hb;have hl:=hst.ln;refine⟨ht,hn,⟨hc.1,by omega⟩,hst.m,by omega,?_⟩
 match e,hx with
 | ⟨0,sh,dn,x,y⟩,hx=>trivial
 | ⟨1,sh,dn,x,y⟩,hx=>exact hx
 | ⟨2,sh,dn,x,y⟩,hx=>trivial
 | ⟨3,sh,dn,x,y⟩,hx=>
   obtain⟨⟨h1,h2⟩,h3⟩:=hx;exact⟨by dsimp only at h2⊢;omega,h3⟩
 | ⟨4,sh,dn,x,y⟩,hx=>
   obtain⟨a1,a2,a3,a4,a5⟩:=hx;exact⟨a1,a2,a3,C3 a4 (by omega)⟩
theorem GM{t n b:Int}{e:ENS}{st:STS}{x:AL}{s s0:MS}(ha:Act1 s0 s)(hst:stW b st)(hg:x.got=0)(hx:1≤x.at'∧x.at'≤n)(hl0:0≤x.left+1)(hl:x.left≤1000):aAv t n b s0 (IQ e st x s):=by
 have hl1:=hst.ln;unfold IQ;split
 ·exact⟨ha,⟨hst.m,hst.r,by dsimp only;omega⟩,fun _=>trivial⟩
 ·rename_i h;rw [cC,dF']at h;exact⟨ha,iO hst (by omega),fun _=>⟨hg,hx,by show(0:Int)≤x.left;omega,hl⟩⟩
theorem wP{t n b:Int}{e:ENS}{st:STS}{x:AL}{s:MS}(hn:1≤n)(hst:stW b st)(hx:okAl n x):aAv t n b s (rM n e st x s):=by
 obtain⟨hg,ha,hl⟩:=hx;have hl1:=hst.ln;unfold rM;split
 ·split
  ·exact⟨wD _ _ _ _,⟨hst.m,hst.r,by dsimp only;omega⟩,fun h=>Bool.noConfusion h⟩
  ·exact GM (wD _ _ _ _) hst rfl (CK hn ha.1) (by dsimp only;omega) (by dsimp only;omega)
 ·split
  ·exact GM (eN _ _) hst rfl (CK hn ha.1) (by dsimp only;omega) (by dsimp only;omega)
  ·exact⟨eN _ _,iO hst (by omega),fun _=>⟨rfl,ha,hl⟩⟩
theorem M7{t n b:Int}{e:ENS}{st:STS}{s:MS}(hb:Bnd t n s)(hx:enI t n b e)(hst:stW b st):aAv t n b s (enF t n e st s):=by
 obtain⟨ht,hn,hc,hw⟩:=hb;have hl1:=hst.ln;have hst1:stW (b+1) st:=iO hst (by omega)
 match e,hx with
 | ⟨0,sh,dn,x,y⟩,hx=>
   unfold enF;dsimp only;cases hc:ieq st.sp 0 with
   | true=>exact wP hn.1 hst ⟨rfl,RQ hn.1,by dsimp only;omega⟩
   | false=>exact⟨eN _ _,hst1,fun h=>Bool.noConfusion h⟩
 | ⟨1,sh,dn,x,y⟩,hx=>exact wP hn.1 hst hx
 | ⟨2,sh,dn,x,y⟩,hx=>
   exact⟨eN _ _,hst1,fun _=>⟨⟨hst.r,by show(st.R.length:Int)≤_;omega⟩,(by decide:(0:Int)≤1),by show(1:Int)<_;omega⟩⟩
 | ⟨3,sh,dn,x,y⟩,hx=>
   obtain⟨⟨hN,hNl⟩,hi0,hi1⟩:=hx;dsimp only at hN hNl hi0 hi1;have hk:=CF (bB y.m n y.i s) y.N;unfold enF;dsimp only;generalize hsm:bB y.m n y.i s=sm at hk⊢;cases h1:ieq (y.i+1) (2*t)with
   | false=>
     have h1:=eM h1;exact⟨eN _ _,hst1,fun _=>⟨⟨hN,by show((y.N).length :Int)≤_;omega⟩,by show 0≤y.i+1;omega,by show y.i+1<2*t;omega⟩⟩
   | true=>
     have h1:=fV h1;cases h2:ieq ((bA sm y.N).length :Int) 0 with
     | true=>exact⟨eN _ _,⟨hst.m,mE hN,by show((cJ sm y.N).length :Int)≤_;omega⟩,fun h=>Bool.noConfusion h⟩
     | false=>
       have h2:=eM h2;exact⟨eN _ _,hst1,fun _=>⟨by show 2*t≤y.i+1;omega,by show 1≤(bA sm y.N).length;omega,by show(bA sm y.N).length =0+(bA sm y.N).length;omega,sY hN,mE hN,by show((cJ sm y.N).length :Int)≤_;omega⟩⟩
 | ⟨4,sh,dn,x,y⟩,hx=>
   obtain⟨a1,a2,a3,a4,a5,a6⟩:=hx;dsimp only at a1 a2 a3 a4 a5 a6;unfold enF;dsimp only;cases h1:ieq ((y.l - 1:Nat):Int) 0 with
   | true=>exact⟨nX _ _ _,⟨hst.m,a5,by show((y.ks).length :Int)≤_;omega⟩,fun _=>trivial⟩
   | false=>
     have h1:=eM h1;exact⟨nX _ _ _,hst1,fun _=>⟨a1,by show 1≤y.l - 1;omega,by show(y.gs).length =y.j+1+(y.l - 1);omega,a4,a5,by show((y.ks).length :Int)≤_;omega⟩⟩
def KS(t n b:Int)(y:SWS):Prop:=match y.ph with
 | 0=>True
 | 1=>(eA y.N∧(y.N.length:Int)≤b)∧0≤y.i∧y.i<2*t
 | 2=>2*t≤y.i∧1≤y.l∧y.gs.length=y.j+y.l∧eA y.gs∧eA y.ks∧(y.ks.length:Int)≤b
 | _=>False
structure aFJ (t n b:Int) (s:MS) (o:SO):Prop where
 a:Act1 s o.s
 st:stW (b+1) o.st
 w:o.d=false→KS t n (b+1) o.e
theorem aCo{t n b:Int}{e:SWS}{st:STS}{s:MS}(hb:Bnd t n s)(hx:KS t n b e)(hst:stW b st)(hbb:b≤900000):qL t n e st s:=by
 obtain⟨ht,hn,hc,hw⟩:=hb;have hl:=hst.ln;refine⟨ht,hn,⟨hc.1,by omega⟩,by omega,?_⟩
 match e,hx with
 | ⟨0,N,m,i,ks,fs,gs,j,l⟩,hx=>trivial
 | ⟨1,N,m,i,ks,fs,gs,j,l⟩,hx=>
   obtain⟨⟨h1,h2⟩,h3⟩:=hx;exact⟨by dsimp only at h2⊢;omega,h3⟩
 | ⟨2,N,m,i,ks,fs,gs,j,l⟩,hx=>
   obtain⟨a1,a2,a3,a4,a5⟩:=hx;exact⟨a1,a2,a3,C3 a4 (by omega)⟩
theorem aCp{t n b:Int}{e:SWS}{st:STS}{s:MS}(hb:Bnd t n s)(hx:KS t n b e)(hst:stW b st):aFJ t n b s (swF t n e st s):=by
 obtain⟨ht,hn,hc,hw⟩:=hb;have hl1:=hst.ln;have hst1:stW (b+1) st:=iO hst (by omega)
 match e,hx with
 | ⟨0,N,m,i,ks,fs,gs,j,l⟩,hx=>
   exact⟨eN _ _,hst1,fun _=>⟨⟨hst.r,by show(st.R.length:Int)≤_;omega⟩,(by decide:(0:Int)≤1),by show(1:Int)<_;omega⟩⟩
 | ⟨1,N,m,i,ks,fs,gs,j,l⟩,hx=>
   obtain⟨⟨hN,hNl⟩,hi0,hi1⟩:=hx;dsimp only at hN hNl hi0 hi1;have hk:=CF (bB m n i s) N;unfold swF;dsimp only;generalize hsm:bB m n i s=sm at hk⊢;cases h1:ieq (i+1) (2*t)with
   | false=>
     have h1:=eM h1;exact⟨eN _ _,hst1,fun _=>⟨⟨hN,by show((N).length :Int)≤_;omega⟩,by show 0≤i+1;omega,by show i+1<2*t;omega⟩⟩
   | true=>
     have h1:=fV h1;cases h2:ieq ((bA sm N).length :Int) 0 with
     | true=>exact⟨eN _ _,⟨hst.m,mE hN,by show((cJ sm N).length :Int)≤_;omega⟩,fun h=>Bool.noConfusion h⟩
     | false=>
       have h2:=eM h2;exact⟨eN _ _,hst1,fun _=>⟨by show 2*t≤i+1;omega,by show 1≤(bA sm N).length;omega,by show(bA sm N).length =0+(bA sm N).length;omega,sY hN,mE hN,by show((cJ sm N).length :Int)≤_;omega⟩⟩
 | ⟨2,N,m,i,ks,fs,gs,j,l⟩,hx=>
   obtain⟨a1,a2,a3,a4,a5,a6⟩:=hx;dsimp only at a1 a2 a3 a4 a5 a6;unfold swF;dsimp only;cases h1:ieq ((l - 1:Nat):Int) 0 with
   | true=>exact⟨nX _ _ _,⟨hst.m,a5,by show((ks).length :Int)≤_;omega⟩,fun h=>Bool.noConfusion h⟩
   | false=>
     have h1:=eM h1;exact⟨nX _ _ _,hst1,fun _=>⟨a1,by show 1≤l - 1;omega,by show(gs).length =j+1+(l - 1);omega,a4,a5,by show((ks).length :Int)≤_;omega⟩⟩
theorem TP(t n u sh kd ky att:Int):NI t n u sh kd ky att:=⟨⟨rfl,rfl⟩,trivial⟩
theorem aDF(t n:Int){u:Int}(sh kd ky att:Int)(hu:0≤u∧u≤1000):exW t (aAD t n u sh kd ky att):=⟨.inl rfl,hu,⟨(by decide:(0:Int)≤0),(by decide:(0:Int)≤1000)⟩⟩
structure VH (t n b:Int) (st:STS) (x:HPS):Prop where
 h:x.at'=0∨x.at'=1∨x.at'=2∨x.at'=3∨x.at'=4∨x.at'=5∨x.at'=6∨x.at'=7∨x.at'=8∨x.at'=9
 u:0≤x.u∧x.u≤1000
 ex:x.at'=3→exW t x.ex
 en:x.at'=4→enI t n b x.en
 fn:x.at'=5→TY t x.fn∧K8 (b - st.R.length) x.fn
 cl:x.at'=7→XM t x.cl
 ps:0≤x.p.pops∧x.p.pops≤1000
structure aEc (t n b:Int) (s:MS) (o:HpO):Prop where
 a:Act1 s o.s
 st:stW (b+1) o.st
 w:o.d=false→VH t n (b+1) o.st o.x
theorem OU:(0:Int)≤0∧(0:Int)≤1000:=⟨by decide,by decide⟩
theorem X5{t n b:Int}{x:HPS}{st:STS}{s:MS}(hb:Bnd t n s)(hx:VH t n b st x)(hst:stW b st)(hbb:b≤900000):(hpT t n x st s).run (aEc t n b s):=by
 have hb':=hb;obtain⟨ht,hn,⟨c0,c1⟩,hw⟩:=hb;obtain⟨n0,n1⟩:=hn;obtain⟨t0,t1⟩:=ht;obtain⟨h,hu,hex,hen,hfn,hcl,hps⟩:=hx;have hR0:=hst.ln;have hst1:stW (b+1) st:=iO hst (by omega)
 have hnn:1≤n∧n≤1000:=⟨n0,n1⟩;have hme:=hst.m;obtain⟨u0,u1⟩:=hu;have b0:0≤b:=by omega
 obtain⟨k0,k1⟩:=uV hw (2*n+5+2*t+3*x.1+1);unfold hpT;refine aGM (fun h0=>?c0) (fun h0=>aGM (fun h1=>?c1) (fun h1=>aGM (fun h2=>?c2) (fun h2=>aGM (fun h3=>?c3) (fun h3=>aGM (fun h4=>?c4) (fun h4=>aGM (fun h5=>?c5) (fun h5=>aGM (fun h6=>?c6) (fun h6=>aGM (fun h7=>?c7) (fun h7=>aGM (fun h8=>?c8) (fun h8=>aGM (fun h9=>?c9) (fun h9=>?c10))))))))))
 case' c0=>unfold B4 w1y
 case' c1=>unfold B5 w1y
 case' c2=>unfold B6 w1u w1y
 case' c3=>have he:=hex (fV h3);have hE:=aAK hb' he;have hEo:=aAJ hb' he;have hA:=hE.a;have hS:stW (b+1) {me:=st.me,sp:=st.sp,R:=st.R++ [(ExO.x (AV t n x.11 s)).1] } :=vF hst hE.p;unfold B7
 case' c4=>have he:=hen (fV h4);have hE:=M7 hb' he hst;have hEo:=MZ hb' he hst hbb;have hA:=hE.a;have hS:=hE.st;have hme:=hS.m;have hSl:=hS.ln;unfold B8
 case' c5=>obtain⟨hfw,hfq⟩:=hfn (fV h5);have hF:=EK hb' hfw hfq (by omega);have hFo:=EJ hb' hfw hfq (by omega);have hA:=hF.a;have hQ:=hF.q;have hQl:=hQ.ln;have hS:stW (b+1) {me:=st.me,sp:=st.sp,R:=st.R++(aN t n x.fn s).x.ul } :=yS hst hQ;have hcu:=hQ.cu;unfold B9 w1t w1x
 case' c6=>unfold CA w1y
 case' c7=>have hc:=hcl (fV h7);have hC:=xV hb' hc;have hCo:=D3 hb' hc;have hA:=hC.a;unfold CB
 case' c8=>have hP:=PG (st:=st) hb' (show YE t x.pr from⟨trivial⟩);have hPo:=PF (st:=st) hb' (show YE t x.pr from⟨trivial⟩);have hA:=hP.a;have hPs:stW (b+1) (prF t n x.pr st s).st :=(by rw [hP.st];exact hst1);unfold CC
 case' c9=>have hD:=J9 (HPS.p x).1 (HPS.p x).2 (HPS.p x).3 (HPS.p x).4 (HPS.p x).5 (HPS.p x).6 (HPS.p x).7 (HPS.p x).8 (HPS.p x).9 (aA x.6 0 12);have hDo:=KA (HPS.p x).1 (HPS.p x).2 (HPS.p x).3 (HPS.p x).4 (HPS.p x).5 (HPS.p x).6 (HPS.p x).7 (HPS.p x).8 (HPS.p x).9 (aA x.6 0 12);have hS3:stW (b+1) {me:=st.me,sp:=0,R:=st.R} :=PZ hst 0;unfold CD w1v w1y
 case c10=>
  simp only [cX,beq_eq_false_iff_ne]at h0 h1 h2 h3 h4 h5 h6 h7 h8 h9;rcases h with e | e | e | e | e | e | e | e | e | e<;>contradiction
 all_goals (repeat' (with_reducible first | exact trivial | rfl | assumption | refine aGN ?_ ?_ | refine Tr.run_ite (fun _=>?_) (fun _=>?_) | refine aGP ?_ | refine And.intro ?_ ?_))
 all_goals first
  | exact aZ
  | (simp only [List.length_append,List.length_singleton];done)
  | exact TP _ _ _ _ _ _ _
  | exact qC hnn hme (dP _ _)
  | exact CU _ _ _ _ _ _ _ hcu
  | exact w7 _
  | exact u5 _ _ _ _ _ _ _ _ _
  | exact jD _ _ _
  | exact HJ _ _ _ _ _
  | (simp only [List.length_append];done)
  | (refine⟨by first | assumption | exact aZ,?_,fun hd=>?_⟩
     ·first
       | assumption
       | (dsimp only;rw [O9];assumption)
     ·first
       | exact Bool.noConfusion hd
       | (refine⟨by dsimp only;decide,⟨u0,u1⟩,?_,?_,?_,?_,?_⟩<;>first | (exact nE') | exact hps | exact OU | (intro _;dsimp only;with_reducible exact aDF _ _ _ _ _ _ ⟨u0,u1⟩) | (intro _;exact trivial) | (intro _;exact⟨A9 (t:=t) (n:=n) hnn hme (dP _ _),eS (A8 (t:=t) (n:=n) hnn hme (dP _ _)) (by dsimp only;omega)⟩) | (intro _;exact hE.w (by assumption)) | (intro _;exact⟨hF.w (by assumption),eS hQ (by dsimp only;omega)⟩) | (intro _;dsimp only;with_reducible exact D0 _ _ _) | exact w8 _ _ _ _ _ _ _ hcu | (intro _;exact hC.w (by assumption))))
theorem OG{t n b:Int}{x:HPS}{st:STS}{s:MS}(hb:Bnd t n s)(hx:VH t n b st x)(hst:stW b st)(hbb:b≤900000):OE t n x st s:=aG0 (X5 hb hx hst hbb)
theorem OH{t n b:Int}{x:HPS}{st:STS}{s:MS}(hb:Bnd t n s)(hx:VH t n b st x)(hst:stW b st)(hbb:b≤900000):aEc t n b s (gS t n x st s):=aGV (X5 hb hx hst hbb)
theorem aBs{t n b u no lim:Int}{st:STS}(hu:0≤u∧u≤1000):(JK t n u no lim st).run (fun r=>VH t n b st r.1∧r.2=st):=by
 unfold JK
 (repeat' (with_reducible first | exact trivial | rfl | assumption | refine aGN ?_ ?_ | refine Tr.run_ite (fun _=>?_) (fun _=>?_) | refine aGP ?_ | refine And.intro ?_ ?_))
 all_goals first
  | exact aZ
  | exact⟨by dsimp only;decide,hu,fun e=>absurd e (by dsimp only;decide),fun e=>absurd e (by dsimp only;decide),fun e=>absurd e (by dsimp only;decide),fun e=>absurd e (by dsimp only;decide),OU⟩
theorem WK{s k y:Int}(h:b9 s k y=true):rngU (tskV s k y):=by
 have h:=mC.1 h;unfold tskV;refine⟨?_,?_⟩<;>omega
theorem UT(t n:Int):OA t n:=⟨⟨rfl,rfl⟩,trivial⟩
theorem aD6(t n:Int):hdW t (aBg t n):=⟨⟨(by decide:(0:Int)≤0),(by decide:(0:Int)≤1000)⟩,⟨(by decide:(-1:Int)≤ -1),(by decide:(-1:Int)≤1000)⟩⟩
theorem S6(t n u:Int):sI t n u:=⟨⟨rfl,rfl⟩,trivial⟩
theorem aDh(t n:Int){u:Int}(hu:0≤u∧u≤1000):drW t (AO t n u):=⟨hu,⟨(by decide:(0:Int)≤0),(by decide:(0:Int)≤2)⟩⟩
theorem RT(t n u:Int):LQ t n u:=⟨⟨rfl,rfl⟩,trivial⟩
theorem aC5(t n:Int){u:Int}(hu:0≤u∧u≤1000):awW t (Y7 t n u):=⟨hu⟩
theorem RM(t n u sh kd ky:Int):LP t n u sh kd ky:=⟨trivial,⟨rfl,rfl⟩,trivial⟩
theorem aC2(t n:Int){u:Int}(sh kd ky:Int)(hu:0≤u∧u≤1000):anW t (YZ t n u sh kd ky):=⟨.inl rfl,hu,yQ WK C0,C0⟩
theorem U9(t n u no lim:Int)(st:STS):B3 t n u no lim st:=by
 unfold B3 JK;exact⟨⟨⟨rfl,rfl,rfl⟩,by decide⟩,trivial⟩
theorem X4{t n b u no lim:Int}{st:STS}(hu:0≤u∧u≤1000):VH t n b st (vX t n u no lim st).1:=(aGV (aBs (b:=b) hu)).1
theorem T4{t n b:Int}(sh kd ky most:Int){st:STS}(hn:1≤n∧n≤1000)(hst:stW b st):uN t n sh kd ky most st:=aG0 (EL hn hst)
theorem aDL{t n b:Int}(sh kd ky most:Int){st:STS}(hn:1≤n∧n≤1000)(hst:stW b st):UA t b st (j9 t n sh kd ky most st).1:=(aGV (EL (t:=t) hn hst)).1
theorem NO{t n b:Int}(sh kd ky most:Int){st:STS}(hn:1≤n∧n≤1000)(hst:stW b st):(j9 t n sh kd ky most st).2=st:=(aGV (EL (t:=t) hn hst)).2
structure S3 (t n b:Int) (st:STS) (x:DOS):Prop where
 h:x.at'=0∨x.at'=1∨x.at'=2∨x.at'=3∨x.at'=4∨x.at'=5∨x.at'=6∨x.at'=7∨x.at'=8∨x.at'=9
 hd:x.at'=0→hdW t x.hd
 hp:x.at'=1∨x.at'=5→VH t n b st x.hp
 en:x.at'=2→enI t n b x.en
 ft:x.at'=3→UA t b st x.ft
 an:x.at'=4→anW t x.an
 aw:x.at'=6→awW t x.aw
 fn:x.at'=7→TY t x.fn∧K8 (b - st.R.length) x.fn
 dr:x.at'=8→drW t x.dr
 sw:x.at'=9→KS t n b x.sw
structure aDf (t n b:Int) (s:MS) (o:DqO):Prop where
 a:Act1 s o.s
 st:stW (b+1) o.st
 w:o.d=false→S3 t n (b+1) o.st o.x
theorem XQ{t n b:Int}{x:DOS}{st:STS}{s:MS}(hb:Bnd t n s)(hx:S3 t n b st x)(hst:stW b st)(hbb:b≤900000):(dqT t n x st s).run (aDf t n b s):=by
 have hb':=hb;obtain⟨ht,hn,⟨c0,c1⟩,hw⟩:=hb;obtain⟨n0,n1⟩:=hn;obtain⟨t0,t1⟩:=ht;obtain⟨h,xhd,xhp,xen,xft,xan,xaw,xfn,xdr,xsw⟩:=hx;have hR0:=hst.ln;have hst1:stW (b+1) st:=iO hst (by omega)
 have hnn:1≤n∧n≤1000:=⟨n0,n1⟩;have hme:=hst.m;have b0:0≤b:=by omega
 unfold dqT;refine aGM (fun h0=>?c0) (fun h0=>aGM (fun h1=>?c1) (fun h1=>aGM (fun h2=>?c2) (fun h2=>aGM (fun h3=>?c3) (fun h3=>aGM (fun h4=>?c4) (fun h4=>aGM (fun h5=>?c5) (fun h5=>aGM (fun h6=>?c6) (fun h6=>aGM (fun h7=>?c7) (fun h7=>aGM (fun h8=>?c8) (fun h8=>aGM (fun h9=>?c9) (fun h9=>?c10))))))))))
 case' c0=>have hc:=xhd (fV h0);have hC:=aBo hb' hc;have hCo:=aBn hb' hc;have hA:=hC.a;have hS:=hst1;have hSl:=hS.ln;obtain⟨v0,v1⟩:=hC.p;unfold AD w2d w27 w28
 case' c1=>have hc:=xhp (.inl (fV h1));have hC:=OH hb' hc hst hbb;have hCo:=OG hb' hc hst hbb;have hA:=hC.a;have hS:=hC.st;have hme:=hS.m;have hSl:=hS.ln;unfold AE w25 w2a w28
 case' c2=>have hc:=xen (fV h2);have hC:=M7 hb' hc hst;have hCo:=MZ hb' hc hst hbb;have hA:=hC.a;have hS:=hC.st;have hme:=hS.m;have hSl:=hS.ln;unfold AF w28
 case' c3=>have hc:=xft (fV h3);have hC:=aA0 hb' hc hst hbb;have hCo:=aAZ hb' hc hst hbb;have hA:=hC.a;have hS:=hC.st;have hme:=hS.m;have hSl:=hS.ln;unfold AG w22 w29 w28
 case' c4=>have hc:=xan (fV h4);have hC:=Y6 hb' hc;have hCo:=Y5 hb' hc;have hA:=hC.a;have hS:=hst1;have hSl:=hS.ln;unfold AH w28
 case' c5=>have hc:=xhp (.inr (fV h5));have hC:=OH hb' hc hst hbb;have hCo:=OG hb' hc hst hbb;have hA:=hC.a;have hS:=hC.st;have hme:=hS.m;have hSl:=hS.ln;unfold AI w2a w28
 case' c6=>have hc:=xaw (fV h6);have hC:=ZF hb' hc;have hCo:=ZE hb' hc;have hA:=hC.a;have hS:=hst1;have hSl:=hS.ln;unfold AJ w24 w28
 case' c7=>obtain⟨hfw,hfq⟩:=xfn (fV h7);have hF:=EK hb' hfw hfq (by omega);have hFo:=EJ hb' hfw hfq (by omega);have hA:=hF.a;have hQ:=hF.q;have hQl:=hQ.ln;have hS:stW (b+1) {me:=st.me,sp:=st.sp,R:=st.R++(aN t n x.fn s).x.ul } :=yS hst hQ;unfold AK w28
 case' c8=>have hc:=xdr (fV h8);have hC:=aAj hb' hc;have hCo:=aAi hb' hc;have hA:=hC.a;have hS:=hst1;unfold AM w28
 case' c9=>have hc:=xsw (fV h9);have hC:=aCp hb' hc hst;have hCo:=aCo hb' hc hst hbb;have hA:=hC.a;have hS:=hC.st;unfold AN w28
 case c10=>
  simp only [cX,beq_eq_false_iff_ne]at h0 h1 h2 h3 h4 h5 h6 h7 h8 h9;rcases h with e | e | e | e | e | e | e | e | e | e<;>contradiction
 all_goals (repeat' (with_reducible first | exact trivial | rfl | assumption | refine aGN ?_ ?_ | refine Tr.run_ite (fun _=>?_) (fun _=>?_) | refine aGP ?_ | refine And.intro ?_ ?_))
 all_goals first
  | exact aZ
  | (intro _;decide)
  | assumption
  | exact S6 _ _ _
  | exact RT _ _ _
  | exact RM _ _ _ _ _ _
  | exact U9 _ _ _ _ _ _
  | exact qC hnn hme (dP _ _)
  | exact T4 _ _ _ _ hnn hS
  | (simp only [List.length_append,List.length_singleton];done)
  | (refine⟨by first | assumption | exact aZ,by first | assumption | (dsimp only;rw [NO _ _ _ _ hnn hS];assumption),fun hd=>?_⟩
     first
      | exact Bool.noConfusion hd
      | (refine⟨by dsimp only;decide,?_,?_,?_,?_,?_,?_,?_,?_,?_⟩<;>first | (exact nE') | (intro _;exact hC.w (by assumption)) | (intro _;exact X4 ⟨by first | omega | (simp_all [cC,aV];done) | (simp_all [cC,aV];omega),v1⟩) | (intro _;exact trivial) | (intro _;dsimp only;rw [NO _ _ _ _ hnn hS];exact aDL _ _ _ _ hnn hS) | (intro _;dsimp only;with_reducible exact aC5 _ _ hme) | (intro _;dsimp only;with_reducible exact aDh _ _ hme) | (intro _;dsimp only;with_reducible exact aC2 _ _ _ _ _ hme) | (intro _;exact⟨A9 (t:=t) (n:=n) hnn hme (dP _ _),eS (A8 (t:=t) (n:=n) hnn hme (dP _ _)) (by dsimp only;omega)⟩) | (intro _;exact X4 hme) | (intro _;exact⟨hF.w (by assumption),eS hQ (by dsimp only;omega)⟩)))
theorem aAa{t n b:Int}{x:DOS}{st:STS}{s:MS}(hb:Bnd t n s)(hx:S3 t n b st x)(hst:stW b st)(hbb:b≤900000):SS t n x st s:=aG0 (XQ hb hx hst hbb)
theorem aAb{t n b:Int}{x:DOS}{st:STS}{s:MS}(hb:Bnd t n s)(hx:S3 t n b st x)(hst:stW b st)(hbb:b≤900000):aDf t n b s (s5 t n x st s):=aGV (XQ hb hx hst hbb)
theorem ZX{t n b:Int}(sh kd ky lim:Int)(st:STS):(MB t n sh kd ky lim st).run (fun r=>S3 t n b st r.1∧r.2=st):=by
 unfold MB
 (repeat' (with_reducible first | exact trivial | rfl | assumption | refine aGN ?_ ?_ | refine Tr.run_ite (fun _=>?_) (fun _=>?_) | refine aGP ?_ | refine And.intro ?_ ?_))
 all_goals first
  | exact aZ
  | exact UT _ _
  | (intro _;decide)
  | (refine⟨by dsimp only;decide,fun _=>aD6 t n,?_,?_,?_,?_,?_,?_,?_,?_⟩<;>(exact nE'))
structure hstW (e c:Int) (x:HST):Prop where
 he:(x.ev.length:Int)≤e
 hc:(x.cl.length:Int)≤c
 n0:0≤x.n0∧x.n0≤(x.cl.length:Int)
 n1:0≤x.n1∧x.n1≤(x.cl.length:Int)
 n2:0≤x.n2∧x.n2≤(x.cl.length:Int)
 n3:0≤x.n3∧x.n3≤(x.cl.length:Int)
 n4:0≤x.n4∧x.n4≤(x.cl.length:Int)
 n5:0≤x.n5∧x.n5≤(x.cl.length:Int)
 n6:0≤x.n6∧x.n6≤(x.cl.length:Int)
 n7:0≤x.n7∧x.n7≤(x.cl.length:Int)
theorem jN{e c e' c':Int}{x:HST}(h:hstW e c x)(h1:e≤e')(h2:c≤c'):hstW e' c' x:=⟨Int.le_trans h.he h1,Int.le_trans h.hc h2,h.n0,h.n1,h.n2,h.n3,h.n4,h.n5,h.n6,h.n7⟩
theorem nJ{P:Prop}(h:P:=by first | omega | (dsimp only;omega) | (simp only [List.length_append,List.length_singleton,List.length_set,List.length_cons,List.length_nil];done) | (simp only [List.length_append,List.length_singleton,List.length_set,List.length_cons,List.length_nil];omega) | (dsimp only;simp only [List.length_append,List.length_singleton,List.length_set];omega)):P:=h
theorem aD2{e c th:Int}{x:HST}(kd ky:Int)(h:hstW e c x)(he:e≤1000000)(hc:c≤1000000)(h0:0≤th∧th<8):(hbT th x kd ky).run (fun r=>hstW (e+1) (c+1) r.2):=by
 have hh:=h;obtain⟨a,b,m0,m1,m2,m3,m4,m5,m6,m7⟩:=h;unfold hbT;refine aGM (fun q0=>?c0) (fun q0=>aGM (fun q1=>?c1) (fun q1=>aGM (fun q2=>?c2) (fun q2=>aGM (fun q3=>?c3) (fun q3=>aGM (fun q4=>?c4) (fun q4=>aGM (fun q5=>?c5) (fun q5=>aGM (fun q6=>?c6) (fun q6=>aGM (fun q7=>?c7) (fun q7=>?c8))))))))
 case' c0=>unfold BN w2i w2h w2g
 case' c1=>unfold BO w2i w2h w2g
 case' c2=>unfold BP w2i w2h w2g
 case' c3=>unfold BQ w2i w2h w2g
 case' c4=>unfold BR w2i w2h w2g
 case' c5=>unfold BS w2i w2h w2g
 case' c6=>unfold BT w2i w2h w2g
 case' c7=>unfold BU w2i w2h w2g
 case c8=>
  have q0:=eM q0;have q1:=eM q1;have q2:=eM q2;have q3:=eM q3;have q4:=eM q4;have q5:=eM q5;have q6:=eM q6;have q7:=eM q7;omega
 all_goals (repeat' (with_reducible first | exact trivial | rfl | assumption | refine aGN ?_ ?_ | refine Tr.run_ite (fun _=>?_) (fun _=>?_) | refine aGP ?_ | refine And.intro ?_ ?_))
 all_goals first
  | exact aZ
  | exact jN hh (by omega) (by omega)
  | exact nJ
  | (refine⟨?_,?_,?_,?_,?_,?_,?_,?_,?_,?_⟩<;>exact nJ)
theorem X3{e c th:Int}{x:HST}(code:Int)(okk:Bool)(val:Int)(h:hstW e c x)(he:e≤1000000)(hc:c≤1000000)(h0:0≤th∧th<8):(heT th x code okk val).run (fun r=>hstW (e+1) (c) r.2):=by
 have hh:=h;obtain⟨a,b,m0,m1,m2,m3,m4,m5,m6,m7⟩:=h;unfold heT;refine aGM (fun q0=>?c0) (fun q0=>aGM (fun q1=>?c1) (fun q1=>aGM (fun q2=>?c2) (fun q2=>aGM (fun q3=>?c3) (fun q3=>aGM (fun q4=>?c4) (fun q4=>aGM (fun q5=>?c5) (fun q5=>aGM (fun q6=>?c6) (fun q6=>aGM (fun q7=>?c7) (fun q7=>?c8))))))))
 case' c0=>unfold BV w2k w30 w2z;have hW:=dB (x:=x.n0 - 1) ⟨by omega,by omega⟩;change W (x.n0 - 1)=x.n0 - 1 at hW
 case' c1=>unfold BW w2l w30 w2z;have hW:=dB (x:=x.n1 - 1) ⟨by omega,by omega⟩;change W (x.n1 - 1)=x.n1 - 1 at hW
 case' c2=>unfold BX w2m w30 w2z;have hW:=dB (x:=x.n2 - 1) ⟨by omega,by omega⟩;change W (x.n2 - 1)=x.n2 - 1 at hW
 case' c3=>unfold BY w2n w30 w2z;have hW:=dB (x:=x.n3 - 1) ⟨by omega,by omega⟩;change W (x.n3 - 1)=x.n3 - 1 at hW
 case' c4=>unfold BZ w2o w30 w2z;have hW:=dB (x:=x.n4 - 1) ⟨by omega,by omega⟩;change W (x.n4 - 1)=x.n4 - 1 at hW
 case' c5=>unfold B0 w2p w30 w2z;have hW:=dB (x:=x.n5 - 1) ⟨by omega,by omega⟩;change W (x.n5 - 1)=x.n5 - 1 at hW
 case' c6=>unfold B1 w2q w30 w2z;have hW:=dB (x:=x.n6 - 1) ⟨by omega,by omega⟩;change W (x.n6 - 1)=x.n6 - 1 at hW
 case' c7=>unfold B2 w2j w30 w2z;have hW:=dB (x:=x.n7 - 1) ⟨by omega,by omega⟩;change W (x.n7 - 1)=x.n7 - 1 at hW
 case c8=>
  have q0:=eM q0;have q1:=eM q1;have q2:=eM q2;have q3:=eM q3;have q4:=eM q4;have q5:=eM q5;have q6:=eM q6;have q7:=eM q7;omega
 all_goals (repeat' (with_reducible first | exact trivial | rfl | assumption | refine aGN ?_ ?_ | refine Tr.run_ite (fun _=>?_) (fun _=>?_) | refine aGP ?_ | refine And.intro ?_ ?_))
 all_goals first
  | exact aZ
  | exact jN hh (by omega) (by omega)
  | exact nJ
  | (rw [hW];simp only [aV,Bool.not_eq_false',dT',Bool.not_eq_true',dF']at*;first | omega | exact nJ)
  | (refine⟨?_,?_,?_,?_,?_,?_,?_,?_,?_,?_⟩<;>exact nJ)
theorem NP{t b c:Int}{st:STS}{x:FTS}(h:UA t b st x)(hbc:b≤c):UA t c st x:=⟨h.h,fun e=>⟨(h.fn e).1,eS (h.fn e).2 (by omega)⟩,h.cl,h.ps⟩
theorem AS{t n b c:Int}{e:ENS}(hx:enI t n b e)(hbc:b≤c):enI t n c e:=by
 match e,hx with
 | ⟨0,sh,dn,x,y⟩,hx=>trivial
 | ⟨1,sh,dn,x,y⟩,hx=>exact hx
 | ⟨2,sh,dn,x,y⟩,hx=>trivial
 | ⟨3,sh,dn,x,y⟩,hx=>exact⟨⟨hx.1.1,Int.le_trans hx.1.2 hbc⟩,hx.2⟩
 | ⟨4,sh,dn,x,y⟩,hx=>exact⟨hx.1,hx.2.1,hx.2.2.1,hx.2.2.2.1,hx.2.2.2.2.1,Int.le_trans hx.2.2.2.2.2 hbc⟩
theorem KT{t n b c:Int}{e:SWS}(hx:KS t n b e)(hbc:b≤c):KS t n c e:=by
 match e,hx with
 | ⟨0,N,m,i,ks,fs,gs,j,l⟩,hx=>trivial
 | ⟨1,N,m,i,ks,fs,gs,j,l⟩,hx=>exact⟨⟨hx.1.1,Int.le_trans hx.1.2 hbc⟩,hx.2⟩
 | ⟨2,N,m,i,ks,fs,gs,j,l⟩,hx=>exact⟨hx.1,hx.2.1,hx.2.2.1,hx.2.2.2.1,hx.2.2.2.2.1,Int.le_trans hx.2.2.2.2.2 hbc⟩
theorem OF{t n b c:Int}{st:STS}{x:HPS}(h:VH t n b st x)(hbc:b≤c):VH t n c st x:=⟨h.h,h.u,h.ex,fun e=>AS (h.en e) hbc,fun e=>⟨(h.fn e).1,eS (h.fn e).2 (by omega)⟩,h.cl,h.ps⟩
theorem MC{t n b c:Int}{st:STS}{x:DOS}(h:S3 t n b st x)(hbc:b≤c):S3 t n c st x:=⟨h.h,h.hd,fun e=>OF (h.hp e) hbc,fun e=>AS (h.en e) hbc,fun e=>NP (h.ft e) hbc,h.an,h.aw,fun e=>⟨(h.fn e).1,eS (h.fn e).2 (by omega)⟩,h.dr,fun e=>KT (h.sw e) hbc⟩
structure W9 (t n b:Int) (w:WKS):Prop where
 ht:w.t=t
 hn:w.n=n
 st:stW b w.st
 d:w.b=true→S3 t n b w.st w.d∧w.en<(w.tk.length:Int)
 e0:0≤w.en
 e1:w.en≤(w.tk.length:Int)
 tl:(w.tl.length:Int)=w.en+(bif w.b then 1 else 0)
 sl:(w.sl.length:Int)≤w.en
 tk:(w.tk.length:Int)≤100000
structure QO (t n b:Int) (w:WK1):Prop where
 ht:w.t=t
 hn:w.n=n
 st:stW b w.st
 d:S3 t n b w.st w.d
 e0:0≤w.en
 e1:w.en<(w.tk.length:Int)
 tl:(w.tl.length:Int)=w.en+1
 sl:(w.sl.length:Int)≤w.en
 tk:(w.tk.length:Int)≤100000
theorem QP{t n b c:Int}{w:WKS}(h:W9 t n b w)(hbc:b≤c):W9 t n c w:=⟨h.ht,h.hn,iO h.st hbc,fun e=>⟨MC (h.d e).1 hbc,(h.d e).2⟩,h.e0,h.e1,h.tl,h.sl,h.tk⟩
theorem QJ{t n b tr:Int}{w:WKS}(h:W9 t n b w)(hb:w.b=false)(hl:w.en<(w.tk.length:Int)):(KZ tr w).run (QO t n b):=by
 obtain⟨rfl,rfl,hst,hd,e0,e1,htl,hsl,htk⟩:=h;rw [hb]at htl;have htl:(w.tl.length:Int)=w.en+0:=htl;have hN:=fun sh kd ky lim=>ZX (t:=w.t) (n:=w.n) (b:=b) sh kd ky lim w.st;unfold KZ w33
 (repeat' (with_reducible first | exact trivial | rfl | assumption | refine aGN ?_ ?_ | refine Tr.run_ite (fun _=>?_) (fun _=>?_) | refine aGP ?_ | refine And.intro ?_ ?_))
 all_goals first
  | exact aZ
  | exact aG0 (hN _ _ _ _)
  | (simp only [List.length_append,List.length_singleton];done)
  | (refine⟨rfl,rfl,?_,?_,e0,hl,?_,hsl,htk⟩
     ·dsimp only;rw [show(dqNF _ _ _ _ _ _ _).2=w.st from(aGV (hN _ _ _ _)).2];exact hst
     ·dsimp only;rw [show(dqNF _ _ _ _ _ _ _).2=w.st from(aGV (hN _ _ _ _)).2];exact(aGV (hN _ _ _ _)).1
     ·dsimp only;rw [List.length_append,List.length_singleton];omega)
theorem aCt{t n b tr:Int}{w:WKS}(h:W9 t n b w)(hl:w.en<(w.tk.length:Int)):QK tr w:=by
 unfold QK;cases hb:w.b with
 | true=>trivial
 | false=>exact aG0 (QJ h hb hl)
theorem aCu{t n b tr:Int}{w:WKS}(h:W9 t n b w)(hl:w.en<(w.tk.length:Int)):QO t n b (wbF tr w):=by
 unfold wbF;cases hb:w.b with
 | true=>
   obtain⟨h1,h2,h3,h4,h5,h6,h7,h8,h9⟩:=h;rw [hb]at h7;exact⟨h1,h2,h3,(h4 hb).1,h5,hl,h7,h8,h9⟩
 | false=>exact aGV (QJ h hb hl)
structure aEO (t n b:Int) (s:MS) (o:WkO):Prop where
 a:Act1 s o.s
 w:W9 t n (b+1) o.x
theorem YQ{t n b:Int}{w:WK1}{s:MS}(hb:Bnd t n s)(h:QO t n b w)(hbb:b≤900000):(wsT w s).run (aEO t n b s):=by
 obtain⟨rfl,rfl,hst,hd,e0,e1,htl,hsl,htk⟩:=h;have hD:=aAb hb hd hst hbb;have hDo:=aAa hb hd hst hbb;have hA:=hD.a;have hW:W (w.en+1)=w.en+1:=dB ⟨by omega,by omega⟩
 unfold wsT w35 w34
 (repeat' (with_reducible first | exact trivial | rfl | assumption | refine aGN ?_ ?_ | refine Tr.run_ite (fun _=>?_) (fun _=>?_) | refine aGP ?_ | refine And.intro ?_ ?_))
 all_goals first
  | exact aZ
  | (simp only [List.length_append,List.length_singleton,List.length_set];done)
  | (refine⟨hA,⟨rfl,rfl,hD.st,?_,?_,?_,?_,?_,htk⟩⟩
     ·first
       | (intro e;exact Bool.noConfusion e)
       | (intro e;exact⟨hD.w (by assumption),e1⟩)
     ·first | exact e0 | (dsimp only;rw [hW];omega)
     ·first | (dsimp only;omega) | (dsimp only;rw [hW];omega)
     ·dsimp only;rw [List.length_set]
      first | (rw [hW];show _=w.en+1+0;omega) | (show _=w.en+1;omega)
     ·dsimp only
      first | (rw [hW];simp only [List.length_append,List.length_singleton];omega) | (rw [hW];omega) | omega)
theorem aCB{t n b:Int}{w:WK1}{s:MS}(hb:Bnd t n s)(h:QO t n b w)(hbb:b≤900000):XA w s:=aG0 (YQ hb h hbb)
theorem aCC{t n b:Int}{w:WK1}{s:MS}(hb:Bnd t n s)(h:QO t n b w)(hbb:b≤900000):aEO t n b s (wsF w s):=aGV (YQ hb h hbb)
structure egW (t n:Int) (x:EGS):Prop where
 ht:1≤t∧t≤8
 hn:1≤n∧n≤1000
 st:x.s.t=t
 sn:x.s.n=n
 xt:x.th=t
 xn:x.nd=n
 k:0≤x.k∧x.k≤60000
 c:x.s.c=x.k
 w:VQ x.s.xs
 l:(x.ws.length:Int)=t
 ws: ∀i,i<x.ws.length→W9 t n x.k (a8 x.ws i)
 h:hstW (2*x.k) x.k x.h
theorem DA{ws:List WKS}{i j:Nat}{w:WKS}(hi:i<ws.length):a8 (cQ ws i w) j=if i=j then w else a8 ws j:=by
 unfold a8 cQ;rw [gD',List.getElem?_set,gD']
 by_cases e:i=j
 ·subst e;rw [if_pos rfl,if_pos rfl,if_pos hi];rfl
 ·rw [if_neg e,if_neg e]
theorem sB(ws:List WKS)(i:Nat)(w:WKS):(cQ ws i w).length =ws.length:=by unfold cQ;exact List.length_set
theorem F3{ws:List WKS}{i:Nat}(hi:i<ws.length):cQ ws i (a8 ws i)=ws:=by
 unfold cQ a8;apply List.ext_getElem
 ·simp
 ·intro j h1 h2;rw [List.getElem_set];split
  ·rename_i e;subst e;rw [gD',gE' hi];rfl
  ·rfl
structure VV (t n:Int) (x:EGS) (r:Bool×EGS):Prop where
 no:r.1=false→r.2=x
 yes:r.1=true→egW t n r.2∧r.2.k=x.k+1∧r.2.sh=x.sh∧r.2.tr=x.tr
 w:egW t n r.2
theorem tP{t n:Int}{x:EGS}(h:egW t n x):VV t n x (false,x):=⟨fun _=>rfl,fun e=>Bool.noConfusion e,h⟩
theorem qM{t n:Int}{x:EGS}{s:MS}{h:HST}{i:Nat}{w:WKS}(hx:egW t n x)(hk:x.k<60000)(hi:i<x.ws.length)(ha:Act1 x.s s)(hw:W9 t n (x.k+1) w)(hh:hstW (2*(x.k+1)) (x.k+1) h):
 VV t n x (true,{sh:=x.sh,th:=x.th,nd:=x.nd,tr:=x.tr,s:=s,h:=h,ws:=cQ x.ws i w,k:=W (x.k+1) }):=by
 obtain⟨ht,hn,st,sn,xt,xn,k,c,wd,l,ws,hst⟩:=hx;have hW:W (x.k+1)=x.k+1:=dB ⟨by omega,by omega⟩
 rw [hW]
 have hr:egW t n {sh:=x.sh,th:=x.th,nd:=x.nd,tr:=x.tr,s:=s,h:=h,ws:=cQ x.ws i w,k:=x.k+1} :=by
  refine⟨ht,hn,ha.t.trans st,ha.n.trans sn,xt,xn,?_,?_,ha.w wd,?_,?_,hh⟩
  ·dsimp only;omega
  ·dsimp only;rw [ha.c,c]
  ·dsimp only;rw [sB];exact l
  ·intro j hj;dsimp only at hj⊢;rw [sB]at hj;rw [DA hi];split
   ·exact hw
   ·exact QP (ws j hj) (by omega)
 exact⟨fun e=>Bool.noConfusion e,fun _=>⟨hr,rfl,rfl,rfl⟩,hr⟩
theorem YC{t n:Int}{x:EGS}(th:Int)(hx:egW t n x):(pkT th x).run (VV t n x):=by
 have hx':=hx;obtain⟨ht,hn,st,sn,xt,xn,hk,hc,wd,hl,hws,hst⟩:=hx;have hB:Bnd t n x.s:=⟨⟨ht.1,by omega⟩,hn,by omega,wd⟩
 unfold pkT w38 w39;refine Tr.run_ite (fun e1=>?_) (fun e1=>Tr.run_ite (fun e2=>?_) (fun e2=>?_))
 · (repeat' (with_reducible first | exact trivial | rfl | assumption | refine aGN ?_ ?_ | refine Tr.run_ite (fun _=>?_) (fun _=>?_) | refine aGP ?_ | refine And.intro ?_ ?_));exact tP hx'
 · (repeat' (with_reducible first | exact trivial | rfl | assumption | refine aGN ?_ ?_ | refine Tr.run_ite (fun _=>?_) (fun _=>?_) | refine aGP ?_ | refine And.intro ?_ ?_));exact tP hx'
 rw [aV,dF']at e1;rw [cC,dF']at e2;have hi:0+Int.toNat th*1<x.ws.length:=by omega
 have hw:=hws _ hi;have hself:=F3 hi;generalize hig:0+Int.toNat th*1=i at*;refine aGN ⟨by omega,by omega⟩ (aGN hi (aGN trivial (Tr.run_ite (fun e3=>?_) (fun e3=>Tr.run_ite (fun e4=>?_) (fun e4=>?_)))))
 · (repeat' (with_reducible first | exact trivial | rfl | assumption | refine aGN ?_ ?_ | refine Tr.run_ite (fun _=>?_) (fun _=>?_) | refine aGP ?_ | refine And.intro ?_ ?_))
   all_goals first | assumption | (rw [hself];exact tP hx')
 · (repeat' (with_reducible first | exact trivial | rfl | assumption | refine aGN ?_ ?_ | refine Tr.run_ite (fun _=>?_) (fun _=>?_) | refine aGP ?_ | refine And.intro ?_ ?_))
   all_goals first | assumption | (rw [hself];exact tP hx')
 rw [cC,dF']at e4
 have hen:(a8 x.ws i).en <((a8 x.ws i).tk.length :Int):=by
  have h0:=hw.e0;have h1:=hw.e1;have h2:=hw.tk;have h3:=eM e3;have hW:=dB (x:=((a8 x.ws i).tk.length :Int) - (a8 x.ws i).en) ⟨by omega,by omega⟩
  have h4:W (((a8 x.ws i).tk.length :Int) - (a8 x.ws i).en)≠0:=h3;have hW:W (((a8 x.ws i).tk.length :Int) - (a8 x.ws i).en)=((a8 x.ws i).tk.length :Int) - (a8 x.ws i).en :=hW;rw [hW]at h4;omega
 have h1w:=aCu (tr:=x.tr) hw hen;have h1o:=aCt (tr:=x.tr) hw hen;refine aGN h1o ?_;have hS:=aCC hB h1w (by omega)
 have hSo:=aCB hB h1w (by omega)
 generalize wbF x.tr (a8 x.ws i)=w1 at*;generalize hsg:wsF w1 x.s=o at*;have hth:0≤th∧th<8:=by omega
 refine Tr.run_ite (fun e5=>?_) (fun e5=>?_)
 ·have hH:=aD2 (th:=th) (kd:=(WK1.d w1).6) (ky:=(WK1.d w1).7) hst (by omega) (by omega) hth
  have hHo:hbOk th x.h (WK1.d w1).6 (WK1.d w1).7:=aG0 hH;have hHv:hstW (2*x.k+1) (x.k+1) (hbF th x.h (WK1.d w1).6 (WK1.d w1).7).2:=aGV hH;generalize hbF th x.h (WK1.d w1).6 (WK1.d w1).7=y at*;have hE:=X3 (th:=th) (code:=o.1) (okk:=o.2) (val:=o.3) hHv (by omega) (by omega) hth
  have hEo:heOk th y.2 o.1 o.2 o.3:=aG0 hE;have hEv:hstW (2*x.k+1+1) (x.k+1) (heF th y.2 o.1 o.2 o.3).2:=aGV hE
  (repeat' (with_reducible first | exact trivial | rfl | assumption | refine aGN ?_ ?_ | refine Tr.run_ite (fun _=>?_) (fun _=>?_) | refine aGP ?_ | refine And.intro ?_ ?_))
  all_goals first
   | assumption
   | exact qM hx' (by omega) hi hS.a hS.w (jN hEv (by omega) (by omega))
   | exact qM hx' (by omega) hi hS.a hS.w (jN hHv (by omega) (by omega))
 ·have hE:=X3 (th:=th) (code:=o.1) (okk:=o.2) (val:=o.3) hst (by omega) (by omega) hth
  have hEo:heOk th x.h o.1 o.2 o.3:=aG0 hE;have hEv:hstW (2*x.k+1) x.k (heF th x.h o.1 o.2 o.3).2:=aGV hE
  (repeat' (with_reducible first | exact trivial | rfl | assumption | refine aGN ?_ ?_ | refine Tr.run_ite (fun _=>?_) (fun _=>?_) | refine aGP ?_ | refine And.intro ?_ ?_))
  all_goals first
   | assumption
   | exact qM hx' (by omega) hi hS.a hS.w (jN hEv (by omega) (by omega))
   | exact qM hx' (by omega) hi hS.a hS.w (jN hst (by omega) (by omega))
theorem aBU{t n:Int}{x:EGS}(th:Int)(hx:egW t n x):VU th x:=aG0 (YC th hx)
theorem FI{t n:Int}{x:EGS}(th:Int)(hx:egW t n x):VV t n x (pkF th x):=aGV (YC th hx)
end Go.Sh
