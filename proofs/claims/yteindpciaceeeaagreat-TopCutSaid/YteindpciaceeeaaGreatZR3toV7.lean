import Derived.Test.YteindpciaceeeaaGreatZSh32toSh33
set_option linter.all false
set_option maxHeartbeats 8000000
namespace Go.Sh
open Go Go.Proofs
variable [Con]
theorem zQ{n:Nat}(th tm:Nat→Int)(hn:n≤4294967296):DQ Tryz.prog 114 (PQ n th tm) (allF th tm n 0 60000):=by
 intro l Fr hY;exact MA l n th tm _ hY _ (aDF l n th tm _ hY _ hn rfl rfl)
def jY:Code→Code
 | .seq x _=>x
 | .block _ c=>c
 | c=>c
def jZ:Code→Code
 | .seq _ y=>y
 | c=>c
def rH:Code→Code
 | .rangeFunc _ _ a _=>a
 | c=>c
def uA:Code→Code
 | .rangeFunc _ _ _ b=>b
 | c=>c
noncomputable def mX:Code:=(Tryz.f85.body).getD .skip
noncomputable def NI:Code:=.seq (jY mX) (.seq (jY (jZ mX)) (jY (jY (jZ (jZ mX)))))
noncomputable def j9:Code:=jY (jZ (jY (jZ (jZ mX))))
noncomputable def AZ:Code:=jY (jZ (jZ (jZ mX)))
def HA(x:EGS)(n:Nat)(row:Nat→List AVal)(K:List AVal→aC Ob→Prop):Prop:=K [.func (Fn.func 41) [.ptr 0 0] [],.view n 2 row,.ptr 1 0,.raw (Value.tuple {toList:=[] }),.int .i64 0,.ptr 2 0,.raw (Value.tuple {toList:=[] }),.view n 2 row,.func (Fn.func 114) [] [.ptr 3 0],.raw (Value.tuple {toList:=[] }),.raw (Value.tuple {toList:=[] }),.raw (Value.tuple {toList:=[] }),.raw (Value.tuple {toList:=[] }),.raw (Value.tuple {toList:=[] }),.raw (Value.tuple {toList:=[] }),.raw (Value.tuple {toList:=[] })] [some (.abs (.engine x) []),some (.cells [.func (Fn.func 41) [.ptr 0 0] []]),some (.cells [.int .i64 0]),some (.cells [.view n 2 row])]
theorem JA(x:EGS)(n:Nat)(row:Nat→List AVal)(K:List AVal→aC Ob→Prop)(h:HA x n row K):Ev (cF EU9 (gH EU9 LL 9) 16 NI ([.func (.func 41) [.ptr 0 0] [],.view n 2 row]++List.replicate 14 (.raw undef)) [some (.abs (.engine x) [])] K):=aK (q:=HA x n row K) (by kernel_rfl) h
def OB(x:EGS)(n:Nat)(row:Nat→List AVal)(c u:Int)(K:aC Ob→Prop):Prop:=PP u x∧bif (pkF u x).1 then K [some (.abs (.engine (pkF u x).2) []),some (.cells [.func (Fn.func 41) [.ptr 0 0] []]),some (.cells [.int .i64 (W (c+1))])]else K [some (.abs (.engine (pkF u x).2) []),some (.cells [.func (Fn.func 41) [.ptr 0 0] []]),some (.cells [.int .i64 c])]
theorem JB(x:EGS)(n:Nat)(row:Nat→List AVal)(c u:Int)(K:aC Ob→Prop)(h:OB x n row c u K):Ev (cF EU9 (gH EU9 LL 9) 16 (rH j9) (List.set (([.func (.func 41) [.ptr 0 0] [],.view n 2 row,.ptr 1 0,.raw undef,.int .i64 0,.ptr 2 0,.raw undef,.view n 2 row,.O]:List AVal)++List.replicate 7 (.raw undef)) 9 (.int .i64 u)) [some (.abs (.engine x) []),some (.cells [.func (.func 41) [.ptr 0 0] []]),some (.cells [.int .i64 c])] (fun tm1 h1=>cF EU9 (gH EU9 LL 9) 16 (uA j9) tm1 h1 (fun _ h2=>K h2))):=aK (q:=OB x n row c u K) (by kernel_rfl) h
def OD(x:EGS)(n:Nat)(row:Nat→List AVal)(c:Int)(K:List AVal→aC Ob→Prop):Prop:=K [.func (Fn.func 41) [.ptr 0 0] [],.view n 2 row,.ptr 1 0,.raw (Value.tuple {toList:=[] }),.int .i64 c,.ptr 2 0,.raw (Value.tuple {toList:=[] }),.view n 2 row,.O,.raw (Value.tuple {toList:=[] }),.raw (Value.tuple {toList:=[] }),.raw (Value.tuple {toList:=[] }),.raw (Value.tuple {toList:=[] }),.raw (Value.tuple {toList:=[] }),.raw (Value.tuple {toList:=[] }),.int .i64 c] [some (.abs (.engine x) []),some (.cells [.func (Fn.func 41) [.ptr 0 0] []]),some (.cells [.int .i64 c])]
theorem JC(x:EGS)(n:Nat)(row:Nat→List AVal)(c:Int)(K:List AVal→aC Ob→Prop)(h:OD x n row c K):Ev (cF EU9 (gH EU9 LL 9) 16 AZ ([.func (.func 41) [.ptr 0 0] [],.view n 2 row,.ptr 1 0,.raw undef,.int .i64 0,.ptr 2 0,.raw undef,.view n 2 row,.O]++List.replicate 7 (.raw undef)) [some (.abs (.engine x) []),some (.cells [.func (.func 41) [.ptr 0 0] []]),some (.cells [.int .i64 c])] K):=aK (q:=OD x n row c K) (by kernel_rfl) h
theorem aHF{X:Type}{K:X→Prop} : ∀ {t:Tr X},t.run K→t.ok
 | .ret x,k=>trivial
 | .ite b l r,k=>by cases b with
   | true=>exact aHF (t:=l) k
   | false=>exact aHF (t:=r) k
 | .pre p t,k=>⟨k.1,aHF (t:=t) k.2⟩
theorem aHB{X:Type}{K:X→Prop} : ∀ {t:Tr X},t.run K→K t.val
 | .ret x,k=>k
 | .ite b l r,k=>by cases b with
   | true=>exact aHB (t:=l) k
   | false=>exact aHB (t:=r) k
 | .pre p t,k=>aHB (t:=t) k.2
theorem Tr.run_ite{X:Type}{K:X→Prop}{b:Bool}{l r:Tr X}(h1:b=true→l.run K)(h2:b=false→r.run K):(Tr.ite b l r).run K:=aI h1 h2
theorem aHr{X:Type}{K:X→Prop}{b:Bool}{l r:Tr X}(h1:b=true→l.run K)(h2:b=false→r.run K):(bif b then l else r).run K:=by
 cases b with
 | true=>exact h1 rfl
 | false=>exact h2 rfl
theorem aHs{X:Type}{K:X→Prop}{p:Prop}{t:Tr X}(h1:p)(h2:t.run K):(Tr.pre p t).run K:=⟨h1,h2⟩
theorem aHu{X:Type}{K:X→Prop}{x:X}(h:K x):(Tr.ret x).run K:=h
theorem nE'{P Q:Prop}(h:¬P:=by dsimp only;decide):P→Q:=fun e=>absurd e h
structure rngU (x:Int):Prop where
 h0:0≤x
 h1:x≤18446744073709551615
theorem C8:rngU 0:=⟨by decide,by decide⟩
theorem GA(x:Int):rngU (WU x):=⟨(L5 x).1,(L5 x).2⟩
theorem QJ{xs:List Int}(h:W8 xs)(a:Int):rngU (aF xs a):=⟨(uU h a).1,(uU h a).2⟩
theorem yV{b:Bool}{x y:Int}(h1:b=true→rngU x)(h2:rngU y):rngU (bif b then x else y):=by
 cases b with
 | true=>exact h1 rfl
 | false=>exact h2
theorem lF{n w:Int}(h:aM n w=true):0≤n∧n<2^w.toNat:=by
 unfold aM at h;simp only [Bool.and_eq_true,cC,aU,dT']at h;exact h
theorem MO(b:Bool):0≤bitI b∧bitI b≤1:=by cases b<;>decide
theorem QI{a b c d e f:Int}{m:Bool} :rngU (bif dOk a b c d e f then cL a b c d m e f else 0):=by
 refine yV (fun h=>?_) C8;unfold dOk at h;simp only [Bool.and_eq_true]at h;obtain⟨h1,h2,h3,h4,h5,h6⟩:=h;have h1:=lF h1;have h2:=lF h2;have h3:=lF h3;have h4:=lF h4;have h5:=lF h5;have h6:=lF h6;have hb:=MO m;simp only [Int.reduceToNat,Int.reducePow]at h1 h2 h3 h4 h5 h6;unfold cL;exact⟨by omega,by omega⟩
theorem XR{a b c v:Int}{m:Bool} :rngU (bif bif aM a 10 then bif aM b 9 then bif aM c 5 then aM v 18 else false else false else false then cM a b m c v else 0):=by
 refine yV (fun h=>?_) C8;cases h1:aM a 10 with
 | false=>rw [h1]at h;cases h
 | true=>
   cases h2:aM b 9 with
   | false=>rw [h1,h2]at h;cases h
   | true=>
     cases h3:aM c 5 with
     | false=>rw [h1,h2,h3]at h;cases h
     | true=>
       rw [h1,h2,h3]at h;have h:=lF (show aM v 18=true from h)
       have h1:=lF h1;have h2:=lF h2;have h3:=lF h3;have hb:=MO m;simp only [Int.reduceToNat,Int.reducePow]at h h1 h2 h3;unfold cM;exact⟨by omega,by omega⟩
structure Act1 (s s':MS):Prop where
 c:s'.c=s.c+1
 len:s'.xs.length=s.xs.length
 w:W8 s.xs→W8 s'.xs
 t:s'.t=s.t
 n:s'.n=s.n
theorem zO(s:MS)(k a o w:Int)(ok:Bool):Act1 s ⟨s.t,s.n,s.xs,s.c+1,k,a,o,w,ok⟩:=⟨rfl,rfl,id,rfl,rfl⟩
theorem xU(s:MS)(b v k a o w:Int)(ok:Bool)(h:rngU v):Act1 s ⟨s.t,s.n,aX s.xs b v,s.c+1,k,a,o,w,ok⟩:=⟨rfl,kX _ _ _,fun hw=>W9 hw ⟨h.h0,h.h1⟩,rfl,rfl⟩
theorem G1(s:MS)(q:Bool)(b v k a o w:Int)(ok:Bool)(h:rngU v):Act1 s ⟨s.t,s.n,bif q then aX s.xs b v else s.xs,s.c+1,k,a,o,w,ok⟩:=by
 cases q with
 | true=>exact xU s b v k a o w ok h
 | false=>exact zO s k a o w ok
theorem TF(x a:Int)(w:Int):0≤aA x a w∧aA x a w<2^w.toNat:=TD
structure Bnd (t n:Int) (s:MS):Prop where
 ht:1≤t∧t≤1000
 hn:1≤n∧n≤1000
 hc:0≤s.c∧s.c≤900000
 hw:W8 s.xs
theorem nO{P:Prop}(h:P:=by(with_reducible first | exact C8 | exact GA _ | exact QI | exact XR | assumption)):P:=h
theorem AH{P:Prop}(h:P:=by(simp only [aA,Int.reduceToNat,Int.reducePow];omega)):P:=h
theorem aY{P:Prop}(h:P:=by(first
 | with_reducible exact trivial
 | with_reducible rfl
 | with_reducible assumption
 | with_reducible exact zO _ _ _ _ _ _
 | ((with_reducible refine xU _ _ _ _ _ _ _ _ ?_);exact nO)
 | ((with_reducible refine G1 _ _ _ _ _ _ _ _ _ ?_);exact nO)
 | omega
 | exact AH
 | decide)):P:=h
theorem vN{P:Prop}(h:P:=by first | exact nO | (exact QJ (by assumption) _)):P:=h
theorem dI{P:Prop}(h:P:=by(dsimp only;first | omega | (constructor<;>omega) | exact AH)):P:=h
structure YY (t:Int) (x:CLS):Prop where
 h:x.at'=0∨x.at'=1∨x.at'=2∨x.at'=3
structure aDQ (t:Int) (s:MS) (o:ClO):Prop where
 a:Act1 s o.s
 w:o.d=false→YY t o.x
theorem YZ{t n:Int}{x:CLS}{s:MS}(hb:Bnd t n s)(hx:YY t x):(clT t n x s).run (aDQ t s):=by
 obtain⟨⟨t0,t1⟩,⟨n0,n1⟩,⟨c0,c1⟩,hw⟩:=hb;obtain⟨h⟩:=hx;unfold clT;refine aHr (fun h0=>?_) (fun h0=>aHr (fun h1=>?_) (fun h1=>aHr (fun h2=>?_) (fun h2=>aHr (fun h3=>?_) (fun h3=>?_))))
 ·unfold AD
  (repeat' (with_reducible first | exact trivial | rfl | assumption | refine aHs ?_ ?_ | refine Tr.run_ite (fun _=>?_) (fun _=>?_) | refine aHu ?_ | refine And.intro ?_ ?_))
  all_goals first | exact aY | (refine⟨by exact aY,fun hd=>?_⟩;first | (exact Bool.noConfusion hd) | exact⟨by dsimp only;decide⟩)
 ·unfold AE w04 w05 w06
  (repeat' (with_reducible first | exact trivial | rfl | assumption | refine aHs ?_ ?_ | refine Tr.run_ite (fun _=>?_) (fun _=>?_) | refine aHu ?_ | refine And.intro ?_ ?_))
  all_goals first | exact aY | (refine⟨by exact aY,fun hd=>?_⟩;first | (exact Bool.noConfusion hd) | exact⟨by dsimp only;decide⟩)
 ·unfold AF w05 w06
  (repeat' (with_reducible first | exact trivial | rfl | assumption | refine aHs ?_ ?_ | refine Tr.run_ite (fun _=>?_) (fun _=>?_) | refine aHu ?_ | refine And.intro ?_ ?_))
  all_goals first | exact aY | (refine⟨by exact aY,fun hd=>?_⟩;first | (exact Bool.noConfusion hd) | exact⟨by dsimp only;decide⟩)
 ·unfold AG w07
  (repeat' (with_reducible first | exact trivial | rfl | assumption | refine aHs ?_ ?_ | refine Tr.run_ite (fun _=>?_) (fun _=>?_) | refine aHu ?_ | refine And.intro ?_ ?_))
  all_goals first | exact aY | (refine⟨by exact aY,fun hd=>?_⟩;first | (exact Bool.noConfusion hd) | exact⟨by dsimp only;decide⟩)
 ·simp only [cN,beq_eq_false_iff_ne]at h0 h1 h2 h3;rcases h with e | e | e | e<;>contradiction
theorem EE{t n:Int}{x:CLS}{s:MS}(hb:Bnd t n s)(hx:YY t x):MT t n x s:=aHF (YZ hb hx)
theorem x1{t n:Int}{x:CLS}{s:MS}(hb:Bnd t n s)(hx:YY t x):aDQ t s (oS t n x s):=aHB (YZ hb hx)
structure hdW (t:Int) (x:HDS):Prop where
 h:0≤x.at'∧x.at'≤1000
 u: -1≤x.u∧x.u≤1000
structure aEO (t:Int) (s:MS) (o:HdO):Prop where
 a:Act1 s o.s
 w:o.d=false→hdW t o.x
 p: -1≤o.x.u∧o.x.u≤1000
theorem ZD{t n:Int}{x:HDS}{s:MS}(hb:Bnd t n s)(hx:hdW t x):(hdT t n x s).run (aEO t s):=by
 obtain⟨⟨t0,t1⟩,⟨n0,n1⟩,⟨c0,c1⟩,hw⟩:=hb;obtain⟨⟨h0,h1⟩,⟨u0,u1⟩⟩:=hx;have hW:W (x.at'+1)=x.at'+1:=cV ⟨by omega,by omega⟩
 unfold hdT;unfold VY w08 w09;rw [hW]
 (repeat' (with_reducible first | exact trivial | rfl | assumption | refine aHs ?_ ?_ | refine Tr.run_ite (fun _=>?_) (fun _=>?_) | refine aHu ?_ | refine And.intro ?_ ?_))
 all_goals first | exact aY | (refine⟨by exact aY,fun hd=>by first | (exact Bool.noConfusion hd) | (refine⟨?_,?_⟩<;>dsimp only at hd⊢ <;>first | omega | (simp only [cC,dF']at hd;omega)),?_⟩;exact dI)
theorem aB4{t n:Int}{x:HDS}{s:MS}(hb:Bnd t n s)(hx:hdW t x):aB1 t n x s:=aHF (ZD hb hx)
theorem aB5{t n:Int}{x:HDS}{s:MS}(hb:Bnd t n s)(hx:hdW t x):aEO t s (pU t n x s):=aHB (ZD hb hx)
structure drW (t:Int) (x:DRS):Prop where
 h:0≤x.th∧x.th≤1000
 u:0≤x.at'∧x.at'≤2
structure aDW (t:Int) (s:MS) (o:DrO):Prop where
 a:Act1 s o.s
 w:o.d=false→drW t o.x
theorem Y2{t n:Int}{x:DRS}{s:MS}(hb:Bnd t n s)(hx:drW t x):(drT t n x s).run (aDW t s):=by
 obtain⟨⟨t0,t1⟩,⟨n0,n1⟩,⟨c0,c1⟩,hw⟩:=hb;obtain⟨⟨h0,h1⟩,⟨u0,u1⟩⟩:=hx;have hW:W (x.at'+1)=x.at'+1:=cV ⟨by omega,by omega⟩
 unfold drT;unfold UD;rw [hW]
 (repeat' (with_reducible first | exact trivial | rfl | assumption | refine aHs ?_ ?_ | refine Tr.run_ite (fun _=>?_) (fun _=>?_) | refine aHu ?_ | refine And.intro ?_ ?_))
 all_goals first | exact aY | (refine⟨by exact aY,fun hd=>?_⟩;first | (exact Bool.noConfusion hd) | (refine⟨?_,?_⟩<;>dsimp only at hd⊢ <;>first | omega | (simp only [cC,dF']at hd;omega)))
theorem aA1{t n:Int}{x:DRS}{s:MS}(hb:Bnd t n s)(hx:drW t x):aAY t n x s:=aHF (Y2 hb hx)
theorem aA2{t n:Int}{x:DRS}{s:MS}(hb:Bnd t n s)(hx:drW t x):aDW t s (R6 t n x s):=aHB (Y2 hb hx)
structure anW (t:Int) (x:ANS):Prop where
 h:x.at'=0∨x.at'=1∨x.at'=2∨x.at'=3∨x.at'=4
 m:0≤x.me∧x.me≤1000
 b:rngU x.bits
 q:rngU x.no
structure aDH (t:Int) (s:MS) (o:AnO):Prop where
 a:Act1 s o.s
 w:o.d=false→anW t o.x
theorem YU{t n:Int}{x:ANS}{s:MS}(hb:Bnd t n s)(hx:anW t x):(anT t n x s).run (aDH t s):=by
 obtain⟨⟨t0,t1⟩,⟨n0,n1⟩,⟨c0,c1⟩,hw⟩:=hb;obtain⟨h,⟨m0,m1⟩,b,q⟩:=hx;unfold anT;refine aHr (fun h0=>?_) (fun h0=>aHr (fun h1=>?_) (fun h1=>aHr (fun h2=>?_) (fun h2=>aHr (fun h3=>?_) (fun h3=>aHr (fun h4=>?_) (fun h4=>?_)))))
 ·unfold zT w0a
  (repeat' (with_reducible first | exact trivial | rfl | assumption | refine aHs ?_ ?_ | refine Tr.run_ite (fun _=>?_) (fun _=>?_) | refine aHu ?_ | refine And.intro ?_ ?_))
  all_goals first | exact aY | (refine⟨by exact aY,fun hd=>?_⟩;first | (exact Bool.noConfusion hd) | exact⟨by dsimp only;decide,⟨m0,m1⟩,by assumption,by exact vN⟩)
 ·unfold zU
  (repeat' (with_reducible first | exact trivial | rfl | assumption | refine aHs ?_ ?_ | refine Tr.run_ite (fun _=>?_) (fun _=>?_) | refine aHu ?_ | refine And.intro ?_ ?_))
  all_goals first | exact aY | (refine⟨by exact aY,fun hd=>?_⟩;first | (exact Bool.noConfusion hd) | exact⟨by dsimp only;decide,⟨m0,m1⟩,by assumption,by exact vN⟩)
 ·unfold zV w0a
  (repeat' (with_reducible first | exact trivial | rfl | assumption | refine aHs ?_ ?_ | refine Tr.run_ite (fun _=>?_) (fun _=>?_) | refine aHu ?_ | refine And.intro ?_ ?_))
  all_goals first | exact aY | (refine⟨by exact aY,fun hd=>?_⟩;first | (exact Bool.noConfusion hd) | exact⟨by dsimp only;decide,⟨m0,m1⟩,by assumption,by exact vN⟩)
 ·unfold zW w0a
  (repeat' (with_reducible first | exact trivial | rfl | assumption | refine aHs ?_ ?_ | refine Tr.run_ite (fun _=>?_) (fun _=>?_) | refine aHu ?_ | refine And.intro ?_ ?_))
  all_goals first | exact aY | (refine⟨by exact aY,fun hd=>?_⟩;first | (exact Bool.noConfusion hd) | exact⟨by dsimp only;decide,⟨m0,m1⟩,by assumption,by exact vN⟩)
 ·unfold zX w0b w0a
  (repeat' (with_reducible first | exact trivial | rfl | assumption | refine aHs ?_ ?_ | refine Tr.run_ite (fun _=>?_) (fun _=>?_) | refine aHu ?_ | refine And.intro ?_ ?_))
  all_goals first | exact aY | (refine⟨by exact aY,fun hd=>?_⟩;first | (exact Bool.noConfusion hd) | exact⟨by dsimp only;decide,⟨m0,m1⟩,by assumption,by exact vN⟩)
 ·simp only [cN,beq_eq_false_iff_ne]at h0 h1 h2 h3 h4;rcases h with e | e | e | e | e<;>contradiction
theorem aAi{t n:Int}{x:ANS}{s:MS}(hb:Bnd t n s)(hx:anW t x):aAg t n x s:=aHF (YU hb hx)
theorem aAj{t n:Int}{x:ANS}{s:MS}(hb:Bnd t n s)(hx:anW t x):aDH t s (D5 t n x s):=aHB (YU hb hx)
structure awW (t:Int) (x:AWS):Prop where
 m:0≤x.me∧x.me≤1000
structure aDM (t:Int) (s:MS) (o:AwO):Prop where
 a:Act1 s o.s
 w:o.d=false→awW t o.x
theorem YW{t n:Int}{x:AWS}{s:MS}(hb:Bnd t n s)(hx:awW t x):(awT t n x s).run (aDM t s):=by
 obtain⟨⟨t0,t1⟩,⟨n0,n1⟩,⟨c0,c1⟩,hw⟩:=hb;obtain⟨⟨m0,m1⟩⟩:=hx;unfold awT;unfold S1 w0c
 (repeat' (with_reducible first | exact trivial | rfl | assumption | refine aHs ?_ ?_ | refine Tr.run_ite (fun _=>?_) (fun _=>?_) | refine aHu ?_ | refine And.intro ?_ ?_))
 all_goals first | exact aY | (refine⟨by exact aY,fun hd=>?_⟩;first | (exact Bool.noConfusion hd) | exact⟨⟨m0,m1⟩⟩)
theorem aAr{t n:Int}{x:AWS}{s:MS}(hb:Bnd t n s)(hx:awW t x):aAo t n x s:=aHF (YW hb hx)
theorem aAs{t n:Int}{x:AWS}{s:MS}(hb:Bnd t n s)(hx:awW t x):aDM t s (sG t n x s):=aHB (YW hb hx)
structure exW (t:Int) (x:EXS):Prop where
 h:x.at'=0∨x.at'=1∨x.at'=2∨x.at'=3∨x.at'=4∨x.at'=5∨x.at'=6∨x.at'=7∨x.at'=8∨x.at'=9
 m:0≤x.u∧x.u≤1000
 po:0≤x.popped∧x.popped≤1000
structure aEm (t:Int) (s:MS) (o:ExO):Prop where
 a:Act1 s o.s
 w:o.d=false→exW t o.x
 p:0≤o.x.popped∧o.x.popped≤1000
theorem Y5{t n:Int}{x:EXS}{s:MS}(hb:Bnd t n s)(hx:exW t x):(exT t n x s).run (aEm t s):=by
 obtain⟨⟨t0,t1⟩,⟨n0,n1⟩,⟨c0,c1⟩,hw⟩:=hb;obtain⟨h,⟨m0,m1⟩,⟨p0,p1⟩⟩:=hx;unfold exT;refine aHr (fun h0=>?_) (fun h0=>aHr (fun h1=>?_) (fun h1=>aHr (fun h2=>?_) (fun h2=>aHr (fun h3=>?_) (fun h3=>aHr (fun h4=>?_) (fun h4=>aHr (fun h5=>?_) (fun h5=>aHr (fun h6=>?_) (fun h6=>aHr (fun h7=>?_) (fun h7=>aHr (fun h8=>?_) (fun h8=>aHr (fun h9=>?_) (fun h9=>?_))))))))))
 ·unfold A5 w0n w0m w0l w0s w0i w0g
  (repeat' (with_reducible first | exact trivial | rfl | assumption | refine aHs ?_ ?_ | refine Tr.run_ite (fun _=>?_) (fun _=>?_) | refine aHu ?_ | refine And.intro ?_ ?_))
  all_goals first | exact aY | (refine⟨by exact aY,fun hd=>by first | (exact Bool.noConfusion hd) | exact⟨by dsimp only;decide,⟨m0,m1⟩,by exact dI⟩,?_⟩;exact dI)
 ·unfold A6 w0f w0o w0r w0j
  (repeat' (with_reducible first | exact trivial | rfl | assumption | refine aHs ?_ ?_ | refine Tr.run_ite (fun _=>?_) (fun _=>?_) | refine aHu ?_ | refine And.intro ?_ ?_))
  all_goals first | exact aY | (refine⟨by exact aY,fun hd=>by first | (exact Bool.noConfusion hd) | exact⟨by dsimp only;decide,⟨m0,m1⟩,by exact dI⟩,?_⟩;exact dI)
 ·unfold A7 w0e w0k
  (repeat' (with_reducible first | exact trivial | rfl | assumption | refine aHs ?_ ?_ | refine Tr.run_ite (fun _=>?_) (fun _=>?_) | refine aHu ?_ | refine And.intro ?_ ?_))
  all_goals first | exact aY | (refine⟨by exact aY,fun hd=>by first | (exact Bool.noConfusion hd) | exact⟨by dsimp only;decide,⟨m0,m1⟩,by exact dI⟩,?_⟩;exact dI)
 ·unfold A8 w0k w0g
  (repeat' (with_reducible first | exact trivial | rfl | assumption | refine aHs ?_ ?_ | refine Tr.run_ite (fun _=>?_) (fun _=>?_) | refine aHu ?_ | refine And.intro ?_ ?_))
  all_goals first | exact aY | (refine⟨by exact aY,fun hd=>by first | (exact Bool.noConfusion hd) | exact⟨by dsimp only;decide,⟨m0,m1⟩,by exact dI⟩,?_⟩;exact dI)
 ·unfold A9 w0k w0g
  (repeat' (with_reducible first | exact trivial | rfl | assumption | refine aHs ?_ ?_ | refine Tr.run_ite (fun _=>?_) (fun _=>?_) | refine aHu ?_ | refine And.intro ?_ ?_))
  all_goals first | exact aY | (refine⟨by exact aY,fun hd=>by first | (exact Bool.noConfusion hd) | exact⟨by dsimp only;decide,⟨m0,m1⟩,by exact dI⟩,?_⟩;exact dI)
 ·unfold BA w0p w0r w0d w0j
  (repeat' (with_reducible first | exact trivial | rfl | assumption | refine aHs ?_ ?_ | refine Tr.run_ite (fun _=>?_) (fun _=>?_) | refine aHu ?_ | refine And.intro ?_ ?_))
  all_goals first | exact aY | (refine⟨by exact aY,fun hd=>by first | (exact Bool.noConfusion hd) | exact⟨by dsimp only;decide,⟨m0,m1⟩,by exact dI⟩,?_⟩;exact dI)
 ·unfold BB w0t
  (repeat' (with_reducible first | exact trivial | rfl | assumption | refine aHs ?_ ?_ | refine Tr.run_ite (fun _=>?_) (fun _=>?_) | refine aHu ?_ | refine And.intro ?_ ?_))
  all_goals first | exact aY | (refine⟨by exact aY,fun hd=>by first | (exact Bool.noConfusion hd) | exact⟨by dsimp only;decide,⟨m0,m1⟩,by exact dI⟩,?_⟩;exact dI)
 ·unfold BC w0g
  (repeat' (with_reducible first | exact trivial | rfl | assumption | refine aHs ?_ ?_ | refine Tr.run_ite (fun _=>?_) (fun _=>?_) | refine aHu ?_ | refine And.intro ?_ ?_))
  all_goals first | exact aY | (refine⟨by exact aY,fun hd=>by first | (exact Bool.noConfusion hd) | exact⟨by dsimp only;decide,⟨m0,m1⟩,by exact dI⟩,?_⟩;exact dI)
 ·unfold BD w0h w0q w0g
  (repeat' (with_reducible first | exact trivial | rfl | assumption | refine aHs ?_ ?_ | refine Tr.run_ite (fun _=>?_) (fun _=>?_) | refine aHu ?_ | refine And.intro ?_ ?_))
  all_goals first | exact aY | (refine⟨by exact aY,fun hd=>by first | (exact Bool.noConfusion hd) | exact⟨by dsimp only;decide,⟨m0,m1⟩,by exact dI⟩,?_⟩;exact dI)
 ·unfold BE w0u
  (repeat' (with_reducible first | exact trivial | rfl | assumption | refine aHs ?_ ?_ | refine Tr.run_ite (fun _=>?_) (fun _=>?_) | refine aHu ?_ | refine And.intro ?_ ?_))
  all_goals first | exact aY | (refine⟨by exact aY,fun hd=>by first | (exact Bool.noConfusion hd) | exact⟨by dsimp only;decide,⟨m0,m1⟩,by exact dI⟩,?_⟩;exact dI)
 ·simp only [cN,beq_eq_false_iff_ne]at h0 h1 h2 h3 h4 h5 h6 h7 h8 h9;rcases h with e | e | e | e | e | e | e | e | e | e<;>contradiction
theorem aBq{t n:Int}{x:EXS}{s:MS}(hb:Bnd t n s)(hx:exW t x):aBo t n x s:=aHF (Y5 hb hx)
theorem aBr{t n:Int}{x:EXS}{s:MS}(hb:Bnd t n s)(hx:exW t x):aEm t s (A4 t n x s):=aHB (Y5 hb hx)
structure ZQ (t:Int) (x:PRS):Prop where
 h:True
structure aFl (t:Int) (s:MS) (st:STS) (o:PrO):Prop where
 a:Act1 s o.s
 w:o.d=false→ZQ t o.x
 st:o.st=st
theorem ZR{t n:Int}{x:PRS}{st:STS}{s:MS}(hb:Bnd t n s)(hx:ZQ t x):(prT t n x st s).run (aFl t s st):=by
 obtain⟨⟨t0,t1⟩,⟨n0,n1⟩,⟨c0,c1⟩,hw⟩:=hb;obtain⟨h⟩:=hx;unfold prT;unfold XI w0v
 (repeat' (with_reducible first | exact trivial | rfl | assumption | refine aHs ?_ ?_ | refine Tr.run_ite (fun _=>?_) (fun _=>?_) | refine aHu ?_ | refine And.intro ?_ ?_))
 all_goals first | exact aY | (refine⟨by exact aY,fun hd=>?_,rfl⟩;first | (exact Bool.noConfusion hd) | exact⟨trivial⟩)
theorem P5{t n:Int}{x:PRS}{st:STS}{s:MS}(hb:Bnd t n s)(hx:ZQ t x):P3 t n x st s:=aHF (ZR hb hx)
theorem P6{t n:Int}{x:PRS}{st:STS}{s:MS}(hb:Bnd t n s)(hx:ZQ t x):aFl t s st (prF t n x st s):=aHB (ZR hb hx)
theorem f9{a b:Int}(h:ieq a b=true):a=b:=by simpa [cN]using h
theorem eJ{a b:Int}(h:ieq a b=false):a≠b:=by simpa [cN]using h
def eA(l:List Int):Prop:= ∀r∈l,0≤r∧r≤1000
theorem rW:eA []:=fun r h=>nomatch h
theorem vE{l:List Int}{a:Int}(h:eA l)(ha:0≤a∧a≤1000):eA (l++ [a]):=by
 intro r hr;rcases List.mem_append.1 hr with h1 | h1
 ·exact h r h1
 ·rw [List.mem_singleton.1 h1];exact ha
theorem LG{l m:List Int}(h:eA l)(hm:eA m):eA (l++m):=by
 intro r hr;rcases List.mem_append.1 hr with h1 | h1
 ·exact h r h1
 ·exact hm r h1
theorem jF(t n a:Int):pY t n a:=⟨⟨rfl,rfl⟩,trivial⟩
theorem EC(t n a:Int):YY t (xZ t n a):=⟨.inl rfl⟩
theorem aF3(x a:Int):0≤aA x a 9∧aA x a 9≤1000:=by
 have:=TF x a 9;simp only [Int.reduceToNat,Int.reducePow]at this;omega
structure LY (b:Int) (x:FNS):Prop where
 m:0≤x.me∧x.me≤1000
 cu:0≤x.curr∧x.curr≤1000
 ul:eA x.ul
 ln:(x.ul.length:Int)≤b
structure U3 (t:Int) (x:FNS):Prop where
 h:x.at'=0∨x.at'=1∨x.at'=2∨x.at'=3∨x.at'=4∨x.at'=5∨x.at'=6
 cl:x.at'=4→YY t x.cl
structure aEp (t b:Int) (s:MS) (o:FnO):Prop where
 a:Act1 s o.s
 q:LY (b+1) o.x
 w:o.d=false→U3 t o.x
theorem pJ{P:Prop}(h:P:=by(refine⟨?_,⟨?_,?_,?_,?_⟩,fun hd=>?_⟩<;>first
 | exact aY
 | (exact(x1 (by assumption) (by assumption)).a)
 | (constructor<;>assumption)
 | exact aF3 _ _
 | (exact vE (by assumption) ⟨by assumption,by assumption⟩)
 | exact rW
 | (dsimp only;simp only [List.length_append,List.length_singleton,List.length_nil];omega)
 | exact Bool.noConfusion hd
 | exact⟨by dsimp only;decide,fun e=>absurd e (by dsimp only;decide)⟩
 | exact⟨by dsimp only;decide,fun e=>(x1 (by assumption) (by assumption)).w (by assumption)⟩
 | exact⟨by dsimp only;decide,fun e=>by dsimp only;with_reducible exact EC _ _ _⟩)):P:=h
theorem Y6{t n b:Int}{x:FNS}{s:MS}(hb:Bnd t n s)(hx:U3 t x)(hq:LY b x)(hbb:b≤900000):(fnT t n x s).run (aEp t b s):=by
 have hb':=hb;obtain⟨⟨t0,t1⟩,⟨n0,n1⟩,⟨c0,c1⟩,hw⟩:=hb;obtain⟨h,hcl⟩:=hx;obtain⟨⟨m0,m1⟩,⟨q0,q1⟩,hul,hln⟩:=hq;have b0:0≤b:=by omega
 unfold fnT;refine aHr (fun h0=>?_) (fun h0=>aHr (fun h1=>?_) (fun h1=>aHr (fun h2=>?_) (fun h2=>aHr (fun h3=>?_) (fun h3=>aHr (fun h4=>?_) (fun h4=>aHr (fun h5=>?_) (fun h5=>aHr (fun h6=>?_) (fun h6=>?_)))))))
 ·unfold BJ w11 w16 w0z w13 w15 w14 w1f
  (repeat' (with_reducible first | exact trivial | rfl | assumption | refine aHs ?_ ?_ | refine Tr.run_ite (fun _=>?_) (fun _=>?_) | refine aHu ?_ | refine And.intro ?_ ?_))
  all_goals first | exact aY | exact jF _ _ _ | (simp only [List.length_append,List.length_singleton];done) | exact pJ
 ·unfold BK
  (repeat' (with_reducible first | exact trivial | rfl | assumption | refine aHs ?_ ?_ | refine Tr.run_ite (fun _=>?_) (fun _=>?_) | refine aHu ?_ | refine And.intro ?_ ?_))
  all_goals first | exact aY | exact jF _ _ _ | (simp only [List.length_append,List.length_singleton];done) | exact pJ
 ·unfold BL w11 w16 w0z w13 w15 w1f w14
  (repeat' (with_reducible first | exact trivial | rfl | assumption | refine aHs ?_ ?_ | refine Tr.run_ite (fun _=>?_) (fun _=>?_) | refine aHu ?_ | refine And.intro ?_ ?_))
  all_goals first | exact aY | exact jF _ _ _ | (simp only [List.length_append,List.length_singleton];done) | exact pJ
 ·unfold BM w1b w1d w1c w1a
  (repeat' (with_reducible first | exact trivial | rfl | assumption | refine aHs ?_ ?_ | refine Tr.run_ite (fun _=>?_) (fun _=>?_) | refine aHu ?_ | refine And.intro ?_ ?_))
  all_goals first | exact aY | exact jF _ _ _ | (simp only [List.length_append,List.length_singleton];done) | exact pJ
 ·unfold BN w19 w14;have hcl4:=hcl (f9 h4);have hclo:=EE hb' hcl4
  (repeat' (with_reducible first | exact trivial | rfl | assumption | refine aHs ?_ ?_ | refine Tr.run_ite (fun _=>?_) (fun _=>?_) | refine aHu ?_ | refine And.intro ?_ ?_))
  all_goals first | exact aY | exact jF _ _ _ | (simp only [List.length_append,List.length_singleton];done) | exact pJ
 ·unfold BO w0x w0w w19 w14
  (repeat' (with_reducible first | exact trivial | rfl | assumption | refine aHs ?_ ?_ | refine Tr.run_ite (fun _=>?_) (fun _=>?_) | refine aHu ?_ | refine And.intro ?_ ?_))
  all_goals first | exact aY | exact jF _ _ _ | (simp only [List.length_append,List.length_singleton];done) | exact pJ
 ·unfold BP w14 w1g
  (repeat' (with_reducible first | exact trivial | rfl | assumption | refine aHs ?_ ?_ | refine Tr.run_ite (fun _=>?_) (fun _=>?_) | refine aHu ?_ | refine And.intro ?_ ?_))
  all_goals first | exact aY | exact jF _ _ _ | (simp only [List.length_append,List.length_singleton];done) | exact pJ
 ·simp only [cN,beq_eq_false_iff_ne]at h0 h1 h2 h3 h4 h5 h6;rcases h with e | e | e | e | e | e | e<;>contradiction
theorem FA{t n b:Int}{x:FNS}{s:MS}(hb:Bnd t n s)(hx:U3 t x)(hq:LY b x)(hbb:b≤900000):JP t n x s:=aHF (Y6 hb hx hq hbb)
theorem FB{t n b:Int}{x:FNS}{s:MS}(hb:Bnd t n s)(hx:U3 t x)(hq:LY b x)(hbb:b≤900000):aEp t b s (aN t n x s):=aHB (Y6 hb hx hq hbb)
theorem dO(sh ky:Int):0≤fG sh ky∧fG sh ky≤3:=by
 unfold fG;cases ieq sh 2 with
 | true=>exact⟨Int.emod_nonneg _ (by decide),by have:=Int.emod_lt_of_pos ky (b:=4) (by decide);show ky%4≤3;omega⟩
 | false=>exact⟨Int.le_refl 0,(by decide:(0:Int)≤3)⟩
theorem EZ{t n me hd key lim:Int}(hn:1≤n∧n≤1000)(hm:0≤me∧me≤1000)(hh:0≤hd∧hd≤3):(OJ t n me hd key lim).run (fun x=>U3 t x∧LY 0 x):=by
 obtain⟨n0,n1⟩:=hn;obtain⟨m0,m1⟩:=hm;obtain⟨e0,e1⟩:=hh;unfold OJ w1h
 (repeat' (with_reducible first | exact trivial | rfl | assumption | refine aHs ?_ ?_ | refine Tr.run_ite (fun _=>?_) (fun _=>?_) | refine aHu ?_ | refine And.intro ?_ ?_))
 all_goals first | exact aY | exact⟨by dsimp only;decide,fun e=>absurd e (by dsimp only;decide)⟩ | exact⟨⟨m0,m1⟩,⟨(by decide:(0:Int)≤0),(by decide:(0:Int)≤1000)⟩,rW,(by decide:((0:Nat):Int)≤0)⟩
theorem H0(sh kd ky pred pw cw sp:Int){curr:Int}(hc:0≤curr∧curr≤1000):(C0 sh kd ky pred pw curr cw sp).run (fun p=>0≤p.pops∧p.pops≤1000):=by
 obtain⟨c0,c1⟩:=hc;unfold C0 w00 w02 w01 w03
 (repeat' (with_reducible first | exact trivial | rfl | assumption | refine aHs ?_ ?_ | refine Tr.run_ite (fun _=>?_) (fun _=>?_) | refine aHu ?_ | refine And.intro ?_ ?_))
 all_goals first | exact aY | (dsimp only;first | assumption | decide)
theorem C2(sh kd ky pred pw cw sp:Int){curr:Int}(hc:0≤curr∧curr≤1000):u5 sh kd ky pred pw curr cw sp:=aHF (H0 sh kd ky pred pw cw sp hc)
theorem xC(sh kd ky pred pw cw sp:Int){curr:Int}(hc:0≤curr∧curr≤1000):0≤(bM sh kd ky pred pw curr cw sp).pops ∧(bM sh kd ky pred pw curr cw sp).pops ≤1000:=aHB (H0 sh kd ky pred pw cw sp hc)
theorem C1(a b c d e f g h i):(u6 a b c d e f g h i).run rngU:=by
 unfold u6
 (repeat' (with_reducible first | exact trivial | rfl | assumption | refine aHs ?_ ?_ | refine Tr.run_ite (fun _=>?_) (fun _=>?_) | refine aHu ?_ | refine And.intro ?_ ?_))
 all_goals first | exact aY | exact nO
theorem K1(a b c d e f g h i):yQ a b c d e f g h i:=aHF (C1 a b c d e f g h i)
theorem KZ(a b c d e f g h i):rngU (dK a b c d e f g h i):=aHB (C1 a b c d e f g h i)
theorem CZ(a b c d e f g h i j):(u4 a b c d e f g h i j).run (fun r=>rngU r.1):=by
 unfold u4
 (repeat' (with_reducible first | exact trivial | rfl | assumption | refine aHs ?_ ?_ | refine Tr.run_ite (fun _=>?_) (fun _=>?_) | refine aHu ?_ | refine And.intro ?_ ?_))
 all_goals first | exact aY | exact nO
theorem KX(a b c d e f g h i j):yP a b c d e f g h i j:=aHF (CZ a b c d e f g h i j)
theorem KW(a b c d e f g h i j):rngU (gM a b c d e f g h i j).1:=aHB (CZ a b c d e f g h i j)
theorem CY(a b c d e f g h i):(uY a b c d e f g h i).run (fun _=>True):=by
 unfold uY
 (repeat' (with_reducible first | exact trivial | rfl | assumption | refine aHs ?_ ?_ | refine Tr.run_ite (fun _=>?_) (fun _=>?_) | refine aHu ?_ | refine And.intro ?_ ?_))
 all_goals exact aY
theorem xB(p:PLN):oI p.1 p.2 p.3 p.4 p.5 p.6 p.7 p.8 p.9:=aHF (CY _ _ _ _ _ _ _ _ _)
theorem uZ(a b c d e f g h i):oI a b c d e f g h i:=aHF (CY _ _ _ _ _ _ _ _ _)
theorem eR{b c:Int}{x:FNS}(h:LY b x)(hbc:b≤c):LY c x:=⟨h.m,h.cu,h.ul,Int.le_trans h.ln hbc⟩
theorem qH{t n me hd key lim:Int}(hn:1≤n∧n≤1000)(hm:0≤me∧me≤1000)(hh:0≤hd∧hd≤3):oT t n me hd key lim:=aHF (EZ hn hm hh)
theorem BI{t n me hd key lim:Int}(hn:1≤n∧n≤1000)(hm:0≤me∧me≤1000)(hh:0≤hd∧hd≤3):U3 t (uM t n me hd key lim):=by
 have h:=aHB (EZ (t:=t) (key:=key) (lim:=lim) hn hm hh);exact h.1
theorem BH{t n me hd key lim:Int}(hn:1≤n∧n≤1000)(hm:0≤me∧me≤1000)(hh:0≤hd∧hd≤3):LY 0 (uM t n me hd key lim):=by
 have h:=aHB (EZ (t:=t) (key:=key) (lim:=lim) hn hm hh);exact h.2
theorem P2(t n key nx:Int)(st:STS):(XG t n key nx st).run (fun r=>r.2=st):=⟨⟨rfl,rfl,rfl⟩,rfl⟩
theorem H1(t n key nx:Int)(st:STS):C3 t n key nx st:=aHF (P2 t n key nx st)
theorem P1(t n key nx:Int)(st:STS):(qQ t n key nx st).2=st:=aHB (P2 t n key nx st)
structure stW (b:Int) (st:STS):Prop where
 m:0≤st.me∧st.me≤1000
 r:eA st.R
 ln:(st.R.length:Int)≤b
theorem iS{b c:Int}{st:STS}(h:stW b st)(hbc:b≤c):stW c st:=⟨h.m,h.r,Int.le_trans h.ln hbc⟩
theorem yX{b:Int}{st:STS}{k:Int}{x:FNS}(h:stW b st)(hq:LY (b - st.R.length+1) x):stW (b+1) {me:=st.me,sp:=k,R:=st.R++x.ul} :=
 ⟨h.m,LG h.r hq.ul,by have:=hq.ln;simp only [List.length_append];omega⟩
theorem vF{b:Int}{st:STS}{k a:Int}(h:stW b st)(ha:0≤a∧a≤1000):stW (b+1) {me:=st.me,sp:=k,R:=st.R++ [a] } :=
 ⟨h.m,vE h.r ha,by have:=h.ln;simp only [List.length_append,List.length_singleton];omega⟩
theorem QT{b:Int}{st:STS}(h:stW b st)(k:Int):stW (b+1) {me:=st.me,sp:=k,R:=st.R} :=⟨h.m,h.r,by have:=h.ln;show(st.R.length:Int)≤_;omega⟩
structure VD (t b:Int) (st:STS) (x:FTS):Prop where
 h:x.at'=0∨x.at'=1∨x.at'=2∨x.at'=3
 fn:x.at'=0→U3 t x.fn∧LY (b - st.R.length) x.fn
 cl:x.at'=1→YY t x.cl
 ps:0≤x.p.pops∧x.p.pops≤1000
structure aEs (t b:Int) (s:MS) (o:FtO):Prop where
 a:Act1 s o.s
 st:stW (b+1) o.st
 w:o.d=false→VD t (b+1) o.st o.x
theorem Y8{t n b:Int}{x:FTS}{st:STS}{s:MS}(hb:Bnd t n s)(hx:VD t b st x)(hst:stW b st)(hbb:b≤900000):(ftT t n x st s).run (aEs t b s):=by
 have hb':=hb;obtain⟨ht,hn,⟨c0,c1⟩,hw⟩:=hb;obtain⟨n0,n1⟩:=hn;obtain⟨t0,t1⟩:=ht;obtain⟨h,hfn,hcl,hps⟩:=hx;have hR0:=hst.ln;have hst1:stW (b+1) st:=iS hst (by omega)
 have hnn:1≤n∧n≤1000:=⟨n0,n1⟩;have b0:0≤b:=by omega
 unfold ftT;refine aHr (fun h0=>?_) (fun h0=>aHr (fun h1=>?_) (fun h1=>aHr (fun h2=>?_) (fun h2=>aHr (fun h3=>?_) (fun h3=>?_))))
 ·obtain⟨hfw,hfq⟩:=hfn (f9 h0);have hF:=FB hb' hfw hfq (by omega)
  have hFo:=FA hb' hfw hfq (by omega)
  have hA:=hF.a;have hQ:=hF.q;have hQl:=hQ.ln;have hS:stW (b+1) {me:=st.me,sp:=st.sp,R:=st.R++(aN t n x.fn s).x.ul } :=yX hst hQ;have hcu:=hQ.cu;unfold BR w1i w1q w1k w1o
  (repeat' (with_reducible first | exact trivial | rfl | assumption | refine aHs ?_ ?_ | refine Tr.run_ite (fun _=>?_) (fun _=>?_) | refine aHu ?_ | refine And.intro ?_ ?_))
  all_goals first
   | exact aY
   | exact C2 _ _ _ _ _ _ _ hcu
   | exact xB _
   | exact uZ _ _ _ _ _ _ _ _ _
   | exact jF _ _ _
   | exact H1 _ _ _ _ _
   | (simp only [List.length_append];done)
   | (refine⟨by first | assumption | exact aY,?_,fun hd=>?_⟩
      ·first
        | assumption
        | (dsimp only;rw [P1];assumption)
      ·first
        | exact Bool.noConfusion hd
        | (refine⟨by dsimp only;decide,?_,?_,?_⟩
           ·first | (exact nE') | (intro _;exact⟨hF.w (by assumption),eR hQ (by dsimp only;omega)⟩)
           ·first | (exact nE') | (intro _;dsimp only;with_reducible exact EC _ _ _)
           ·first | exact hps | exact xC _ _ _ _ _ _ _ hcu))
 ·have hc:=hcl (f9 h1);have hC:=x1 hb' hc;have hCo:=EE hb' hc;have hA:=hC.a;unfold BS
  (repeat' (with_reducible first | exact trivial | rfl | assumption | refine aHs ?_ ?_ | refine Tr.run_ite (fun _=>?_) (fun _=>?_) | refine aHu ?_ | refine And.intro ?_ ?_))
  all_goals first
   | exact aY
   | exact qH hnn hst.m (dO _ _)
   | (refine⟨by assumption,by assumption,fun hd=>?_⟩
      first
       | exact Bool.noConfusion hd
       | (refine⟨by dsimp only;decide,?_,?_,hps⟩
          ·first | (exact nE') | (intro _;exact⟨BI (t:=t) (n:=n) hnn hst.m (dO _ _),eR (BH (t:=t) (n:=n) hnn hst.m (dO _ _)) (by dsimp only;omega)⟩)
          ·first | (exact nE') | (intro _;exact hC.w (by assumption))))
 ·have hP:=P6 (st:=st) hb' (show ZQ t x.pr from⟨trivial⟩)
  have hPo:=P5 (st:=st) hb' (show ZQ t x.pr from⟨trivial⟩)
  have hA:=hP.a;have hPs:stW (b+1) (prF t n x.pr st s).st :=by rw [hP.st];exact hst1
  unfold BT
  (repeat' (with_reducible first | exact trivial | rfl | assumption | refine aHs ?_ ?_ | refine Tr.run_ite (fun _=>?_) (fun _=>?_) | refine aHu ?_ | refine And.intro ?_ ?_))
  all_goals first
   | exact aY
   | (refine⟨by assumption,by assumption,fun hd=>?_⟩
      first
       | exact Bool.noConfusion hd
       | exact⟨by dsimp only;decide,fun e=>absurd e (by dsimp only;decide),fun e=>absurd e (by dsimp only;decide),hps⟩)
 ·have hW:=KZ (FTS.p x).1 (FTS.p x).2 (FTS.p x).3 (FTS.p x).4 (FTS.p x).5 (FTS.p x).6 (FTS.p x).7 (FTS.p x).8 (FTS.p x).9;have hWo:=K1 (FTS.p x).1 (FTS.p x).2 (FTS.p x).3 (FTS.p x).4 (FTS.p x).5 (FTS.p x).6 (FTS.p x).7 (FTS.p x).8 (FTS.p x).9;have hS1:stW (b+1) {me:=st.me,sp:=0,R:=st.R++ [(FTS.p x).9] } :=vF hst hps;have hS2:stW (b+1) {me:=st.me,sp:=st.sp,R:=st.R++ [(FTS.p x).9] } :=vF hst hps;have hS3:stW (b+1) {me:=st.me,sp:=0,R:=st.R} :=QT hst 0;unfold BU w1j
  (repeat' (with_reducible first | exact trivial | rfl | assumption | refine aHs ?_ ?_ | refine Tr.run_ite (fun _=>?_) (fun _=>?_) | refine aHu ?_ | refine And.intro ?_ ?_))
  all_goals first
   | exact aY
   | exact qH hnn hst.m (dO _ _)
   | (simp only [List.length_append,List.length_singleton];done)
   | (refine⟨by exact aY,by assumption,fun hd=>?_⟩
      first
       | exact Bool.noConfusion hd
       | (refine⟨by dsimp only;decide,?_,?_,hps⟩
          ·first | (exact nE') | (intro _;exact⟨BI (t:=t) (n:=n) hnn hst.m (dO _ _),eR (BH (t:=t) (n:=n) hnn hst.m (dO _ _)) (by dsimp only;omega)⟩)
          · (exact nE')))
 ·simp only [cN,beq_eq_false_iff_ne]at h0 h1 h2 h3;rcases h with e | e | e | e<;>contradiction
theorem aBG{t n b:Int}{x:FTS}{st:STS}{s:MS}(hb:Bnd t n s)(hx:VD t b st x)(hst:stW b st)(hbb:b≤900000):U8 t n x st s:=aHF (Y8 hb hx hst hbb)
theorem aBH{t n b:Int}{x:FTS}{st:STS}{s:MS}(hb:Bnd t n s)(hx:VD t b st x)(hst:stW b st)(hbb:b≤900000):aEs t b s (iE t n x st s):=aHB (Y8 hb hx hst hbb)
theorem FC{t n b sh kd ky most:Int}{st:STS}(hn:1≤n∧n≤1000)(hst:stW b st):(OK t n sh kd ky most st).run (fun r=>VD t b st r.1∧r.2=st):=by
 have hR0:=hst.ln;unfold OK
 (repeat' (with_reducible first | exact trivial | rfl | assumption | refine aHs ?_ ?_ | refine Tr.run_ite (fun _=>?_) (fun _=>?_) | refine aHu ?_ | refine And.intro ?_ ?_))
 all_goals first
  | exact aY
  | exact qH hn hst.m (dO _ _)
  | exact⟨by dsimp only;decide,fun _=>⟨BI (t:=t) (n:=n) hn hst.m (dO _ _),eR (BH (t:=t) (n:=n) hn hst.m (dO _ _)) (by omega)⟩,fun e=>absurd e (by dsimp only;decide),⟨(by decide:(0:Int)≤0),(by decide:(0:Int)≤1000)⟩⟩
theorem eM(s:MS)(a:Int):Act1 s (s.loadd a):=⟨rfl,rfl,id,rfl,rfl⟩
theorem wE(s:MS)(a o x:Int):Act1 s (s.cased a o (WU x)):=G1 s _ _ _ _ _ _ _ _ (GA x)
theorem nZ(s:MS)(a x:Int):Act1 s (s.added a x):=xU s _ _ _ _ _ _ _ (GA _)
theorem mF{m:List (Int×Int)}{l:List Int}(h:eA l):eA (cI m l):=fun r hr=>h r (List.mem_filter.1 hr).1
theorem sX{m:List (Int×Int)}{l:List Int}(h:eA l):eA (a8 m l):=fun r hr=>h r (List.mem_filter.1 hr).1
theorem CO(m:List (Int×Int))(l:List Int):(cI m l).length ≤l.length:=List.length_filter_le _ _
theorem DD{l:List Int}(h:eA l){j:Nat}(hj:j<l.length): -1000000≤List.getD l (j+Int.toNat 0*1) 0∧List.getD l (j+Int.toNat 0*1) 0≤1000000:=by
 have e:j+Int.toNat 0*1=j:=by simp
 rw [e,gD',gE' hj];have:=h _ (List.getElem_mem hj);show _≤l[j]∧l[j]≤_;omega
theorem CT{n a:Int}(hn:1≤n)(ha:1≤a):1≤cY n a∧cY n a≤n:=by
 unfold cY;rw [Int.tmod_eq_emod_of_nonneg (by omega)]
 have:=Int.emod_nonneg a (show n≠0 by omega)
 have:=Int.emod_lt_of_pos a (show 0<n by omega)
 omega
theorem SW{t n me:Int}(hn:1≤n):1≤at0 t n me∧at0 t n me≤n:=by
 unfold at0;cases h:bY n (aP t n me)with
 | true=>exact uT.1 h
 | false=>exact⟨(by decide:(1:Int)≤1),hn⟩
def enI(t n b:Int)(e:ENS):Prop:=match e.ph with
 | 0=>True
 | 1=>okAl n e.x
 | 2=>True
 | 3=>(eA e.y.N∧(e.y.N.length:Int)≤b)∧0≤e.y.i∧e.y.i<2*t
 | 4=>2*t≤e.y.i∧1≤e.y.l∧e.y.gs.length=e.y.j+e.y.l∧eA e.y.gs∧eA e.y.ks∧(e.y.ks.length:Int)≤b
 | _=>False
structure aBe (t n b:Int) (s:MS) (o:EO):Prop where
 a:Act1 s o.s
 st:stW (b+1) o.st
 w:o.d=false→enI t n (b+1) o.e
theorem NV{t n b:Int}{e:ENS}{st:STS}{s:MS}(hb:Bnd t n s)(hx:enI t n b e)(hst:stW b st)(hbb:b≤900000):KM t n e st s:=by
 obtain⟨ht,hn,hc,hw⟩:=hb;have hl:=hst.ln;refine⟨ht,hn,⟨hc.1,by omega⟩,hst.m,by omega,?_⟩
 match e,hx with
 | ⟨0,sh,dn,x,y⟩,hx=>trivial
 | ⟨1,sh,dn,x,y⟩,hx=>exact hx
 | ⟨2,sh,dn,x,y⟩,hx=>trivial
 | ⟨3,sh,dn,x,y⟩,hx=>
   obtain⟨⟨h1,h2⟩,h3⟩:=hx;exact⟨by dsimp only at h2⊢;omega,h3⟩
 | ⟨4,sh,dn,x,y⟩,hx=>
   obtain⟨a1,a2,a3,a4,a5⟩:=hx;exact⟨a1,a2,a3,DD a4 (by omega)⟩
theorem G7{t n b:Int}{e:ENS}{st:STS}{x:AL}{s s0:MS}(ha:Act1 s0 s)(hst:stW b st)(hg:x.got=0)(hx:1≤x.at'∧x.at'≤n)(hl0:0≤x.left+1)(hl:x.left≤1000):aBe t n b s0 (I9 e st x s):=by
 have hl1:=hst.ln;unfold I9;split
 ·exact⟨ha,⟨hst.m,hst.r,by dsimp only;omega⟩,fun _=>trivial⟩
 ·rename_i h;rw [cC,dF']at h;exact⟨ha,iS hst (by omega),fun _=>⟨hg,hx,by show(0:Int)≤x.left;omega,hl⟩⟩
theorem wR{t n b:Int}{e:ENS}{st:STS}{x:AL}{s:MS}(hn:1≤n)(hst:stW b st)(hx:okAl n x):aBe t n b s (rN n e st x s):=by
 obtain⟨hg,ha,hl⟩:=hx;have hl1:=hst.ln;unfold rN;split
 ·split
  ·exact⟨wE _ _ _ _,⟨hst.m,hst.r,by dsimp only;omega⟩,fun h=>Bool.noConfusion h⟩
  ·exact G7 (wE _ _ _ _) hst rfl (CT hn ha.1) (by dsimp only;omega) (by dsimp only;omega)
 ·split
  ·exact G7 (eM _ _) hst rfl (CT hn ha.1) (by dsimp only;omega) (by dsimp only;omega)
  ·exact⟨eM _ _,iS hst (by omega),fun _=>⟨rfl,ha,hl⟩⟩
theorem NW{t n b:Int}{e:ENS}{st:STS}{s:MS}(hb:Bnd t n s)(hx:enI t n b e)(hst:stW b st):aBe t n b s (enF t n e st s):=by
 obtain⟨ht,hn,hc,hw⟩:=hb;have hl1:=hst.ln;have hst1:stW (b+1) st:=iS hst (by omega)
 match e,hx with
 | ⟨0,sh,dn,x,y⟩,hx=>
   unfold enF;dsimp only;cases hc:ieq st.sp 0 with
   | true=>exact wR hn.1 hst ⟨rfl,SW hn.1,by dsimp only;omega⟩
   | false=>exact⟨eM _ _,hst1,fun h=>Bool.noConfusion h⟩
 | ⟨1,sh,dn,x,y⟩,hx=>exact wR hn.1 hst hx
 | ⟨2,sh,dn,x,y⟩,hx=>
   exact⟨eM _ _,hst1,fun _=>⟨⟨hst.r,by show(st.R.length:Int)≤_;omega⟩,(by decide:(0:Int)≤1),by show(1:Int)<_;omega⟩⟩
 | ⟨3,sh,dn,x,y⟩,hx=>
   obtain⟨⟨hN,hNl⟩,hi0,hi1⟩:=hx;dsimp only at hN hNl hi0 hi1;have hk:=CO (bA y.m n y.i s) y.N;unfold enF;dsimp only;generalize hsm:bA y.m n y.i s=sm at hk⊢;cases h1:ieq (y.i+1) (2*t)with
   | false=>
     have h1:=eJ h1;exact⟨eM _ _,hst1,fun _=>⟨⟨hN,by show((y.N).length :Int)≤_;omega⟩,by show 0≤y.i+1;omega,by show y.i+1<2*t;omega⟩⟩
   | true=>
     have h1:=f9 h1;cases h2:ieq ((a8 sm y.N).length :Int) 0 with
     | true=>exact⟨eM _ _,⟨hst.m,mF hN,by show((cI sm y.N).length :Int)≤_;omega⟩,fun h=>Bool.noConfusion h⟩
     | false=>
       have h2:=eJ h2;exact⟨eM _ _,hst1,fun _=>⟨by show 2*t≤y.i+1;omega,by show 1≤(a8 sm y.N).length;omega,by show(a8 sm y.N).length =0+(a8 sm y.N).length;omega,sX hN,mF hN,by show((cI sm y.N).length :Int)≤_;omega⟩⟩
 | ⟨4,sh,dn,x,y⟩,hx=>
   obtain⟨a1,a2,a3,a4,a5,a6⟩:=hx;dsimp only at a1 a2 a3 a4 a5 a6;unfold enF;dsimp only;cases h1:ieq ((y.l - 1:Nat):Int) 0 with
   | true=>exact⟨nZ _ _ _,⟨hst.m,a5,by show((y.ks).length :Int)≤_;omega⟩,fun _=>trivial⟩
   | false=>
     have h1:=eJ h1;exact⟨nZ _ _ _,hst1,fun _=>⟨a1,by show 1≤y.l - 1;omega,by show(y.gs).length =y.j+1+(y.l - 1);omega,a4,a5,by show((y.ks).length :Int)≤_;omega⟩⟩
def LI(t n b:Int)(y:SWS):Prop:=match y.ph with
 | 0=>True
 | 1=>(eA y.N∧(y.N.length:Int)≤b)∧0≤y.i∧y.i<2*t
 | 2=>2*t≤y.i∧1≤y.l∧y.gs.length=y.j+y.l∧eA y.gs∧eA y.ks∧(y.ks.length:Int)≤b
 | _=>False
structure aGv (t n b:Int) (s:MS) (o:SO):Prop where
 a:Act1 s o.s
 st:stW (b+1) o.st
 w:o.d=false→LI t n (b+1) o.e
theorem aC2{t n b:Int}{e:SWS}{st:STS}{s:MS}(hb:Bnd t n s)(hx:LI t n b e)(hst:stW b st)(hbb:b≤900000):qO t n e st s:=by
 obtain⟨ht,hn,hc,hw⟩:=hb;have hl:=hst.ln;refine⟨ht,hn,⟨hc.1,by omega⟩,by omega,?_⟩
 match e,hx with
 | ⟨0,N,m,i,ks,fs,gs,j,l⟩,hx=>trivial
 | ⟨1,N,m,i,ks,fs,gs,j,l⟩,hx=>
   obtain⟨⟨h1,h2⟩,h3⟩:=hx;exact⟨by dsimp only at h2⊢;omega,h3⟩
 | ⟨2,N,m,i,ks,fs,gs,j,l⟩,hx=>
   obtain⟨a1,a2,a3,a4,a5⟩:=hx;exact⟨a1,a2,a3,DD a4 (by omega)⟩
theorem aC3{t n b:Int}{e:SWS}{st:STS}{s:MS}(hb:Bnd t n s)(hx:LI t n b e)(hst:stW b st):aGv t n b s (swF t n e st s):=by
 obtain⟨ht,hn,hc,hw⟩:=hb;have hl1:=hst.ln;have hst1:stW (b+1) st:=iS hst (by omega)
 match e,hx with
 | ⟨0,N,m,i,ks,fs,gs,j,l⟩,hx=>
   exact⟨eM _ _,hst1,fun _=>⟨⟨hst.r,by show(st.R.length:Int)≤_;omega⟩,(by decide:(0:Int)≤1),by show(1:Int)<_;omega⟩⟩
 | ⟨1,N,m,i,ks,fs,gs,j,l⟩,hx=>
   obtain⟨⟨hN,hNl⟩,hi0,hi1⟩:=hx;dsimp only at hN hNl hi0 hi1;have hk:=CO (bA m n i s) N;unfold swF;dsimp only;generalize hsm:bA m n i s=sm at hk⊢;cases h1:ieq (i+1) (2*t)with
   | false=>
     have h1:=eJ h1;exact⟨eM _ _,hst1,fun _=>⟨⟨hN,by show((N).length :Int)≤_;omega⟩,by show 0≤i+1;omega,by show i+1<2*t;omega⟩⟩
   | true=>
     have h1:=f9 h1;cases h2:ieq ((a8 sm N).length :Int) 0 with
     | true=>exact⟨eM _ _,⟨hst.m,mF hN,by show((cI sm N).length :Int)≤_;omega⟩,fun h=>Bool.noConfusion h⟩
     | false=>
       have h2:=eJ h2;exact⟨eM _ _,hst1,fun _=>⟨by show 2*t≤i+1;omega,by show 1≤(a8 sm N).length;omega,by show(a8 sm N).length =0+(a8 sm N).length;omega,sX hN,mF hN,by show((cI sm N).length :Int)≤_;omega⟩⟩
 | ⟨2,N,m,i,ks,fs,gs,j,l⟩,hx=>
   obtain⟨a1,a2,a3,a4,a5,a6⟩:=hx;dsimp only at a1 a2 a3 a4 a5 a6;unfold swF;dsimp only;cases h1:ieq ((l - 1:Nat):Int) 0 with
   | true=>exact⟨nZ _ _ _,⟨hst.m,a5,by show((ks).length :Int)≤_;omega⟩,fun h=>Bool.noConfusion h⟩
   | false=>
     have h1:=eJ h1;exact⟨nZ _ _ _,hst1,fun _=>⟨a1,by show 1≤l - 1;omega,by show(gs).length =j+1+(l - 1);omega,a4,a5,by show((ks).length :Int)≤_;omega⟩⟩
theorem UV(t n u sh kd ky att:Int):OF t n u sh kd ky att:=⟨⟨rfl,rfl⟩,trivial⟩
theorem aEl(t n:Int){u:Int}(sh kd ky att:Int)(hu:0≤u∧u≤1000):exW t (aBk t n u sh kd ky att):=⟨.inl rfl,hu,⟨(by decide:(0:Int)≤0),(by decide:(0:Int)≤1000)⟩⟩
structure WT (t n b:Int) (st:STS) (x:HPS):Prop where
 h:x.at'=0∨x.at'=1∨x.at'=2∨x.at'=3∨x.at'=4∨x.at'=5∨x.at'=6∨x.at'=7∨x.at'=8∨x.at'=9
 u:0≤x.u∧x.u≤1000
 ex:x.at'=3→exW t x.ex
 en:x.at'=4→enI t n b x.en
 fn:x.at'=5→U3 t x.fn∧LY (b - st.R.length) x.fn
 cl:x.at'=7→YY t x.cl
 ps:0≤x.p.pops∧x.p.pops≤1000
structure aEU (t n b:Int) (s:MS) (o:HpO):Prop where
 a:Act1 s o.s
 st:stW (b+1) o.st
 w:o.d=false→WT t n (b+1) o.st o.x
theorem PH:(0:Int)≤0∧(0:Int)≤1000:=⟨by decide,by decide⟩
theorem ZG{t n b:Int}{x:HPS}{st:STS}{s:MS}(hb:Bnd t n s)(hx:WT t n b st x)(hst:stW b st)(hbb:b≤900000):(hpT t n x st s).run (aEU t n b s):=by
 have hb':=hb;obtain⟨ht,hn,⟨c0,c1⟩,hw⟩:=hb;obtain⟨n0,n1⟩:=hn;obtain⟨t0,t1⟩:=ht;obtain⟨h,hu,hex,hen,hfn,hcl,hps⟩:=hx;have hR0:=hst.ln;have hst1:stW (b+1) st:=iS hst (by omega)
 have hnn:1≤n∧n≤1000:=⟨n0,n1⟩;have hme:=hst.m;obtain⟨u0,u1⟩:=hu;have b0:0≤b:=by omega
 obtain⟨k0,k1⟩:=uU hw (2*n+5+2*t+3*x.1+1);unfold hpT;refine aHr (fun h0=>?c0) (fun h0=>aHr (fun h1=>?c1) (fun h1=>aHr (fun h2=>?c2) (fun h2=>aHr (fun h3=>?c3) (fun h3=>aHr (fun h4=>?c4) (fun h4=>aHr (fun h5=>?c5) (fun h5=>aHr (fun h6=>?c6) (fun h6=>aHr (fun h7=>?c7) (fun h7=>aHr (fun h8=>?c8) (fun h8=>aHr (fun h9=>?c9) (fun h9=>?c10))))))))))
 case' c0=>unfold CD w1y
 case' c1=>unfold CE w1y
 case' c2=>unfold CF w1u w1y
 case' c3=>have he:=hex (f9 h3);have hE:=aBr hb' he;have hEo:=aBq hb' he;have hA:=hE.a;have hS:stW (b+1) {me:=st.me,sp:=st.sp,R:=st.R++ [(ExO.x (A4 t n x.11 s)).1] } :=vF hst hE.p;unfold CG
 case' c4=>have he:=hen (f9 h4);have hE:=NW hb' he hst;have hEo:=NV hb' he hst hbb;have hA:=hE.a;have hS:=hE.st;have hme:=hS.m;have hSl:=hS.ln;unfold CH
 case' c5=>obtain⟨hfw,hfq⟩:=hfn (f9 h5);have hF:=FB hb' hfw hfq (by omega);have hFo:=FA hb' hfw hfq (by omega);have hA:=hF.a;have hQ:=hF.q;have hQl:=hQ.ln;have hS:stW (b+1) {me:=st.me,sp:=st.sp,R:=st.R++(aN t n x.fn s).x.ul } :=yX hst hQ;have hcu:=hQ.cu;unfold CI w1t w1x
 case' c6=>unfold CJ w1y
 case' c7=>have hc:=hcl (f9 h7);have hC:=x1 hb' hc;have hCo:=EE hb' hc;have hA:=hC.a;unfold CK
 case' c8=>have hP:=P6 (st:=st) hb' (show ZQ t x.pr from⟨trivial⟩);have hPo:=P5 (st:=st) hb' (show ZQ t x.pr from⟨trivial⟩);have hA:=hP.a;have hPs:stW (b+1) (prF t n x.pr st s).st :=(by rw [hP.st];exact hst1);unfold CL
 case' c9=>have hD:=KW (HPS.p x).1 (HPS.p x).2 (HPS.p x).3 (HPS.p x).4 (HPS.p x).5 (HPS.p x).6 (HPS.p x).7 (HPS.p x).8 (HPS.p x).9 (aA x.6 0 12);have hDo:=KX (HPS.p x).1 (HPS.p x).2 (HPS.p x).3 (HPS.p x).4 (HPS.p x).5 (HPS.p x).6 (HPS.p x).7 (HPS.p x).8 (HPS.p x).9 (aA x.6 0 12);have hS3:stW (b+1) {me:=st.me,sp:=0,R:=st.R} :=QT hst 0;unfold CM w1v w1y
 case c10=>
  simp only [cN,beq_eq_false_iff_ne]at h0 h1 h2 h3 h4 h5 h6 h7 h8 h9;rcases h with e | e | e | e | e | e | e | e | e | e<;>contradiction
 all_goals (repeat' (with_reducible first | exact trivial | rfl | assumption | refine aHs ?_ ?_ | refine Tr.run_ite (fun _=>?_) (fun _=>?_) | refine aHu ?_ | refine And.intro ?_ ?_))
 all_goals first
  | exact aY
  | (simp only [List.length_append,List.length_singleton];done)
  | exact UV _ _ _ _ _ _ _
  | exact qH hnn hme (dO _ _)
  | exact C2 _ _ _ _ _ _ _ hcu
  | exact xB _
  | exact uZ _ _ _ _ _ _ _ _ _
  | exact jF _ _ _
  | exact H1 _ _ _ _ _
  | (simp only [List.length_append];done)
  | (refine⟨by first | assumption | exact aY,?_,fun hd=>?_⟩
     ·first
       | assumption
       | (dsimp only;rw [P1];assumption)
     ·first
       | exact Bool.noConfusion hd
       | (refine⟨by dsimp only;decide,⟨u0,u1⟩,?_,?_,?_,?_,?_⟩<;>first | (exact nE') | exact hps | exact PH | (intro _;dsimp only;with_reducible exact aEl _ _ _ _ _ _ ⟨u0,u1⟩) | (intro _;exact trivial) | (intro _;exact⟨BI (t:=t) (n:=n) hnn hme (dO _ _),eR (BH (t:=t) (n:=n) hnn hme (dO _ _)) (by dsimp only;omega)⟩) | (intro _;exact hE.w (by assumption)) | (intro _;exact⟨hF.w (by assumption),eR hQ (by dsimp only;omega)⟩) | (intro _;dsimp only;with_reducible exact EC _ _ _) | exact xC _ _ _ _ _ _ _ hcu | (intro _;exact hC.w (by assumption))))
theorem O1{t n b:Int}{x:HPS}{st:STS}{s:MS}(hb:Bnd t n s)(hx:WT t n b st x)(hst:stW b st)(hbb:b≤900000):OZ t n x st s:=aHF (ZG hb hx hst hbb)
theorem O2{t n b:Int}{x:HPS}{st:STS}{s:MS}(hb:Bnd t n s)(hx:WT t n b st x)(hst:stW b st)(hbb:b≤900000):aEU t n b s (gV t n x st s):=aHB (ZG hb hx hst hbb)
theorem aB9{t n b u no lim:Int}{st:STS}(hu:0≤u∧u≤1000):(J5 t n u no lim st).run (fun r=>WT t n b st r.1∧r.2=st):=by
 unfold J5
 (repeat' (with_reducible first | exact trivial | rfl | assumption | refine aHs ?_ ?_ | refine Tr.run_ite (fun _=>?_) (fun _=>?_) | refine aHu ?_ | refine And.intro ?_ ?_))
 all_goals first
  | exact aY
  | exact⟨by dsimp only;decide,hu,fun e=>absurd e (by dsimp only;decide),fun e=>absurd e (by dsimp only;decide),fun e=>absurd e (by dsimp only;decide),fun e=>absurd e (by dsimp only;decide),PH⟩
theorem XS{s k y:Int}(h:cA s k y=true):rngU (tskV s k y):=by
 have h:=mD.1 h;unfold tskV;refine⟨?_,?_⟩<;>omega
theorem VW(t n:Int):OU t n:=⟨⟨rfl,rfl⟩,trivial⟩
theorem aEN(t n:Int):hdW t (aBX t n):=⟨⟨(by decide:(0:Int)≤0),(by decide:(0:Int)≤1000)⟩,⟨(by decide:(-1:Int)≤ -1),(by decide:(-1:Int)≤1000)⟩⟩
theorem UB(t n u:Int):sH t n u:=⟨⟨rfl,rfl⟩,trivial⟩
theorem aDV(t n:Int){u:Int}(hu:0≤u∧u≤1000):drW t (AW t n u):=⟨hu,⟨(by decide:(0:Int)≤0),(by decide:(0:Int)≤2)⟩⟩
theorem SZ(t n u:Int):MI t n u:=⟨⟨rfl,rfl⟩,trivial⟩
theorem aDL(t n:Int){u:Int}(hu:0≤u∧u≤1000):awW t (aAk t n u):=⟨hu⟩
theorem SS(t n u sh kd ky:Int):MG t n u sh kd ky:=⟨trivial,⟨rfl,rfl⟩,trivial⟩
theorem aDG(t n:Int){u:Int}(sh kd ky:Int)(hu:0≤u∧u≤1000):anW t (aAc t n u sh kd ky):=⟨.inl rfl,hu,yV XS C8,C8⟩
theorem WM(t n u no lim:Int)(st:STS):CC t n u no lim st:=by
 unfold CC J5;exact⟨⟨⟨rfl,rfl,rfl⟩,by decide⟩,trivial⟩
theorem ZF{t n b u no lim:Int}{st:STS}(hu:0≤u∧u≤1000):WT t n b st (vZ t n u no lim st).1:=(aHB (aB9 (b:=b) hu)).1
theorem U7{t n b:Int}(sh kd ky most:Int){st:STS}(hn:1≤n∧n≤1000)(hst:stW b st):uN t n sh kd ky most st:=aHF (FC hn hst)
theorem aEr{t n b:Int}(sh kd ky most:Int){st:STS}(hn:1≤n∧n≤1000)(hst:stW b st):VD t b st (kB t n sh kd ky most st).1:=(aHB (FC (t:=t) hn hst)).1
theorem OL{t n b:Int}(sh kd ky most:Int){st:STS}(hn:1≤n∧n≤1000)(hst:stW b st):(kB t n sh kd ky most st).2=st:=(aHB (FC (t:=t) hn hst)).2
structure T8 (t n b:Int) (st:STS) (x:DOS):Prop where
 h:x.at'=0∨x.at'=1∨x.at'=2∨x.at'=3∨x.at'=4∨x.at'=5∨x.at'=6∨x.at'=7∨x.at'=8∨x.at'=9
 hd:x.at'=0→hdW t x.hd
 hp:x.at'=1∨x.at'=5→WT t n b st x.hp
 en:x.at'=2→enI t n b x.en
 ft:x.at'=3→VD t b st x.ft
 an:x.at'=4→anW t x.an
 aw:x.at'=6→awW t x.aw
 fn:x.at'=7→U3 t x.fn∧LY (b - st.R.length) x.fn
 dr:x.at'=8→drW t x.dr
 sw:x.at'=9→LI t n b x.sw
structure aDT (t n b:Int) (s:MS) (o:DqO):Prop where
 a:Act1 s o.s
 st:stW (b+1) o.st
 w:o.d=false→T8 t n (b+1) o.st o.x
theorem Y1{t n b:Int}{x:DOS}{st:STS}{s:MS}(hb:Bnd t n s)(hx:T8 t n b st x)(hst:stW b st)(hbb:b≤900000):(dqT t n x st s).run (aDT t n b s):=by
 have hb':=hb;obtain⟨ht,hn,⟨c0,c1⟩,hw⟩:=hb;obtain⟨n0,n1⟩:=hn;obtain⟨t0,t1⟩:=ht;obtain⟨h,xhd,xhp,xen,xft,xan,xaw,xfn,xdr,xsw⟩:=hx;have hR0:=hst.ln;have hst1:stW (b+1) st:=iS hst (by omega)
 have hnn:1≤n∧n≤1000:=⟨n0,n1⟩;have hme:=hst.m;have b0:0≤b:=by omega
 unfold dqT;refine aHr (fun h0=>?c0) (fun h0=>aHr (fun h1=>?c1) (fun h1=>aHr (fun h2=>?c2) (fun h2=>aHr (fun h3=>?c3) (fun h3=>aHr (fun h4=>?c4) (fun h4=>aHr (fun h5=>?c5) (fun h5=>aHr (fun h6=>?c6) (fun h6=>aHr (fun h7=>?c7) (fun h7=>aHr (fun h8=>?c8) (fun h8=>aHr (fun h9=>?c9) (fun h9=>?c10))))))))))
 case' c0=>have hc:=xhd (f9 h0);have hC:=aB5 hb' hc;have hCo:=aB4 hb' hc;have hA:=hC.a;have hS:=hst1;have hSl:=hS.ln;obtain⟨v0,v1⟩:=hC.p;unfold AM w2d w27 w28
 case' c1=>have hc:=xhp (.inl (f9 h1));have hC:=O2 hb' hc hst hbb;have hCo:=O1 hb' hc hst hbb;have hA:=hC.a;have hS:=hC.st;have hme:=hS.m;have hSl:=hS.ln;unfold AN w25 w2a w28
 case' c2=>have hc:=xen (f9 h2);have hC:=NW hb' hc hst;have hCo:=NV hb' hc hst hbb;have hA:=hC.a;have hS:=hC.st;have hme:=hS.m;have hSl:=hS.ln;unfold AO w28
 case' c3=>have hc:=xft (f9 h3);have hC:=aBH hb' hc hst hbb;have hCo:=aBG hb' hc hst hbb;have hA:=hC.a;have hS:=hC.st;have hme:=hS.m;have hSl:=hS.ln;unfold AP w22 w29 w28
 case' c4=>have hc:=xan (f9 h4);have hC:=aAj hb' hc;have hCo:=aAi hb' hc;have hA:=hC.a;have hS:=hst1;have hSl:=hS.ln;unfold AQ w28
 case' c5=>have hc:=xhp (.inr (f9 h5));have hC:=O2 hb' hc hst hbb;have hCo:=O1 hb' hc hst hbb;have hA:=hC.a;have hS:=hC.st;have hme:=hS.m;have hSl:=hS.ln;unfold AR w2a w28
 case' c6=>have hc:=xaw (f9 h6);have hC:=aAs hb' hc;have hCo:=aAr hb' hc;have hA:=hC.a;have hS:=hst1;have hSl:=hS.ln;unfold AS w24 w28
 case' c7=>obtain⟨hfw,hfq⟩:=xfn (f9 h7);have hF:=FB hb' hfw hfq (by omega);have hFo:=FA hb' hfw hfq (by omega);have hA:=hF.a;have hQ:=hF.q;have hQl:=hQ.ln;have hS:stW (b+1) {me:=st.me,sp:=st.sp,R:=st.R++(aN t n x.fn s).x.ul } :=yX hst hQ;unfold AT w28
 case' c8=>have hc:=xdr (f9 h8);have hC:=aA2 hb' hc;have hCo:=aA1 hb' hc;have hA:=hC.a;have hS:=hst1;unfold AU w28
 case' c9=>have hc:=xsw (f9 h9);have hC:=aC3 hb' hc hst;have hCo:=aC2 hb' hc hst hbb;have hA:=hC.a;have hS:=hC.st;unfold AV w28
 case c10=>
  simp only [cN,beq_eq_false_iff_ne]at h0 h1 h2 h3 h4 h5 h6 h7 h8 h9;rcases h with e | e | e | e | e | e | e | e | e | e<;>contradiction
 all_goals (repeat' (with_reducible first | exact trivial | rfl | assumption | refine aHs ?_ ?_ | refine Tr.run_ite (fun _=>?_) (fun _=>?_) | refine aHu ?_ | refine And.intro ?_ ?_))
 all_goals first
  | exact aY
  | (intro _;decide)
  | assumption
  | exact UB _ _ _
  | exact SZ _ _ _
  | exact SS _ _ _ _ _ _
  | exact WM _ _ _ _ _ _
  | exact qH hnn hme (dO _ _)
  | exact U7 _ _ _ _ hnn hS
  | (simp only [List.length_append,List.length_singleton];done)
  | (refine⟨by first | assumption | exact aY,by first | assumption | (dsimp only;rw [OL _ _ _ _ hnn hS];assumption),fun hd=>?_⟩
     first
      | exact Bool.noConfusion hd
      | (refine⟨by dsimp only;decide,?_,?_,?_,?_,?_,?_,?_,?_,?_⟩<;>first | (exact nE') | (intro _;exact hC.w (by assumption)) | (intro _;exact ZF ⟨by first | omega | (simp_all [cC,aU];done) | (simp_all [cC,aU];omega),v1⟩) | (intro _;exact trivial) | (intro _;dsimp only;rw [OL _ _ _ _ hnn hS];exact aEr _ _ _ _ hnn hS) | (intro _;dsimp only;with_reducible exact aDL _ _ hme) | (intro _;dsimp only;with_reducible exact aDV _ _ hme) | (intro _;dsimp only;with_reducible exact aDG _ _ _ _ _ hme) | (intro _;exact⟨BI (t:=t) (n:=n) hnn hme (dO _ _),eR (BH (t:=t) (n:=n) hnn hme (dO _ _)) (by dsimp only;omega)⟩) | (intro _;exact ZF hme) | (intro _;exact⟨hF.w (by assumption),eR hQ (by dsimp only;omega)⟩)))
theorem aAT{t n b:Int}{x:DOS}{st:STS}{s:MS}(hb:Bnd t n s)(hx:T8 t n b st x)(hst:stW b st)(hbb:b≤900000):TN t n x st s:=aHF (Y1 hb hx hst hbb)
theorem aAU{t n b:Int}{x:DOS}{st:STS}{s:MS}(hb:Bnd t n s)(hx:T8 t n b st x)(hst:stW b st)(hbb:b≤900000):aDT t n b s (tJ t n x st s):=aHB (Y1 hb hx hst hbb)
theorem aAG{t n b:Int}(sh kd ky lim:Int)(st:STS):(NE t n sh kd ky lim st).run (fun r=>T8 t n b st r.1∧r.2=st):=by
 unfold NE
 (repeat' (with_reducible first | exact trivial | rfl | assumption | refine aHs ?_ ?_ | refine Tr.run_ite (fun _=>?_) (fun _=>?_) | refine aHu ?_ | refine And.intro ?_ ?_))
 all_goals first
  | exact aY
  | exact VW _ _
  | (intro _;decide)
  | (refine⟨by dsimp only;decide,fun _=>aEN t n,?_,?_,?_,?_,?_,?_,?_,?_⟩<;>(exact nE'))
structure hstW (e c:Int) (x:HST):Prop where
 he:(x.ev.length:Int)≤e
 hc:(x.cl.length:Int)≤c
 n0:0≤x.n0∧x.n0≤(x.cl.length:Int)
 n1:0≤x.n1∧x.n1≤(x.cl.length:Int)
 n2:0≤x.n2∧x.n2≤(x.cl.length:Int)
 n3:0≤x.n3∧x.n3≤(x.cl.length:Int)
 n4:0≤x.n4∧x.n4≤(x.cl.length:Int)
 n5:0≤x.n5∧x.n5≤(x.cl.length:Int)
 n6:0≤x.n6∧x.n6≤(x.cl.length:Int)
 n7:0≤x.n7∧x.n7≤(x.cl.length:Int)
theorem jQ{e c e' c':Int}{x:HST}(h:hstW e c x)(h1:e≤e')(h2:c≤c'):hstW e' c' x:=⟨Int.le_trans h.he h1,Int.le_trans h.hc h2,h.n0,h.n1,h.n2,h.n3,h.n4,h.n5,h.n6,h.n7⟩
theorem nJ{P:Prop}(h:P:=by first | omega | (dsimp only;omega) | (simp only [List.length_append,List.length_singleton,List.length_set,List.length_cons,List.length_nil];done) | (simp only [List.length_append,List.length_singleton,List.length_set,List.length_cons,List.length_nil];omega) | (dsimp only;simp only [List.length_append,List.length_singleton,List.length_set];omega)):P:=h
theorem aEJ{e c th:Int}{x:HST}(kd ky:Int)(h:hstW e c x)(he:e≤1000000)(hc:c≤1000000)(h0:0≤th∧th<8):(hbT th x kd ky).run (fun r=>hstW (e+1) (c+1) r.2):=by
 have hh:=h;obtain⟨a,b,m0,m1,m2,m3,m4,m5,m6,m7⟩:=h;unfold hbT;refine aHr (fun q0=>?c0) (fun q0=>aHr (fun q1=>?c1) (fun q1=>aHr (fun q2=>?c2) (fun q2=>aHr (fun q3=>?c3) (fun q3=>aHr (fun q4=>?c4) (fun q4=>aHr (fun q5=>?c5) (fun q5=>aHr (fun q6=>?c6) (fun q6=>aHr (fun q7=>?c7) (fun q7=>?c8))))))))
 case' c0=>unfold BW w2i w2h w2g
 case' c1=>unfold BX w2i w2h w2g
 case' c2=>unfold BY w2i w2h w2g
 case' c3=>unfold BZ w2i w2h w2g
 case' c4=>unfold B0 w2i w2h w2g
 case' c5=>unfold B1 w2i w2h w2g
 case' c6=>unfold B2 w2i w2h w2g
 case' c7=>unfold B3 w2i w2h w2g
 case c8=>
  have q0:=eJ q0;have q1:=eJ q1;have q2:=eJ q2;have q3:=eJ q3;have q4:=eJ q4;have q5:=eJ q5;have q6:=eJ q6;have q7:=eJ q7;omega
 all_goals (repeat' (with_reducible first | exact trivial | rfl | assumption | refine aHs ?_ ?_ | refine Tr.run_ite (fun _=>?_) (fun _=>?_) | refine aHu ?_ | refine And.intro ?_ ?_))
 all_goals first
  | exact aY
  | exact jQ hh (by omega) (by omega)
  | exact nJ
  | (refine⟨?_,?_,?_,?_,?_,?_,?_,?_,?_,?_⟩<;>exact nJ)
theorem ZE{e c th:Int}{x:HST}(code:Int)(okk:Bool)(val:Int)(h:hstW e c x)(he:e≤1000000)(hc:c≤1000000)(h0:0≤th∧th<8):(heT th x code okk val).run (fun r=>hstW (e+1) (c) r.2):=by
 have hh:=h;obtain⟨a,b,m0,m1,m2,m3,m4,m5,m6,m7⟩:=h;unfold heT;refine aHr (fun q0=>?c0) (fun q0=>aHr (fun q1=>?c1) (fun q1=>aHr (fun q2=>?c2) (fun q2=>aHr (fun q3=>?c3) (fun q3=>aHr (fun q4=>?c4) (fun q4=>aHr (fun q5=>?c5) (fun q5=>aHr (fun q6=>?c6) (fun q6=>aHr (fun q7=>?c7) (fun q7=>?c8))))))))
 case' c0=>unfold B4 w2k w30 w2z;have hW:=cV (x:=x.n0 - 1) ⟨by omega,by omega⟩;change W (x.n0 - 1)=x.n0 - 1 at hW
 case' c1=>unfold B5 w2l w30 w2z;have hW:=cV (x:=x.n1 - 1) ⟨by omega,by omega⟩;change W (x.n1 - 1)=x.n1 - 1 at hW
 case' c2=>unfold B6 w2m w30 w2z;have hW:=cV (x:=x.n2 - 1) ⟨by omega,by omega⟩;change W (x.n2 - 1)=x.n2 - 1 at hW
 case' c3=>unfold B7 w2n w30 w2z;have hW:=cV (x:=x.n3 - 1) ⟨by omega,by omega⟩;change W (x.n3 - 1)=x.n3 - 1 at hW
 case' c4=>unfold B8 w2o w30 w2z;have hW:=cV (x:=x.n4 - 1) ⟨by omega,by omega⟩;change W (x.n4 - 1)=x.n4 - 1 at hW
 case' c5=>unfold B9 w2p w30 w2z;have hW:=cV (x:=x.n5 - 1) ⟨by omega,by omega⟩;change W (x.n5 - 1)=x.n5 - 1 at hW
 case' c6=>unfold CA w2q w30 w2z;have hW:=cV (x:=x.n6 - 1) ⟨by omega,by omega⟩;change W (x.n6 - 1)=x.n6 - 1 at hW
 case' c7=>unfold CB w2j w30 w2z;have hW:=cV (x:=x.n7 - 1) ⟨by omega,by omega⟩;change W (x.n7 - 1)=x.n7 - 1 at hW
 case c8=>
  have q0:=eJ q0;have q1:=eJ q1;have q2:=eJ q2;have q3:=eJ q3;have q4:=eJ q4;have q5:=eJ q5;have q6:=eJ q6;have q7:=eJ q7;omega
 all_goals (repeat' (with_reducible first | exact trivial | rfl | assumption | refine aHs ?_ ?_ | refine Tr.run_ite (fun _=>?_) (fun _=>?_) | refine aHu ?_ | refine And.intro ?_ ?_))
 all_goals first
  | exact aY
  | exact jQ hh (by omega) (by omega)
  | exact nJ
  | (rw [hW];simp only [aU,Bool.not_eq_false',dT',Bool.not_eq_true',dF']at*;first | omega | exact nJ)
  | (refine⟨?_,?_,?_,?_,?_,?_,?_,?_,?_,?_⟩<;>exact nJ)
theorem OM{t b c:Int}{st:STS}{x:FTS}(h:VD t b st x)(hbc:b≤c):VD t c st x:=⟨h.h,fun e=>⟨(h.fn e).1,eR (h.fn e).2 (by omega)⟩,h.cl,h.ps⟩
theorem A1{t n b c:Int}{e:ENS}(hx:enI t n b e)(hbc:b≤c):enI t n c e:=by
 match e,hx with
 | ⟨0,sh,dn,x,y⟩,hx=>trivial
 | ⟨1,sh,dn,x,y⟩,hx=>exact hx
 | ⟨2,sh,dn,x,y⟩,hx=>trivial
 | ⟨3,sh,dn,x,y⟩,hx=>exact⟨⟨hx.1.1,Int.le_trans hx.1.2 hbc⟩,hx.2⟩
 | ⟨4,sh,dn,x,y⟩,hx=>exact⟨hx.1,hx.2.1,hx.2.2.1,hx.2.2.2.1,hx.2.2.2.2.1,Int.le_trans hx.2.2.2.2.2 hbc⟩
theorem LJ{t n b c:Int}{e:SWS}(hx:LI t n b e)(hbc:b≤c):LI t n c e:=by
 match e,hx with
 | ⟨0,N,m,i,ks,fs,gs,j,l⟩,hx=>trivial
 | ⟨1,N,m,i,ks,fs,gs,j,l⟩,hx=>exact⟨⟨hx.1.1,Int.le_trans hx.1.2 hbc⟩,hx.2⟩
 | ⟨2,N,m,i,ks,fs,gs,j,l⟩,hx=>exact⟨hx.1,hx.2.1,hx.2.2.1,hx.2.2.2.1,hx.2.2.2.2.1,Int.le_trans hx.2.2.2.2.2 hbc⟩
theorem O0{t n b c:Int}{st:STS}{x:HPS}(h:WT t n b st x)(hbc:b≤c):WT t n c st x:=⟨h.h,h.u,h.ex,fun e=>A1 (h.en e) hbc,fun e=>⟨(h.fn e).1,eR (h.fn e).2 (by omega)⟩,h.cl,h.ps⟩
theorem NF{t n b c:Int}{st:STS}{x:DOS}(h:T8 t n b st x)(hbc:b≤c):T8 t n c st x:=⟨h.h,h.hd,fun e=>O0 (h.hp e) hbc,fun e=>A1 (h.en e) hbc,fun e=>OM (h.ft e) hbc,h.an,h.aw,fun e=>⟨(h.fn e).1,eR (h.fn e).2 (by omega)⟩,h.dr,fun e=>LJ (h.sw e) hbc⟩
structure YK (t n b:Int) (w:WKS):Prop where
 ht:w.t=t
 hn:w.n=n
 st:stW b w.st
 d:w.b=true→T8 t n b w.st w.d∧w.en<(w.tk.length:Int)
 e0:0≤w.en
 e1:w.en≤(w.tk.length:Int)
 tl:(w.tl.length:Int)=w.en+(bif w.b then 1 else 0)
 sl:(w.sl.length:Int)≤w.en
 tk:(w.tk.length:Int)≤100000
structure RR (t n b:Int) (w:WK1):Prop where
 ht:w.t=t
 hn:w.n=n
 st:stW b w.st
 d:T8 t n b w.st w.d
 e0:0≤w.en
 e1:w.en<(w.tk.length:Int)
 tl:(w.tl.length:Int)=w.en+1
 sl:(w.sl.length:Int)≤w.en
 tk:(w.tk.length:Int)≤100000
theorem RT{t n b c:Int}{w:WKS}(h:YK t n b w)(hbc:b≤c):YK t n c w:=⟨h.ht,h.hn,iS h.st hbc,fun e=>⟨NF (h.d e).1 hbc,(h.d e).2⟩,h.e0,h.e1,h.tl,h.sl,h.tk⟩
theorem RO{t n b tr:Int}{w:WKS}(h:YK t n b w)(hb:w.b=false)(hl:w.en<(w.tk.length:Int)):(LS tr w).run (RR t n b):=by
 obtain⟨rfl,rfl,hst,hd,e0,e1,htl,hsl,htk⟩:=h;rw [hb]at htl;have htl:(w.tl.length:Int)=w.en+0:=htl;have hN:=fun sh kd ky lim=>aAG (t:=w.t) (n:=w.n) (b:=b) sh kd ky lim w.st;unfold LS w33
 (repeat' (with_reducible first | exact trivial | rfl | assumption | refine aHs ?_ ?_ | refine Tr.run_ite (fun _=>?_) (fun _=>?_) | refine aHu ?_ | refine And.intro ?_ ?_))
 all_goals first
  | exact aY
  | exact aHF (hN _ _ _ _)
  | (simp only [List.length_append,List.length_singleton];done)
  | (refine⟨rfl,rfl,?_,?_,e0,hl,?_,hsl,htk⟩
     ·dsimp only;rw [show(dqNF _ _ _ _ _ _ _).2=w.st from(aHB (hN _ _ _ _)).2];exact hst
     ·dsimp only;rw [show(dqNF _ _ _ _ _ _ _).2=w.st from(aHB (hN _ _ _ _)).2];exact(aHB (hN _ _ _ _)).1
     ·dsimp only;rw [List.length_append,List.length_singleton];omega)
theorem aC8{t n b tr:Int}{w:WKS}(h:YK t n b w)(hl:w.en<(w.tk.length:Int)):RP tr w:=by
 unfold RP;cases hb:w.b with
 | true=>trivial
 | false=>exact aHF (RO h hb hl)
theorem aC9{t n b tr:Int}{w:WKS}(h:YK t n b w)(hl:w.en<(w.tk.length:Int)):RR t n b (wbF tr w):=by
 unfold wbF;cases hb:w.b with
 | true=>
   obtain⟨h1,h2,h3,h4,h5,h6,h7,h8,h9⟩:=h;rw [hb]at h7;exact⟨h1,h2,h3,(h4 hb).1,h5,hl,h7,h8,h9⟩
 | false=>exact aHB (RO h hb hl)
structure aFC (t n b:Int) (s:MS) (o:WkO):Prop where
 a:Act1 s o.s
 w:YK t n (b+1) o.x
theorem Z3{t n b:Int}{w:WK1}{s:MS}(hb:Bnd t n s)(h:RR t n b w)(hbb:b≤900000):(wsT w s).run (aFC t n b s):=by
 obtain⟨rfl,rfl,hst,hd,e0,e1,htl,hsl,htk⟩:=h;have hD:=aAU hb hd hst hbb;have hDo:=aAT hb hd hst hbb;have hA:=hD.a;have hW:W (w.en+1)=w.en+1:=cV ⟨by omega,by omega⟩
 unfold wsT w35 w34
 (repeat' (with_reducible first | exact trivial | rfl | assumption | refine aHs ?_ ?_ | refine Tr.run_ite (fun _=>?_) (fun _=>?_) | refine aHu ?_ | refine And.intro ?_ ?_))
 all_goals first
  | exact aY
  | (simp only [List.length_append,List.length_singleton,List.length_set];done)
  | (refine⟨hA,⟨rfl,rfl,hD.st,?_,?_,?_,?_,?_,htk⟩⟩
     ·first
       | (intro e;exact Bool.noConfusion e)
       | (intro e;exact⟨hD.w (by assumption),e1⟩)
     ·first | exact e0 | (dsimp only;rw [hW];omega)
     ·first | (dsimp only;omega) | (dsimp only;rw [hW];omega)
     ·dsimp only;rw [List.length_set]
      first | (rw [hW];show _=w.en+1+0;omega) | (show _=w.en+1;omega)
     ·dsimp only
      first | (rw [hW];simp only [List.length_append,List.length_singleton];omega) | (rw [hW];omega) | omega)
theorem aDg{t n b:Int}{w:WK1}{s:MS}(hb:Bnd t n s)(h:RR t n b w)(hbb:b≤900000):YL w s:=aHF (Z3 hb h hbb)
theorem aDh{t n b:Int}{w:WK1}{s:MS}(hb:Bnd t n s)(h:RR t n b w)(hbb:b≤900000):aFC t n b s (wsF w s):=aHB (Z3 hb h hbb)
structure egW (t n:Int) (x:EGS):Prop where
 ht:1≤t∧t≤8
 hn:1≤n∧n≤1000
 st:x.s.t=t
 sn:x.s.n=n
 xt:x.th=t
 xn:x.nd=n
 k:0≤x.k∧x.k≤60000
 c:x.s.c=x.k
 w:W8 x.s.xs
 l:(x.ws.length:Int)=t
 ws: ∀i,i<x.ws.length→YK t n x.k (bB x.ws i)
 h:hstW (2*x.k) x.k x.h
theorem RS{ws:List WKS}{i j:Nat}{w:WKS}(hi:i<ws.length):bB (cU ws i w) j=if i=j then w else bB ws j:=by
 unfold bB cU;rw [gD',List.getElem?_set,gD']
 by_cases e:i=j
 ·subst e;rw [if_pos rfl,if_pos rfl,if_pos hi];rfl
 ·rw [if_neg e,if_neg e]
theorem xN(ws:List WKS)(i:Nat)(w:WKS):(cU ws i w).length =ws.length:=by unfold cU;exact List.length_set
theorem GV{ws:List WKS}{i:Nat}(hi:i<ws.length):cU ws i (bB ws i)=ws:=by
 unfold cU bB;apply List.ext_getElem
 ·simp
 ·intro j h1 h2;rw [List.getElem_set];split
  ·rename_i e;subst e;rw [gD',gE' hi];rfl
  ·rfl
structure XC (t n:Int) (x:EGS) (r:Bool×EGS):Prop where
 no:r.1=false→r.2=x
 yes:r.1=true→egW t n r.2∧r.2.k=x.k+1∧r.2.sh=x.sh∧r.2.tr=x.tr
 w:egW t n r.2
theorem tN{t n:Int}{x:EGS}(h:egW t n x):XC t n x (false,x):=⟨fun _=>rfl,fun e=>Bool.noConfusion e,h⟩
theorem qP{t n:Int}{x:EGS}{s:MS}{h:HST}{i:Nat}{w:WKS}(hx:egW t n x)(hk:x.k<60000)(hi:i<x.ws.length)(ha:Act1 x.s s)(hw:YK t n (x.k+1) w)(hh:hstW (2*(x.k+1)) (x.k+1) h):
 XC t n x (true,{sh:=x.sh,th:=x.th,nd:=x.nd,tr:=x.tr,s:=s,h:=h,ws:=cU x.ws i w,k:=W (x.k+1) }):=by
 obtain⟨ht,hn,st,sn,xt,xn,k,c,wd,l,ws,hst⟩:=hx;have hW:W (x.k+1)=x.k+1:=cV ⟨by omega,by omega⟩
 rw [hW]
 have hr:egW t n {sh:=x.sh,th:=x.th,nd:=x.nd,tr:=x.tr,s:=s,h:=h,ws:=cU x.ws i w,k:=x.k+1} :=by
  refine⟨ht,hn,ha.t.trans st,ha.n.trans sn,xt,xn,?_,?_,ha.w wd,?_,?_,hh⟩
  ·dsimp only;omega
  ·dsimp only;rw [ha.c,c]
  ·dsimp only;rw [xN];exact l
  ·intro j hj;dsimp only at hj⊢;rw [xN]at hj;rw [RS hi];split
   ·exact hw
   ·exact RT (ws j hj) (by omega)
 exact⟨fun e=>Bool.noConfusion e,fun _=>⟨hr,rfl,rfl,rfl⟩,hr⟩
theorem ZO{t n:Int}{x:EGS}(th:Int)(hx:egW t n x):(pkT th x).run (XC t n x):=by
 have hx':=hx;obtain⟨ht,hn,st,sn,xt,xn,hk,hc,wd,hl,hws,hst⟩:=hx;have hB:Bnd t n x.s:=⟨⟨ht.1,by omega⟩,hn,by omega,wd⟩
 unfold pkT w38 w39;refine Tr.run_ite (fun e1=>?_) (fun e1=>Tr.run_ite (fun e2=>?_) (fun e2=>?_))
 · (repeat' (with_reducible first | exact trivial | rfl | assumption | refine aHs ?_ ?_ | refine Tr.run_ite (fun _=>?_) (fun _=>?_) | refine aHu ?_ | refine And.intro ?_ ?_));exact tN hx'
 · (repeat' (with_reducible first | exact trivial | rfl | assumption | refine aHs ?_ ?_ | refine Tr.run_ite (fun _=>?_) (fun _=>?_) | refine aHu ?_ | refine And.intro ?_ ?_));exact tN hx'
 rw [aU,dF']at e1;rw [cC,dF']at e2;have hi:0+Int.toNat th*1<x.ws.length:=by omega
 have hw:=hws _ hi;have hself:=GV hi;generalize hig:0+Int.toNat th*1=i at*;refine aHs ⟨by omega,by omega⟩ (aHs hi (aHs trivial (Tr.run_ite (fun e3=>?_) (fun e3=>Tr.run_ite (fun e4=>?_) (fun e4=>?_)))))
 · (repeat' (with_reducible first | exact trivial | rfl | assumption | refine aHs ?_ ?_ | refine Tr.run_ite (fun _=>?_) (fun _=>?_) | refine aHu ?_ | refine And.intro ?_ ?_))
   all_goals first | assumption | (rw [hself];exact tN hx')
 · (repeat' (with_reducible first | exact trivial | rfl | assumption | refine aHs ?_ ?_ | refine Tr.run_ite (fun _=>?_) (fun _=>?_) | refine aHu ?_ | refine And.intro ?_ ?_))
   all_goals first | assumption | (rw [hself];exact tN hx')
 rw [cC,dF']at e4
 have hen:(bB x.ws i).en <((bB x.ws i).tk.length :Int):=by
  have h0:=hw.e0;have h1:=hw.e1;have h2:=hw.tk;have h3:=eJ e3;have hW:=cV (x:=((bB x.ws i).tk.length :Int) - (bB x.ws i).en) ⟨by omega,by omega⟩
  have h4:W (((bB x.ws i).tk.length :Int) - (bB x.ws i).en)≠0:=h3;have hW:W (((bB x.ws i).tk.length :Int) - (bB x.ws i).en)=((bB x.ws i).tk.length :Int) - (bB x.ws i).en :=hW;rw [hW]at h4;omega
 have h1w:=aC9 (tr:=x.tr) hw hen;have h1o:=aC8 (tr:=x.tr) hw hen;refine aHs h1o ?_;have hS:=aDh hB h1w (by omega)
 have hSo:=aDg hB h1w (by omega)
 generalize wbF x.tr (bB x.ws i)=w1 at*;generalize hsg:wsF w1 x.s=o at*;have hth:0≤th∧th<8:=by omega
 refine Tr.run_ite (fun e5=>?_) (fun e5=>?_)
 ·have hH:=aEJ (th:=th) (kd:=(WK1.d w1).6) (ky:=(WK1.d w1).7) hst (by omega) (by omega) hth
  have hHo:hbOk th x.h (WK1.d w1).6 (WK1.d w1).7:=aHF hH;have hHv:hstW (2*x.k+1) (x.k+1) (hbF th x.h (WK1.d w1).6 (WK1.d w1).7).2:=aHB hH;generalize hbF th x.h (WK1.d w1).6 (WK1.d w1).7=y at*;have hE:=ZE (th:=th) (code:=o.1) (okk:=o.2) (val:=o.3) hHv (by omega) (by omega) hth
  have hEo:heOk th y.2 o.1 o.2 o.3:=aHF hE;have hEv:hstW (2*x.k+1+1) (x.k+1) (heF th y.2 o.1 o.2 o.3).2:=aHB hE
  (repeat' (with_reducible first | exact trivial | rfl | assumption | refine aHs ?_ ?_ | refine Tr.run_ite (fun _=>?_) (fun _=>?_) | refine aHu ?_ | refine And.intro ?_ ?_))
  all_goals first
   | assumption
   | exact qP hx' (by omega) hi hS.a hS.w (jQ hEv (by omega) (by omega))
   | exact qP hx' (by omega) hi hS.a hS.w (jQ hHv (by omega) (by omega))
 ·have hE:=ZE (th:=th) (code:=o.1) (okk:=o.2) (val:=o.3) hst (by omega) (by omega) hth
  have hEo:heOk th x.h o.1 o.2 o.3:=aHF hE;have hEv:hstW (2*x.k+1) x.k (heF th x.h o.1 o.2 o.3).2:=aHB hE
  (repeat' (with_reducible first | exact trivial | rfl | assumption | refine aHs ?_ ?_ | refine Tr.run_ite (fun _=>?_) (fun _=>?_) | refine aHu ?_ | refine And.intro ?_ ?_))
  all_goals first
   | assumption
   | exact qP hx' (by omega) hi hS.a hS.w (jQ hEv (by omega) (by omega))
   | exact qP hx' (by omega) hi hS.a hS.w (jQ hst (by omega) (by omega))
theorem PS{t n:Int}{x:EGS}(th:Int)(hx:egW t n x):PP th x:=aHF (ZO th hx)
theorem rS{t n:Int}{x:EGS}(th:Int)(hx:egW t n x):XC t n x (pkF th x):=aHB (ZO th hx)
end Go.Sh
