import Derived.Test.YtedeloeobocpiaaGreatZGHtoGRt2
set_option linter.all false
set_option maxHeartbeats 8000000
namespace Go.Sh
open Go Go.Proofs
variable [Con]
def clone64S:aJ Ob:=fun args h=>match args,h with
 | [.slice 0 0 n 1],[some (.ints (some .u64) xs)]=>some (.pre (n=xs.length∧n≤4294967296) (.ret (.slice 1 0 xs.length 1) [some (.ints (some .u64) xs),some (.ints (some .u64) xs)]))
 | _,_=>none
theorem D8:sT' 67 clone64S:=by
 intro args h o ho K hK
 unfold clone64S at ho
 split at ho<;>cases ho
 rename_i n xs
 obtain⟨⟨rfl,hp⟩,hK⟩:=hK
 have hK:K (.slice 1 0 xs.length 1) [some (.ints (some .u64) xs),some (.ints (some .u64) xs)]:=hK
 refine aC8 (aDy (cs:=[(.slot 0,.ints (some .u64))]) (cM' (E:=ERun) (q:= ∀(b:Bool),(b=true→List.length xs=0)→bif b then K (.slice 1 0 0 1) [some (.ints (some .u64) xs),some (.ints (some .u64) [])]else(0+List.length xs≤List.length xs∧List.length xs≤(4294967296:Nat))∧K (.slice 1 0 (List.length xs) 1) [some (.ints (some .u64) xs),some (.ints (some .u64) (List.take (List.length xs) (List.drop 0 xs)))]) (by kernel_rfl) ?_))
 intro b hb
 refine aW (fun e=>?_) (fun e=>⟨⟨by omega,by omega⟩,?_⟩)
 ·have h0:=List.length_eq_zero_iff.1 (hb e)
  subst h0;exact hK
 ·simpa using hK
structure okJ (xs ys:List Int) (i:Nat):Prop where
 h1:i≤xs.length
 h2:xs.length=ys.length
 h3:xs.take i=ys.take i
def HJ(xs ys:List Int):Hint Ob:= {X:=Nat,st:=fun i=>([.slice 0 0 xs.length 1,.slice 1 0 ys.length 1]++List.replicate 10 .O ++ [.int .i64 (xs.length:Int),.int .i64 (i:Int)]++List.replicate 12 .O,[some (.ints (some .u64) xs),some (.ints (some .u64) ys)]),ok:=okJ xs ys,mu:=fun i=>xs.length - i,keep:=[0,1,12,13] }
def eq64S:aJ Ob:=fun args h=>match args,h with
 | [.slice 0 0 n 1,.slice 1 0 m 1],[some (.ints (some .u64) xs),some (.ints (some .u64) ys)]=>some (.pre ((n=xs.length∧m=ys.length)∧n≤4294967296) (.ret (.bool (gH xs ys)) [some (.ints (some .u64) xs),some (.ints (some .u64) ys)]))
 | _,_=>none
theorem SH:sT' 69 eq64S:=by
 intro args h o ho K hK
 unfold eq64S at ho
 split at ho<;>cases ho
 rename_i n m xs ys
 obtain⟨⟨⟨rfl,rfl⟩,hp⟩,hK⟩:=hK
 have hK:K (.bool (gH xs ys)) [some (.ints (some .u64) xs),some (.ints (some .u64) ys)]:=hK
 refine(aE (E:=ERun) Tryz.checked.mixed (L:=fun _ _=>some (.states (HJ xs ys))) (n:=10) (aN (q:=bif !ieq (↑(List.length xs):Int) (↑(List.length ys):Int)then K (.bool false) [some (.ints (some .u64) xs),some (.ints (some .u64) ys)]else dT (HJ xs ys) (Hint.ok (HJ xs ys)) [.slice 0 0 (List.length xs) 1,.slice 1 0 (List.length ys) 1,.O,.O,.O,.O,.O,.O,.O,.O,.O,.O,.int .i64 (↑(List.length xs):Int),.int .i64 0,.O,.O,.O,.O,.O,.O,.O,.O,.O,.O,.O,.O] [some (.ints (some .u64) xs),some (.ints (some .u64) ys)]∧ ∀(x:Nat),okJ xs ys x→bif ilt (↑x:Int) (↑(List.length xs):Int)then((0:Int)≤(↑x:Int)∧(↑x:Int)<(↑(List.length xs):Int))∧0+Int.toNat (↑x:Int)*(1:Nat)<List.length xs∧((0:Int)≤(↑x:Int)∧(↑x:Int)<(↑(List.length ys):Int))∧0+Int.toNat (↑x:Int)*(1:Nat)<List.length ys∧bif !ieq (List.getD xs (0+Int.toNat (↑x:Int)*1) 0) (List.getD ys (0+Int.toNat (↑x:Int)*1) 0)then K (.bool false) [some (.ints (some .u64) xs),some (.ints (some .u64) ys)]else dT (HJ xs ys) (fun x'=>Hint.ok (HJ xs ys) x'∧Hint.mu (HJ xs ys) x'<Hint.mu (HJ xs ys) x) [.slice 0 0 (List.length xs) 1,.slice 1 0 (List.length ys) 1,.O,.O,.O,.O,.O,.O,.O,.O,.O,.O,.int .i64 (↑(List.length xs):Int),.int .i64 (W ((↑x:Int)+1)),.O,.O,.O,.O,.O,.O,.O,.O,.O,.O,.O,.O] [some (.ints (some .u64) xs),some (.ints (some .u64) ys)]else K (.bool true) [some (.ints (some .u64) xs),some (.ints (some .u64) ys)]) (by kernel_rfl) ?_))
 have hS:gH xs ys=decide (xs=ys):=rfl
 refine aW (fun e=>?_) (fun e=>⟨bF (H:=HJ xs ys) (0:Nat) rfl ⟨Nat.zero_le _,?_,rfl⟩,?_⟩)
 ·rw [bI]at e
  have:xs≠ys:=by rintro rfl;simp at e
  rw [hS,decide_eq_false this]at hK;exact hK
 ·rw [bI]at e;simp at e;omega
 ·rintro i ⟨h1,h2,h3⟩
  refine aW (fun e1=>?_) (fun e1=>?_)
  ·rw [bU,dT']at e1
   have hi:i<xs.length:=by omega
   have e2:0+(i:Int).toNat *1=i:=by omega
   rw [e2]
   refine⟨by omega,hi,by omega,by omega,aW (fun e3=>?_) (fun e3=>?_)⟩
   ·rw [bI]at e3
    have:xs≠ys:=by rintro rfl;simp at e3
    rw [hS,decide_eq_false this]at hK;exact hK
   ·rw [bI]at e3
    have e3:xs.getD i 0=ys.getD i 0:=by simpa using e3
    have e4:IntKind.wrap .i64 ((i:Int)+1)=((i+1:Nat):Int):=by rw [cT (by omega)];rfl
    refine bF (H:=HJ xs ys) (i+1:Nat) (by simp only [W,e4]<;>rfl) ⟨⟨hi,h2,?_⟩,by show xs.length - (i+1)<xs.length - i;omega⟩
    have hj:i<ys.length:=by omega
    rw [gD',gE' hi,gD',gE' hj]at e3
    rw [List.take_succ_eq_append_getElem hi,List.take_succ_eq_append_getElem hj,h3]
    have e5:xs[i]=ys[i]:=by simpa using e3
    rw [e5]
  ·rw [bU,dF']at e1
   have:xs=ys:=by
    rw [List.take_of_length_le (by omega),List.take_of_length_le (by omega)]at h3;exact h3
   rw [hS,decide_eq_true this]at hK;exact hK
noncomputable def EZ:=(ERun.addS 67 clone64S D8).addS 69 eq64S SH
def fH(sh h k:Int):Bool:=bif ieq sh 2 then !ieq (Int.tmod k 4) h else ilt 0 h
def eQ(sh h n:Int):List Int→Int→Int→Int→Int→MS→MS
 | [],i,a,ky,vr,s=>s.stored a (bD ky 0 false 0 vr)
 | k::ks,i,a,ky,vr,s=>bif fH sh h k then eQ sh h n ks (i+1) a ky vr s else eQ sh h n ks (i+1) (i+1) k 3 ((s.stored a (bD ky (i+1) false 0 vr)).stored (n+4+(i+1)) 1)
def iH(sh n:Int)(xs:List Int):Nat→Int→MS→MS
 | 0,h,s=>s
 | f+1,h,s=>iH sh n xs f (h+1) (eQ sh h n xs 0 (n+1+h) 0 0 s)
def memN(t n:Int):MS:= {t:=t,n:=n,xs:=List.replicate (2*n+5*t+6).toNat 0,c:=0,k:=0,a:=0,o:=0,w:=0,ok:=false}
structure tG (sh t n:Int) (xs:List Int) (x:Nat×MS):Prop where
 h4:x.1≤4
 c:0≤x.2.c∧x.2.c≤1000*x.1
 eq:iH sh n xs 4 0 (memN t n)=iH sh n xs (4 - x.1) x.1 x.2
structure HK (sh t n:Int) (xs:List Int) (h:Int) (x:Nat×Int×Int×Int×MS):Prop where
 h4:0≤h∧h<4
 hi:x.1≤xs.length
 ky:0≤x.2.2.1∧x.2.2.1<1024
 vr:0≤x.2.2.2.1∧x.2.2.2.1<262144
 c:0≤x.2.2.2.2.c∧x.2.2.2.2.c≤1000*h+3*x.1
 eq:iH sh n xs 4 0 (memN t n)=iH sh n xs (3 - h).toNat (h+1) (eQ sh h n (xs.drop x.1) x.1 x.2.1 x.2.2.1 x.2.2.2.1 x.2.2.2.2)
def LW(sh t m:Int)(xs:List Int):Hint Ob:= {X:=Nat×MS,st:=fun x=>([.int .i64 sh,.O,.O,.slice 0 0 xs.length 1,.O,.O,.O,.O,.O,.ptr 1 0,.ptr 2 0,.ptr 3 0,.O,.int .i64 (x.1:Int)]++List.replicate 79 .O,[some (.ints (some .i64) xs),some (.cells [.int .i64 0,.int .i64 0]),some (.cells [.int .i64 t,.int .i64 (IntKind.wrap .i64 ((xs.length:Int)+m))]),a8 4 x.2,a9 x.2]),ok:=tG sh t (IntKind.wrap .i64 ((xs.length:Int)+m)) xs,mu:=fun x=>4 - x.1,keep:=[0,3,9,10,11,13] }
def HFi(sh t m:Int)(xs:List Int)(h:Int):Hint Ob:= {X:=Nat×Int×Int×Int×MS,st:=fun x=>([.int .i64 sh,.O,.O,.slice 0 0 xs.length 1,.O,.O,.O,.O,.O,.ptr 1 0,.ptr 2 0,.ptr 3 0,.O,.int .i64 h,.int .i64 x.2.1,.ptr 5 0]++List.replicate 28 .O ++ [.slice 0 0 xs.length 1,.int .i64 (xs.length:Int),.int .i64 (x.1:Int)]++List.replicate 46 .O,[some (.ints (some .i64) xs),some (.cells [.int .i64 0,.int .i64 0]),some (.cells [.int .i64 t,.int .i64 (IntKind.wrap .i64 ((xs.length:Int)+m))]),a8 4 x.2.2.2.2,a9 x.2.2.2.2,some (.cells [.int .i64 x.2.2.1,.int .i64 0,.bool false,.int .i64 0,.int .i64 x.2.2.2.1])]),ok:=HK sh t (IntKind.wrap .i64 ((xs.length:Int)+m)) xs h,mu:=fun x=>xs.length - x.1,keep:=[0,3,9,10,11,13,14,15,44,45,46] }
def YW(sh t m:Int)(xs:List Int):FuncId→Nat→Option (rA Ob):=fun _ k=>if k=6 then some (.states (LW sh t m xs))else if k=10 then some (.statesAt 13 (HFi sh t m xs))else some (.rounds 12)
def y6(sh t m:Int)(xs:List Int)(K:AVal→aD Ob→Prop):Prop:=True∧bif !iI t (W ((↑(List.length xs):Int)+m))then K (.tup [.raw (Value.pointer none),.agg [.int .i64 t,.int .i64 (W ((↑(List.length xs):Int)+m))]]) [some (.ints (some .i64) xs)]else(((0:Int)≤t∧t≤(100000:Int))∧(0:Int)≤W ((↑(List.length xs):Int)+m)∧W ((↑(List.length xs):Int)+m)≤(100000:Int))∧bif ilt (2*W ((↑(List.length xs):Int)+m)+5*t+6) (↑0:Int)then K (.tup [.raw (Value.pointer none),.agg [.int .i64 t,.int .i64 (W ((↑(List.length xs):Int)+m))]]) [some (.ints (some .i64) xs)]else((((0:Int)≤t∧t≤(100000:Int))∧(0:Int)≤W ((↑(List.length xs):Int)+m)∧W ((↑(List.length xs):Int)+m)≤(100000:Int))∧True)∧((0:Int)≤(2:Int)*W ((↑(List.length xs):Int)+m)+5*t+6∧2*W ((↑(List.length xs):Int)+m)+5*t+(6:Int)=(2:Int)*W ((↑(List.length xs):Int)+m)+5*t+6∧2*W ((↑(List.length xs):Int)+m)+5*t+(6:Int)≤(4294967296:Int))∧dT (LW sh t m xs) (Hint.ok (LW sh t m xs)) [.int .i64 sh,.O,.O,.slice 0 0 (List.length xs) 1,.O,.O,.O,.O,.O,.ptr 1 0,.ptr 2 0,.ptr 3 0,.O,.int .i64 0,.O,.O,.O,.O,.O,.O,.O,.O,.O,.O,.O,.O,.O,.O,.O,.O,.O,.O,.O,.O,.O,.O,.O,.O,.O,.O,.O,.O,.O,.O,.O,.O,.O,.O,.O,.O,.O,.O,.O,.O,.O,.O,.O,.O,.O,.O,.O,.O,.O,.O,.O,.O,.O,.O,.O,.O,.O,.O,.O,.O,.O,.O,.O,.O,.O,.O,.O,.O,.O,.O,.O,.O,.O,.O,.O,.O,.O,.O,.O] [some (.ints (some .i64) xs),some (.cells [.int .i64 0,.int .i64 0]),some (.cells [.int .i64 t,.int .i64 (W ((↑(List.length xs):Int)+m))]),some (.cells [.int .i64 t,.int .i64 (W ((↑(List.length xs):Int)+m)),.slice 4 0 (Int.toNat (2*W ((↑(List.length xs):Int)+m)+5*t+6)) 1,.int .i64 0,.int .i64 0,.int .i64 0,.int .u64 0,.int .u64 0,.bool false]),some (.ints (some .u64) (List.replicate (Int.toNat (2*W ((↑(List.length xs):Int)+m)+5*t+6)) 0))]∧ ∀(x:(Nat×MS)),tG sh t (W ((↑(List.length xs):Int)+m)) xs x→bif ilt (↑x.1:Int) 4 then(((0:Int)≤W ((↑(List.length xs):Int)+m)∧W ((↑(List.length xs):Int)+m)≤(100000:Int))∧(-1000000:Int)≤(↑x.1:Int)∧(↑x.1:Int)≤(1000000:Int))∧dT (HFi sh t m xs (↑(Prod.fst x):Int)) (Hint.ok (HFi sh t m xs (↑(Prod.fst x):Int))) [.int .i64 sh,.O,.O,.slice 0 0 (List.length xs) 1,.O,.O,.O,.O,.O,.ptr 1 0,.ptr 2 0,.ptr 3 0,.O,.int .i64 (↑x.1:Int),.int .i64 (W ((↑(List.length xs):Int)+m)+1+(↑x.1:Int)),.ptr 5 0,.O,.O,.O,.O,.O,.O,.O,.O,.O,.O,.O,.O,.O,.O,.O,.O,.O,.O,.O,.O,.O,.O,.O,.O,.O,.O,.O,.O,.slice 0 0 (List.length xs) 1,.int .i64 (↑(List.length xs):Int),.int .i64 0,.O,.O,.O,.O,.O,.O,.O,.O,.O,.O,.O,.O,.O,.O,.O,.O,.O,.O,.O,.O,.O,.O,.O,.O,.O,.O,.O,.O,.O,.O,.O,.O,.O,.O,.O,.O,.O,.O,.O,.O,.O,.O,.O,.O,.O,.O] [some (.ints (some .i64) xs),some (.cells [.int .i64 0,.int .i64 0]),some (.cells [.int .i64 t,.int .i64 (W ((↑(List.length xs):Int)+m))]),some (.cells [.int .i64 (Prod.snd x).1,.int .i64 (Prod.snd x).2,.slice 4 0 (List.length (Prod.snd x).3) 1,.int .i64 (Prod.snd x).4,.int .i64 (Prod.snd x).5,.int .i64 (Prod.snd x).6,.int .u64 (Prod.snd x).7,.int .u64 (Prod.snd x).8,.bool (Prod.snd x).9]),some (.ints (some .u64) (Prod.snd x).3),some (.cells [.int .i64 0,.int .i64 0,.bool false,.int .i64 0,.int .i64 0])]∧ ∀(x_1:Hint.X (HFi sh t m xs (↑(Prod.fst x):Int))),HK sh t (W ((↑(List.length xs):Int)+m)) xs (↑x.1:Int) x_1→bif ilt (↑x_1.1:Int) (↑(List.length xs):Int)then((0:Int)≤(↑x_1.1:Int)∧(↑x_1.1:Int)<(↑(List.length xs):Int))∧0+Int.toNat (↑x_1.1:Int)*(1:Nat)<List.length xs∧bif ieq sh 2 then(4:Int)≠(0:Int)∧bif !ieq (Int.tmod (List.getD xs (0+Int.toNat (↑x_1.1:Int)*1) 0) 4) (↑x.1:Int)then dT (HFi sh t m xs (↑(Prod.fst x):Int)) (fun x'=>Hint.ok (HFi sh t m xs (↑(Prod.fst x):Int)) x'∧Hint.mu (HFi sh t m xs (↑(Prod.fst x):Int)) x'<Hint.mu (HFi sh t m xs (↑(Prod.fst x):Int)) x_1) [.int .i64 sh,.O,.O,.slice 0 0 (List.length xs) 1,.O,.O,.O,.O,.O,.ptr 1 0,.ptr 2 0,.ptr 3 0,.O,.int .i64 (↑x.1:Int),.int .i64 (Prod.snd x_1).1,.ptr 5 0,.O,.O,.O,.O,.O,.O,.O,.O,.O,.O,.O,.O,.O,.O,.O,.O,.O,.O,.O,.O,.O,.O,.O,.O,.O,.O,.O,.O,.slice 0 0 (List.length xs) 1,.int .i64 (↑(List.length xs):Int),.int .i64 (W ((↑x_1.1:Int)+1)),.O,.O,.O,.O,.O,.O,.O,.O,.O,.O,.O,.O,.O,.O,.O,.O,.O,.O,.O,.O,.O,.O,.O,.O,.O,.O,.O,.O,.O,.O,.O,.O,.O,.O,.O,.O,.O,.O,.O,.O,.O,.O,.O,.O,.O,.O] [some (.ints (some .i64) xs),some (.cells [.int .i64 0,.int .i64 0]),some (.cells [.int .i64 t,.int .i64 (W ((↑(List.length xs):Int)+m))]),some (.cells [.int .i64 (Prod.snd (Prod.snd x_1.2).2).1,.int .i64 (Prod.snd (Prod.snd x_1.2).2).2,.slice 4 0 (List.length (Prod.snd (Prod.snd x_1.2).2).3) 1,.int .i64 (Prod.snd (Prod.snd x_1.2).2).4,.int .i64 (Prod.snd (Prod.snd x_1.2).2).5,.int .i64 (Prod.snd (Prod.snd x_1.2).2).6,.int .u64 (Prod.snd (Prod.snd x_1.2).2).7,.int .u64 (Prod.snd (Prod.snd x_1.2).2).8,.bool (Prod.snd (Prod.snd x_1.2).2).9]),some (.ints (some .u64) (Prod.snd (Prod.snd x_1.2).2).3),some (.cells [.int .i64 (Prod.snd x_1.2).1,.int .i64 0,.bool false,.int .i64 0,.int .i64 (Prod.snd (Prod.snd x_1).2).1])]else bif !ieq sh 2 then bif ilt 0 (↑x.1:Int)then dT (HFi sh t m xs (↑(Prod.fst x):Int)) (fun x'=>Hint.ok (HFi sh t m xs (↑(Prod.fst x):Int)) x'∧Hint.mu (HFi sh t m xs (↑(Prod.fst x):Int)) x'<Hint.mu (HFi sh t m xs (↑(Prod.fst x):Int)) x_1) [.int .i64 sh,.O,.O,.slice 0 0 (List.length xs) 1,.O,.O,.O,.O,.O,.ptr 1 0,.ptr 2 0,.ptr 3 0,.O,.int .i64 (↑x.1:Int),.int .i64 (Prod.snd x_1).1,.ptr 5 0,.O,.O,.O,.O,.O,.O,.O,.O,.O,.O,.O,.O,.O,.O,.O,.O,.O,.O,.O,.O,.O,.O,.O,.O,.O,.O,.O,.O,.slice 0 0 (List.length xs) 1,.int .i64 (↑(List.length xs):Int),.int .i64 (W ((↑x_1.1:Int)+1)),.O,.O,.O,.O,.O,.O,.O,.O,.O,.O,.O,.O,.O,.O,.O,.O,.O,.O,.O,.O,.O,.O,.O,.O,.O,.O,.O,.O,.O,.O,.O,.O,.O,.O,.O,.O,.O,.O,.O,.O,.O,.O,.O,.O,.O,.O] [some (.ints (some .i64) xs),some (.cells [.int .i64 0,.int .i64 0]),some (.cells [.int .i64 t,.int .i64 (W ((↑(List.length xs):Int)+m))]),some (.cells [.int .i64 (Prod.snd (Prod.snd x_1.2).2).1,.int .i64 (Prod.snd (Prod.snd x_1.2).2).2,.slice 4 0 (List.length (Prod.snd (Prod.snd x_1.2).2).3) 1,.int .i64 (Prod.snd (Prod.snd x_1.2).2).4,.int .i64 (Prod.snd (Prod.snd x_1.2).2).5,.int .i64 (Prod.snd (Prod.snd x_1.2).2).6,.int .u64 (Prod.snd (Prod.snd x_1.2).2).7,.int .u64 (Prod.snd (Prod.snd x_1.2).2).8,.bool (Prod.snd (Prod.snd x_1.2).2).9]),some (.ints (some .u64) (Prod.snd (Prod.snd x_1.2).2).3),some (.cells [.int .i64 (Prod.snd x_1.2).1,.int .i64 0,.bool false,.int .i64 0,.int .i64 (Prod.snd (Prod.snd x_1).2).1])]else(((0:Int)≤(Prod.snd x_1.2).1∧(Prod.snd x_1.2).1<(1024:Int))∧((0:Int)≤W ((↑x_1.1:Int)+1)∧W ((↑x_1.1:Int)+1)<(512:Int))∧((0:Int)≤(0:Int)∧(0:Int)<(32:Int))∧(0:Int)≤(Prod.snd (Prod.snd x_1).2).1∧(Prod.snd (Prod.snd x_1).2).1<(262144:Int))∧(lE' (Prod.snd (Prod.snd x_1.2).2).3∧(0:Int)≤(Prod.snd (Prod.snd x_1.2).2).4∧(Prod.snd (Prod.snd x_1.2).2).4≤(4611686018427387904:Int))∧(((0:Int)≤t∧t≤(100000:Int))∧((0:Int)≤W ((↑(List.length xs):Int)+m)∧W ((↑(List.length xs):Int)+m)≤(100000:Int))∧(-1099511627776:Int)≤W ((↑x_1.1:Int)+1)∧W ((↑x_1.1:Int)+1)≤(1099511627776:Int))∧(lE' (aL (Prod.snd (Prod.snd x_1.2).2).3 (Prod.snd x_1).1 (bD (Prod.snd x_1.2).1 (W ((↑x_1.1:Int)+1)) false 0 (Prod.snd (Prod.snd x_1).2).1))∧(0:Int)≤(Prod.snd (Prod.snd x_1.2).2).4+1∧(Prod.snd (Prod.snd x_1.2).2).4+(1:Int)≤(4611686018427387904:Int))∧dT (HFi sh t m xs (↑(Prod.fst x):Int)) (fun x'=>Hint.ok (HFi sh t m xs (↑(Prod.fst x):Int)) x'∧Hint.mu (HFi sh t m xs (↑(Prod.fst x):Int)) x'<Hint.mu (HFi sh t m xs (↑(Prod.fst x):Int)) x_1) [.int .i64 sh,.O,.O,.slice 0 0 (List.length xs) 1,.O,.O,.O,.O,.O,.ptr 1 0,.ptr 2 0,.ptr 3 0,.O,.int .i64 (↑x.1:Int),.int .i64 (W ((↑x_1.1:Int)+1)),.ptr 5 0,.O,.O,.O,.O,.O,.O,.O,.O,.O,.O,.O,.O,.O,.O,.O,.O,.O,.O,.O,.O,.O,.O,.O,.O,.O,.O,.O,.O,.slice 0 0 (List.length xs) 1,.int .i64 (↑(List.length xs):Int),.int .i64 (W ((↑x_1.1:Int)+1)),.O,.O,.O,.O,.O,.O,.O,.O,.O,.O,.O,.O,.O,.O,.O,.O,.O,.O,.O,.O,.O,.O,.O,.O,.O,.O,.O,.O,.O,.O,.O,.O,.O,.O,.O,.O,.O,.O,.O,.O,.O,.O,.O,.O,.O,.O] [some (.ints (some .i64) xs),some (.cells [.int .i64 0,.int .i64 0]),some (.cells [.int .i64 t,.int .i64 (W ((↑(List.length xs):Int)+m))]),some (.cells [.int .i64 (Prod.snd (Prod.snd x_1.2).2).1,.int .i64 (Prod.snd (Prod.snd x_1.2).2).2,.slice 4 0 (List.length (aL (aL (Prod.snd (Prod.snd x_1.2).2).3 (Prod.snd x_1).1 (bD (Prod.snd x_1.2).1 (W ((↑x_1.1:Int)+1)) false 0 (Prod.snd (Prod.snd x_1).2).1)) (W ((↑(List.length xs):Int)+m)+4+W ((↑x_1.1:Int)+1)) 1)) 1,.int .i64 ((Prod.snd (Prod.snd x_1.2).2).4+1+1),.int .i64 2,.int .i64 (W ((↑(List.length xs):Int)+m)+4+W ((↑x_1.1:Int)+1)),.int .u64 (aB (aL (Prod.snd (Prod.snd x_1.2).2).3 (Prod.snd x_1).1 (bD (Prod.snd x_1.2).1 (W ((↑x_1.1:Int)+1)) false 0 (Prod.snd (Prod.snd x_1).2).1)) (W ((↑(List.length xs):Int)+m)+4+W ((↑x_1.1:Int)+1))),.int .u64 (bif bM (aL (Prod.snd (Prod.snd x_1.2).2).3 (Prod.snd x_1).1 (bD (Prod.snd x_1.2).1 (W ((↑x_1.1:Int)+1)) false 0 (Prod.snd (Prod.snd x_1).2).1)) (W ((↑(List.length xs):Int)+m)+4+W ((↑x_1.1:Int)+1))then 1 else 0),.bool (bM (aL (Prod.snd (Prod.snd x_1.2).2).3 (Prod.snd x_1).1 (bD (Prod.snd x_1.2).1 (W ((↑x_1.1:Int)+1)) false 0 (Prod.snd (Prod.snd x_1).2).1)) (W ((↑(List.length xs):Int)+m)+4+W ((↑x_1.1:Int)+1)))]),some (.ints (some .u64) (aL (aL (Prod.snd (Prod.snd x_1.2).2).3 (Prod.snd x_1).1 (bD (Prod.snd x_1.2).1 (W ((↑x_1.1:Int)+1)) false 0 (Prod.snd (Prod.snd x_1).2).1)) (W ((↑(List.length xs):Int)+m)+4+W ((↑x_1.1:Int)+1)) 1)),some (.cells [.int .i64 (List.getD xs (0+Int.toNat (↑x_1.1:Int)*1) 0),.int .i64 0,.bool false,.int .i64 0,.int .i64 3])]else(((0:Int)≤(Prod.snd x_1.2).1∧(Prod.snd x_1.2).1<(1024:Int))∧((0:Int)≤W ((↑x_1.1:Int)+1)∧W ((↑x_1.1:Int)+1)<(512:Int))∧((0:Int)≤(0:Int)∧(0:Int)<(32:Int))∧(0:Int)≤(Prod.snd (Prod.snd x_1).2).1∧(Prod.snd (Prod.snd x_1).2).1<(262144:Int))∧(lE' (Prod.snd (Prod.snd x_1.2).2).3∧(0:Int)≤(Prod.snd (Prod.snd x_1.2).2).4∧(Prod.snd (Prod.snd x_1.2).2).4≤(4611686018427387904:Int))∧(((0:Int)≤t∧t≤(100000:Int))∧((0:Int)≤W ((↑(List.length xs):Int)+m)∧W ((↑(List.length xs):Int)+m)≤(100000:Int))∧(-1099511627776:Int)≤W ((↑x_1.1:Int)+1)∧W ((↑x_1.1:Int)+1)≤(1099511627776:Int))∧(lE' (aL (Prod.snd (Prod.snd x_1.2).2).3 (Prod.snd x_1).1 (bD (Prod.snd x_1.2).1 (W ((↑x_1.1:Int)+1)) false 0 (Prod.snd (Prod.snd x_1).2).1))∧(0:Int)≤(Prod.snd (Prod.snd x_1.2).2).4+1∧(Prod.snd (Prod.snd x_1.2).2).4+(1:Int)≤(4611686018427387904:Int))∧dT (HFi sh t m xs (↑(Prod.fst x):Int)) (fun x'=>Hint.ok (HFi sh t m xs (↑(Prod.fst x):Int)) x'∧Hint.mu (HFi sh t m xs (↑(Prod.fst x):Int)) x'<Hint.mu (HFi sh t m xs (↑(Prod.fst x):Int)) x_1) [.int .i64 sh,.O,.O,.slice 0 0 (List.length xs) 1,.O,.O,.O,.O,.O,.ptr 1 0,.ptr 2 0,.ptr 3 0,.O,.int .i64 (↑x.1:Int),.int .i64 (W ((↑x_1.1:Int)+1)),.ptr 5 0,.O,.O,.O,.O,.O,.O,.O,.O,.O,.O,.O,.O,.O,.O,.O,.O,.O,.O,.O,.O,.O,.O,.O,.O,.O,.O,.O,.O,.slice 0 0 (List.length xs) 1,.int .i64 (↑(List.length xs):Int),.int .i64 (W ((↑x_1.1:Int)+1)),.O,.O,.O,.O,.O,.O,.O,.O,.O,.O,.O,.O,.O,.O,.O,.O,.O,.O,.O,.O,.O,.O,.O,.O,.O,.O,.O,.O,.O,.O,.O,.O,.O,.O,.O,.O,.O,.O,.O,.O,.O,.O,.O,.O,.O,.O] [some (.ints (some .i64) xs),some (.cells [.int .i64 0,.int .i64 0]),some (.cells [.int .i64 t,.int .i64 (W ((↑(List.length xs):Int)+m))]),some (.cells [.int .i64 (Prod.snd (Prod.snd x_1.2).2).1,.int .i64 (Prod.snd (Prod.snd x_1.2).2).2,.slice 4 0 (List.length (aL (aL (Prod.snd (Prod.snd x_1.2).2).3 (Prod.snd x_1).1 (bD (Prod.snd x_1.2).1 (W ((↑x_1.1:Int)+1)) false 0 (Prod.snd (Prod.snd x_1).2).1)) (W ((↑(List.length xs):Int)+m)+4+W ((↑x_1.1:Int)+1)) 1)) 1,.int .i64 ((Prod.snd (Prod.snd x_1.2).2).4+1+1),.int .i64 2,.int .i64 (W ((↑(List.length xs):Int)+m)+4+W ((↑x_1.1:Int)+1)),.int .u64 (aB (aL (Prod.snd (Prod.snd x_1.2).2).3 (Prod.snd x_1).1 (bD (Prod.snd x_1.2).1 (W ((↑x_1.1:Int)+1)) false 0 (Prod.snd (Prod.snd x_1).2).1)) (W ((↑(List.length xs):Int)+m)+4+W ((↑x_1.1:Int)+1))),.int .u64 (bif bM (aL (Prod.snd (Prod.snd x_1.2).2).3 (Prod.snd x_1).1 (bD (Prod.snd x_1.2).1 (W ((↑x_1.1:Int)+1)) false 0 (Prod.snd (Prod.snd x_1).2).1)) (W ((↑(List.length xs):Int)+m)+4+W ((↑x_1.1:Int)+1))then 1 else 0),.bool (bM (aL (Prod.snd (Prod.snd x_1.2).2).3 (Prod.snd x_1).1 (bD (Prod.snd x_1.2).1 (W ((↑x_1.1:Int)+1)) false 0 (Prod.snd (Prod.snd x_1).2).1)) (W ((↑(List.length xs):Int)+m)+4+W ((↑x_1.1:Int)+1)))]),some (.ints (some .u64) (aL (aL (Prod.snd (Prod.snd x_1.2).2).3 (Prod.snd x_1).1 (bD (Prod.snd x_1.2).1 (W ((↑x_1.1:Int)+1)) false 0 (Prod.snd (Prod.snd x_1).2).1)) (W ((↑(List.length xs):Int)+m)+4+W ((↑x_1.1:Int)+1)) 1)),some (.cells [.int .i64 (List.getD xs (0+Int.toNat (↑x_1.1:Int)*1) 0),.int .i64 0,.bool false,.int .i64 0,.int .i64 3])]else bif !ieq sh 2 then bif ilt 0 (↑x.1:Int)then dT (HFi sh t m xs (↑(Prod.fst x):Int)) (fun x'=>Hint.ok (HFi sh t m xs (↑(Prod.fst x):Int)) x'∧Hint.mu (HFi sh t m xs (↑(Prod.fst x):Int)) x'<Hint.mu (HFi sh t m xs (↑(Prod.fst x):Int)) x_1) [.int .i64 sh,.O,.O,.slice 0 0 (List.length xs) 1,.O,.O,.O,.O,.O,.ptr 1 0,.ptr 2 0,.ptr 3 0,.O,.int .i64 (↑x.1:Int),.int .i64 (Prod.snd x_1).1,.ptr 5 0,.O,.O,.O,.O,.O,.O,.O,.O,.O,.O,.O,.O,.O,.O,.O,.O,.O,.O,.O,.O,.O,.O,.O,.O,.O,.O,.O,.O,.slice 0 0 (List.length xs) 1,.int .i64 (↑(List.length xs):Int),.int .i64 (W ((↑x_1.1:Int)+1)),.O,.O,.O,.O,.O,.O,.O,.O,.O,.O,.O,.O,.O,.O,.O,.O,.O,.O,.O,.O,.O,.O,.O,.O,.O,.O,.O,.O,.O,.O,.O,.O,.O,.O,.O,.O,.O,.O,.O,.O,.O,.O,.O,.O,.O,.O] [some (.ints (some .i64) xs),some (.cells [.int .i64 0,.int .i64 0]),some (.cells [.int .i64 t,.int .i64 (W ((↑(List.length xs):Int)+m))]),some (.cells [.int .i64 (Prod.snd (Prod.snd x_1.2).2).1,.int .i64 (Prod.snd (Prod.snd x_1.2).2).2,.slice 4 0 (List.length (Prod.snd (Prod.snd x_1.2).2).3) 1,.int .i64 (Prod.snd (Prod.snd x_1.2).2).4,.int .i64 (Prod.snd (Prod.snd x_1.2).2).5,.int .i64 (Prod.snd (Prod.snd x_1.2).2).6,.int .u64 (Prod.snd (Prod.snd x_1.2).2).7,.int .u64 (Prod.snd (Prod.snd x_1.2).2).8,.bool (Prod.snd (Prod.snd x_1.2).2).9]),some (.ints (some .u64) (Prod.snd (Prod.snd x_1.2).2).3),some (.cells [.int .i64 (Prod.snd x_1.2).1,.int .i64 0,.bool false,.int .i64 0,.int .i64 (Prod.snd (Prod.snd x_1).2).1])]else(((0:Int)≤(Prod.snd x_1.2).1∧(Prod.snd x_1.2).1<(1024:Int))∧((0:Int)≤W ((↑x_1.1:Int)+1)∧W ((↑x_1.1:Int)+1)<(512:Int))∧((0:Int)≤(0:Int)∧(0:Int)<(32:Int))∧(0:Int)≤(Prod.snd (Prod.snd x_1).2).1∧(Prod.snd (Prod.snd x_1).2).1<(262144:Int))∧(lE' (Prod.snd (Prod.snd x_1.2).2).3∧(0:Int)≤(Prod.snd (Prod.snd x_1.2).2).4∧(Prod.snd (Prod.snd x_1.2).2).4≤(4611686018427387904:Int))∧(((0:Int)≤t∧t≤(100000:Int))∧((0:Int)≤W ((↑(List.length xs):Int)+m)∧W ((↑(List.length xs):Int)+m)≤(100000:Int))∧(-1099511627776:Int)≤W ((↑x_1.1:Int)+1)∧W ((↑x_1.1:Int)+1)≤(1099511627776:Int))∧(lE' (aL (Prod.snd (Prod.snd x_1.2).2).3 (Prod.snd x_1).1 (bD (Prod.snd x_1.2).1 (W ((↑x_1.1:Int)+1)) false 0 (Prod.snd (Prod.snd x_1).2).1))∧(0:Int)≤(Prod.snd (Prod.snd x_1.2).2).4+1∧(Prod.snd (Prod.snd x_1.2).2).4+(1:Int)≤(4611686018427387904:Int))∧dT (HFi sh t m xs (↑(Prod.fst x):Int)) (fun x'=>Hint.ok (HFi sh t m xs (↑(Prod.fst x):Int)) x'∧Hint.mu (HFi sh t m xs (↑(Prod.fst x):Int)) x'<Hint.mu (HFi sh t m xs (↑(Prod.fst x):Int)) x_1) [.int .i64 sh,.O,.O,.slice 0 0 (List.length xs) 1,.O,.O,.O,.O,.O,.ptr 1 0,.ptr 2 0,.ptr 3 0,.O,.int .i64 (↑x.1:Int),.int .i64 (W ((↑x_1.1:Int)+1)),.ptr 5 0,.O,.O,.O,.O,.O,.O,.O,.O,.O,.O,.O,.O,.O,.O,.O,.O,.O,.O,.O,.O,.O,.O,.O,.O,.O,.O,.O,.O,.slice 0 0 (List.length xs) 1,.int .i64 (↑(List.length xs):Int),.int .i64 (W ((↑x_1.1:Int)+1)),.O,.O,.O,.O,.O,.O,.O,.O,.O,.O,.O,.O,.O,.O,.O,.O,.O,.O,.O,.O,.O,.O,.O,.O,.O,.O,.O,.O,.O,.O,.O,.O,.O,.O,.O,.O,.O,.O,.O,.O,.O,.O,.O,.O,.O,.O] [some (.ints (some .i64) xs),some (.cells [.int .i64 0,.int .i64 0]),some (.cells [.int .i64 t,.int .i64 (W ((↑(List.length xs):Int)+m))]),some (.cells [.int .i64 (Prod.snd (Prod.snd x_1.2).2).1,.int .i64 (Prod.snd (Prod.snd x_1.2).2).2,.slice 4 0 (List.length (aL (aL (Prod.snd (Prod.snd x_1.2).2).3 (Prod.snd x_1).1 (bD (Prod.snd x_1.2).1 (W ((↑x_1.1:Int)+1)) false 0 (Prod.snd (Prod.snd x_1).2).1)) (W ((↑(List.length xs):Int)+m)+4+W ((↑x_1.1:Int)+1)) 1)) 1,.int .i64 ((Prod.snd (Prod.snd x_1.2).2).4+1+1),.int .i64 2,.int .i64 (W ((↑(List.length xs):Int)+m)+4+W ((↑x_1.1:Int)+1)),.int .u64 (aB (aL (Prod.snd (Prod.snd x_1.2).2).3 (Prod.snd x_1).1 (bD (Prod.snd x_1.2).1 (W ((↑x_1.1:Int)+1)) false 0 (Prod.snd (Prod.snd x_1).2).1)) (W ((↑(List.length xs):Int)+m)+4+W ((↑x_1.1:Int)+1))),.int .u64 (bif bM (aL (Prod.snd (Prod.snd x_1.2).2).3 (Prod.snd x_1).1 (bD (Prod.snd x_1.2).1 (W ((↑x_1.1:Int)+1)) false 0 (Prod.snd (Prod.snd x_1).2).1)) (W ((↑(List.length xs):Int)+m)+4+W ((↑x_1.1:Int)+1))then 1 else 0),.bool (bM (aL (Prod.snd (Prod.snd x_1.2).2).3 (Prod.snd x_1).1 (bD (Prod.snd x_1.2).1 (W ((↑x_1.1:Int)+1)) false 0 (Prod.snd (Prod.snd x_1).2).1)) (W ((↑(List.length xs):Int)+m)+4+W ((↑x_1.1:Int)+1)))]),some (.ints (some .u64) (aL (aL (Prod.snd (Prod.snd x_1.2).2).3 (Prod.snd x_1).1 (bD (Prod.snd x_1.2).1 (W ((↑x_1.1:Int)+1)) false 0 (Prod.snd (Prod.snd x_1).2).1)) (W ((↑(List.length xs):Int)+m)+4+W ((↑x_1.1:Int)+1)) 1)),some (.cells [.int .i64 (List.getD xs (0+Int.toNat (↑x_1.1:Int)*1) 0),.int .i64 0,.bool false,.int .i64 0,.int .i64 3])]else(((0:Int)≤(Prod.snd x_1.2).1∧(Prod.snd x_1.2).1<(1024:Int))∧((0:Int)≤W ((↑x_1.1:Int)+1)∧W ((↑x_1.1:Int)+1)<(512:Int))∧((0:Int)≤(0:Int)∧(0:Int)<(32:Int))∧(0:Int)≤(Prod.snd (Prod.snd x_1).2).1∧(Prod.snd (Prod.snd x_1).2).1<(262144:Int))∧(lE' (Prod.snd (Prod.snd x_1.2).2).3∧(0:Int)≤(Prod.snd (Prod.snd x_1.2).2).4∧(Prod.snd (Prod.snd x_1.2).2).4≤(4611686018427387904:Int))∧(((0:Int)≤t∧t≤(100000:Int))∧((0:Int)≤W ((↑(List.length xs):Int)+m)∧W ((↑(List.length xs):Int)+m)≤(100000:Int))∧(-1099511627776:Int)≤W ((↑x_1.1:Int)+1)∧W ((↑x_1.1:Int)+1)≤(1099511627776:Int))∧(lE' (aL (Prod.snd (Prod.snd x_1.2).2).3 (Prod.snd x_1).1 (bD (Prod.snd x_1.2).1 (W ((↑x_1.1:Int)+1)) false 0 (Prod.snd (Prod.snd x_1).2).1))∧(0:Int)≤(Prod.snd (Prod.snd x_1.2).2).4+1∧(Prod.snd (Prod.snd x_1.2).2).4+(1:Int)≤(4611686018427387904:Int))∧dT (HFi sh t m xs (↑(Prod.fst x):Int)) (fun x'=>Hint.ok (HFi sh t m xs (↑(Prod.fst x):Int)) x'∧Hint.mu (HFi sh t m xs (↑(Prod.fst x):Int)) x'<Hint.mu (HFi sh t m xs (↑(Prod.fst x):Int)) x_1) [.int .i64 sh,.O,.O,.slice 0 0 (List.length xs) 1,.O,.O,.O,.O,.O,.ptr 1 0,.ptr 2 0,.ptr 3 0,.O,.int .i64 (↑x.1:Int),.int .i64 (W ((↑x_1.1:Int)+1)),.ptr 5 0,.O,.O,.O,.O,.O,.O,.O,.O,.O,.O,.O,.O,.O,.O,.O,.O,.O,.O,.O,.O,.O,.O,.O,.O,.O,.O,.O,.O,.slice 0 0 (List.length xs) 1,.int .i64 (↑(List.length xs):Int),.int .i64 (W ((↑x_1.1:Int)+1)),.O,.O,.O,.O,.O,.O,.O,.O,.O,.O,.O,.O,.O,.O,.O,.O,.O,.O,.O,.O,.O,.O,.O,.O,.O,.O,.O,.O,.O,.O,.O,.O,.O,.O,.O,.O,.O,.O,.O,.O,.O,.O,.O,.O,.O,.O] [some (.ints (some .i64) xs),some (.cells [.int .i64 0,.int .i64 0]),some (.cells [.int .i64 t,.int .i64 (W ((↑(List.length xs):Int)+m))]),some (.cells [.int .i64 (Prod.snd (Prod.snd x_1.2).2).1,.int .i64 (Prod.snd (Prod.snd x_1.2).2).2,.slice 4 0 (List.length (aL (aL (Prod.snd (Prod.snd x_1.2).2).3 (Prod.snd x_1).1 (bD (Prod.snd x_1.2).1 (W ((↑x_1.1:Int)+1)) false 0 (Prod.snd (Prod.snd x_1).2).1)) (W ((↑(List.length xs):Int)+m)+4+W ((↑x_1.1:Int)+1)) 1)) 1,.int .i64 ((Prod.snd (Prod.snd x_1.2).2).4+1+1),.int .i64 2,.int .i64 (W ((↑(List.length xs):Int)+m)+4+W ((↑x_1.1:Int)+1)),.int .u64 (aB (aL (Prod.snd (Prod.snd x_1.2).2).3 (Prod.snd x_1).1 (bD (Prod.snd x_1.2).1 (W ((↑x_1.1:Int)+1)) false 0 (Prod.snd (Prod.snd x_1).2).1)) (W ((↑(List.length xs):Int)+m)+4+W ((↑x_1.1:Int)+1))),.int .u64 (bif bM (aL (Prod.snd (Prod.snd x_1.2).2).3 (Prod.snd x_1).1 (bD (Prod.snd x_1.2).1 (W ((↑x_1.1:Int)+1)) false 0 (Prod.snd (Prod.snd x_1).2).1)) (W ((↑(List.length xs):Int)+m)+4+W ((↑x_1.1:Int)+1))then 1 else 0),.bool (bM (aL (Prod.snd (Prod.snd x_1.2).2).3 (Prod.snd x_1).1 (bD (Prod.snd x_1.2).1 (W ((↑x_1.1:Int)+1)) false 0 (Prod.snd (Prod.snd x_1).2).1)) (W ((↑(List.length xs):Int)+m)+4+W ((↑x_1.1:Int)+1)))]),some (.ints (some .u64) (aL (aL (Prod.snd (Prod.snd x_1.2).2).3 (Prod.snd x_1).1 (bD (Prod.snd x_1.2).1 (W ((↑x_1.1:Int)+1)) false 0 (Prod.snd (Prod.snd x_1).2).1)) (W ((↑(List.length xs):Int)+m)+4+W ((↑x_1.1:Int)+1)) 1)),some (.cells [.int .i64 (List.getD xs (0+Int.toNat (↑x_1.1:Int)*1) 0),.int .i64 0,.bool false,.int .i64 0,.int .i64 3])]else(((0:Int)≤(Prod.snd x_1.2).1∧(Prod.snd x_1.2).1<(1024:Int))∧((0:Int)≤(0:Int)∧(0:Int)<(512:Int))∧((0:Int)≤(0:Int)∧(0:Int)<(32:Int))∧(0:Int)≤(Prod.snd (Prod.snd x_1).2).1∧(Prod.snd (Prod.snd x_1).2).1<(262144:Int))∧(lE' (Prod.snd (Prod.snd x_1.2).2).3∧(0:Int)≤(Prod.snd (Prod.snd x_1.2).2).4∧(Prod.snd (Prod.snd x_1.2).2).4≤(4611686018427387904:Int))∧dT (LW sh t m xs) (fun x'=>Hint.ok (LW sh t m xs) x'∧Hint.mu (LW sh t m xs) x'<Hint.mu (LW sh t m xs) x) [.int .i64 sh,.O,.O,.slice 0 0 (List.length xs) 1,.O,.O,.O,.O,.O,.ptr 1 0,.ptr 2 0,.ptr 3 0,.O,.int .i64 (W ((↑x.1:Int)+1)),.O,.O,.O,.O,.O,.O,.O,.O,.O,.O,.O,.O,.O,.O,.O,.O,.O,.O,.O,.O,.O,.O,.O,.O,.O,.O,.O,.O,.O,.O,.O,.O,.O,.O,.O,.O,.O,.O,.O,.O,.O,.O,.O,.O,.O,.O,.O,.O,.O,.O,.O,.O,.O,.O,.O,.O,.O,.O,.O,.O,.O,.O,.O,.O,.O,.O,.O,.O,.O,.O,.O,.O,.O,.O,.O,.O,.O,.O,.O] [some (.ints (some .i64) xs),some (.cells [.int .i64 0,.int .i64 0]),some (.cells [.int .i64 t,.int .i64 (W ((↑(List.length xs):Int)+m))]),some (.cells [.int .i64 (Prod.snd (Prod.snd x_1.2).2).1,.int .i64 (Prod.snd (Prod.snd x_1.2).2).2,.slice 4 0 (List.length (aL (Prod.snd (Prod.snd x_1.2).2).3 (Prod.snd x_1).1 (bD (Prod.snd x_1.2).1 0 false 0 (Prod.snd (Prod.snd x_1).2).1))) 1,.int .i64 ((Prod.snd (Prod.snd x_1.2).2).4+1),.int .i64 2,.int .i64 (Prod.snd x_1).1,.int .u64 (aB (Prod.snd (Prod.snd x_1.2).2).3 (Prod.snd x_1).1),.int .u64 (bif bM (Prod.snd (Prod.snd x_1.2).2).3 (Prod.snd x_1).1 then bD (Prod.snd x_1.2).1 0 false 0 (Prod.snd (Prod.snd x_1).2).1 else 0),.bool (bM (Prod.snd (Prod.snd x_1.2).2).3 (Prod.snd x_1).1)]),some (.ints (some .u64) (aL (Prod.snd (Prod.snd x_1.2).2).3 (Prod.snd x_1).1 (bD (Prod.snd x_1.2).1 0 false 0 (Prod.snd (Prod.snd x_1).2).1)))]else K (.tup [.ptr 1 0,.agg [.int .i64 t,.int .i64 (W ((↑(List.length xs):Int)+m))]]) [some (.ints (some .i64) xs),some (.cells [.int .i64 (Prod.snd x).1,.int .i64 (Prod.snd x).2,.slice 2 0 (List.length (Prod.snd x).3) 1,.int .i64 (Prod.snd x).4,.int .i64 (Prod.snd x).5,.int .i64 (Prod.snd x).6,.int .u64 (Prod.snd x).7,.int .u64 (Prod.snd x).8,.bool (Prod.snd x).9]),some (.ints (some .u64) (Prod.snd x).3)]
theorem EN(sh t m:Int)(xs:List Int)(K:AVal→aD Ob→Prop)(h:y6 sh t m xs K):cT' 15 [.int .i64 sh,.int .i64 t,.int .i64 m,.slice 0 0 xs.length 1] [some (.ints (some .i64) xs)] K:=by
 refine aC8 (aE (E:=EZ) Tryz.checked.mixed (L:=YW sh t m xs) (n:=10) (aN (by kernel_rfl) h))
theorem BZ(sh h n k:Int)(ks:List Int)(i a ky vr:Int)(s:MS)(e:fH sh h k=true):eQ sh h n (k::ks) i a ky vr s=eQ sh h n ks (i+1) a ky vr s:=by show cond _ _ _=_;rw [e];rfl
theorem B0(sh h n k:Int)(ks:List Int)(i a ky vr:Int)(s:MS)(e:fH sh h k=false):eQ sh h n (k::ks) i a ky vr s=eQ sh h n ks (i+1) (i+1) k 3 ((s.stored a (bD ky (i+1) false 0 vr)).stored (n+4+(i+1)) 1):=by show cond _ _ _=_;rw [e];rfl
theorem B1(sh n:Int)(xs:List Int)(h:Nat)(hh:h<4)(s:MS):iH sh n xs (4 - h) h s=iH sh n xs (3 - (h:Int)).toNat ((h:Int)+1) (eQ sh h n xs 0 (n+1+h) 0 0 s):=by
 have:4 - h=(3 - (h:Int)).toNat +1:=by omega
 rw [this];rfl
theorem SQ(sh t m:Int)(xs:List Int)(K:AVal→aD Ob→Prop)(hm:0≤m∧m≤100)(hl:xs.length≤100)(hr:iI t (xs.length+m)=true)(hk: ∀k∈xs,0≤k∧k<1024)
 (hK:K (.tup [.ptr 1 0,.agg [.int .i64 t,.int .i64 (xs.length+m)]]) [some (.ints (some .i64) xs),a8 2 (iH sh (xs.length+m) xs 4 0 (memN t (xs.length+m))),a9 (iH sh (xs.length+m) xs 4 0 (memN t (xs.length+m)))]):y6 sh t m xs K:=by
 unfold y6
 have hr2:=nR.1 hr
 have hn:W ((xs.length:Int)+m)=xs.length+m:=cT (by omega)
 have hr':iI t (W ((xs.length:Int)+m))=true:=by rw [hn];exact hr
 have hz:(2*W ((xs.length:Int)+m)+5*t+6).toNat =(2*((xs.length:Int)+m)+5*t+6).toNat :=by rw [hn]
 rw [hr']
 refine⟨trivial,aW (fun e=>by cases e) (fun _=>⟨⟨by omega,by omega,by omega⟩,aW (fun e=>?_) (fun _=>⟨⟨⟨by omega,by omega,by omega⟩,trivial⟩,⟨by omega,rfl,by omega⟩,?_,?_⟩)⟩)⟩
 ·rw [bU,dT']at e;omega
 ·refine bF (H:=LW sh t m xs) ((0:Nat),memN t (W ((xs.length:Int)+m))) ?_ ⟨Nat.zero_le _,⟨Int.le_refl 0,by show(0:Int)≤_;omega⟩,rfl⟩
  simp only [LW,a8,a9,memN,List.length_replicate]
  rfl
 ·rintro⟨h,s⟩ ⟨h4,hc,heq⟩
  simp only at h4 hc heq
  refine aW (fun e1=>?_) (fun e1=>?_)
  ·rw [bU,dT']at e1
   refine⟨⟨by omega,by omega,by omega⟩,bF (H:=HFi sh t m xs (h:Int)) ((0:Nat),(W ((xs.length:Int)+m)+1+h,((0:Int),((0:Int),s)))) rfl ⟨by omega,Nat.zero_le _,⟨Int.le_refl 0,by show(0:Int)<1024;omega⟩,⟨Int.le_refl 0,by show(0:Int)<262144;omega⟩,⟨hc.1,by show s.c≤1000*(h:Int)+3*((0:Nat):Int);omega⟩,?_⟩,?_⟩
   ·rw [heq,B1 _ _ _ _ (by omega)];rfl
   ·rintro⟨i,a,ky,vr,s1⟩ ⟨g4,gi,gk,gv,gc,geq⟩
    simp only at g4 gi gk gv gc geq
    have gc2:s1.c≤1000*(h:Int)+3*i:=gc.2
    have gc1:0≤s1.c:=gc.1
    have gh:(h:Int)<4:=g4.2
    have hskip: ∀(hi:i<xs.length),fH sh h (xs.getD (0+(i:Int).toNat *1) 0)=true→dT (HFi sh t m xs h) (fun x'=>Hint.ok (HFi sh t m xs h) x'∧Hint.mu (HFi sh t m xs h) x'<Hint.mu (HFi sh t m xs h) (i,a,ky,vr,s1)) ((HFi sh t m xs h).st ((i+1:Nat),a,ky,vr,s1)).1 ((HFi sh t m xs h).st ((i+1:Nat),a,ky,vr,s1)).2:=by
     intro hi hs
     refine bF (H:=HFi sh t m xs h) ((i+1:Nat),a,ky,vr,s1) rfl ⟨⟨g4,hi,gk,gv,⟨gc.1,by show s1.c≤1000*(h:Int)+3*((i+1:Nat):Int);omega⟩,?_⟩,by show xs.length - (i+1)<xs.length - i;omega⟩
     have e2:0+(i:Int).toNat *1=i:=by omega
     have e3:xs.getD i 0=xs[i]:=by rw [gD',gE' hi];rfl
     rw [e2,e3]at hs
     rw [geq,List.drop_eq_getElem_cons hi,BZ _ _ _ _ _ _ _ _ _ _ hs];rfl
    have hput: ∀(hi:i<xs.length),fH sh h (xs.getD (0+(i:Int).toNat *1) 0)=false→dT (HFi sh t m xs h) (fun x'=>Hint.ok (HFi sh t m xs h) x'∧Hint.mu (HFi sh t m xs h) x'<Hint.mu (HFi sh t m xs h) (i,a,ky,vr,s1)) ((HFi sh t m xs h).st ((i+1:Nat),((i+1:Nat):Int),(xs.getD (0+(i:Int).toNat *1) 0,(3:Int),((s1.stored a (bD ky ((i:Int)+1) false 0 vr)).stored (W ((xs.length:Int)+m)+4+((i:Int)+1)) 1)))).1 ((HFi sh t m xs h).st ((i+1:Nat),((i+1:Nat):Int),(xs.getD (0+(i:Int).toNat *1) 0,(3:Int),((s1.stored a (bD ky ((i:Int)+1) false 0 vr)).stored (W ((xs.length:Int)+m)+4+((i:Int)+1)) 1)))).2:=by
     intro hi hs
     have e2:0+(i:Int).toNat *1=i:=by omega
     rw [e2]at hs⊢
     have e3:xs.getD i 0=xs[i]:=by rw [gD',gE' hi];rfl
     rw [e3]at hs⊢
     refine bF (H:=HFi sh t m xs h) _ rfl ⟨⟨g4,hi,hk _ (List.getElem_mem hi),⟨by show(0:Int)≤3;omega,by show(3:Int)<262144;omega⟩,⟨?_,?_⟩,?_⟩,by show xs.length - (i+1)<xs.length - i;omega⟩
     ·show 0≤s1.c+1+1;omega
     ·show s1.c+1+1≤1000*(h:Int)+3*((i+1:Nat):Int);omega
     ·rw [geq,List.drop_eq_getElem_cons hi,B0 _ _ _ _ _ _ _ _ _ _ hs];rfl
    have e4:i<xs.length→W ((i:Int)+1)=((i+1:Nat):Int):=fun hi=>(cT (by omega)).trans rfl
    have e4':W ((h:Int)+1)=((h+1:Nat):Int):=(cT (by have:(h:Int)<4:=g4.2;omega)).trans rfl
    refine aW (fun e2=>?_) (fun e2=>?_)
    ·rw [bU,dT']at e2
     have hi:i<xs.length:=by omega
     have e4:=e4 hi
     have e0:0+(i:Int).toNat *1<xs.length:=by omega
     refine⟨by omega,e0,?_⟩
     have hput:=hput hi
     have hskip:=hskip hi
     unfold fH at hput hskip
     simp only [e4]at hput hskip⊢
     refine aW (fun e5=>?_) (fun e5=>?_)
     ·rw [e5]at hput hskip
      refine⟨by decide,aW (fun e6=>?_) (fun e6=>?_)⟩
      ·exact hskip e6
      ·rw [e5]
       refine aW (fun e7=>by cases e7) (fun _=>?_)
       refine⟨⟨gk,⟨by omega,by omega⟩,⟨by decide,by decide⟩,gv⟩,⟨trivial,gc.1,by omega⟩,⟨⟨by omega,by omega⟩,⟨by omega,by omega⟩,by omega,by omega⟩,⟨trivial,by omega,by omega⟩,?_⟩
       exact hput e6
     ·rw [e5]at hput hskip
      rw [e5]
      refine aW (fun _=>aW (fun e6=>?_) (fun e6=>?_)) (fun e7=>by cases e7)
      ·exact hskip e6
      ·refine⟨⟨gk,⟨by omega,by omega⟩,⟨by decide,by decide⟩,gv⟩,⟨trivial,gc.1,by omega⟩,⟨⟨by omega,by omega⟩,⟨by omega,by omega⟩,by omega,by omega⟩,⟨trivial,by omega,by omega⟩,?_⟩
       exact hput e6
    ·rw [bU,dF']at e2
     have hi:i=xs.length:=by omega
     subst hi
     refine⟨⟨gk,⟨by decide,by decide⟩,⟨by decide,by decide⟩,gv⟩,⟨rfl,gc1,by show s1.c≤4611686018427387904;omega⟩,bF (H:=LW sh t m xs) ((h+1:Nat),s1.stored a (bD ky 0 false 0 vr)) ?_ ⟨⟨by show h+1≤4;omega,⟨by show 0≤s1.c+1;omega,by show s1.c+1≤1000*((h+1:Nat):Int);omega⟩,?_⟩,by show 4 - (h+1)<4 - h;omega⟩⟩
     ·simp only [LW,←e4']
      rfl
     ·rw [geq,List.drop_length]
      have e9:(3 - (h:Int)).toNat =4 - (h+1):=by omega
      rw [e9];rfl
  ·rw [bU,dF']at e1
   have e5:h=4:=by omega
   subst e5
   have heq':iH sh (W ((xs.length:Int)+m)) xs 4 0 (memN t (W ((xs.length:Int)+m)))=s:=heq
   rw [hn]at heq'
   rw [heq']at hK
   rw [hn]
   exact hK
def gG(sh t n:Int)(xs:List Int):MS:=iH sh n xs 4 0 (memN t n)
structure y5 (t m:Int) (xs:List Int):Prop where
 hm:0≤m∧m≤100
 hl:xs.length≤100
 hr:iI t (xs.length+m)=true
 hk: ∀k∈xs,0≤k∧k<1024
def LV(sh t m:Int):Hint Ob:= {X:=Nat×MS,st:=fun x=>([.int .i64 sh,.O,.O,.raw (.slice none 0 0),.O,.O,.O,.O,.O,.ptr 0 0,.ptr 1 0,.ptr 2 0,.O,.int .i64 (x.1:Int)]++List.replicate 79 .O,[some (.cells [.int .i64 0,.int .i64 0]),some (.cells [.int .i64 t,.int .i64 (IntKind.wrap .i64 (((0:Nat):Int)+m))]),a8 3 x.2,a9 x.2]),ok:=tG sh t (IntKind.wrap .i64 (((0:Nat):Int)+m)) [],mu:=fun x=>4 - x.1,keep:=[0,3,9,10,11,13] }
def YX(sh t m:Int):FuncId→Nat→Option (rA Ob):=fun _ k=>if k=6 then some (.states (LV sh t m))else some (.rounds 2)
def tH(sh t m:Int)(K:AVal→aD Ob→Prop):Prop:=True∧bif !iI t (W ((↑0:Int)+m))then K (.tup [.raw (Value.pointer none),.agg [.int .i64 t,.int .i64 (W ((↑0:Int)+m))]]) []else(((0:Int)≤t∧t≤(100000:Int))∧(0:Int)≤W ((↑0:Int)+m)∧W ((↑0:Int)+m)≤(100000:Int))∧bif ilt (2*W ((↑0:Int)+m)+5*t+6) (↑0:Int)then K (.tup [.raw (Value.pointer none),.agg [.int .i64 t,.int .i64 (W ((↑0:Int)+m))]]) []else((((0:Int)≤t∧t≤(100000:Int))∧(0:Int)≤W ((↑0:Int)+m)∧W ((↑0:Int)+m)≤(100000:Int))∧True)∧((0:Int)≤(2:Int)*W ((↑0:Int)+m)+5*t+6∧2*W ((↑0:Int)+m)+5*t+(6:Int)=(2:Int)*W ((↑0:Int)+m)+5*t+6∧2*W ((↑0:Int)+m)+5*t+(6:Int)≤(4294967296:Int))∧dT (LV sh t m) (Hint.ok (LV sh t m)) [.int .i64 sh,.O,.O,.raw (Value.slice none 0 0),.O,.O,.O,.O,.O,.ptr 0 0,.ptr 1 0,.ptr 2 0,.O,.int .i64 0,.O,.O,.O,.O,.O,.O,.O,.O,.O,.O,.O,.O,.O,.O,.O,.O,.O,.O,.O,.O,.O,.O,.O,.O,.O,.O,.O,.O,.O,.O,.O,.O,.O,.O,.O,.O,.O,.O,.O,.O,.O,.O,.O,.O,.O,.O,.O,.O,.O,.O,.O,.O,.O,.O,.O,.O,.O,.O,.O,.O,.O,.O,.O,.O,.O,.O,.O,.O,.O,.O,.O,.O,.O,.O,.O,.O,.O,.O,.O] [some (.cells [.int .i64 0,.int .i64 0]),some (.cells [.int .i64 t,.int .i64 (W ((↑0:Int)+m))]),some (.cells [.int .i64 t,.int .i64 (W ((↑0:Int)+m)),.slice 3 0 (Int.toNat (2*W ((↑0:Int)+m)+5*t+6)) 1,.int .i64 0,.int .i64 0,.int .i64 0,.int .u64 0,.int .u64 0,.bool false]),some (.ints (some .u64) (List.replicate (Int.toNat (2*W ((↑0:Int)+m)+5*t+6)) 0))]∧ ∀(x:(Nat×MS)),tG sh t (W ((↑0:Int)+m)) [] x→bif ilt (↑x.1:Int) 4 then(((0:Int)≤W ((↑0:Int)+m)∧W ((↑0:Int)+m)≤(100000:Int))∧(-1000000:Int)≤(↑x.1:Int)∧(↑x.1:Int)≤(1000000:Int))∧(((0:Int)≤(0:Int)∧(0:Int)<(1024:Int))∧((0:Int)≤(0:Int)∧(0:Int)<(512:Int))∧((0:Int)≤(0:Int)∧(0:Int)<(32:Int))∧(0:Int)≤(0:Int)∧(0:Int)<(262144:Int))∧(lE' (Prod.snd x).3∧(0:Int)≤(Prod.snd x).4∧(Prod.snd x).4≤(4611686018427387904:Int))∧dT (LV sh t m) (fun x'=>Hint.ok (LV sh t m) x'∧Hint.mu (LV sh t m) x'<Hint.mu (LV sh t m) x) [.int .i64 sh,.O,.O,.raw (Value.slice none 0 0),.O,.O,.O,.O,.O,.ptr 0 0,.ptr 1 0,.ptr 2 0,.O,.int .i64 (W ((↑x.1:Int)+1)),.O,.O,.O,.O,.O,.O,.O,.O,.O,.O,.O,.O,.O,.O,.O,.O,.O,.O,.O,.O,.O,.O,.O,.O,.O,.O,.O,.O,.O,.O,.O,.O,.O,.O,.O,.O,.O,.O,.O,.O,.O,.O,.O,.O,.O,.O,.O,.O,.O,.O,.O,.O,.O,.O,.O,.O,.O,.O,.O,.O,.O,.O,.O,.O,.O,.O,.O,.O,.O,.O,.O,.O,.O,.O,.O,.O,.O,.O,.O] [some (.cells [.int .i64 0,.int .i64 0]),some (.cells [.int .i64 t,.int .i64 (W ((↑0:Int)+m))]),some (.cells [.int .i64 (Prod.snd x).1,.int .i64 (Prod.snd x).2,.slice 3 0 (List.length (aL (Prod.snd x).3 (W ((↑0:Int)+m)+1+(↑x.1:Int)) (bD 0 0 false 0 0))) 1,.int .i64 ((Prod.snd x).4+1),.int .i64 2,.int .i64 (W ((↑0:Int)+m)+1+(↑x.1:Int)),.int .u64 (aB (Prod.snd x).3 (W ((↑0:Int)+m)+1+(↑x.1:Int))),.int .u64 (bif bM (Prod.snd x).3 (W ((↑0:Int)+m)+1+(↑x.1:Int))then bD 0 0 false 0 0 else 0),.bool (bM (Prod.snd x).3 (W ((↑0:Int)+m)+1+(↑x.1:Int)))]),some (.ints (some .u64) (aL (Prod.snd x).3 (W ((↑0:Int)+m)+1+(↑x.1:Int)) (bD 0 0 false 0 0)))]else K (.tup [.ptr 0 0,.agg [.int .i64 t,.int .i64 (W ((↑0:Int)+m))]]) [some (.cells [.int .i64 (Prod.snd x).1,.int .i64 (Prod.snd x).2,.slice 1 0 (List.length (Prod.snd x).3) 1,.int .i64 (Prod.snd x).4,.int .i64 (Prod.snd x).5,.int .i64 (Prod.snd x).6,.int .u64 (Prod.snd x).7,.int .u64 (Prod.snd x).8,.bool (Prod.snd x).9]),some (.ints (some .u64) (Prod.snd x).3)]
theorem B2(sh t m:Int)(K:AVal→aD Ob→Prop)(h:tH sh t m K):cT' 15 [.int .i64 sh,.int .i64 t,.int .i64 m,.raw (.slice none 0 0)] [] K:=by
 refine aC8 (aE (E:=EZ) Tryz.checked.mixed (L:=YX sh t m) (n:=10) (aN (by kernel_rfl) h))
theorem NR(sh t m:Int)(K:AVal→aD Ob→Prop)(ok:y5 t m [])
 (hK:K (.tup [.ptr 0 0,.agg [.int .i64 t,.int .i64 m]]) [a8 1 (gG sh t m []),a9 (gG sh t m [])]):tH sh t m K:=by
 obtain⟨hm,hl,hr,hk⟩:=ok
 have h00:((([]:List Int).length :Int)+m)=m:=by simp
 rw [h00]at hr
 unfold tH
 have hr2:=nR.1 hr
 have hn:W (0+m)=m:=(cT (by omega)).trans (by omega)
 have hr':iI t (W (0+m))=true:=by rw [hn];exact hr
 rw [hr']
 refine⟨trivial,aW (fun e=>by cases e) (fun _=>⟨⟨by omega,by omega,by omega⟩,aW (fun e=>?_) (fun _=>⟨⟨⟨by omega,by omega,by omega⟩,trivial⟩,⟨by omega,rfl,by omega⟩,?_,?_⟩)⟩)⟩
 ·rw [bU,dT']at e;omega
 ·refine bF (H:=LV sh t m) ((0:Nat),memN t (W (0+m))) ?_ ⟨Nat.zero_le _,⟨Int.le_refl 0,by show(0:Int)≤_;omega⟩,rfl⟩
  simp only [LV,a8,a9,memN,List.length_replicate]
  rfl
 ·rintro⟨h,s⟩ ⟨h4,hc,heq⟩
  simp only at h4 hc heq
  have gc1:0≤s.c:=hc.1
  refine aW (fun e1=>?_) (fun e1=>?_)
  ·rw [bU,dT']at e1
   have e1:(h:Int)<4:=e1
   have e4':W ((h:Int)+1)=((h+1:Nat):Int):=(cT (by omega)).trans rfl
   refine⟨⟨by omega,by omega,by omega⟩,⟨⟨by decide,by decide⟩,⟨by decide,by decide⟩,⟨by decide,by decide⟩,by decide,by decide⟩,⟨rfl,gc1,by show s.c≤4611686018427387904;omega⟩,bF (H:=LV sh t m) ((h+1:Nat),s.stored (W (0+m)+1+h) (bD 0 0 false 0 0)) ?_ ⟨⟨by show h+1≤4;omega,⟨by show 0≤s.c+1;omega,by show s.c+1≤1000*((h+1:Nat):Int);omega⟩,?_⟩,by show 4 - (h+1)<4 - h;omega⟩⟩
   ·simp only [LV,←e4']
    rfl
   ·have e9:(3 - (h:Int)).toNat =4 - (h+1):=by omega
    refine Eq.trans heq ?_
    rw [B1 _ _ _ _ (by omega),e9];rfl
  ·rw [bU,dF']at e1
   have e1: ¬(h:Int)<4:=e1
   have e5:h=4:=by omega
   subst e5
   have heq':iH sh (W (0+m)) [] 4 0 (memN t (W (0+m)))=s:=heq
   rw [hn]at heq'
   unfold gG at hK
   rw [heq']at hK
   rw [hn]
   exact hK
def fillSa:aJ Ob:=fun args h=>match args,h with
 | [.int .i64 sh,.int .i64 t,.int .i64 m,.slice 0 0 k 1],[some (.ints (some .i64) xs)]=>some (.pre (k=xs.length∧y5 t m xs) (.ret (.tup [.ptr 1 0,.agg [.int .i64 t,.int .i64 (xs.length+m)]]) [some (.ints (some .i64) xs),a8 2 (gG sh t (xs.length+m) xs),a9 (gG sh t (xs.length+m) xs)]))
 | _,_=>none
def fillSb:aJ Ob:=fun args h=>match args,h with
 | [.int .i64 sh,.int .i64 t,.int .i64 m,.raw (.slice none 0 0)],[]=>some (.pre (y5 t m []) (.ret (.tup [.ptr 0 0,.agg [.int .i64 t,.int .i64 m]]) [a8 1 (gG sh t m []),a9 (gG sh t m [])]))
 | _,_=>none
theorem NQ:sT' 15 fillSa:=by
 intro args h o ho K hK
 unfold fillSa at ho
 split at ho<;>cases ho
 rename_i sh t m k xs
 obtain⟨⟨rfl,ok⟩,hK⟩:=hK
 exact EN sh t m xs K (SQ sh t m xs K ok.hm ok.hl ok.hr ok.hk hK)
theorem uI:sT' 15 fillSb:=by
 intro args h o ho K hK
 unfold fillSb at ho
 split at ho<;>cases ho
 rename_i sh t m
 obtain⟨ok,hK⟩:=hK
 exact B2 sh t m K (NR sh t m K ok hK)
noncomputable def fillS:aJ Ob:=aJ.or fillSa fillSb
theorem HL:sT' 15 fillS:=aDn NQ uI
noncomputable def EF1:=EZ.addS 15 fillSb uI
def stNewS:aJ Ob:=fun args h=>match args,h with
 | [.agg [.int .i64 t,.int .i64 n],.int .i64 me],[]=>some (.pre True (.ret (.ptr 0 0) [stC 1 t n ⟨me,0,[]⟩,fS ⟨me,0,[]⟩]))
 | _,_=>none
theorem vI:sT' 19 stNewS:=by
 intro args h o ho K hK
 unfold stNewS at ho
 split at ho<;>cases ho
 rename_i t n me
 obtain⟨_,hK⟩:=hK
 have hK:K (.ptr 0 0) [stC 1 t n ⟨me,0,[]⟩,fS ⟨me,0,[]⟩]:=hK
 refine aC8 (aDy (cs:=[(.cell 1 4,.ints (some .i64))]) (cM' (E:=EF1) (q:=K (.ptr 0 0) [some (.cells [.int .i64 t,.int .i64 n,.int .i64 me,.int .i64 0,.slice 1 0 0 1]),some (.ints (some .i64) [])]) (by kernel_rfl) ?_))
 exact hK
noncomputable def EF2:=EF1.addS 19 stNewS vI
noncomputable def EF3:pJ Ob Tryz.prog:=EF2
def enNSA:aJ Ob:=fun args h=>match args,h with
 | [.ptr 0 0],[some (.abs (.store t n st) [])]=>some (.pre (BH t n st).ok (.ret (.ptr 1 0) [some (.abs (.store t n (BH t n st).val) []),some (.abs (.ensure t n aS) [0])]))
 | _,_=>none
theorem SC:sT' 37 enNSA:=by
 intro args h o ho K hK
 unfold enNSA at ho
 split at ho<;>cases ho
 rename_i t n st
 obtain⟨ok,hK⟩:=hK
 refine aC.pack (tb:=tbl) (aC.unpack (tb:=tbl) (Mc.store t n st) 0 0 (dG t n st) [] rfl rfl rfl rfl ?_)
 refine EG [.ptr 0 0] [stC 1 t n st,fS st] _ rfl _ ⟨⟨rfl,ok⟩,⟨[0,2,1],[some (.abs (.store t n (BH t n st).val) []),some (.abs (.ensure t n aS) [0])],.store t n (BH t n st).val,0,0,dG t n (BH t n st).val,[],by kernel_rfl,by kernel_rfl,rfl,rfl,hK⟩⟩
def ftNSA:aJ Ob:=fun args h=>match args,h with
 | [.ptr 0 0,.agg [.int .i64 sh,.int .i64 kd,.int .i64 ky],.int .i64 most],[some (.abs (.store t n st) [])]=>some (.pre (sW t n sh kd ky most st) (.ret (.ptr 1 0) [some (.abs (.store t n (ftNF t n sh kd ky most st).2) []),some (.abs (.fast t n (ftNF t n sh kd ky most st).1) [0])]))
 | _,_=>none
theorem S3:sT' 18 ftNSA:=by
 intro args h o ho K hK
 unfold ftNSA at ho
 split at ho<;>cases ho
 rename_i sh kd ky most t n st
 obtain⟨ok,hK⟩:=hK
 refine aC.pack (tb:=tbl) (aC.unpack (tb:=tbl) (Mc.store t n st) 0 0 (dG t n st) [] rfl rfl rfl rfl ?_)
 refine EW [.ptr 0 0,.agg [.int .i64 sh,.int .i64 kd,.int .i64 ky],.int .i64 most] [stC 1 t n st,fS st] _ rfl _ ⟨⟨rfl,ok⟩,⟨[0,2,1],[some (.abs (.store t n (ftNF t n sh kd ky most st).2) []),some (.abs (.fast t n (ftNF t n sh kd ky most st).1) [0])],.store t n (ftNF t n sh kd ky most st).2,0,0,dG t n (ftNF t n sh kd ky most st).2,[],by kernel_rfl,by kernel_rfl,rfl,rfl,hK⟩⟩
noncomputable def EFr:=(EF3.addS 37 (aJ.or enNSA enNS) (aDn SC EG)).addS 18 (aJ.or ftNSA ftNS) (aDn S3 EW)
def r0(r:List Int):Int:=List.headD r 0
def r1(r:List Int):Int:=List.headD (List.tail r) 0
def r2(r:List Int):Int:=List.headD (List.tail (List.tail r)) 0
abbrev KT:List Code1:=[some .i64,some .i64,some .i64]
abbrev KR:List Code1:=[some .i64,none,some .i64]
def stNewZ:aJ Ob:=fun args h=>match args,h with
 | [.agg [.int .i64 t,.int .i64 n],.int .i64 me],[]=>some (.pre True (.ret (.ptr 0 0) [some (.abs (.store t n ⟨me,0,[]⟩) [])]))
 | _,_=>none
theorem LK:sT' 19 stNewZ:=by
 intro args h o ho K hK
 unfold stNewZ at ho
 split at ho<;>cases ho
 rename_i t n me
 obtain⟨_,hK⟩:=hK
 refine aC.pack (tb:=tbl) ?_
 refine vI [.agg [.int .i64 t,.int .i64 n],.int .i64 me] [] _ rfl _ ⟨trivial,⟨[0,1],[some (.abs (.store t n ⟨me,0,[]⟩) [])],.store t n ⟨me,0,[]⟩,0,0,dG t n ⟨me,0,[]⟩,[],by kernel_rfl,by kernel_rfl,rfl,rfl,hK⟩⟩
noncomputable def EFs:=((EFr.addS 19 stNewZ LK))
noncomputable def EFt:=EFs
def rI:AVal→Int
 | .int _ n=>n
 | _=>0
def rK(row:Nat→List AVal)(i:Nat):Int:=rI ((row i).getD 0 .O)
def rY(row:Nat→List AVal)(i:Nat):Int:=rI ((row i).getD 1 .O)
structure OU (row:Nat→List AVal):Prop where
 h:row=fun i=>[.int .i64 (rK row i),.int .i64 (rY row i)]
def kQ(k:Int)(m:Nat)(f g:Nat→Int):Bool:=(List.range m).all fun j=>aY k (f j) (g j)
theorem pE{k:Int}{m:Nat}{f g:Nat→Int} :kQ k m f g=true↔ ∀j,j<m→aY k (f j) (g j)=true:=by
 unfold kQ;simp
def inF(f g:Nat→Int)(k:Int):Nat→Bool
 | 0=>false
 | n+1=>bif ieq (g n) k&&ieq (f n) 1 then true else bif ieq (g n) k&&ieq (f n) 2 then false else inF f g k n
def dB(f:Nat→Int):Nat→Int
 | 0=>0
 | n+1=>bif ieq (f n) 4 then dB f n+1 else bif ilt 0 (dB f n)then dB f n - 1 else dB f n
def nQ(f g:Nat→Int):Nat→List Int
 | 0=>[]
 | n+1=>bif ieq (f n) 4 then nQ f g n++ [g n]else nQ f g n
def uS(f g:Nat→Int)(n:Nat):List Int:=(nQ f g n).drop (((nQ f g n).length :Int) - dB f n).toNat
def l9(f g:Nat→Int):Nat→Int→List Int
 | 0,_=>[]
 | i+1,need=>bif ilt 0 need then(bif ieq (f i) 4&&ieq (dB f i) (need - 1)then g i::l9 f g i (need - 1)else l9 f g i need)else []
def u5(f g:Nat→Int)(n:Nat):List Int:=l9 f g n (dB f n)
def aCz(f g:Nat→Int)(n:Nat):List Int:=((List.range 1000).map fun i:Nat=>(i:Int)).filter fun k=>inF f g k n
def d8(sh:Int)(f g:Nat→Int)(n:Nat):List Int:=bif ieq sh 3 then uS f g n else bif ieq sh 4 then u5 f g n else aCz f g n
def PK(sh:Int)(f g:Nat→Int)(n:Nat)(kd ky:Int):Bool×Int:=
 bif ieq kd 1 then(!inF f g ky n,0)else bif ieq kd 2||ieq kd 3 then(inF f g ky n,0)else bif ieq kd 4 then(true,0)else match d8 sh f g n with
  | []=>(false,0)
  | x::_=>(true,x)
theorem fN{a b:Int}(h:a≠b):ieq a b=false:=by rw [bI,beq_eq_false_iff_ne];exact h
theorem rV(f:Nat→Int)(n:Nat):0≤dB f n:=by
 induction n with
 | zero=>exact Int.le_refl 0
 | succ n this=>
   show 0≤(bif ieq (f n) 4 then dB f n+1 else bif ilt 0 (dB f n)then dB f n - 1 else dB f n)
   cases ieq (f n) 4 with
   | true=>rw [cond_true];omega
   | false=>
     rw [cond_false]
     cases h:ilt 0 (dB f n)with
     | true=>rw [cond_true];rw [bU,dT']at h;omega
     | false=>rw [cond_false];exact this
noncomputable def EV0:=EFt.addS 15 (aJ.or fillS (kX [(.slot 3,.ints (some .i64))] fillS)) (aDn HL (jR HL))
noncomputable def EV1:=(EV0)
noncomputable def EV2:=(EV1)
noncomputable def EV3:=EV2
noncomputable def EV4:=EV3
noncomputable def EV5:=EV4
noncomputable def EV6:=EV5
noncomputable def EV7:pJ Ob Tryz.prog:=EV6
noncomputable def EV8:=EV7
def dqNSA:aJ Ob:=fun args h=>match args,h with
 | [.ptr 0 0,.agg [.int .i64 sh,.int .i64 kd,.int .i64 ky],.int .i64 lim],[some (.abs (.store t n st) [])]=>some (.pre (wV t n sh kd ky lim st) (.ret (.ptr 1 0) [some (.abs (.store t n (dqNF t n sh kd ky lim st).2) []),some (.abs (.doer t n (dqNF t n sh kd ky lim st).1) [0])]))
 | _,_=>none
theorem RO:sT' 56 dqNSA:=by
 intro args h o ho K hK
 unfold dqNSA at ho
 split at ho<;>cases ho
 rename_i sh kd ky lim t n st
 obtain⟨ok,hK⟩:=hK
 refine aC.pack (tb:=tbl) (aC.unpack (tb:=tbl) (Mc.store t n st) 0 0 (dG t n st) [] rfl rfl rfl rfl ?_)
 refine EB [.ptr 0 0,.agg [.int .i64 sh,.int .i64 kd,.int .i64 ky],.int .i64 lim] [stC 1 t n st,fS st] _ rfl _ ⟨⟨rfl,ok⟩,⟨[0,2,1],[some (.abs (.store t n (dqNF t n sh kd ky lim st).2) []),some (.abs (.doer t n (dqNF t n sh kd ky lim st).1) [0])],.store t n (dqNF t n sh kd ky lim st).2,0,0,dG t n (dqNF t n sh kd ky lim st).2,[],by kernel_rfl,by kernel_rfl,rfl,rfl,hK⟩⟩
noncomputable def EV9:=EV8.addS 56 (aJ.or dqNSA dqNS) (aDn RO EB)
def wT(t n:Int):Nat→DOS→STS→MS→Prop
 | 0,_,_,_=>False
 | f+1,x,st,s=>dqOk t n x st s∧((dqF t n x st s).d =false→wT t n f (dqF t n x st s).x (dqF t n x st s).st (dqF t n x st s).s)
def oN(t n:Int):Nat→DOS→STS→MS→Nat×DOS×STS×MS
 | 0,x,st,s=>(0,x,st,s)
 | f+1,x,st,s=>bif (dqF t n x st s).d then(1,(dqF t n x st s).x,(dqF t n x st s).st,(dqF t n x st s).s)else((oN t n f (dqF t n x st s).x (dqF t n x st s).st (dqF t n x st s).s).1+1,(oN t n f (dqF t n x st s).x (dqF t n x st s).st (dqF t n x st s).s).2)
def alX(t n lim:Int)(N:Nat)(r:List Int)(st:STS)(s:MS):Nat×DOS×STS×MS:=oN t n N (dqNF t n (r0 r) (r1 r) (r2 r) lim st).1 (dqNF t n (r0 r) (r1 r) (r2 r) lim st).2 s
def wG(t n lim:Int)(N:Nat)(r:List Int)(st:STS)(s:MS):Prop:=wV t n (r0 r) (r1 r) (r2 r) lim st∧wT t n N (dqNF t n (r0 r) (r1 r) (r2 r) lim st).1 (dqNF t n (r0 r) (r1 r) (r2 r) lim st).2 s
def pM(x:DOS):List Int:=[x.code,bitI x.okk,x.val]
def alF(t n lim:Int)(N:Nat):List (List Int)→STS→MS→List (List Int)×Nat×STS×MS
 | [],st,s=>([],0,st,s)
 | r::T,st,s=>(pM (alX t n lim N r st s).2.1::(alF t n lim N T (alX t n lim N r st s).2.2.1 (alX t n lim N r st s).2.2.2).1,(alX t n lim N r st s).1+(alF t n lim N T (alX t n lim N r st s).2.2.1 (alX t n lim N r st s).2.2.2).2.1,(alF t n lim N T (alX t n lim N r st s).2.2.1 (alX t n lim N r st s).2.2.2).2.2)
def alOk(t n lim:Int)(N:Nat):List (List Int)→STS→MS→Prop
 | [],_,_=>True
 | r::T,st,s=>wG t n lim N r st s∧alOk t n lim N T (alX t n lim N r st s).2.2.1 (alX t n lim N r st s).2.2.2
structure alA (t n lim:Int) (N:Nat) (T:List (List Int)) (st0:STS) (s0:MS) (x:Nat×List (List Int)×Nat×STS×MS):Prop where
 h1:x.1≤T.length
 hl:x.2.1.length=x.1
 hk:x.2.2.1≤N*x.1
 ok:alOk t n lim N (T.drop x.1) x.2.2.2.1 x.2.2.2.2
 eq:alF t n lim N T st0 s0=(x.2.1++(alF t n lim N (T.drop x.1) x.2.2.2.1 x.2.2.2.2).1,x.2.2.1+(alF t n lim N (T.drop x.1) x.2.2.2.1 x.2.2.2.2).2.1,(alF t n lim N (T.drop x.1) x.2.2.2.1 x.2.2.2.2).2.2)
structure alC (t n lim:Int) (N:Nat) (T:List (List Int)) (st0:STS) (s0:MS) (i:Int) (x:Nat×List (List Int)×Nat×Nat×STS×MS×DOS×STS×MS):Prop where
 i0:0≤i∧i<T.length
 a:alA t n lim N T st0 s0 (i.toNat,x.2.1,x.2.2.1,x.2.2.2.2.1,x.2.2.2.2.2.1)
 hj:x.2.2.2.1+x.1=N
 ok:wT t n x.1 x.2.2.2.2.2.2.1 x.2.2.2.2.2.2.2.1 x.2.2.2.2.2.2.2.2
 eq:alX t n lim N (List.getD T i.toNat []) x.2.2.2.2.1 x.2.2.2.2.2.1=((oN t n x.1 x.2.2.2.2.2.2.1 x.2.2.2.2.2.2.2.1 x.2.2.2.2.2.2.2.2).1+x.2.2.2.1,(oN t n x.1 x.2.2.2.2.2.2.1 x.2.2.2.2.2.2.2.1 x.2.2.2.2.2.2.2.2).2)
def QG(t n lim:Int)(N:Nat)(T:List (List Int))(st0:STS)(s0:MS):Hint Ob:= {X:=Nat×List (List Int)×Nat×STS×MS,st:=fun x=>([.ptr 0 0,.ptr 2 0,.int .i64 lim]++List.replicate 7 .O ++ [.tslice 4 0 x.2.1.length 3,.int .i64 (x.2.2.1:Int),.O,.O,.O,.tslice 3 0 T.length 3,.int .i64 (T.length:Int),.int .i64 (x.1:Int)]++List.replicate 25 .O,[a8 1 x.2.2.2.2,a9 x.2.2.2.2,some (.abs (.store t n x.2.2.2.1) []),some (.tab KT T),some (.tab KR x.2.1)]),ok:=alA t n lim N T st0 s0,mu:=fun x=>T.length - x.1,keep:=[0,1,2,10,11,15,16,17],casts:=[(.slot 10,.tab KR)] }
def HAc(t n lim:Int)(N:Nat)(T:List (List Int))(st0:STS)(s0:MS)(i:Int):Hint Ob:= {X:=Nat×List (List Int)×Nat×Nat×STS×MS×DOS×STS×MS,st:=fun x=>([.ptr 0 0,.ptr 2 0,.int .i64 lim]++List.replicate 7 .O ++ [.tslice 4 0 x.2.1.length 3,.int .i64 (((x.2.2.1+x.2.2.2.1+1:Nat)):Int),.O,.O,.ptr 5 0,.tslice 3 0 T.length 3,.int .i64 (T.length:Int),.int .i64 i]++List.replicate 25 .O,[a8 1 x.2.2.2.2.2.2.2.2,a9 x.2.2.2.2.2.2.2.2,some (.abs (.store t n x.2.2.2.2.2.2.2.1) []),some (.tab KT T),some (.tab KR x.2.1),some (.abs (.doer t n x.2.2.2.2.2.2.1) [2])]),ok:=alC t n lim N T st0 s0 i,mu:=fun x=>x.1,keep:=[0,1,2,10,11,14,15,16,17],casts:=[(.slot 10,.tab KR)] }
def aCh(t n lim:Int)(N:Nat)(T:List (List Int))(st0:STS)(s0:MS):FuncId→Nat→Option (rA Ob):=fun _ k=>if k=4 then some (.states (QG t n lim N T st0 s0))else if k=8 then some (.statesAt 17 (HAc t n lim N T st0 s0))else none
def GJ(t n lim:Int)(N:Nat)(T:List (List Int))(st:STS)(s:MS)(K:AVal→aD Ob→Prop):Prop:=dT (QG t n lim N T st s) (Hint.ok (QG t n lim N T st s)) [.ptr 0 0,.ptr 2 0,.int .i64 lim,.O,.O,.O,.O,.O,.O,.O,.tslice 4 0 0 3,.int .i64 0,.O,.O,.O,.tslice 3 0 (List.length T) 3,.int .i64 (↑(List.length T):Int),.int .i64 0,.O,.O,.O,.O,.O,.O,.O,.O,.O,.O,.O,.O,.O,.O,.O,.O,.O,.O,.O,.O,.O,.O,.O,.O,.O] [some (.cells [.int .i64 s.1,.int .i64 s.2,.slice 1 0 (List.length s.3) 1,.int .i64 s.4,.int .i64 s.5,.int .i64 s.6,.int .u64 s.7,.int .u64 s.8,.bool s.9]),some (.ints (some .u64) s.3),some (.abs (.store t n st) []),some (.tab [some .i64,some .i64,some .i64] T),some (.tab [some .i64,none,some .i64] [])]∧ ∀(x:(Nat×List (List Int)×Nat×STS×MS)),alA t n lim N T st s x→bif ilt (↑x.1:Int) (↑(List.length T):Int)then((0:Int)≤(↑x.1:Int)∧(↑x.1:Int)<(↑(List.length T):Int))∧0+Int.toNat (↑x.1:Int)<List.length T∧wV t n (List.headD (List.getD T (0+Int.toNat (↑x.1:Int)) []) 0) (List.headD (List.tail (List.getD T (0+Int.toNat (↑x.1:Int)) [])) 0) (List.headD (List.tail (List.tail (List.getD T (0+Int.toNat (↑x.1:Int)) []))) 0) lim (Prod.snd (Prod.snd x).2).1∧dT (HAc t n lim N T st s (↑(Prod.fst x):Int)) (Hint.ok (HAc t n lim N T st s (↑(Prod.fst x):Int))) [.ptr 0 0,.ptr 2 0,.int .i64 lim,.O,.O,.O,.O,.O,.O,.O,.tslice 4 0 (List.length (Prod.snd x).1) 3,.int .i64 (W ((↑(Prod.snd x.2).1:Int)+1)),.O,.O,.ptr 5 0,.tslice 3 0 (List.length T) 3,.int .i64 (↑(List.length T):Int),.int .i64 (↑x.1:Int),.O,.O,.O,.O,.O,.O,.O,.O,.O,.O,.O,.O,.O,.O,.O,.O,.O,.O,.O,.O,.O,.O,.O,.O,.O] [some (.cells [.int .i64 (Prod.snd (Prod.snd x.2).2).1,.int .i64 (Prod.snd (Prod.snd x.2).2).2,.slice 1 0 (List.length (Prod.snd (Prod.snd x.2).2).3) 1,.int .i64 (Prod.snd (Prod.snd x.2).2).4,.int .i64 (Prod.snd (Prod.snd x.2).2).5,.int .i64 (Prod.snd (Prod.snd x.2).2).6,.int .u64 (Prod.snd (Prod.snd x.2).2).7,.int .u64 (Prod.snd (Prod.snd x.2).2).8,.bool (Prod.snd (Prod.snd x.2).2).9]),some (.ints (some .u64) (Prod.snd (Prod.snd x.2).2).3),some (.abs (.store t n (dqNF t n (List.headD (List.getD T (0+Int.toNat (↑x.1:Int)) []) 0) (List.headD (List.tail (List.getD T (0+Int.toNat (↑x.1:Int)) [])) 0) (List.headD (List.tail (List.tail (List.getD T (0+Int.toNat (↑x.1:Int)) []))) 0) lim (Prod.snd (Prod.snd x).2).1).2) []),some (.tab [some .i64,some .i64,some .i64] T),some (.tab [some .i64,none,some .i64] (Prod.snd x).1),some (.abs (.doer t n (dqNF t n (List.headD (List.getD T (0+Int.toNat (↑x.1:Int)) []) 0) (List.headD (List.tail (List.getD T (0+Int.toNat (↑x.1:Int)) [])) 0) (List.headD (List.tail (List.tail (List.getD T (0+Int.toNat (↑x.1:Int)) []))) 0) lim (Prod.snd (Prod.snd x).2).1).1) [2])]∧ ∀(x_1:Hint.X (HAc t n lim N T st s (↑(Prod.fst x):Int))),alC t n lim N T st s (↑x.1:Int) x_1→((lE' (Prod.snd (Prod.snd (Prod.snd (Prod.snd x_1.2).2).2).2).3∧t=t∧n=n)∧dqOk t n (Prod.snd (Prod.snd (Prod.snd x_1.2).2).2).1 (Prod.snd (Prod.snd (Prod.snd (Prod.snd x_1).2).2).2).1 (Prod.snd (Prod.snd (Prod.snd x_1.2).2).2).2.2)∧bif (dqF t n (Prod.snd (Prod.snd (Prod.snd x_1.2).2).2).1 (Prod.snd (Prod.snd (Prod.snd (Prod.snd x_1).2).2).2).1 (Prod.snd (Prod.snd (Prod.snd x_1.2).2).2).2.2).1 then(0=0∧lE' (Prod.snd x_1).1∧List.length (Prod.snd x_1).1+(1:Nat)≤(4294967296:Nat))∧dT (QG t n lim N T st s) (fun x'=>Hint.ok (QG t n lim N T st s) x'∧Hint.mu (QG t n lim N T st s) x'<Hint.mu (QG t n lim N T st s) x) [.ptr 0 0,.ptr 2 0,.int .i64 lim,.O,.O,.O,.O,.O,.O,.O,.tslice 4 0 (List.length (Prod.snd x_1).1+1) 3,.int .i64 (↑((Prod.snd x_1.2).1+(Prod.snd (Prod.snd x_1).2).1+1):Int),.O,.O,.O,.tslice 3 0 (List.length T) 3,.int .i64 (↑(List.length T):Int),.int .i64 (W ((↑x.1:Int)+1)),.O,.O,.O,.O,.O,.O,.O,.O,.O,.O,.O,.O,.O,.O,.O,.O,.O,.O,.O,.O,.O,.O,.O,.O,.O] [some (.cells [.int .i64 (DqO.s (dqF t n (Prod.snd (Prod.snd (Prod.snd x_1.2).2).2).1 (Prod.snd (Prod.snd (Prod.snd (Prod.snd x_1).2).2).2).1 (Prod.snd (Prod.snd (Prod.snd x_1.2).2).2).2.2)).1,.int .i64 (DqO.s (dqF t n (Prod.snd (Prod.snd (Prod.snd x_1.2).2).2).1 (Prod.snd (Prod.snd (Prod.snd (Prod.snd x_1).2).2).2).1 (Prod.snd (Prod.snd (Prod.snd x_1.2).2).2).2.2)).2,.slice 1 0 (List.length (DqO.s (dqF t n (Prod.snd (Prod.snd (Prod.snd x_1.2).2).2).1 (Prod.snd (Prod.snd (Prod.snd (Prod.snd x_1).2).2).2).1 (Prod.snd (Prod.snd (Prod.snd x_1.2).2).2).2.2)).3) 1,.int .i64 (DqO.s (dqF t n (Prod.snd (Prod.snd (Prod.snd x_1.2).2).2).1 (Prod.snd (Prod.snd (Prod.snd (Prod.snd x_1).2).2).2).1 (Prod.snd (Prod.snd (Prod.snd x_1.2).2).2).2.2)).4,.int .i64 (DqO.s (dqF t n (Prod.snd (Prod.snd (Prod.snd x_1.2).2).2).1 (Prod.snd (Prod.snd (Prod.snd (Prod.snd x_1).2).2).2).1 (Prod.snd (Prod.snd (Prod.snd x_1.2).2).2).2.2)).5,.int .i64 (DqO.s (dqF t n (Prod.snd (Prod.snd (Prod.snd x_1.2).2).2).1 (Prod.snd (Prod.snd (Prod.snd (Prod.snd x_1).2).2).2).1 (Prod.snd (Prod.snd (Prod.snd x_1.2).2).2).2.2)).6,.int .u64 (DqO.s (dqF t n (Prod.snd (Prod.snd (Prod.snd x_1.2).2).2).1 (Prod.snd (Prod.snd (Prod.snd (Prod.snd x_1).2).2).2).1 (Prod.snd (Prod.snd (Prod.snd x_1.2).2).2).2.2)).7,.int .u64 (DqO.s (dqF t n (Prod.snd (Prod.snd (Prod.snd x_1.2).2).2).1 (Prod.snd (Prod.snd (Prod.snd (Prod.snd x_1).2).2).2).1 (Prod.snd (Prod.snd (Prod.snd x_1.2).2).2).2.2)).8,.bool (DqO.s (dqF t n (Prod.snd (Prod.snd (Prod.snd x_1.2).2).2).1 (Prod.snd (Prod.snd (Prod.snd (Prod.snd x_1).2).2).2).1 (Prod.snd (Prod.snd (Prod.snd x_1.2).2).2).2.2)).9]),some (.ints (some .u64) (DqO.s (dqF t n (Prod.snd (Prod.snd (Prod.snd x_1.2).2).2).1 (Prod.snd (Prod.snd (Prod.snd (Prod.snd x_1).2).2).2).1 (Prod.snd (Prod.snd (Prod.snd x_1.2).2).2).2.2)).3),some (.abs (.store t n (dqF t n (Prod.snd (Prod.snd (Prod.snd x_1.2).2).2).1 (Prod.snd (Prod.snd (Prod.snd (Prod.snd x_1).2).2).2).1 (Prod.snd (Prod.snd (Prod.snd x_1.2).2).2).2.2).3) []),some (.tab [some .i64,some .i64,some .i64] T),some (.tab [some .i64,none,some .i64] ((Prod.snd x_1).1++ [[(DqO.x (dqF t n (Prod.snd (Prod.snd (Prod.snd x_1.2).2).2).1 (Prod.snd (Prod.snd (Prod.snd (Prod.snd x_1).2).2).2).1 (Prod.snd (Prod.snd (Prod.snd x_1.2).2).2).2.2)).1,bif (DqO.x (dqF t n (Prod.snd (Prod.snd (Prod.snd x_1.2).2).2).1 (Prod.snd (Prod.snd (Prod.snd (Prod.snd x_1).2).2).2).1 (Prod.snd (Prod.snd (Prod.snd x_1.2).2).2).2.2)).2 then 1 else 0,(DqO.x (dqF t n (Prod.snd (Prod.snd (Prod.snd x_1.2).2).2).1 (Prod.snd (Prod.snd (Prod.snd (Prod.snd x_1).2).2).2).1 (Prod.snd (Prod.snd (Prod.snd x_1.2).2).2).2.2)).3]]))]else dT (HAc t n lim N T st s (↑(Prod.fst x):Int)) (fun x'=>Hint.ok (HAc t n lim N T st s (↑(Prod.fst x):Int)) x'∧Hint.mu (HAc t n lim N T st s (↑(Prod.fst x):Int)) x'<Hint.mu (HAc t n lim N T st s (↑(Prod.fst x):Int)) x_1) [.ptr 0 0,.ptr 2 0,.int .i64 lim,.O,.O,.O,.O,.O,.O,.O,.tslice 4 0 (List.length (Prod.snd x_1).1) 3,.int .i64 (W ((↑((Prod.snd x_1.2).1+(Prod.snd (Prod.snd x_1).2).1+1):Int)+1)),.O,.O,.ptr 5 0,.tslice 3 0 (List.length T) 3,.int .i64 (↑(List.length T):Int),.int .i64 (↑x.1:Int),.O,.O,.O,.O,.O,.O,.O,.O,.O,.O,.O,.O,.O,.O,.O,.O,.O,.O,.O,.O,.O,.O,.O,.O,.O] [some (.cells [.int .i64 (DqO.s (dqF t n (Prod.snd (Prod.snd (Prod.snd x_1.2).2).2).1 (Prod.snd (Prod.snd (Prod.snd (Prod.snd x_1).2).2).2).1 (Prod.snd (Prod.snd (Prod.snd x_1.2).2).2).2.2)).1,.int .i64 (DqO.s (dqF t n (Prod.snd (Prod.snd (Prod.snd x_1.2).2).2).1 (Prod.snd (Prod.snd (Prod.snd (Prod.snd x_1).2).2).2).1 (Prod.snd (Prod.snd (Prod.snd x_1.2).2).2).2.2)).2,.slice 1 0 (List.length (DqO.s (dqF t n (Prod.snd (Prod.snd (Prod.snd x_1.2).2).2).1 (Prod.snd (Prod.snd (Prod.snd (Prod.snd x_1).2).2).2).1 (Prod.snd (Prod.snd (Prod.snd x_1.2).2).2).2.2)).3) 1,.int .i64 (DqO.s (dqF t n (Prod.snd (Prod.snd (Prod.snd x_1.2).2).2).1 (Prod.snd (Prod.snd (Prod.snd (Prod.snd x_1).2).2).2).1 (Prod.snd (Prod.snd (Prod.snd x_1.2).2).2).2.2)).4,.int .i64 (DqO.s (dqF t n (Prod.snd (Prod.snd (Prod.snd x_1.2).2).2).1 (Prod.snd (Prod.snd (Prod.snd (Prod.snd x_1).2).2).2).1 (Prod.snd (Prod.snd (Prod.snd x_1.2).2).2).2.2)).5,.int .i64 (DqO.s (dqF t n (Prod.snd (Prod.snd (Prod.snd x_1.2).2).2).1 (Prod.snd (Prod.snd (Prod.snd (Prod.snd x_1).2).2).2).1 (Prod.snd (Prod.snd (Prod.snd x_1.2).2).2).2.2)).6,.int .u64 (DqO.s (dqF t n (Prod.snd (Prod.snd (Prod.snd x_1.2).2).2).1 (Prod.snd (Prod.snd (Prod.snd (Prod.snd x_1).2).2).2).1 (Prod.snd (Prod.snd (Prod.snd x_1.2).2).2).2.2)).7,.int .u64 (DqO.s (dqF t n (Prod.snd (Prod.snd (Prod.snd x_1.2).2).2).1 (Prod.snd (Prod.snd (Prod.snd (Prod.snd x_1).2).2).2).1 (Prod.snd (Prod.snd (Prod.snd x_1.2).2).2).2.2)).8,.bool (DqO.s (dqF t n (Prod.snd (Prod.snd (Prod.snd x_1.2).2).2).1 (Prod.snd (Prod.snd (Prod.snd (Prod.snd x_1).2).2).2).1 (Prod.snd (Prod.snd (Prod.snd x_1.2).2).2).2.2)).9]),some (.ints (some .u64) (DqO.s (dqF t n (Prod.snd (Prod.snd (Prod.snd x_1.2).2).2).1 (Prod.snd (Prod.snd (Prod.snd (Prod.snd x_1).2).2).2).1 (Prod.snd (Prod.snd (Prod.snd x_1.2).2).2).2.2)).3),some (.abs (.store t n (dqF t n (Prod.snd (Prod.snd (Prod.snd x_1.2).2).2).1 (Prod.snd (Prod.snd (Prod.snd (Prod.snd x_1).2).2).2).1 (Prod.snd (Prod.snd (Prod.snd x_1.2).2).2).2.2).3) []),some (.tab [some .i64,some .i64,some .i64] T),some (.tab [some .i64,none,some .i64] (Prod.snd x_1).1),some (.abs (.doer t n (dqF t n (Prod.snd (Prod.snd (Prod.snd x_1.2).2).2).1 (Prod.snd (Prod.snd (Prod.snd (Prod.snd x_1).2).2).2).1 (Prod.snd (Prod.snd (Prod.snd x_1.2).2).2).2.2).2) [2])]else K (.tup [.tslice 4 0 (List.length (Prod.snd x).1) 3,.int .i64 (↑(Prod.snd x.2).1:Int)]) [some (.cells [.int .i64 (Prod.snd (Prod.snd x.2).2).1,.int .i64 (Prod.snd (Prod.snd x.2).2).2,.slice 1 0 (List.length (Prod.snd (Prod.snd x.2).2).3) 1,.int .i64 (Prod.snd (Prod.snd x.2).2).4,.int .i64 (Prod.snd (Prod.snd x.2).2).5,.int .i64 (Prod.snd (Prod.snd x.2).2).6,.int .u64 (Prod.snd (Prod.snd x.2).2).7,.int .u64 (Prod.snd (Prod.snd x.2).2).8,.bool (Prod.snd (Prod.snd x.2).2).9]),some (.ints (some .u64) (Prod.snd (Prod.snd x.2).2).3),some (.abs (.store t n (Prod.snd (Prod.snd x).2).1) []),some (.tab [some .i64,some .i64,some .i64] T),some (.tab [some .i64,none,some .i64] (Prod.snd x).1)]
theorem IM(t n lim:Int)(N:Nat)(T:List (List Int))(st:STS)(s:MS)(K:AVal→aD Ob→Prop)(h:GJ t n lim N T st s K):cT' 55 [.ptr 0 0,.ptr 2 0,.int .i64 lim,.tslice 3 0 T.length 3] [a8 1 s,a9 s,some (.abs (.store t n st) []),some (.tab KT T)] K:=by
 refine aC8 (aE (E:=EV9) Tryz.checked.mixed (L:=(aCh t n lim N T st s)) (n:=10) (aN (by kernel_rfl) h))
theorem pT(t n:Int)(f:Nat)(x:DOS)(st:STS)(s:MS):oN t n (f+1) x st s=bif (dqF t n x st s).d then(1,(dqF t n x st s).x,(dqF t n x st s).st,(dqF t n x st s).s)else((oN t n f (dqF t n x st s).x (dqF t n x st s).st (dqF t n x st s).s).1+1,(oN t n f (dqF t n x st s).x (dqF t n x st s).st (dqF t n x st s).s).2):=rfl
theorem GI(t n lim:Int)(N:Nat)(r:List Int)(T:List (List Int))(st:STS)(s:MS):alF t n lim N (r::T) st s=(pM (alX t n lim N r st s).2.1::(alF t n lim N T (alX t n lim N r st s).2.2.1 (alX t n lim N r st s).2.2.2).1,(alX t n lim N r st s).1+(alF t n lim N T (alX t n lim N r st s).2.2.1 (alX t n lim N r st s).2.2.2).2.1,(alF t n lim N T (alX t n lim N r st s).2.2.1 (alX t n lim N r st s).2.2.2).2.2):=rfl
theorem WW(t n lim:Int)(N:Nat)(T:List (List Int))(st:STS)(s:MS)(K:AVal→aD Ob→Prop)(hN:N≤1000000)(hT:T.length≤1000000)(ok:alOk t n lim N T st s)
 (hK:K (.tup [.tslice 4 0 (alF t n lim N T st s).1.length 3,.int .i64 ((alF t n lim N T st s).2.1:Int)]) [a8 1 (alF t n lim N T st s).2.2.2,a9 (alF t n lim N T st s).2.2.2,some (.abs (.store t n (alF t n lim N T st s).2.2.1) []),some (.tab KT T),some (.tab KR (alF t n lim N T st s).1)]):GJ t n lim N T st s K:=by
 unfold GJ
 refine⟨bF (H:=QG t n lim N T st s) (0,[],0,st,s) rfl ⟨Nat.zero_le _,rfl,Nat.zero_le _,ok,by simp⟩,?_⟩
 rintro⟨i,R,k,st1,s1⟩ ⟨h1,hl,hk,ok1,eq1⟩
 dsimp only at h1 hl hk ok1 eq1⊢
 have hti:((i:Nat):Int).toNat =i:=rfl
 refine xG (fun hi=>?_) (fun hi=>?_)
 ·have hi':i<T.length:=by omega
  have e0:0+Int.toNat ((i:Nat):Int)=i:=by omega
  have e4:W ((i:Int)+1)=((i+1:Nat):Int):=(cT (by omega)).trans rfl
  have hki:N*i≤1000000*1000000:=Nat.mul_le_mul hN (by omega)
  have hdr:T.drop i=T[i]::T.drop (i+1):=List.drop_eq_getElem_cons hi'
  have hg:List.getD T i []=T[i]:=by rw [gD',gE' hi'];rfl
  have a0:alA t n lim N T st s (i,R,k,st1,s1):=⟨h1,hl,hk,ok1,eq1⟩
  have okr:=ok1
  rw [hdr]at okr
  have okr:wG t n lim N T[i] st1 s1∧_:=okr
  obtain⟨⟨okN,okF⟩,_⟩:=okr
  have w1:W ((k:Int)+1)=((k+0+1:Nat):Int):=(cT (by omega)).trans rfl
  rw [e0,e4]
  refine⟨⟨by omega,by omega⟩,hi',by rw [hg];exact okN,bF (H:=HAc t n lim N T st s i) (N,R,k,0,st1,s1,(dqNF t n (r0 T[i]) (r1 T[i]) (r2 T[i]) lim st1).1,(dqNF t n (r0 T[i]) (r1 T[i]) (r2 T[i]) lim st1).2,s1) (by simp only [w1,hg,HAc]<;>rfl) ⟨⟨by omega,by omega⟩,a0,by simp,okF,by dsimp only;rw [hti,hg];simp only [Nat.add_zero]<;>rfl⟩,?_⟩
  rintro⟨f,R2,k2,j,sa,ma,y,sb,mb⟩ ⟨i0,a,hj,okf,eqf⟩
  dsimp only at a hj okf eqf⊢
  cases f with
  | zero=>exact okf.elim
  | succ f=>
    have okf:dqOk t n y sb mb∧((dqF t n y sb mb).d =false→wT t n f (dqF t n y sb mb).x (dqF t n y sb mb).st (dqF t n y sb mb).s):=okf
    rw [hti]at a eqf
    rw [hg]at eqf
    obtain⟨g1,gl,gk,gok,geq⟩:=a
    dsimp only at g1 gl gk gok geq
    rw [hdr,GI]at geq
    rw [hdr]at gok
    have gok:wG t n lim N T[i] sa ma∧alOk t n lim N (T.drop (i+1)) (alX t n lim N T[i] sa ma).2.2.1 (alX t n lim N T[i] sa ma).2.2.2:=gok
    refine⟨⟨⟨rfl,rfl,rfl⟩,okf.1⟩,aW (fun hd=>?_) (fun hd=>?_)⟩
    ·have hd:(dqF t n y sb mb).d =true:=hd
     rw [pT,hd,cond_true]at eqf
     rw [eqf]at geq gok
     dsimp only at geq gok
     have hNi:N*(i+1)=N*i+N:=Nat.mul_succ N i
     refine⟨⟨rfl,rfl,by omega⟩,bF (H:=QG t n lim N T st s) (i+1,R2++ [pM (dqF t n y sb mb).x],k2+j+1,(dqF t n y sb mb).st,(dqF t n y sb mb).s) ?_ ⟨⟨hi',by show(R2++ [pM _]).length =i+1;rw [List.length_append,gl];rfl,by show k2+j+1≤N*(i+1);omega,gok.2,?_⟩,by show T.length - (i+1)<T.length - i;omega⟩⟩
     ·simp only [QG,List.length_append,List.length_singleton]
      rfl
     ·rw [geq]
      simp only [List.append_assoc,List.singleton_append,pI',true_and,and_true]
      omega
    ·have hd:(dqF t n y sb mb).d =false:=hd
     rw [pT,hd,cond_false]at eqf
     have w2:W (((k2+j+1:Nat):Int)+1)=((k2+(j+1)+1:Nat):Int):=(cT (by omega)).trans (by omega)
     rw [w2]
     exact bF (H:=HAc t n lim N T st s i) (f,R2,k2,j+1,sa,ma,(dqF t n y sb mb).x,(dqF t n y sb mb).st,(dqF t n y sb mb).s) rfl ⟨⟨i0,⟨g1,gl,gk,by dsimp only;rw [hti,hdr];exact gok,by dsimp only;rw [hti,hdr,GI];exact geq⟩,by show j+1+f=N;omega,okf.2 hd,by dsimp only;rw [hti,hg,eqf];simp only [pI',and_true];omega⟩,by show f<f+1;omega⟩
 ·have hi':T.length=i:=by omega
  rw [show T.drop i=[]from List.drop_eq_nil_of_le (by omega)]at eq1
  have eq1:alF t n lim N T st s=(R++ [],k+0,st1,s1):=eq1
  rw [List.append_nil,Nat.add_zero]at eq1
  rw [eq1]at hK
  exact hK
def alR(t n lim:Int)(T:List (List Int))(st:STS)(s:MS):List (List Int)×Nat×STS×MS:=alF t n lim 100000 T st s
def mG(t n lim:Int)(T:List (List Int))(st:STS)(s:MS):Prop:=alOk t n lim 100000 T st s
noncomputable def aloS:aJ Ob:=fun args h=>match args,h with
 | [.ptr 0 0,.ptr 2 0,.int .i64 lim,.tslice 3 0 l 3],[e1,e2,some (.abs (.store t n st) []),some (.tab [some .i64,some .i64,some .i64] T)]=>(match cW 1 [e1,e2]with
   | some (l2,s)=>some (.pre ((l2=s.xs.length∧l=T.length)∧T.length≤1000000∧mG t n lim T st s) (.ret (.tup [.tslice 4 0 (alR t n lim T st s).1.length 3,.int .i64 ((alR t n lim T st s).2.1:Int)]) [a8 1 (alR t n lim T st s).2.2.2,a9 (alR t n lim T st s).2.2.2,some (.abs (.store t n (alR t n lim T st s).2.2.1) []),some (.tab [some .i64,some .i64,some .i64] T),some (.tab [some .i64,none,some .i64] (alR t n lim T st s).1)]))
   | none=>none)
 | _,_=>none
theorem MD:sT' 55 aloS:=by
 intro args h o ho K hK
 unfold aloS at ho
 split at ho
 case h_2=>cases ho
 rename_i lim l e1 e2 t n st T
 split at ho<;>cases ho
 rename_i l2 s hm
 obtain⟨⟨⟨hl2,rfl⟩,hT,ok⟩,hK⟩:=hK
 have hh:=bA hm hl2
 cases hh
 exact IM t n lim 100000 T st s K (WW t n lim 100000 T st s K (by decide) hT ok hK)
noncomputable def EW0:=EV9.addS 55 (aJ.or aloS (kX [(.slot 3,.tab [some .i64,some .i64,some .i64])] aloS)) (aDn MD (jR MD))
def yI(K:AVal→aD Ob→Prop):Prop:=True∧bif !iI 2 3 then K (.bool false) []else(((0:Int)≤(2:Int)∧(2:Int)≤(100000:Int))∧(0:Int)≤(3:Int)∧(3:Int)≤(100000:Int))∧((((0:Int)≤(2:Int)∧(2:Int)≤(100000:Int))∧(0:Int)≤(3:Int)∧(3:Int)≤(100000:Int))∧True)∧((0:Int)≤(2:Int)*3+5*2+6∧2*3+5*2+(6:Int)=(2:Int)*3+5*2+6∧2*3+5*2+(6:Int)≤(4294967296:Int))∧True∧((22=22∧1=1)∧List.length [[1,3,1]]≤(1000000:Nat)∧mG 2 3 0 [[1,3,1]] {me:=1,sp:=0,R:=[] } {t:=2,n:=3,xs:=List.replicate (Int.toNat (2*3+5*2+6)) 0,c:=0,k:=0,a:=0,o:=0,w:=0,ok:=false})∧True∧((lE' (Prod.snd (Prod.snd (alR 2 3 0 [[1,3,1]] {me:=1,sp:=0,R:=[] } {t:=2,n:=3,xs:=List.replicate (Int.toNat (2*3+5*2+6)) 0,c:=0,k:=0,a:=0,o:=0,w:=0,ok:=false})).2).3∧1=1)∧List.length [[1,1,1]]≤(1000000:Nat)∧mG 2 3 0 [[1,1,1]] {me:=0,sp:=0,R:=[] } (Prod.snd (alR 2 3 0 [[1,3,1]] {me:=1,sp:=0,R:=[] } {t:=2,n:=3,xs:=List.replicate (Int.toNat (2*3+5*2+6)) 0,c:=0,k:=0,a:=0,o:=0,w:=0,ok:=false})).2.2)∧bif ieq (↑(Prod.snd (alR 2 3 0 [[1,3,1]] {me:=1,sp:=0,R:=[] } {t:=2,n:=3,xs:=List.replicate (Int.toNat (2*3+5*2+6)) 0,c:=0,k:=0,a:=0,o:=0,w:=0,ok:=false})).1:Int) 5 then bif ieq (↑(List.length (alR 2 3 0 [[1,3,1]] {me:=1,sp:=0,R:=[] } {t:=2,n:=3,xs:=List.replicate (Int.toNat (2*3+5*2+6)) 0,c:=0,k:=0,a:=0,o:=0,w:=0,ok:=false}).1):Int) 1 then((0:Int)≤(0:Int)∧(0:Int)<(↑(List.length (alR 2 3 0 [[1,3,1]] {me:=1,sp:=0,R:=[] } {t:=2,n:=3,xs:=List.replicate (Int.toNat (2*3+5*2+6)) 0,c:=0,k:=0,a:=0,o:=0,w:=0,ok:=false}).1):Int))∧0+Int.toNat (0:Int)<List.length (alR 2 3 0 [[1,3,1]] {me:=1,sp:=0,R:=[] } {t:=2,n:=3,xs:=List.replicate (Int.toNat (2*3+5*2+6)) 0,c:=0,k:=0,a:=0,o:=0,w:=0,ok:=false}).1∧bif bif ieq (List.headD (List.getD (alR 2 3 0 [[1,3,1]] {me:=1,sp:=0,R:=[] } {t:=2,n:=3,xs:=List.replicate (Int.toNat (2*3+5*2+6)) 0,c:=0,k:=0,a:=0,o:=0,w:=0,ok:=false}).1 (0+Int.toNat 0) []) 0) 0 then bif !!ieq (List.headD (List.tail (List.getD (alR 2 3 0 [[1,3,1]] {me:=1,sp:=0,R:=[] } {t:=2,n:=3,xs:=List.replicate (Int.toNat (2*3+5*2+6)) 0,c:=0,k:=0,a:=0,o:=0,w:=0,ok:=false}).1 (0+Int.toNat 0) [])) 0) 0 then bif ieq (List.headD (List.tail (List.tail (List.getD (alR 2 3 0 [[1,3,1]] {me:=1,sp:=0,R:=[] } {t:=2,n:=3,xs:=List.replicate (Int.toNat (2*3+5*2+6)) 0,c:=0,k:=0,a:=0,o:=0,w:=0,ok:=false}).1 (0+Int.toNat 0) []))) 0) 0 then true else false else false else false then bif ieq (↑(List.length (alR 2 3 0 [[1,1,1]] {me:=0,sp:=0,R:=[] } (Prod.snd (alR 2 3 0 [[1,3,1]] {me:=1,sp:=0,R:=[] } {t:=2,n:=3,xs:=List.replicate (Int.toNat (2*3+5*2+6)) 0,c:=0,k:=0,a:=0,o:=0,w:=0,ok:=false})).2.2).1):Int) 1 then((0:Int)≤(0:Int)∧(0:Int)<(↑(List.length (alR 2 3 0 [[1,1,1]] {me:=0,sp:=0,R:=[] } (Prod.snd (alR 2 3 0 [[1,3,1]] {me:=1,sp:=0,R:=[] } {t:=2,n:=3,xs:=List.replicate (Int.toNat (2*3+5*2+6)) 0,c:=0,k:=0,a:=0,o:=0,w:=0,ok:=false})).2.2).1):Int))∧0+Int.toNat (0:Int)<List.length (alR 2 3 0 [[1,1,1]] {me:=0,sp:=0,R:=[] } (Prod.snd (alR 2 3 0 [[1,3,1]] {me:=1,sp:=0,R:=[] } {t:=2,n:=3,xs:=List.replicate (Int.toNat (2*3+5*2+6)) 0,c:=0,k:=0,a:=0,o:=0,w:=0,ok:=false})).2.2).1∧K (.bool (bif ieq (List.headD (List.getD (alR 2 3 0 [[1,1,1]] {me:=0,sp:=0,R:=[] } (Prod.snd (alR 2 3 0 [[1,3,1]] {me:=1,sp:=0,R:=[] } {t:=2,n:=3,xs:=List.replicate (Int.toNat (2*3+5*2+6)) 0,c:=0,k:=0,a:=0,o:=0,w:=0,ok:=false})).2.2).1 (0+Int.toNat 0) []) 0) 0 then bif bif !ieq (List.headD (List.tail (List.getD (alR 2 3 0 [[1,1,1]] {me:=0,sp:=0,R:=[] } (Prod.snd (alR 2 3 0 [[1,3,1]] {me:=1,sp:=0,R:=[] } {t:=2,n:=3,xs:=List.replicate (Int.toNat (2*3+5*2+6)) 0,c:=0,k:=0,a:=0,o:=0,w:=0,ok:=false})).2.2).1 (0+Int.toNat 0) [])) 0) 0 then true else false then bif ieq (List.headD (List.tail (List.tail (List.getD (alR 2 3 0 [[1,1,1]] {me:=0,sp:=0,R:=[] } (Prod.snd (alR 2 3 0 [[1,3,1]] {me:=1,sp:=0,R:=[] } {t:=2,n:=3,xs:=List.replicate (Int.toNat (2*3+5*2+6)) 0,c:=0,k:=0,a:=0,o:=0,w:=0,ok:=false})).2.2).1 (0+Int.toNat 0) []))) 0) 0 then true else false else false else false)) []else K (.bool false) []else K (.bool false) []else K (.bool false) []else K (.bool false) []
theorem D0(K:AVal→aD Ob→Prop)(h:yI K):cT' 53 [] [] K:=by
 refine aC8 (cM' (E:=EW0) (by kernel_rfl) h)
set_option maxRecDepth 100000 in
theorem Q0(K:AVal→aD Ob→Prop)(hK:K (.bool true) []):yI K:=by
 unfold yI
 with_unfolding_all repeat' (first | exact hK | trivial | decide | apply And.intro | apply okE.mk | apply okAl.mk | (intro h;exact absurd h (by decide)) | intro _)
def aw19S:aJ Ob:=fun args h=>match args,h with
 | [],[]=>some (.pre True (.ret (.bool true) ([])))
 | _,_=>none
theorem QZ:sT' 53 aw19S:=by
 intro args h o ho K hK
 unfold aw19S at ho
 split at ho
 case h_2=>cases ho
 simp only [sI']at ho;subst ho
 obtain⟨_,hK⟩:=hK
 exact D0 K (Q0 K hK)
noncomputable def EW1:=EW0.addS 53 aw19S QZ
def QJ(t n lim:Int)(N:Nat)(Q T:List (List Int))(off:Nat)(st0:STS)(s0:MS):Hint Ob:= {X:=Nat×List (List Int)×Nat×STS×MS,st:=fun x=>([.ptr 0 0,.ptr 2 0,.int .i64 lim]++List.replicate 7 .O ++ [.tslice 4 0 x.2.1.length 3,.int .i64 (x.2.2.1:Int),.O,.O,.O,.tslice 3 off T.length 3,.int .i64 (T.length:Int),.int .i64 (x.1:Int)]++List.replicate 25 .O,[a8 1 x.2.2.2.2,a9 x.2.2.2.2,some (.abs (.store t n x.2.2.2.1) []),some (.tab KT Q),some (.tab KR x.2.1)]),ok:=alA t n lim N T st0 s0,mu:=fun x=>T.length - x.1,keep:=[0,1,2,10,11,15,16,17],casts:=[(.slot 10,.tab KR)] }
def HPc(t n lim:Int)(N:Nat)(Q T:List (List Int))(off:Nat)(st0:STS)(s0:MS)(i:Int):Hint Ob:= {X:=Nat×List (List Int)×Nat×Nat×STS×MS×DOS×STS×MS,st:=fun x=>([.ptr 0 0,.ptr 2 0,.int .i64 lim]++List.replicate 7 .O ++ [.tslice 4 0 x.2.1.length 3,.int .i64 (((x.2.2.1+x.2.2.2.1+1:Nat)):Int),.O,.O,.ptr 5 0,.tslice 3 off T.length 3,.int .i64 (T.length:Int),.int .i64 i]++List.replicate 25 .O,[a8 1 x.2.2.2.2.2.2.2.2,a9 x.2.2.2.2.2.2.2.2,some (.abs (.store t n x.2.2.2.2.2.2.2.1) []),some (.tab KT Q),some (.tab KR x.2.1),some (.abs (.doer t n x.2.2.2.2.2.2.1) [2])]),ok:=alC t n lim N T st0 s0 i,mu:=fun x=>x.1,keep:=[0,1,2,10,11,14,15,16,17],casts:=[(.slot 10,.tab KR)] }
def aCj(t n lim:Int)(N:Nat)(Q T:List (List Int))(off:Nat)(st0:STS)(s0:MS):FuncId→Nat→Option (rA Ob):=fun _ k=>if k=4 then some (.states (QJ t n lim N Q T off st0 s0))else if k=8 then some (.statesAt 17 (HPc t n lim N Q T off st0 s0))else none
def GL(t n lim:Int)(N:Nat)(Q T:List (List Int))(off:Nat)(st:STS)(s:MS)(K:AVal→aD Ob→Prop):Prop:=dT (QJ t n lim N Q T off st s) (Hint.ok (QJ t n lim N Q T off st s)) [.ptr 0 0,.ptr 2 0,.int .i64 lim,.O,.O,.O,.O,.O,.O,.O,.tslice 4 0 0 3,.int .i64 0,.O,.O,.O,.tslice 3 off (List.length T) 3,.int .i64 (↑(List.length T):Int),.int .i64 0,.O,.O,.O,.O,.O,.O,.O,.O,.O,.O,.O,.O,.O,.O,.O,.O,.O,.O,.O,.O,.O,.O,.O,.O,.O] [some (.cells [.int .i64 s.1,.int .i64 s.2,.slice 1 0 (List.length s.3) 1,.int .i64 s.4,.int .i64 s.5,.int .i64 s.6,.int .u64 s.7,.int .u64 s.8,.bool s.9]),some (.ints (some .u64) s.3),some (.abs (.store t n st) []),some (.tab [some .i64,some .i64,some .i64] Q),some (.tab [some .i64,none,some .i64] [])]∧ ∀(x:(Nat×List (List Int)×Nat×STS×MS)),alA t n lim N T st s x→bif ilt (↑x.1:Int) (↑(List.length T):Int)then((0:Int)≤(↑x.1:Int)∧(↑x.1:Int)<(↑(List.length T):Int))∧off+Int.toNat (↑x.1:Int)<List.length Q∧wV t n (List.headD (List.getD Q (off+Int.toNat (↑x.1:Int)) []) 0) (List.headD (List.tail (List.getD Q (off+Int.toNat (↑x.1:Int)) [])) 0) (List.headD (List.tail (List.tail (List.getD Q (off+Int.toNat (↑x.1:Int)) []))) 0) lim (Prod.snd (Prod.snd x).2).1∧dT (HPc t n lim N Q T off st s (↑(Prod.fst x):Int)) (Hint.ok (HPc t n lim N Q T off st s (↑(Prod.fst x):Int))) [.ptr 0 0,.ptr 2 0,.int .i64 lim,.O,.O,.O,.O,.O,.O,.O,.tslice 4 0 (List.length (Prod.snd x).1) 3,.int .i64 (W ((↑(Prod.snd x.2).1:Int)+1)),.O,.O,.ptr 5 0,.tslice 3 off (List.length T) 3,.int .i64 (↑(List.length T):Int),.int .i64 (↑x.1:Int),.O,.O,.O,.O,.O,.O,.O,.O,.O,.O,.O,.O,.O,.O,.O,.O,.O,.O,.O,.O,.O,.O,.O,.O,.O] [some (.cells [.int .i64 (Prod.snd (Prod.snd x.2).2).1,.int .i64 (Prod.snd (Prod.snd x.2).2).2,.slice 1 0 (List.length (Prod.snd (Prod.snd x.2).2).3) 1,.int .i64 (Prod.snd (Prod.snd x.2).2).4,.int .i64 (Prod.snd (Prod.snd x.2).2).5,.int .i64 (Prod.snd (Prod.snd x.2).2).6,.int .u64 (Prod.snd (Prod.snd x.2).2).7,.int .u64 (Prod.snd (Prod.snd x.2).2).8,.bool (Prod.snd (Prod.snd x.2).2).9]),some (.ints (some .u64) (Prod.snd (Prod.snd x.2).2).3),some (.abs (.store t n (dqNF t n (List.headD (List.getD Q (off+Int.toNat (↑x.1:Int)) []) 0) (List.headD (List.tail (List.getD Q (off+Int.toNat (↑x.1:Int)) [])) 0) (List.headD (List.tail (List.tail (List.getD Q (off+Int.toNat (↑x.1:Int)) []))) 0) lim (Prod.snd (Prod.snd x).2).1).2) []),some (.tab [some .i64,some .i64,some .i64] Q),some (.tab [some .i64,none,some .i64] (Prod.snd x).1),some (.abs (.doer t n (dqNF t n (List.headD (List.getD Q (off+Int.toNat (↑x.1:Int)) []) 0) (List.headD (List.tail (List.getD Q (off+Int.toNat (↑x.1:Int)) [])) 0) (List.headD (List.tail (List.tail (List.getD Q (off+Int.toNat (↑x.1:Int)) []))) 0) lim (Prod.snd (Prod.snd x).2).1).1) [2])]∧ ∀(x_1:Hint.X (HPc t n lim N Q T off st s (↑(Prod.fst x):Int))),alC t n lim N T st s (↑x.1:Int) x_1→((lE' (Prod.snd (Prod.snd (Prod.snd (Prod.snd x_1.2).2).2).2).3∧t=t∧n=n)∧dqOk t n (Prod.snd (Prod.snd (Prod.snd x_1.2).2).2).1 (Prod.snd (Prod.snd (Prod.snd (Prod.snd x_1).2).2).2).1 (Prod.snd (Prod.snd (Prod.snd x_1.2).2).2).2.2)∧bif (dqF t n (Prod.snd (Prod.snd (Prod.snd x_1.2).2).2).1 (Prod.snd (Prod.snd (Prod.snd (Prod.snd x_1).2).2).2).1 (Prod.snd (Prod.snd (Prod.snd x_1.2).2).2).2.2).1 then(0=0∧lE' (Prod.snd x_1).1∧List.length (Prod.snd x_1).1+(1:Nat)≤(4294967296:Nat))∧dT (QJ t n lim N Q T off st s) (fun x'=>Hint.ok (QJ t n lim N Q T off st s) x'∧Hint.mu (QJ t n lim N Q T off st s) x'<Hint.mu (QJ t n lim N Q T off st s) x) [.ptr 0 0,.ptr 2 0,.int .i64 lim,.O,.O,.O,.O,.O,.O,.O,.tslice 4 0 (List.length (Prod.snd x_1).1+1) 3,.int .i64 (↑((Prod.snd x_1.2).1+(Prod.snd (Prod.snd x_1).2).1+1):Int),.O,.O,.O,.tslice 3 off (List.length T) 3,.int .i64 (↑(List.length T):Int),.int .i64 (W ((↑x.1:Int)+1)),.O,.O,.O,.O,.O,.O,.O,.O,.O,.O,.O,.O,.O,.O,.O,.O,.O,.O,.O,.O,.O,.O,.O,.O,.O] [some (.cells [.int .i64 (DqO.s (dqF t n (Prod.snd (Prod.snd (Prod.snd x_1.2).2).2).1 (Prod.snd (Prod.snd (Prod.snd (Prod.snd x_1).2).2).2).1 (Prod.snd (Prod.snd (Prod.snd x_1.2).2).2).2.2)).1,.int .i64 (DqO.s (dqF t n (Prod.snd (Prod.snd (Prod.snd x_1.2).2).2).1 (Prod.snd (Prod.snd (Prod.snd (Prod.snd x_1).2).2).2).1 (Prod.snd (Prod.snd (Prod.snd x_1.2).2).2).2.2)).2,.slice 1 0 (List.length (DqO.s (dqF t n (Prod.snd (Prod.snd (Prod.snd x_1.2).2).2).1 (Prod.snd (Prod.snd (Prod.snd (Prod.snd x_1).2).2).2).1 (Prod.snd (Prod.snd (Prod.snd x_1.2).2).2).2.2)).3) 1,.int .i64 (DqO.s (dqF t n (Prod.snd (Prod.snd (Prod.snd x_1.2).2).2).1 (Prod.snd (Prod.snd (Prod.snd (Prod.snd x_1).2).2).2).1 (Prod.snd (Prod.snd (Prod.snd x_1.2).2).2).2.2)).4,.int .i64 (DqO.s (dqF t n (Prod.snd (Prod.snd (Prod.snd x_1.2).2).2).1 (Prod.snd (Prod.snd (Prod.snd (Prod.snd x_1).2).2).2).1 (Prod.snd (Prod.snd (Prod.snd x_1.2).2).2).2.2)).5,.int .i64 (DqO.s (dqF t n (Prod.snd (Prod.snd (Prod.snd x_1.2).2).2).1 (Prod.snd (Prod.snd (Prod.snd (Prod.snd x_1).2).2).2).1 (Prod.snd (Prod.snd (Prod.snd x_1.2).2).2).2.2)).6,.int .u64 (DqO.s (dqF t n (Prod.snd (Prod.snd (Prod.snd x_1.2).2).2).1 (Prod.snd (Prod.snd (Prod.snd (Prod.snd x_1).2).2).2).1 (Prod.snd (Prod.snd (Prod.snd x_1.2).2).2).2.2)).7,.int .u64 (DqO.s (dqF t n (Prod.snd (Prod.snd (Prod.snd x_1.2).2).2).1 (Prod.snd (Prod.snd (Prod.snd (Prod.snd x_1).2).2).2).1 (Prod.snd (Prod.snd (Prod.snd x_1.2).2).2).2.2)).8,.bool (DqO.s (dqF t n (Prod.snd (Prod.snd (Prod.snd x_1.2).2).2).1 (Prod.snd (Prod.snd (Prod.snd (Prod.snd x_1).2).2).2).1 (Prod.snd (Prod.snd (Prod.snd x_1.2).2).2).2.2)).9]),some (.ints (some .u64) (DqO.s (dqF t n (Prod.snd (Prod.snd (Prod.snd x_1.2).2).2).1 (Prod.snd (Prod.snd (Prod.snd (Prod.snd x_1).2).2).2).1 (Prod.snd (Prod.snd (Prod.snd x_1.2).2).2).2.2)).3),some (.abs (.store t n (dqF t n (Prod.snd (Prod.snd (Prod.snd x_1.2).2).2).1 (Prod.snd (Prod.snd (Prod.snd (Prod.snd x_1).2).2).2).1 (Prod.snd (Prod.snd (Prod.snd x_1.2).2).2).2.2).3) []),some (.tab [some .i64,some .i64,some .i64] Q),some (.tab [some .i64,none,some .i64] ((Prod.snd x_1).1++ [[(DqO.x (dqF t n (Prod.snd (Prod.snd (Prod.snd x_1.2).2).2).1 (Prod.snd (Prod.snd (Prod.snd (Prod.snd x_1).2).2).2).1 (Prod.snd (Prod.snd (Prod.snd x_1.2).2).2).2.2)).1,bif (DqO.x (dqF t n (Prod.snd (Prod.snd (Prod.snd x_1.2).2).2).1 (Prod.snd (Prod.snd (Prod.snd (Prod.snd x_1).2).2).2).1 (Prod.snd (Prod.snd (Prod.snd x_1.2).2).2).2.2)).2 then 1 else 0,(DqO.x (dqF t n (Prod.snd (Prod.snd (Prod.snd x_1.2).2).2).1 (Prod.snd (Prod.snd (Prod.snd (Prod.snd x_1).2).2).2).1 (Prod.snd (Prod.snd (Prod.snd x_1.2).2).2).2.2)).3]]))]else dT (HPc t n lim N Q T off st s (↑(Prod.fst x):Int)) (fun x'=>Hint.ok (HPc t n lim N Q T off st s (↑(Prod.fst x):Int)) x'∧Hint.mu (HPc t n lim N Q T off st s (↑(Prod.fst x):Int)) x'<Hint.mu (HPc t n lim N Q T off st s (↑(Prod.fst x):Int)) x_1) [.ptr 0 0,.ptr 2 0,.int .i64 lim,.O,.O,.O,.O,.O,.O,.O,.tslice 4 0 (List.length (Prod.snd x_1).1) 3,.int .i64 (W ((↑((Prod.snd x_1.2).1+(Prod.snd (Prod.snd x_1).2).1+1):Int)+1)),.O,.O,.ptr 5 0,.tslice 3 off (List.length T) 3,.int .i64 (↑(List.length T):Int),.int .i64 (↑x.1:Int),.O,.O,.O,.O,.O,.O,.O,.O,.O,.O,.O,.O,.O,.O,.O,.O,.O,.O,.O,.O,.O,.O,.O,.O,.O] [some (.cells [.int .i64 (DqO.s (dqF t n (Prod.snd (Prod.snd (Prod.snd x_1.2).2).2).1 (Prod.snd (Prod.snd (Prod.snd (Prod.snd x_1).2).2).2).1 (Prod.snd (Prod.snd (Prod.snd x_1.2).2).2).2.2)).1,.int .i64 (DqO.s (dqF t n (Prod.snd (Prod.snd (Prod.snd x_1.2).2).2).1 (Prod.snd (Prod.snd (Prod.snd (Prod.snd x_1).2).2).2).1 (Prod.snd (Prod.snd (Prod.snd x_1.2).2).2).2.2)).2,.slice 1 0 (List.length (DqO.s (dqF t n (Prod.snd (Prod.snd (Prod.snd x_1.2).2).2).1 (Prod.snd (Prod.snd (Prod.snd (Prod.snd x_1).2).2).2).1 (Prod.snd (Prod.snd (Prod.snd x_1.2).2).2).2.2)).3) 1,.int .i64 (DqO.s (dqF t n (Prod.snd (Prod.snd (Prod.snd x_1.2).2).2).1 (Prod.snd (Prod.snd (Prod.snd (Prod.snd x_1).2).2).2).1 (Prod.snd (Prod.snd (Prod.snd x_1.2).2).2).2.2)).4,.int .i64 (DqO.s (dqF t n (Prod.snd (Prod.snd (Prod.snd x_1.2).2).2).1 (Prod.snd (Prod.snd (Prod.snd (Prod.snd x_1).2).2).2).1 (Prod.snd (Prod.snd (Prod.snd x_1.2).2).2).2.2)).5,.int .i64 (DqO.s (dqF t n (Prod.snd (Prod.snd (Prod.snd x_1.2).2).2).1 (Prod.snd (Prod.snd (Prod.snd (Prod.snd x_1).2).2).2).1 (Prod.snd (Prod.snd (Prod.snd x_1.2).2).2).2.2)).6,.int .u64 (DqO.s (dqF t n (Prod.snd (Prod.snd (Prod.snd x_1.2).2).2).1 (Prod.snd (Prod.snd (Prod.snd (Prod.snd x_1).2).2).2).1 (Prod.snd (Prod.snd (Prod.snd x_1.2).2).2).2.2)).7,.int .u64 (DqO.s (dqF t n (Prod.snd (Prod.snd (Prod.snd x_1.2).2).2).1 (Prod.snd (Prod.snd (Prod.snd (Prod.snd x_1).2).2).2).1 (Prod.snd (Prod.snd (Prod.snd x_1.2).2).2).2.2)).8,.bool (DqO.s (dqF t n (Prod.snd (Prod.snd (Prod.snd x_1.2).2).2).1 (Prod.snd (Prod.snd (Prod.snd (Prod.snd x_1).2).2).2).1 (Prod.snd (Prod.snd (Prod.snd x_1.2).2).2).2.2)).9]),some (.ints (some .u64) (DqO.s (dqF t n (Prod.snd (Prod.snd (Prod.snd x_1.2).2).2).1 (Prod.snd (Prod.snd (Prod.snd (Prod.snd x_1).2).2).2).1 (Prod.snd (Prod.snd (Prod.snd x_1.2).2).2).2.2)).3),some (.abs (.store t n (dqF t n (Prod.snd (Prod.snd (Prod.snd x_1.2).2).2).1 (Prod.snd (Prod.snd (Prod.snd (Prod.snd x_1).2).2).2).1 (Prod.snd (Prod.snd (Prod.snd x_1.2).2).2).2.2).3) []),some (.tab [some .i64,some .i64,some .i64] Q),some (.tab [some .i64,none,some .i64] (Prod.snd x_1).1),some (.abs (.doer t n (dqF t n (Prod.snd (Prod.snd (Prod.snd x_1.2).2).2).1 (Prod.snd (Prod.snd (Prod.snd (Prod.snd x_1).2).2).2).1 (Prod.snd (Prod.snd (Prod.snd x_1.2).2).2).2.2).2) [2])]else K (.tup [.tslice 4 0 (List.length (Prod.snd x).1) 3,.int .i64 (↑(Prod.snd x.2).1:Int)]) [some (.cells [.int .i64 (Prod.snd (Prod.snd x.2).2).1,.int .i64 (Prod.snd (Prod.snd x.2).2).2,.slice 1 0 (List.length (Prod.snd (Prod.snd x.2).2).3) 1,.int .i64 (Prod.snd (Prod.snd x.2).2).4,.int .i64 (Prod.snd (Prod.snd x.2).2).5,.int .i64 (Prod.snd (Prod.snd x.2).2).6,.int .u64 (Prod.snd (Prod.snd x.2).2).7,.int .u64 (Prod.snd (Prod.snd x.2).2).8,.bool (Prod.snd (Prod.snd x.2).2).9]),some (.ints (some .u64) (Prod.snd (Prod.snd x.2).2).3),some (.abs (.store t n (Prod.snd (Prod.snd x).2).1) []),some (.tab [some .i64,some .i64,some .i64] Q),some (.tab [some .i64,none,some .i64] (Prod.snd x).1)]
theorem IN(t n lim:Int)(N:Nat)(Q T:List (List Int))(off:Nat)(st:STS)(s:MS)(K:AVal→aD Ob→Prop)(h:GL t n lim N Q T off st s K):cT' 55 [.ptr 0 0,.ptr 2 0,.int .i64 lim,.tslice 3 off T.length 3] [a8 1 s,a9 s,some (.abs (.store t n st) []),some (.tab KT Q)] K:=by
 refine aC8 (aE (E:=EV9) Tryz.checked.mixed (L:=(aCj t n lim N Q T off st s)) (n:=10) (aN (by kernel_rfl) h))
theorem WY(t n lim:Int)(N:Nat)(Q T:List (List Int))(off:Nat)(st:STS)(s:MS)(K:AVal→aD Ob→Prop)(hN:N≤1000000)(hT:T.length≤1000000)(hQ:off+T.length≤Q.length)(hq: ∀i,i<T.length→List.getD Q (off+i) []=List.getD T i [])(ok:alOk t n lim N T st s)
 (hK:K (.tup [.tslice 4 0 (alF t n lim N T st s).1.length 3,.int .i64 ((alF t n lim N T st s).2.1:Int)]) [a8 1 (alF t n lim N T st s).2.2.2,a9 (alF t n lim N T st s).2.2.2,some (.abs (.store t n (alF t n lim N T st s).2.2.1) []),some (.tab KT Q),some (.tab KR (alF t n lim N T st s).1)]):GL t n lim N Q T off st s K:=by
 unfold GL
 refine⟨bF (H:=QJ t n lim N Q T off st s) (0,[],0,st,s) rfl ⟨Nat.zero_le _,rfl,Nat.zero_le _,ok,by simp⟩,?_⟩
 rintro⟨i,R,k,st1,s1⟩ ⟨h1,hl,hk,ok1,eq1⟩
 dsimp only at h1 hl hk ok1 eq1⊢
 have hti:((i:Nat):Int).toNat =i:=rfl
 refine xG (fun hi=>?_) (fun hi=>?_)
 ·have hi':i<T.length:=by omega
  have e0:off+Int.toNat ((i:Nat):Int)=off+i:=by omega
  have hqi:=hq i hi'
  have e4:W ((i:Int)+1)=((i+1:Nat):Int):=(cT (by omega)).trans rfl
  have hki:N*i≤1000000*1000000:=Nat.mul_le_mul hN (by omega)
  have hdr:T.drop i=T[i]::T.drop (i+1):=List.drop_eq_getElem_cons hi'
  have hg:List.getD T i []=T[i]:=by rw [gD',gE' hi'];rfl
  have a0:alA t n lim N T st s (i,R,k,st1,s1):=⟨h1,hl,hk,ok1,eq1⟩
  have okr:=ok1
  rw [hdr]at okr
  have okr:wG t n lim N T[i] st1 s1∧_:=okr
  obtain⟨⟨okN,okF⟩,_⟩:=okr
  have w1:W ((k:Int)+1)=((k+0+1:Nat):Int):=(cT (by omega)).trans rfl
  rw [e0,e4,hqi]
  refine⟨⟨by omega,by omega⟩,by omega,by rw [hg];exact okN,bF (H:=HPc t n lim N Q T off st s i) (N,R,k,0,st1,s1,(dqNF t n (r0 T[i]) (r1 T[i]) (r2 T[i]) lim st1).1,(dqNF t n (r0 T[i]) (r1 T[i]) (r2 T[i]) lim st1).2,s1) (by simp only [w1,hg,HPc]<;>rfl) ⟨⟨by omega,by omega⟩,a0,by simp,okF,by dsimp only;rw [hti,hg];simp only [Nat.add_zero]<;>rfl⟩,?_⟩
  rintro⟨f,R2,k2,j,sa,ma,y,sb,mb⟩ ⟨i0,a,hj,okf,eqf⟩
  dsimp only at a hj okf eqf⊢
  cases f with
  | zero=>exact okf.elim
  | succ f=>
    have okf:dqOk t n y sb mb∧((dqF t n y sb mb).d =false→wT t n f (dqF t n y sb mb).x (dqF t n y sb mb).st (dqF t n y sb mb).s):=okf
    rw [hti]at a eqf
    rw [hg]at eqf
    obtain⟨g1,gl,gk,gok,geq⟩:=a
    dsimp only at g1 gl gk gok geq
    rw [hdr,GI]at geq
    rw [hdr]at gok
    have gok:wG t n lim N T[i] sa ma∧alOk t n lim N (T.drop (i+1)) (alX t n lim N T[i] sa ma).2.2.1 (alX t n lim N T[i] sa ma).2.2.2:=gok
    refine⟨⟨⟨rfl,rfl,rfl⟩,okf.1⟩,aW (fun hd=>?_) (fun hd=>?_)⟩
    ·have hd:(dqF t n y sb mb).d =true:=hd
     rw [pT,hd,cond_true]at eqf
     rw [eqf]at geq gok
     dsimp only at geq gok
     have hNi:N*(i+1)=N*i+N:=Nat.mul_succ N i
     refine⟨⟨rfl,rfl,by omega⟩,bF (H:=QJ t n lim N Q T off st s) (i+1,R2++ [pM (dqF t n y sb mb).x],k2+j+1,(dqF t n y sb mb).st,(dqF t n y sb mb).s) ?_ ⟨⟨hi',by show(R2++ [pM _]).length =i+1;rw [List.length_append,gl];rfl,by show k2+j+1≤N*(i+1);omega,gok.2,?_⟩,by show T.length - (i+1)<T.length - i;omega⟩⟩
     ·simp only [QJ,List.length_append,List.length_singleton]
      rfl
     ·rw [geq]
      simp only [List.append_assoc,List.singleton_append,pI',true_and,and_true]
      omega
    ·have hd:(dqF t n y sb mb).d =false:=hd
     rw [pT,hd,cond_false]at eqf
     have w2:W (((k2+j+1:Nat):Int)+1)=((k2+(j+1)+1:Nat):Int):=(cT (by omega)).trans (by omega)
     rw [w2]
     exact bF (H:=HPc t n lim N Q T off st s i) (f,R2,k2,j+1,sa,ma,(dqF t n y sb mb).x,(dqF t n y sb mb).st,(dqF t n y sb mb).s) rfl ⟨⟨i0,⟨g1,gl,gk,by dsimp only;rw [hti,hdr];exact gok,by dsimp only;rw [hti,hdr,GI];exact geq⟩,by show j+1+f=N;omega,okf.2 hd,by dsimp only;rw [hti,hg,eqf];simp only [pI',and_true];omega⟩,by show f<f+1;omega⟩
 ·have hi':T.length=i:=by omega
  rw [show T.drop i=[]from List.drop_eq_nil_of_le (by omega)]at eq1
  have eq1:alF t n lim N T st s=(R++ [],k+0,st1,s1):=eq1
  rw [List.append_nil,Nat.add_zero]at eq1
  rw [eq1]at hK
  exact hK
noncomputable def alpS:aJ Ob:=fun args h=>match args,h with
 | [.ptr 0 0,.ptr 2 0,.int .i64 lim,.tslice 3 off l 3],[e1,e2,some (.abs (.store t n st) []),some (.tab [some .i64,some .i64,some .i64] Q)]=>(match cW 1 [e1,e2]with
   | some (l2,s)=>some (.pre ((l2=s.xs.length∧off+l≤Q.length)∧l≤1000000∧mG t n lim ((Q.drop off).take l) st s) (.ret (.tup [.tslice 4 0 (alR t n lim ((Q.drop off).take l) st s).1.length 3,.int .i64 ((alR t n lim ((Q.drop off).take l) st s).2.1:Int)]) [a8 1 (alR t n lim ((Q.drop off).take l) st s).2.2.2,a9 (alR t n lim ((Q.drop off).take l) st s).2.2.2,some (.abs (.store t n (alR t n lim ((Q.drop off).take l) st s).2.2.1) []),some (.tab [some .i64,some .i64,some .i64] Q),some (.tab [some .i64,none,some .i64] (alR t n lim ((Q.drop off).take l) st s).1)]))
   | none=>none)
 | _,_=>none
theorem WX:sT' 55 alpS:=by
 intro args h o ho K hK
 unfold alpS at ho
 split at ho
 case h_2=>cases ho
 rename_i lim off l e1 e2 t n st Q
 split at ho<;>cases ho
 rename_i l2 s hm
 obtain⟨⟨⟨hl2,hol⟩,hT,ok⟩,hK⟩:=hK
 have hh:=bA hm hl2
 cases hh
 have hlen:((Q.drop off).take l).length =l:=by rw [List.length_take,List.length_drop];omega
 have e:=IN t n lim 100000 Q ((Q.drop off).take l) off st s K (WY t n lim 100000 Q ((Q.drop off).take l) off st s K (by decide) (by omega) (by omega) (fun i hi=>?_) ok hK)
 ·rw [hlen]at e;exact e
 ·rw [gD',gD',List.getElem?_take_of_lt (by omega),List.getElem?_drop]
def QP(k:Int)(m:Nat)(f g:Nat→Int):Hint Ob:= {X:=Nat,st:=fun x=>([.int .i64 k,.O,.O,.O,.O,.O,.O,.view m 2 (fun i=>[.int .i64 (f i),.int .i64 (g i)]),.int .i64 (m:Int),.int .i64 (x:Int)]++List.replicate 8 .O,[]),ok:=fun x=>x≤m∧ ∀j,j<x→aY k (f j) (g j)=true,mu:=fun x=>m - x,keep:=[0,7,8,9] }
def PM(k:Int)(m:Nat)(f g:Nat→Int)(K:AVal→aD Ob→Prop):Prop:=dT (QP k m f g) (Hint.ok (QP k m f g)) [.int .i64 k,.O,.O,.O,.O,.O,.O,.view m 2 fun i=>[.int .i64 (f i),.int .i64 (g i)],.int .i64 (↑m:Int),.int .i64 0,.O,.O,.O,.O,.O,.O,.O,.O] []∧ ∀(x:Nat),(x≤m∧ ∀(j:Nat),j<x→aY k (f j) (g j)=true)→bif ilt (↑x:Int) (↑m:Int)then((0:Int)≤(↑x:Int)∧(↑x:Int)<(↑m:Int))∧True∧bif !aY k (f (Int.toNat (↑x:Int))) (g (Int.toNat (↑x:Int)))then K (.bool false) []else dT (QP k m f g) (fun x'=>Hint.ok (QP k m f g) x'∧Hint.mu (QP k m f g) x'<Hint.mu (QP k m f g) x) [.int .i64 k,.O,.O,.O,.O,.O,.O,.view m 2 fun i=>[.int .i64 (f i),.int .i64 (g i)],.int .i64 (↑m:Int),.int .i64 (W ((↑x:Int)+1)),.O,.O,.O,.O,.O,.O,.O,.O] []else K (.bool true) []
theorem LH(k:Int)(m:Nat)(f g:Nat→Int)(K:AVal→aD Ob→Prop)(h:PM k m f g K):cT' 54 [.int .i64 k,.view m 2 (fun i=>[.int .i64 (f i),.int .i64 (g i)])] [] K:=by
 refine aC8 (aE (E:=EW1) Tryz.checked.mixed (L:=(fun _ _=>some (.states (QP k m f g)))) (n:=10) (aN (by kernel_rfl) h))
def QO(xs ys:List Int)(off k:Nat):Hint Ob:= {X:=Nat,st:=fun i=>([.slice 0 0 xs.length 1,.slice 1 off k 1,.O,.O,.O,.int .i64 (i:Int)]++List.replicate 20 .O,[some (.ints (some .i64) xs),some (.ints (some .i64) ys)]),ok:=okI xs (ys.drop off),mu:=fun i=>xs.length - i,keep:=[0,1,5] }
def OJ(xs ys:List Int)(off k:Nat)(K:AVal→aD Ob→Prop):Prop:=bif !ieq (↑(List.length xs):Int) (↑k:Int)then K (.bool false) [some (.ints (some .i64) xs),some (.ints (some .i64) ys)]else dT (QO xs ys off k) (Hint.ok (QO xs ys off k)) [.slice 0 0 (List.length xs) 1,.slice 1 off k 1,.O,.O,.O,.int .i64 0,.O,.O,.O,.O,.O,.O,.O,.O,.O,.O,.O,.O,.O,.O,.O,.O,.O,.O,.O,.O] [some (.ints (some .i64) xs),some (.ints (some .i64) ys)]∧ ∀(x:Nat),okI xs (List.drop off ys) x→bif ilt (↑x:Int) (↑(List.length xs):Int)then((0:Int)≤(↑x:Int)∧(↑x:Int)<(↑(List.length xs):Int))∧0+Int.toNat (↑x:Int)*(1:Nat)<List.length xs∧((0:Int)≤(↑x:Int)∧(↑x:Int)<(↑k:Int))∧off+Int.toNat (↑x:Int)*(1:Nat)<List.length ys∧bif !ieq (List.getD xs (0+Int.toNat (↑x:Int)*1) 0) (List.getD ys (off+Int.toNat (↑x:Int)*1) 0)then K (.bool false) [some (.ints (some .i64) xs),some (.ints (some .i64) ys)]else dT (QO xs ys off k) (fun x'=>Hint.ok (QO xs ys off k) x'∧Hint.mu (QO xs ys off k) x'<Hint.mu (QO xs ys off k) x) [.slice 0 0 (List.length xs) 1,.slice 1 off k 1,.O,.O,.O,.int .i64 (W ((↑x:Int)+1)),.O,.O,.O,.O,.O,.O,.O,.O,.O,.O,.O,.O,.O,.O,.O,.O,.O,.O,.O,.O] [some (.ints (some .i64) xs),some (.ints (some .i64) ys)]else K (.bool true) [some (.ints (some .i64) xs),some (.ints (some .i64) ys)]
theorem KL(xs ys:List Int)(off k:Nat)(K:AVal→aD Ob→Prop)(h:OJ xs ys off k K):cT' 33 [.slice 0 0 xs.length 1,.slice 1 off k 1] [some (.ints (some .i64) xs),some (.ints (some .i64) ys)] K:=by
 refine aC8 (aE (E:=EW1) Tryz.checked.mixed (L:=(fun _ _=>some (.states (QO xs ys off k)))) (n:=10) (aN (by kernel_rfl) h))
theorem aAl(k:Int)(m:Nat)(f g:Nat→Int)(K:AVal→aD Ob→Prop)(hm:m≤4611686018427387904)(hK:K (.bool (kQ k m f g)) []):PM k m f g K:=by
 refine⟨bF (H:=QP k m f g) (0:Nat) rfl ⟨Nat.zero_le _,fun j hj=>by omega⟩,?_⟩
 rintro x ⟨hx,hj⟩
 refine aW (fun e=>?_) (fun e=>?_)
 ·rw [bU,dT']at e
  refine⟨⟨by omega,by omega⟩,trivial,aW (fun e2=>?_) (fun e2=>?_)⟩
  ·have hf:kQ k m f g=false:=by
    cases h:kQ k m f g with
    | false=>rfl
    | true=>
      have:=pE.1 h x (by omega)
      rw [Int.toNat_natCast]at e2
      rw [this]at e2;cases e2
   rw [hf]at hK;exact hK
  ·have e4:W ((x:Int)+1)=((x+1:Nat):Int):=by rw [W,cT (by omega)];rfl
   refine bF (H:=QP k m f g) (x+1:Nat) (by simp only [e4]<;>rfl) ⟨⟨by show x+1≤m;omega,?_⟩,by show m - (x+1)<m - x;omega⟩
   intro j hj2
   by_cases hjx:j=x
   ·subst hjx
    rw [Int.toNat_natCast]at e2
    simpa using e2
   ·exact hj j (by omega)
 ·rw [bU,dF']at e
  have ht:kQ k m f g=true:=pE.2 fun j hj3=>hj j (by omega)
  rw [ht]at hK;exact hK
def ritS:aJ Ob:=fun args h=>match args,h with
 | [.int .i64 k,.view m 2 row],[]=>some (.pre (m≤4611686018427387904∧OU row) (.ret (.bool (kQ k m (rK row) (rY row))) []))
 | _,_=>none
theorem aAk:sT' 54 ritS:=by
 intro args h o ho K hK
 unfold ritS at ho
 split at ho<;>cases ho
 rename_i k m row
 obtain⟨⟨hm,⟨hr⟩⟩,hK⟩:=hK
 have hK:K (.bool (kQ k m (rK row) (rY row))) []:=hK
 rw [hr]
 exact LH k m (rK row) (rY row) K (aAl k m (rK row) (rY row) K hm hK)
theorem R8{ys:List Int}{off k i:Nat}(ho:off+k=ys.length)(hi:i<k):ys.getD (off+(i:Int).toNat *1) 0=(ys.drop off)[i]'(by rw [List.length_drop];omega):=by
 have e:off+(i:Int).toNat *1=off+i:=by omega
 rw [e,List.getElem_drop,gD',gE' (by omega)];rfl
theorem Z4(xs ys:List Int)(off k:Nat)(K:AVal→aD Ob→Prop)(ho:off+k=ys.length)(hp:xs.length≤4294967296)(hK:K (.bool (gH xs (ys.drop off))) [some (.ints (some .i64) xs),some (.ints (some .i64) ys)]):OJ xs ys off k K:=by
 have hd:(ys.drop off).length =k:=by rw [List.length_drop];omega
 have hS:gH xs (ys.drop off)=decide (xs=ys.drop off):=rfl
 refine aW (fun e=>?_) (fun e=>⟨bF (H:=QO xs ys off k) (0:Nat) rfl ⟨Nat.zero_le _,?_,rfl⟩,?_⟩)
 ·rw [bI]at e
  have:xs≠ys.drop off:=by intro h;rw [h,hd]at e;simp at e
  rw [hS,decide_eq_false this]at hK;exact hK
 ·rw [bI]at e;simp at e;omega
 ·rintro i ⟨h1,h2,h3⟩
  refine aW (fun e1=>?_) (fun e1=>?_)
  ·rw [bU,dT']at e1
   have hi:i<xs.length:=by omega
   have hj:i<(ys.drop off).length :=by omega
   have e2:0+(i:Int).toNat *1=i:=by omega
   rw [e2,R8 ho (show i<k by omega)]
   refine⟨by omega,hi,by omega,by omega,aW (fun e3=>?_) (fun e3=>?_)⟩
   ·rw [bI]at e3
    have:xs≠ys.drop off:=by
     intro h
     have:xs.getD i 0=(ys.drop off)[i]:=by rw [gD',gE' hi];simp only [h]<;>rfl
     rw [this]at e3;simp at e3
    rw [hS,decide_eq_false this]at hK;exact hK
   ·rw [bI]at e3
    have e3:xs.getD i 0=(ys.drop off)[i]:=by simpa using e3
    have e4:IntKind.wrap .i64 ((i:Int)+1)=((i+1:Nat):Int):=by rw [cT (by omega)];rfl
    refine bF (H:=QO xs ys off k) (i+1:Nat) (by simp only [W,e4]<;>rfl) ⟨⟨hi,h2,?_⟩,by show xs.length - (i+1)<xs.length - i;omega⟩
    rw [gD',gE' hi]at e3
    rw [List.take_succ_eq_append_getElem hi,List.take_succ_eq_append_getElem hj,h3]
    have e5:xs[i]=(ys.drop off)[i]:=by simpa using e3
    rw [e5]
  ·rw [bU,dF']at e1
   have:xs=ys.drop off:=by
    rw [List.take_of_length_le (by omega),List.take_of_length_le (by omega)]at h3;exact h3
   rw [hS,decide_eq_true this]at hK;exact hK
def iofS:aJ Ob:=fun args h=>match args,h with
 | [.slice 0 0 n 1,.slice 1 off k 1],[some (.ints (some .i64) xs),some (.ints (some .i64) ys)]=>some (.pre ((n=xs.length∧off+k=ys.length)∧n≤4294967296) (.ret (.bool (gH xs (ys.drop off))) [some (.ints (some .i64) xs),some (.ints (some .i64) ys)]))
 | _,_=>none
theorem Z3:sT' 33 iofS:=by
 intro args h o ho K hK
 unfold iofS at ho
 split at ho<;>cases ho
 rename_i n off k xs ys
 obtain⟨⟨⟨rfl,hf⟩,hp⟩,hK⟩:=hK
 exact KL xs ys off k K (Z4 xs ys off k K hf hp hK)
noncomputable def EW2:=((EW1.addS 54 ritS aAk).addS 33 iofS Z3).addS 15 fillSb uI
theorem QS(t n lim:Int)(Q:List (List Int))(off l:Nat)(st:STS)(s:MS)(K:AVal→aD Ob→Prop)(hol:off+l≤Q.length)(hT:l≤1000000)(ok:mG t n lim ((Q.drop off).take l) st s)
 (hK:K (.tup [.tslice 5 0 (alR t n lim ((Q.drop off).take l) st s).1.length 3,.int .i64 ((alR t n lim ((Q.drop off).take l) st s).2.1:Int)]) [a8 1 (alR t n lim ((Q.drop off).take l) st s).2.2.2,a9 (alR t n lim ((Q.drop off).take l) st s).2.2.2,stC 6 t n (alR t n lim ((Q.drop off).take l) st s).2.2.1,none,some (.tab KT Q),some (.tab KR (alR t n lim ((Q.drop off).take l) st s).1),fS (alR t n lim ((Q.drop off).take l) st s).2.2.1]):
 cT' 55 [.ptr 0 0,.ptr 2 0,.int .i64 lim,.tslice 4 off l 3] [a8 1 s,a9 s,stC 3 t n st,fS st,some (.tab KT Q)] K:=by
 refine aDF (args0:=[.ptr 0 0,.ptr 2 0,.int .i64 lim,.tslice 3 off l 3]) (h0:=[a8 1 s,a9 s,stC 4 t n st,some (.tab KT Q),fS st]) (K0:=fun v g=>K (v.ren (iota [0,1,2,4,3] 5)) (nJ [a8 1 s,a9 s,stC 3 t n st,fS st,some (.tab KT Q)] [0,1,2,4,3] g)) ?_ [0,1,2,4,3] rfl (by decide) (fun l hl=>by show l<5;simp at hl;omega) ?_ (by kernel_rfl) (fun v g h _=>h)
 ·refine aDU tbl [a8 1 s,a9 s,some (.abs (.store t n st) []),some (.tab KT Q)] (.store t n st) 2 0 (dG t n st) [] (by kernel_rfl) rfl rfl (by kernel_rfl) ?_
  refine aDz ?_
  refine WX [.ptr 0 0,.ptr 2 0,.int .i64 lim,.tslice 3 off l 3] [a8 1 s,a9 s,some (.abs (.store t n st) []),some (.tab KT Q)] _ rfl _ ⟨⟨⟨rfl,hol⟩,hT,ok⟩,?_⟩
  generalize alR t n lim ((Q.drop off).take l) st s=r at hK⊢
  obtain⟨R,k,st',s'⟩:=r
  exact⟨⟨_,_,aF.unpack (.store t n st') 2 0 (dG t n st') [] rfl rfl rfl rfl,hK⟩⟩
 ·intro i l h
  match i,h with
  | 0,h=>cases h;rfl
  | 1,h=>cases h;rfl
  | 2,h=>cases h;rfl
  | 3,h=>cases h;rfl
  | 4,h=>cases h;rfl
  | i+5,h=>simp at h
noncomputable def alpB:aJ Ob:=fun args h=>match args,h with
 | [.ptr 0 0,.ptr 2 0,.int .i64 lim,.tslice 4 off l 3],[e1,e2,e3,e4,some (.tab [some .i64,some .i64,some .i64] Q)]=>(match cW 1 [e1,e2],j9 3 [e3,e4]with
   | some (l2,s),some (l3,t,n,st)=>some (.pre ((l2=s.xs.length∧l3=st.R.length∧off+l≤Q.length)∧l≤1000000∧mG t n lim ((Q.drop off).take l) st s) (.ret (.tup [.tslice 5 0 (alR t n lim ((Q.drop off).take l) st s).1.length 3,.int .i64 ((alR t n lim ((Q.drop off).take l) st s).2.1:Int)]) [a8 1 (alR t n lim ((Q.drop off).take l) st s).2.2.2,a9 (alR t n lim ((Q.drop off).take l) st s).2.2.2,stC 6 t n (alR t n lim ((Q.drop off).take l) st s).2.2.1,none,some (.tab [some .i64,some .i64,some .i64] Q),some (.tab [some .i64,none,some .i64] (alR t n lim ((Q.drop off).take l) st s).1),fS (alR t n lim ((Q.drop off).take l) st s).2.2.1]))
   | _,_=>none)
 | _,_=>none
theorem GK:sT' 55 alpB:=by
 intro args h o ho K hK
 unfold alpB at ho
 split at ho
 case h_2=>cases ho
 rename_i lim off l e1 e2 e3 e4 Q
 split at ho<;>cases ho
 rename_i l2 s l3 t n st hm hs
 obtain⟨⟨⟨hl2,hl3,hol⟩,hT,ok⟩,hK⟩:=hK
 have hh:=bA hm hl2
 cases hh
 have hh:=cD hs hl3
 cases hh
 exact QS t n lim Q off l st s K hol hT ok hK
noncomputable def EP0:=(EW2.addS 19 stNewS vI).addS 55 (aJ.or alpB (kX [(.slot 3,.tab [some .i64,some .i64,some .i64])] alpB)) (aDn GK (jR GK))
def H9(s u:MS)(K:AVal→aD Ob→Prop):Prop:=bif bif ieq s.1 u.1 then bif ieq s.2 u.2 then true else false else false then(((lE' s.3∧lE' u.3)∧List.length s.3≤(4294967296:Nat))∧True)∧K (.bool (gH s.3 u.3)) [some (.cells [.int .i64 s.1,.int .i64 s.2,.slice 1 0 (List.length s.3) 1,.int .i64 s.4,.int .i64 s.5,.int .i64 s.6,.int .u64 s.7,.int .u64 s.8,.bool s.9]),some (.ints (some .u64) s.3),some (.cells [.int .i64 u.1,.int .i64 u.2,.slice 3 0 (List.length u.3) 1,.int .i64 u.4,.int .i64 u.5,.int .i64 u.6,.int .u64 u.7,.int .u64 u.8,.bool u.9]),some (.ints (some .u64) u.3)]else K (.bool false) [some (.cells [.int .i64 s.1,.int .i64 s.2,.slice 1 0 (List.length s.3) 1,.int .i64 s.4,.int .i64 s.5,.int .i64 s.6,.int .u64 s.7,.int .u64 s.8,.bool s.9]),some (.ints (some .u64) s.3),some (.cells [.int .i64 u.1,.int .i64 u.2,.slice 3 0 (List.length u.3) 1,.int .i64 u.4,.int .i64 u.5,.int .i64 u.6,.int .u64 u.7,.int .u64 u.8,.bool u.9]),some (.ints (some .u64) u.3)]
theorem LI(s u:MS)(K:AVal→aD Ob→Prop)(h:H9 s u K):cT' 21 [.ptr 0 0,.ptr 2 0] [a8 1 s,a9 s,a8 3 u,a9 u] K:=by
 refine aC8 (cM' (E:=EP0) (by kernel_rfl) h)
def IF(sh:Int)(f g:Nat→Int):Nat→Nat→List (List Int)
 | _,0=>[]
 | j,k+1=>[sh,f j,g j]::IF sh f g (j+1) k
def tkO(sh:Int)(f g:Nat→Int)(k:Nat):List (List Int):=IF sh f g 0 k
def smB(s u:MS):Bool:=bif bif ieq s.t u.t then bif ieq s.n u.n then true else false else false then gH s.xs u.xs else false
def samS:aJ Ob:=fun args h=>match args,h with
 | [.ptr 0 0,.ptr 2 0],[e1,e2,e3,e4]=>(match cW 1 [e1,e2],cW 3 [e3,e4]with
   | some (l,s),some (k,u)=>some (.pre ((l=s.xs.length∧k=u.xs.length)∧s.xs.length≤4294967296) (.ret (.bool (smB s u)) [a8 1 s,a9 s,a8 3 u,a9 u]))
   | _,_=>none)
 | _,_=>none
theorem aAo(s u:MS)(K:AVal→aD Ob→Prop)(h:s.xs.length≤4294967296)(hK:K (.bool (smB s u)) [a8 1 s,a9 s,a8 3 u,a9 u]):H9 s u K:=by
 unfold H9
 unfold smB at hK
 refine aW (fun e=>⟨⟨⟨⟨rfl,rfl⟩,h⟩,trivial⟩,?_⟩) (fun e=>?_)
 ·have e:(bif ieq s.t u.t then bif ieq s.n u.n then true else false else false)=true:=e
  rw [e]at hK;exact hK
 ·have e:(bif ieq s.t u.t then bif ieq s.n u.n then true else false else false)=false:=e
  rw [e]at hK;exact hK
theorem aAn:sT' 21 samS:=by
 intro args h o ho K hK
 unfold samS at ho
 split at ho
 case h_2=>cases ho
 rename_i e1 e2 e3 e4
 split at ho<;>cases ho
 rename_i l s k u hm hn
 obtain⟨⟨⟨hl,hk⟩,hx⟩,hK⟩:=hK
 have hh:=bA hm hl
 cases hh
 have hh:=bA hn hk
 cases hh
 exact LI s u K (aAo s u K hx hK)
noncomputable def EP1:=EP0.addS 21 samS aAn
def kP(sh:Int):Int:=IntKind.wrap .i64 (1+Int.tmod (IntKind.wrap .i64 sh) 4)
def nP(at':Int):Int:=IntKind.wrap .i64 (3+Int.tmod (IntKind.wrap .i64 at') 20)
structure UD (m i:Nat):Prop where
 h:i≤m
def QH(sh:Int)(m:Nat)(f g:Nat→Int)(at':Int):Hint Ob:= {X:=Nat,st:=fun i=>([.O,.view m 2 (fun i=>[.int .i64 (f i),.int .i64 (g i)]),.int .u8 at',.O,.O,.O,.O,.int .i64 (kP sh),.ptr 0 0,.O,.ptr 2 0,.ptr 4 0,.ptr 6 0,.tslice 8 0 (tkO (kP sh) f g i).length 3]++List.replicate 42 .O ++ [.view m 2 (fun i=>[.int .i64 (f i),.int .i64 (g i)]),.int .i64 (m:Int),.int .i64 (i:Int)]++List.replicate 106 .O,[a8 1 (gG (kP sh) 2 (nP at') []),a9 (gG (kP sh) 2 (nP at') []),a8 3 (gG (kP sh) 2 (nP at') []),a9 (gG (kP sh) 2 (nP at') []),stC 5 2 (nP at') ⟨1,0,[]⟩,fS ⟨1,0,[]⟩,stC 7 2 (nP at') ⟨1,0,[]⟩,fS ⟨1,0,[]⟩,some (.tab KT (tkO (kP sh) f g i))]),ok:=UD m,mu:=fun i=>m - i,keep:=[1,2,7,8,10,11,12,13,56,57,58],casts:=[(.slot 13,.tab KT)] }
def QI(X Y:List (List Int)):Hint Ob:= {X:=Nat,st:=fun i=>(List.replicate 17 .O ++ [.tslice 0 0 X.length 3,.O,.tslice 1 0 Y.length 3]++List.replicate 131 .O ++ [.int .i64 (X.length:Int),.int .i64 (i:Int)]++List.replicate 12 .O,[some (.tab KR X),some (.tab KR Y)]),ok:=UD X.length,mu:=fun i=>X.length - i,keep:=[17,19,151,152] }
def aBX(sh:Int)(m:Nat)(f g:Nat→Int)(at':Int)(X Y:List (List Int)):FuncId→Nat→Option (rA Ob):=fun _ k=>if k=13 then some (.states (QH sh m f g at'))else if k=25 then some (.states (QI X Y))else none
def jP(at':Int)(T:List (List Int)):Nat:=Int.toNat (bif ilt (T.length:Int) (IntKind.wrap .i64 at')then(T.length:Int)else IntKind.wrap .i64 at')
def mP(sh at':Int):MS:=gG (kP sh) 2 (nP at') []
def aP(sh:Int)(f g:Nat→Int)(at':Int)(x:Nat):List (List Int)×Nat×STS×MS:=alR 2 (nP at') 1 (List.take (tkO (kP sh) f g x).length (List.drop 0 (tkO (kP sh) f g x))) ⟨1,0,[]⟩ (mP sh at')
def bP(sh:Int)(f g:Nat→Int)(at':Int)(x:Nat):List (List Int)×Nat×STS×MS:=alR 2 (nP at') 1 (List.take (jP at' (tkO (kP sh) f g x)) (List.drop 0 (tkO (kP sh) f g x))) ⟨1,0,[]⟩ (mP sh at')
def cP(sh:Int)(f g:Nat→Int)(at':Int)(x:Nat):List (List Int)×Nat×STS×MS:=alR 2 (nP at') 1 (List.take ((tkO (kP sh) f g x).length - jP at' (tkO (kP sh) f g x)) (List.drop (0+jP at' (tkO (kP sh) f g x)) (tkO (kP sh) f g x))) (bP sh f g at' x).2.2.1 (bP sh f g at' x).2.2.2
def IG(sh:Int)(m:Nat)(f g:Nat→Int)(at':Int)(X Y:List (List Int))(K:AVal→aD Ob→Prop):Prop:=True∧(4:Int)≠(0:Int)∧bif ilt 20 (↑m:Int)then K (.bool true) []else(m≤(4611686018427387904:Nat)∧OU fun i=>[.int .i64 (f i),.int .i64 (g i)])∧bif !kQ (kP sh) m f g then K (.bool true) []else(20:Int)≠(0:Int)∧y5 2 (nP at') []∧(lE' (mP sh at').3∧List.length (mP sh at').3≤(4294967296:Nat))∧(True∧True)∧(True∧True)∧dT (QH sh m f g at') (Hint.ok (QH sh m f g at')) [.O,.view m 2 fun i=>[.int .i64 (f i),.int .i64 (g i)],.int .u8 at',.O,.O,.O,.O,.int .i64 (kP sh),.ptr 0 0,.O,.ptr 2 0,.ptr 4 0,.ptr 6 0,.tslice 8 0 0 3,.O,.O,.O,.O,.O,.O,.O,.O,.O,.O,.O,.O,.O,.O,.O,.O,.O,.O,.O,.O,.O,.O,.O,.O,.O,.O,.O,.O,.O,.O,.O,.O,.O,.O,.O,.O,.O,.O,.O,.O,.O,.O,.view m 2 fun i=>[.int .i64 (f i),.int .i64 (g i)],.int .i64 (↑m:Int),.int .i64 0,.O,.O,.O,.O,.O,.O,.O,.O,.O,.O,.O,.O,.O,.O,.O,.O,.O,.O,.O,.O,.O,.O,.O,.O,.O,.O,.O,.O,.O,.O,.O,.O,.O,.O,.O,.O,.O,.O,.O,.O,.O,.O,.O,.O,.O,.O,.O,.O,.O,.O,.O,.O,.O,.O,.O,.O,.O,.O,.O,.O,.O,.O,.O,.O,.O,.O,.O,.O,.O,.O,.O,.O,.O,.O,.O,.O,.O,.O,.O,.O,.O,.O,.O,.O,.O,.O,.O,.O,.O,.O,.O,.O,.O,.O,.O,.O,.O,.O,.O,.O,.O,.O,.O,.O,.O,.O] [some (.cells [.int .i64 (mP sh at').1,.int .i64 (mP sh at').2,.slice 1 0 (List.length (mP sh at').3) 1,.int .i64 (mP sh at').4,.int .i64 (mP sh at').5,.int .i64 (mP sh at').6,.int .u64 (mP sh at').7,.int .u64 (mP sh at').8,.bool (mP sh at').9]),some (.ints (some .u64) (mP sh at').3),some (.cells [.int .i64 (mP sh at').1,.int .i64 (mP sh at').2,.slice 3 0 (List.length (mP sh at').3) 1,.int .i64 (mP sh at').4,.int .i64 (mP sh at').5,.int .i64 (mP sh at').6,.int .u64 (mP sh at').7,.int .u64 (mP sh at').8,.bool (mP sh at').9]),some (.ints (some .u64) (mP sh at').3),some (.cells [.int .i64 2,.int .i64 (nP at'),.int .i64 1,.int .i64 0,.slice 5 0 0 1]),some (.ints (some .i64) []),some (.cells [.int .i64 2,.int .i64 (nP at'),.int .i64 1,.int .i64 0,.slice 7 0 0 1]),some (.ints (some .i64) []),some (.tab [some .i64,some .i64,some .i64] [])]∧ ∀(x:Nat),UD m x→bif ilt (↑x:Int) (↑m:Int)then((0:Int)≤(↑x:Int)∧(↑x:Int)<(↑m:Int))∧(0=0∧lE' (tkO (kP sh) f g x)∧List.length (tkO (kP sh) f g x)+(1:Nat)≤(4294967296:Nat))∧dT (QH sh m f g at') (fun x'=>Hint.ok (QH sh m f g at') x'∧Hint.mu (QH sh m f g at') x'<Hint.mu (QH sh m f g at') x) [.O,.view m 2 fun i=>[.int .i64 (f i),.int .i64 (g i)],.int .u8 at',.O,.O,.O,.O,.int .i64 (kP sh),.ptr 0 0,.O,.ptr 2 0,.ptr 4 0,.ptr 6 0,.tslice 8 0 (List.length (tkO (kP sh) f g x)+1) 3,.O,.O,.O,.O,.O,.O,.O,.O,.O,.O,.O,.O,.O,.O,.O,.O,.O,.O,.O,.O,.O,.O,.O,.O,.O,.O,.O,.O,.O,.O,.O,.O,.O,.O,.O,.O,.O,.O,.O,.O,.O,.O,.view m 2 fun i=>[.int .i64 (f i),.int .i64 (g i)],.int .i64 (↑m:Int),.int .i64 (W ((↑x:Int)+1)),.O,.O,.O,.O,.O,.O,.O,.O,.O,.O,.O,.O,.O,.O,.O,.O,.O,.O,.O,.O,.O,.O,.O,.O,.O,.O,.O,.O,.O,.O,.O,.O,.O,.O,.O,.O,.O,.O,.O,.O,.O,.O,.O,.O,.O,.O,.O,.O,.O,.O,.O,.O,.O,.O,.O,.O,.O,.O,.O,.O,.O,.O,.O,.O,.O,.O,.O,.O,.O,.O,.O,.O,.O,.O,.O,.O,.O,.O,.O,.O,.O,.O,.O,.O,.O,.O,.O,.O,.O,.O,.O,.O,.O,.O,.O,.O,.O,.O,.O,.O,.O,.O,.O,.O,.O,.O] [some (.cells [.int .i64 (mP sh at').1,.int .i64 (mP sh at').2,.slice 1 0 (List.length (mP sh at').3) 1,.int .i64 (mP sh at').4,.int .i64 (mP sh at').5,.int .i64 (mP sh at').6,.int .u64 (mP sh at').7,.int .u64 (mP sh at').8,.bool (mP sh at').9]),some (.ints (some .u64) (mP sh at').3),some (.cells [.int .i64 (mP sh at').1,.int .i64 (mP sh at').2,.slice 3 0 (List.length (mP sh at').3) 1,.int .i64 (mP sh at').4,.int .i64 (mP sh at').5,.int .i64 (mP sh at').6,.int .u64 (mP sh at').7,.int .u64 (mP sh at').8,.bool (mP sh at').9]),some (.ints (some .u64) (mP sh at').3),some (.cells [.int .i64 2,.int .i64 (nP at'),.int .i64 1,.int .i64 0,.slice 5 0 0 1]),some (.ints (some .i64) []),some (.cells [.int .i64 2,.int .i64 (nP at'),.int .i64 1,.int .i64 0,.slice 7 0 0 1]),some (.ints (some .i64) []),some (.tab [some .i64,some .i64,some .i64] (tkO (kP sh) f g x++ [[kP sh,f (Int.toNat (↑x:Int)),g (Int.toNat (↑x:Int))]]))]else((lE' (mP sh at').3∧0=0∧0+List.length (tkO (kP sh) f g x)≤List.length (tkO (kP sh) f g x))∧List.length (tkO (kP sh) f g x)≤(1000000:Nat)∧mG 2 (nP at') 1 (List.take (List.length (tkO (kP sh) f g x)) (List.drop 0 (tkO (kP sh) f g x))) {me:=1,sp:=0,R:=[] } (mP sh at'))∧(((0:Int)≤bif ilt (↑(List.length (tkO (kP sh) f g x)):Int) (W at')then(↑(List.length (tkO (kP sh) f g x)):Int)else W at')∧jP at' (tkO (kP sh) f g x)≤List.length (tkO (kP sh) f g x))∧((lE' (mP sh at').3∧0=0∧0+jP at' (tkO (kP sh) f g x)≤List.length (tkO (kP sh) f g x))∧jP at' (tkO (kP sh) f g x)≤(1000000:Nat)∧mG 2 (nP at') 1 (List.take (jP at' (tkO (kP sh) f g x)) (List.drop 0 (tkO (kP sh) f g x))) {me:=1,sp:=0,R:=[] } (mP sh at'))∧(((0:Int)≤bif ilt (↑(List.length (tkO (kP sh) f g x)):Int) (W at')then(↑(List.length (tkO (kP sh) f g x)):Int)else W at')∧jP at' (tkO (kP sh) f g x)≤List.length (tkO (kP sh) f g x))∧((lE' (Prod.snd (Prod.snd (bP sh f g at' x)).2).3∧lE' (Prod.fst (Prod.snd (bP sh f g at' x)).2).3∧0+jP at' (tkO (kP sh) f g x)+(List.length (tkO (kP sh) f g x) - jP at' (tkO (kP sh) f g x))≤List.length (tkO (kP sh) f g x))∧List.length (tkO (kP sh) f g x) - jP at' (tkO (kP sh) f g x)≤(1000000:Nat)∧mG 2 (nP at') 1 (List.take (List.length (tkO (kP sh) f g x) - jP at' (tkO (kP sh) f g x)) (List.drop (0+jP at' (tkO (kP sh) f g x)) (tkO (kP sh) f g x))) (Prod.snd (bP sh f g at' x)).2.1 (Prod.snd (bP sh f g at' x)).2.2)∧(0+List.length (cP sh f g at' x).1≤List.length (cP sh f g at' x).1∧0=0∧lE' (bP sh f g at' x).1∧List.length (bP sh f g at' x).1+List.length (cP sh f g at' x).1≤(4294967296:Nat))∧bif !ieq (↑(Prod.snd (aP sh f g at' x)).1:Int) (W ((↑(Prod.snd (bP sh f g at' x)).1:Int)+(↑(Prod.snd (cP sh f g at' x)).1:Int)))then K (.bool false) []else bif !ieq (↑(List.length (aP sh f g at' x).1):Int) (↑(List.length (bP sh f g at' x).1+List.length (cP sh f g at' x).1):Int)then K (.bool false) []else bif !ieq (↑(List.length (aP sh f g at' x).1):Int) (↑m:Int)then K (.bool false) []else(((lE' (Prod.snd (Prod.snd (aP sh f g at' x)).2).3∧lE' (Prod.snd (Prod.snd (cP sh f g at' x)).2).3)∧List.length (Prod.snd (Prod.snd (aP sh f g at' x)).2).3≤(4294967296:Nat))∧True)∧bif !bif bif ieq (Prod.snd (Prod.snd (aP sh f g at' x)).2).1 (Prod.snd (Prod.snd (cP sh f g at' x)).2).1 then bif ieq (Prod.snd (Prod.snd (aP sh f g at' x)).2).2 (Prod.snd (Prod.snd (cP sh f g at' x)).2).2 then true else false else false then gH (Prod.snd (Prod.snd (aP sh f g at' x)).2).3 (Prod.snd (Prod.snd (cP sh f g at' x)).2).3 else false then K (.bool false) []else bif !ieq (Prod.fst (Prod.snd (aP sh f g at' x)).2).2 (Prod.fst (Prod.snd (cP sh f g at' x)).2).2 then K (.bool false) []else(((lE' (Prod.fst (Prod.snd (aP sh f g at' x)).2).3∧0+List.length (Prod.fst (Prod.snd (cP sh f g at' x)).2).3=List.length (Prod.fst (Prod.snd (cP sh f g at' x)).2).3)∧List.length (Prod.fst (Prod.snd (aP sh f g at' x)).2).3≤(4294967296:Nat))∧True)∧bif !gH (Prod.fst (Prod.snd (aP sh f g at' x)).2).3 (List.drop 0 (Prod.fst (Prod.snd (cP sh f g at' x)).2).3)then K (.bool false) []else dT (QI X Y) (Hint.ok (QI X Y)) [.O,.O,.O,.O,.O,.O,.O,.O,.O,.O,.O,.O,.O,.O,.O,.O,.O,.tslice 0 0 (List.length (aP sh f g at' x).1) 3,.O,.tslice 1 0 (List.length (bP sh f g at' x).1+List.length (cP sh f g at' x).1) 3,.O,.O,.O,.O,.O,.O,.O,.O,.O,.O,.O,.O,.O,.O,.O,.O,.O,.O,.O,.O,.O,.O,.O,.O,.O,.O,.O,.O,.O,.O,.O,.O,.O,.O,.O,.O,.O,.O,.O,.O,.O,.O,.O,.O,.O,.O,.O,.O,.O,.O,.O,.O,.O,.O,.O,.O,.O,.O,.O,.O,.O,.O,.O,.O,.O,.O,.O,.O,.O,.O,.O,.O,.O,.O,.O,.O,.O,.O,.O,.O,.O,.O,.O,.O,.O,.O,.O,.O,.O,.O,.O,.O,.O,.O,.O,.O,.O,.O,.O,.O,.O,.O,.O,.O,.O,.O,.O,.O,.O,.O,.O,.O,.O,.O,.O,.O,.O,.O,.O,.O,.O,.O,.O,.O,.O,.O,.O,.O,.O,.O,.O,.int .i64 (↑(List.length (aP sh f g at' x).1):Int),.int .i64 0,.O,.O,.O,.O,.O,.O,.O,.O,.O,.O,.O,.O] [some (.tab [some .i64,none,some .i64] (aP sh f g at' x).1),some (.tab [some .i64,none,some .i64] ((bP sh f g at' x).1++List.take (List.length (cP sh f g at' x).1) (List.drop 0 (cP sh f g at' x).1)))]∧ ∀(x:Nat),UD (List.length X) x→bif ilt (↑x:Int) (↑(List.length X):Int)then((0:Int)≤(↑x:Int)∧(↑x:Int)<(↑(List.length X):Int))∧0+Int.toNat (↑x:Int)<List.length X∧((0:Int)≤(↑x:Int)∧(↑x:Int)<(↑(List.length Y):Int))∧0+Int.toNat (↑x:Int)<List.length Y∧bif !bif ieq (List.headD (List.getD X (0+Int.toNat (↑x:Int)) []) 0) (List.headD (List.getD Y (0+Int.toNat (↑x:Int)) []) 0)then bif bif !ieq (List.headD (List.tail (List.getD X (0+Int.toNat (↑x:Int)) [])) 0) 0 then !ieq (List.headD (List.tail (List.getD Y (0+Int.toNat (↑x:Int)) [])) 0) 0 else !!ieq (List.headD (List.tail (List.getD Y (0+Int.toNat (↑x:Int)) [])) 0) 0 then bif ieq (List.headD (List.tail (List.tail (List.getD X (0+Int.toNat (↑x:Int)) []))) 0) (List.headD (List.tail (List.tail (List.getD Y (0+Int.toNat (↑x:Int)) []))) 0)then true else false else false else false then K (.bool false) []else dT (QI X Y) (fun x'=>Hint.ok (QI X Y) x'∧Hint.mu (QI X Y) x'<Hint.mu (QI X Y) x) [.O,.O,.O,.O,.O,.O,.O,.O,.O,.O,.O,.O,.O,.O,.O,.O,.O,.tslice 0 0 (List.length X) 3,.O,.tslice 1 0 (List.length Y) 3,.O,.O,.O,.O,.O,.O,.O,.O,.O,.O,.O,.O,.O,.O,.O,.O,.O,.O,.O,.O,.O,.O,.O,.O,.O,.O,.O,.O,.O,.O,.O,.O,.O,.O,.O,.O,.O,.O,.O,.O,.O,.O,.O,.O,.O,.O,.O,.O,.O,.O,.O,.O,.O,.O,.O,.O,.O,.O,.O,.O,.O,.O,.O,.O,.O,.O,.O,.O,.O,.O,.O,.O,.O,.O,.O,.O,.O,.O,.O,.O,.O,.O,.O,.O,.O,.O,.O,.O,.O,.O,.O,.O,.O,.O,.O,.O,.O,.O,.O,.O,.O,.O,.O,.O,.O,.O,.O,.O,.O,.O,.O,.O,.O,.O,.O,.O,.O,.O,.O,.O,.O,.O,.O,.O,.O,.O,.O,.O,.O,.O,.O,.int .i64 (↑(List.length X):Int),.int .i64 (W ((↑x:Int)+1)),.O,.O,.O,.O,.O,.O,.O,.O,.O,.O,.O,.O] [some (.tab [some .i64,none,some .i64] X),some (.tab [some .i64,none,some .i64] Y)]else K (.bool true) []
theorem LP(sh:Int)(m:Nat)(f g:Nat→Int)(at':Int)(X Y:List (List Int))(K:AVal→aD Ob→Prop)(h:IG sh m f g at' X Y K):cT' 11 [.int .u8 sh,.view m 2 (fun i=>[.int .i64 (f i),.int .i64 (g i)]),.int .u8 at'] [] K:=by
 refine aC8 (aE (E:=EP1) Tryz.checked.mixed (L:=(aBX sh m f g at' X Y)) (n:=10) (aN (by kernel_rfl) h))
theorem aDl{X:Type}{K:X→Prop} : ∀ {t:Tr X},t.run K→t.ok
 | .ret x,k=>trivial
 | .ite b l r,k=>by cases b with
   | true=>exact aDl (t:=l) k
   | false=>exact aDl (t:=r) k
 | .pre p t,k=>⟨k.1,aDl (t:=t) k.2⟩
theorem aDi{X:Type}{K:X→Prop} : ∀ {t:Tr X},t.run K→K t.val
 | .ret x,k=>k
 | .ite b l r,k=>by cases b with
   | true=>exact aDi (t:=l) k
   | false=>exact aDi (t:=r) k
 | .pre p t,k=>aDi (t:=t) k.2
theorem Tr.run_ite{X:Type}{K:X→Prop}{b:Bool}{l r:Tr X}(h1:b=true→l.run K)(h2:b=false→r.run K):(Tr.ite b l r).run K:=aW h1 h2
theorem aDa{X:Type}{K:X→Prop}{b:Bool}{l r:Tr X}(h1:b=true→l.run K)(h2:b=false→r.run K):(bif b then l else r).run K:=by
 cases b with
 | true=>exact h1 rfl
 | false=>exact h2 rfl
theorem aDb{X:Type}{K:X→Prop}{p:Prop}{t:Tr X}(h1:p)(h2:t.run K):(Tr.pre p t).run K:=⟨h1,h2⟩
theorem aDc{X:Type}{K:X→Prop}{x:X}(h:K x):(Tr.ret x).run K:=h
theorem nE'{P Q:Prop}(h:¬P:=by dsimp only;decide):P→Q:=fun e=>absurd e h
structure rngU (x:Int):Prop where
 h0:0≤x
 h1:x≤18446744073709551615
theorem C9:rngU 0:=⟨by decide,by decide⟩
theorem F3(x:Int):rngU (WU x):=⟨(rB x).1,(rB x).2⟩
theorem PO{xs:List Int}(h:okW xs)(a:Int):rngU (aB xs a):=⟨(jL h a).1,(jL h a).2⟩
theorem zR{b:Bool}{x y:Int}(h1:b=true→rngU x)(h2:rngU y):rngU (bif b then x else y):=by
 cases b with
 | true=>exact h1 rfl
 | false=>exact h2
theorem kI{n w:Int}(h:aG n w=true):0≤n∧n<2^w.toNat:=by
 unfold aG at h
 simp only [Bool.and_eq_true,cG,bU,dT']at h
 exact h
theorem MM(b:Bool):0≤bitI b∧bitI b≤1:=by cases b<;>decide
theorem PN{a b c d e f:Int}{m:Bool} :rngU (bif dOk a b c d e f then cO a b c d m e f else 0):=by
 refine zR (fun h=>?_) C9
 unfold dOk at h
 simp only [Bool.and_eq_true]at h
 obtain⟨h1,h2,h3,h4,h5,h6⟩:=h
 have h1:=kI h1
 have h2:=kI h2
 have h3:=kI h3
 have h4:=kI h4
 have h5:=kI h5
 have h6:=kI h6
 have hb:=MM m
 simp only [Int.reduceToNat,Int.reducePow]at h1 h2 h3 h4 h5 h6
 unfold cO
 exact⟨by omega,by omega⟩
theorem UU{a b c v:Int}{m:Bool} :rngU (bif bif aG a 10 then bif aG b 9 then bif aG c 5 then aG v 18 else false else false else false then bD a b m c v else 0):=by
 refine zR (fun h=>?_) C9
 cases h1:aG a 10 with
 | false=>rw [h1]at h;cases h
 | true=>
   cases h2:aG b 9 with
   | false=>rw [h1,h2]at h;cases h
   | true=>
     cases h3:aG c 5 with
     | false=>rw [h1,h2,h3]at h;cases h
     | true=>
       rw [h1,h2,h3]at h
       have h:=kI (show aG v 18=true from h)
       have h1:=kI h1
       have h2:=kI h2
       have h3:=kI h3
       have hb:=MM m
       simp only [Int.reduceToNat,Int.reducePow]at h h1 h2 h3
       unfold bD
       exact⟨by omega,by omega⟩
structure Act1 (s s':MS):Prop where
 c:s'.c=s.c+1
 len:s'.xs.length=s.xs.length
 w:okW s.xs→okW s'.xs
 t:s'.t=s.t
 n:s'.n=s.n
theorem AK(s:MS)(k a o w:Int)(ok:Bool):Act1 s ⟨s.t,s.n,s.xs,s.c+1,k,a,o,w,ok⟩:=⟨rfl,rfl,id,rfl,rfl⟩
theorem yE(s:MS)(b v k a o w:Int)(ok:Bool)(h:rngU v):Act1 s ⟨s.t,s.n,aL s.xs b v,s.c+1,k,a,o,w,ok⟩:=⟨rfl,b8 _ _ _,fun hw=>d9 hw ⟨h.h0,h.h1⟩,rfl,rfl⟩
theorem GB(s:MS)(q:Bool)(b v k a o w:Int)(ok:Bool)(h:rngU v):Act1 s ⟨s.t,s.n,bif q then aL s.xs b v else s.xs,s.c+1,k,a,o,w,ok⟩:=by
 cases q with
 | true=>exact yE s b v k a o w ok h
 | false=>exact AK s k a o w ok
theorem RJ(x a:Int)(w:Int):0≤aA x a w∧aA x a w<2^w.toNat:=lY
structure kT (t n:Int) (s:MS):Prop where
 ht:1≤t∧t≤1000
 hn:1≤n∧n≤1000
 hc:0≤s.c∧s.c≤900000
 hw:okW s.xs
theorem nS{P:Prop}(h:P:=by(with_reducible first | exact C9 | exact F3 _ | exact PN | exact UU | assumption)):P:=h
theorem A7{P:Prop}(h:P:=by(simp only [aA,Int.reduceToNat,Int.reducePow];omega)):P:=h
theorem aX{P:Prop}(h:P:=by(first
 | with_reducible exact trivial
 | with_reducible rfl
 | with_reducible assumption
 | with_reducible exact AK _ _ _ _ _ _
 | ((with_reducible refine yE _ _ _ _ _ _ _ _ ?_);exact nS)
 | ((with_reducible refine GB _ _ _ _ _ _ _ _ _ ?_);exact nS)
 | omega
 | exact A7
 | decide)):P:=h
theorem vQ{P:Prop}(h:P:=by first | exact nS | (exact PO (by assumption) _)):P:=h
theorem dF{P:Prop}(h:P:=by(dsimp only;first | omega | (constructor<;>omega) | exact A7)):P:=h
structure VO (t:Int) (x:CLS):Prop where
 h:x.at'=0∨x.at'=1∨x.at'=2∨x.at'=3
structure aA8 (t:Int) (s:MS) (o:ClO):Prop where
 a:Act1 s o.s
 w:o.d=false→VO t o.x
theorem VP{t n:Int}{x:CLS}{s:MS}(hb:kT t n s)(hx:VO t x):(clT t n x s).run (aA8 t s):=by
 obtain⟨⟨t0,t1⟩,⟨n0,n1⟩,⟨c0,c1⟩,hw⟩:=hb
 obtain⟨h⟩:=hx
 unfold clT
 refine aDa (fun h0=>?_) (fun h0=>aDa (fun h1=>?_) (fun h1=>aDa (fun h2=>?_) (fun h2=>aDa (fun h3=>?_) (fun h3=>?_))))
 ·unfold A1
  (repeat' (with_reducible first | exact trivial | rfl | assumption | refine aDb ?_ ?_ | refine Tr.run_ite (fun _=>?_) (fun _=>?_) | refine aDc ?_ | refine And.intro ?_ ?_))
  all_goals first | exact aX | (refine⟨by exact aX,fun hd=>?_⟩;first | (exact Bool.noConfusion hd) | exact⟨by dsimp only;decide⟩)
 ·unfold A2
  (repeat' (with_reducible first | exact trivial | rfl | assumption | refine aDb ?_ ?_ | refine Tr.run_ite (fun _=>?_) (fun _=>?_) | refine aDc ?_ | refine And.intro ?_ ?_))
  all_goals first | exact aX | (refine⟨by exact aX,fun hd=>?_⟩;first | (exact Bool.noConfusion hd) | exact⟨by dsimp only;decide⟩)
 ·unfold A3
  (repeat' (with_reducible first | exact trivial | rfl | assumption | refine aDb ?_ ?_ | refine Tr.run_ite (fun _=>?_) (fun _=>?_) | refine aDc ?_ | refine And.intro ?_ ?_))
  all_goals first | exact aX | (refine⟨by exact aX,fun hd=>?_⟩;first | (exact Bool.noConfusion hd) | exact⟨by dsimp only;decide⟩)
 ·unfold A4
  (repeat' (with_reducible first | exact trivial | rfl | assumption | refine aDb ?_ ?_ | refine Tr.run_ite (fun _=>?_) (fun _=>?_) | refine aDc ?_ | refine And.intro ?_ ?_))
  all_goals first | exact aX | (refine⟨by exact aX,fun hd=>?_⟩;first | (exact Bool.noConfusion hd) | exact⟨by dsimp only;decide⟩)
 ·simp only [bI,beq_eq_false_iff_ne]at h0 h1 h2 h3
  rcases h with e | e | e | e<;>contradiction
theorem D7{t n:Int}{x:CLS}{s:MS}(hb:kT t n s)(hx:VO t x):MQ t n x s:=aDl (VP hb hx)
theorem yM{t n:Int}{x:CLS}{s:MS}(hb:kT t n s)(hx:VO t x):aA8 t s (dL t n x s):=aDi (VP hb hx)
structure hdW (t:Int) (x:HDS):Prop where
 h:0≤x.at'∧x.at'≤1000
 u: -1≤x.u∧x.u≤1000
structure aBF (t:Int) (s:MS) (o:HdO):Prop where
 a:Act1 s o.s
 w:o.d=false→hdW t o.x
 p: -1≤o.x.u∧o.x.u≤1000
theorem V8{t n:Int}{x:HDS}{s:MS}(hb:kT t n s)(hx:hdW t x):(ZO t n x s).run (aBF t s):=by
 obtain⟨⟨t0,t1⟩,⟨n0,n1⟩,⟨c0,c1⟩,hw⟩:=hb
 obtain⟨⟨h0,h1⟩,⟨u0,u1⟩⟩:=hx
 have hW:W (x.at'+1)=x.at'+1:=cT ⟨by omega,by omega⟩
 unfold ZO
 unfold N8
 rw [hW]
 (repeat' (with_reducible first | exact trivial | rfl | assumption | refine aDb ?_ ?_ | refine Tr.run_ite (fun _=>?_) (fun _=>?_) | refine aDc ?_ | refine And.intro ?_ ?_))
 all_goals first | exact aX | (refine⟨by exact aX,fun hd=>by first | (exact Bool.noConfusion hd) | (refine⟨?_,?_⟩<;>dsimp only at hd⊢ <;>first | omega | (simp only [cG,dF']at hd;omega)),?_⟩;exact dF)
theorem ZP{t n:Int}{x:HDS}{s:MS}(hb:kT t n s)(hx:hdW t x):ZL t n x s:=aDl (V8 hb hx)
theorem ZQ{t n:Int}{x:HDS}{s:MS}(hb:kT t n s)(hx:hdW t x):aBF t s (hdF t n x s):=aDi (V8 hb hx)
structure drW (t:Int) (x:DRS):Prop where
 h:0≤x.th∧x.th≤1000
 u:0≤x.at'∧x.at'≤2
structure aBq (t:Int) (s:MS) (o:DrO):Prop where
 a:Act1 s o.s
 w:o.d=false→drW t o.x
theorem VV{t n:Int}{x:DRS}{s:MS}(hb:kT t n s)(hx:drW t x):(VU t n x s).run (aBq t s):=by
 obtain⟨⟨t0,t1⟩,⟨n0,n1⟩,⟨c0,c1⟩,hw⟩:=hb
 obtain⟨⟨h0,h1⟩,⟨u0,u1⟩⟩:=hx
 have hW:W (x.at'+1)=x.at'+1:=cT ⟨by omega,by omega⟩
 unfold VU
 unfold JE
 rw [hW]
 (repeat' (with_reducible first | exact trivial | rfl | assumption | refine aDb ?_ ?_ | refine Tr.run_ite (fun _=>?_) (fun _=>?_) | refine aDc ?_ | refine And.intro ?_ ?_))
 all_goals first | exact aX | (refine⟨by exact aX,fun hd=>?_⟩;first | (exact Bool.noConfusion hd) | (refine⟨?_,?_⟩<;>dsimp only at hd⊢ <;>first | omega | (simp only [cG,dF']at hd;omega)))
theorem YD{t n:Int}{x:DRS}{s:MS}(hb:kT t n s)(hx:drW t x):YA t n x s:=aDl (VV hb hx)
theorem YE{t n:Int}{x:DRS}{s:MS}(hb:kT t n s)(hx:drW t x):aBq t s (drF t n x s):=aDi (VV hb hx)
structure anW (t:Int) (x:ANS):Prop where
 h:x.at'=0∨x.at'=1∨x.at'=2∨x.at'=3∨x.at'=4
 m:0≤x.me∧x.me≤1000
 b:rngU x.bits
 q:rngU x.no
structure aA1 (t:Int) (s:MS) (o:AnO):Prop where
 a:Act1 s o.s
 w:o.d=false→anW t o.x
theorem VL{t n:Int}{x:ANS}{s:MS}(hb:kT t n s)(hx:anW t x):(anT t n x s).run (aA1 t s):=by
 obtain⟨⟨t0,t1⟩,⟨n0,n1⟩,⟨c0,c1⟩,hw⟩:=hb
 obtain⟨h,⟨m0,m1⟩,b,q⟩:=hx
 unfold anT
 refine aDa (fun h0=>?_) (fun h0=>aDa (fun h1=>?_) (fun h1=>aDa (fun h2=>?_) (fun h2=>aDa (fun h3=>?_) (fun h3=>aDa (fun h4=>?_) (fun h4=>?_)))))
 ·unfold AP
  (repeat' (with_reducible first | exact trivial | rfl | assumption | refine aDb ?_ ?_ | refine Tr.run_ite (fun _=>?_) (fun _=>?_) | refine aDc ?_ | refine And.intro ?_ ?_))
  all_goals first | exact aX | (refine⟨by exact aX,fun hd=>?_⟩;first | (exact Bool.noConfusion hd) | exact⟨by dsimp only;decide,⟨m0,m1⟩,by assumption,by exact vQ⟩)
 ·unfold AQ
  (repeat' (with_reducible first | exact trivial | rfl | assumption | refine aDb ?_ ?_ | refine Tr.run_ite (fun _=>?_) (fun _=>?_) | refine aDc ?_ | refine And.intro ?_ ?_))
  all_goals first | exact aX | (refine⟨by exact aX,fun hd=>?_⟩;first | (exact Bool.noConfusion hd) | exact⟨by dsimp only;decide,⟨m0,m1⟩,by assumption,by exact vQ⟩)
 ·unfold AR
  (repeat' (with_reducible first | exact trivial | rfl | assumption | refine aDb ?_ ?_ | refine Tr.run_ite (fun _=>?_) (fun _=>?_) | refine aDc ?_ | refine And.intro ?_ ?_))
  all_goals first | exact aX | (refine⟨by exact aX,fun hd=>?_⟩;first | (exact Bool.noConfusion hd) | exact⟨by dsimp only;decide,⟨m0,m1⟩,by assumption,by exact vQ⟩)
 ·unfold AS
  (repeat' (with_reducible first | exact trivial | rfl | assumption | refine aDb ?_ ?_ | refine Tr.run_ite (fun _=>?_) (fun _=>?_) | refine aDc ?_ | refine And.intro ?_ ?_))
  all_goals first | exact aX | (refine⟨by exact aX,fun hd=>?_⟩;first | (exact Bool.noConfusion hd) | exact⟨by dsimp only;decide,⟨m0,m1⟩,by assumption,by exact vQ⟩)
 ·unfold AT
  (repeat' (with_reducible first | exact trivial | rfl | assumption | refine aDb ?_ ?_ | refine Tr.run_ite (fun _=>?_) (fun _=>?_) | refine aDc ?_ | refine And.intro ?_ ?_))
  all_goals first | exact aX | (refine⟨by exact aX,fun hd=>?_⟩;first | (exact Bool.noConfusion hd) | exact⟨by dsimp only;decide,⟨m0,m1⟩,by assumption,by exact vQ⟩)
 ·simp only [bI,beq_eq_false_iff_ne]at h0 h1 h2 h3 h4
  rcases h with e | e | e | e | e<;>contradiction
theorem W6{t n:Int}{x:ANS}{s:MS}(hb:kT t n s)(hx:anW t x):W4 t n x s:=aDl (VL hb hx)
theorem W7{t n:Int}{x:ANS}{s:MS}(hb:kT t n s)(hx:anW t x):aA1 t s (oL t n x s):=aDi (VL hb hx)
structure awW (t:Int) (x:AWS):Prop where
 m:0≤x.me∧x.me≤1000
structure aA5 (t:Int) (s:MS) (o:AwO):Prop where
 a:Act1 s o.s
 w:o.d=false→awW t o.x
theorem VN{t n:Int}{x:AWS}{s:MS}(hb:kT t n s)(hx:awW t x):(awT t n x s).run (aA5 t s):=by
 obtain⟨⟨t0,t1⟩,⟨n0,n1⟩,⟨c0,c1⟩,hw⟩:=hb
 obtain⟨⟨m0,m1⟩⟩:=hx
 unfold awT
 unfold Q5
 (repeat' (with_reducible first | exact trivial | rfl | assumption | refine aDb ?_ ?_ | refine Tr.run_ite (fun _=>?_) (fun _=>?_) | refine aDc ?_ | refine And.intro ?_ ?_))
 all_goals first | exact aX | (refine⟨by exact aX,fun hd=>?_⟩;first | (exact Bool.noConfusion hd) | exact⟨⟨m0,m1⟩⟩)
theorem XF{t n:Int}{x:AWS}{s:MS}(hb:kT t n s)(hx:awW t x):XC t n x s:=aDl (VN hb hx)
theorem XG{t n:Int}{x:AWS}{s:MS}(hb:kT t n s)(hx:awW t x):aA5 t s (gF t n x s):=aDi (VN hb hx)
structure exW (t:Int) (x:EXS):Prop where
 h:x.at'=0∨x.at'=1∨x.at'=2∨x.at'=3∨x.at'=4∨x.at'=5∨x.at'=6∨x.at'=7∨x.at'=8∨x.at'=9
 m:0≤x.u∧x.u≤1000
 po:0≤x.popped∧x.popped≤1000
structure aBw (t:Int) (s:MS) (o:ExO):Prop where
 a:Act1 s o.s
 w:o.d=false→exW t o.x
 p:0≤o.x.popped∧o.x.popped≤1000
theorem VW{t n:Int}{x:EXS}{s:MS}(hb:kT t n s)(hx:exW t x):(exT t n x s).run (aBw t s):=by
 obtain⟨⟨t0,t1⟩,⟨n0,n1⟩,⟨c0,c1⟩,hw⟩:=hb
 obtain⟨h,⟨m0,m1⟩,⟨p0,p1⟩⟩:=hx
 unfold exT
 refine aDa (fun h0=>?_) (fun h0=>aDa (fun h1=>?_) (fun h1=>aDa (fun h2=>?_) (fun h2=>aDa (fun h3=>?_) (fun h3=>aDa (fun h4=>?_) (fun h4=>aDa (fun h5=>?_) (fun h5=>aDa (fun h6=>?_) (fun h6=>aDa (fun h7=>?_) (fun h7=>aDa (fun h8=>?_) (fun h8=>aDa (fun h9=>?_) (fun h9=>?_))))))))))
 ·unfold BN
  (repeat' (with_reducible first | exact trivial | rfl | assumption | refine aDb ?_ ?_ | refine Tr.run_ite (fun _=>?_) (fun _=>?_) | refine aDc ?_ | refine And.intro ?_ ?_))
  all_goals first | exact aX | (refine⟨by exact aX,fun hd=>by first | (exact Bool.noConfusion hd) | exact⟨by dsimp only;decide,⟨m0,m1⟩,by exact dF⟩,?_⟩;exact dF)
 ·unfold BO
  (repeat' (with_reducible first | exact trivial | rfl | assumption | refine aDb ?_ ?_ | refine Tr.run_ite (fun _=>?_) (fun _=>?_) | refine aDc ?_ | refine And.intro ?_ ?_))
  all_goals first | exact aX | (refine⟨by exact aX,fun hd=>by first | (exact Bool.noConfusion hd) | exact⟨by dsimp only;decide,⟨m0,m1⟩,by exact dF⟩,?_⟩;exact dF)
 ·unfold BP
  (repeat' (with_reducible first | exact trivial | rfl | assumption | refine aDb ?_ ?_ | refine Tr.run_ite (fun _=>?_) (fun _=>?_) | refine aDc ?_ | refine And.intro ?_ ?_))
  all_goals first | exact aX | (refine⟨by exact aX,fun hd=>by first | (exact Bool.noConfusion hd) | exact⟨by dsimp only;decide,⟨m0,m1⟩,by exact dF⟩,?_⟩;exact dF)
 ·unfold BQ
  (repeat' (with_reducible first | exact trivial | rfl | assumption | refine aDb ?_ ?_ | refine Tr.run_ite (fun _=>?_) (fun _=>?_) | refine aDc ?_ | refine And.intro ?_ ?_))
  all_goals first | exact aX | (refine⟨by exact aX,fun hd=>by first | (exact Bool.noConfusion hd) | exact⟨by dsimp only;decide,⟨m0,m1⟩,by exact dF⟩,?_⟩;exact dF)
 ·unfold BR
  (repeat' (with_reducible first | exact trivial | rfl | assumption | refine aDb ?_ ?_ | refine Tr.run_ite (fun _=>?_) (fun _=>?_) | refine aDc ?_ | refine And.intro ?_ ?_))
  all_goals first | exact aX | (refine⟨by exact aX,fun hd=>by first | (exact Bool.noConfusion hd) | exact⟨by dsimp only;decide,⟨m0,m1⟩,by exact dF⟩,?_⟩;exact dF)
 ·unfold BS
  (repeat' (with_reducible first | exact trivial | rfl | assumption | refine aDb ?_ ?_ | refine Tr.run_ite (fun _=>?_) (fun _=>?_) | refine aDc ?_ | refine And.intro ?_ ?_))
  all_goals first | exact aX | (refine⟨by exact aX,fun hd=>by first | (exact Bool.noConfusion hd) | exact⟨by dsimp only;decide,⟨m0,m1⟩,by exact dF⟩,?_⟩;exact dF)
 ·unfold BT
  (repeat' (with_reducible first | exact trivial | rfl | assumption | refine aDb ?_ ?_ | refine Tr.run_ite (fun _=>?_) (fun _=>?_) | refine aDc ?_ | refine And.intro ?_ ?_))
  all_goals first | exact aX | (refine⟨by exact aX,fun hd=>by first | (exact Bool.noConfusion hd) | exact⟨by dsimp only;decide,⟨m0,m1⟩,by exact dF⟩,?_⟩;exact dF)
 ·unfold BU
  (repeat' (with_reducible first | exact trivial | rfl | assumption | refine aDb ?_ ?_ | refine Tr.run_ite (fun _=>?_) (fun _=>?_) | refine aDc ?_ | refine And.intro ?_ ?_))
  all_goals first | exact aX | (refine⟨by exact aX,fun hd=>by first | (exact Bool.noConfusion hd) | exact⟨by dsimp only;decide,⟨m0,m1⟩,by exact dF⟩,?_⟩;exact dF)
 ·unfold BV
  (repeat' (with_reducible first | exact trivial | rfl | assumption | refine aDb ?_ ?_ | refine Tr.run_ite (fun _=>?_) (fun _=>?_) | refine aDc ?_ | refine And.intro ?_ ?_))
  all_goals first | exact aX | (refine⟨by exact aX,fun hd=>by first | (exact Bool.noConfusion hd) | exact⟨by dsimp only;decide,⟨m0,m1⟩,by exact dF⟩,?_⟩;exact dF)
 ·unfold BW
  (repeat' (with_reducible first | exact trivial | rfl | assumption | refine aDb ?_ ?_ | refine Tr.run_ite (fun _=>?_) (fun _=>?_) | refine aDc ?_ | refine And.intro ?_ ?_))
  all_goals first | exact aX | (refine⟨by exact aX,fun hd=>by first | (exact Bool.noConfusion hd) | exact⟨by dsimp only;decide,⟨m0,m1⟩,by exact dF⟩,?_⟩;exact dF)
 ·simp only [bI,beq_eq_false_iff_ne]at h0 h1 h2 h3 h4 h5 h6 h7 h8 h9
  rcases h with e | e | e | e | e | e | e | e | e | e<;>contradiction
theorem YT{t n:Int}{x:EXS}{s:MS}(hb:kT t n s)(hx:exW t x):YR t n x s:=aDl (VW hb hx)
theorem YU{t n:Int}{x:EXS}{s:MS}(hb:kT t n s)(hx:exW t x):aBw t s (lA t n x s):=aDi (VW hb hx)
structure WH (t:Int) (x:PRS):Prop where
 h:True
structure aBQ (t:Int) (s:MS) (st:STS) (o:PrO):Prop where
 a:Act1 s o.s
 w:o.d=false→WH t o.x
 st:o.st=st
theorem WI{t n:Int}{x:PRS}{st:STS}{s:MS}(hb:kT t n s)(hx:WH t x):(WG t n x st s).run (aBQ t s st):=by
 obtain⟨⟨t0,t1⟩,⟨n0,n1⟩,⟨c0,c1⟩,hw⟩:=hb
 obtain⟨h⟩:=hx
 unfold WG
 unfold LB
 (repeat' (with_reducible first | exact trivial | rfl | assumption | refine aDb ?_ ?_ | refine Tr.run_ite (fun _=>?_) (fun _=>?_) | refine aDc ?_ | refine And.intro ?_ ?_))
 all_goals first | exact aX | (refine⟨by exact aX,fun hd=>?_,rfl⟩;first | (exact Bool.noConfusion hd) | exact⟨trivial⟩)
theorem PD{t n:Int}{x:PRS}{st:STS}{s:MS}(hb:kT t n s)(hx:WH t x):PA t n x st s:=aDl (WI hb hx)
theorem PE{t n:Int}{x:PRS}{st:STS}{s:MS}(hb:kT t n s)(hx:WH t x):aBQ t s st (prF t n x st s):=aDi (WI hb hx)
theorem fV{a b:Int}(h:ieq a b=true):a=b:=by simpa [bI]using h
theorem xB{a b:Int}(h:ieq a b=false):a≠b:=by simpa [bI]using h
def eE(l:List Int):Prop:= ∀r∈l,0≤r∧r≤1000
theorem xX:eE []:=fun r h=>nomatch h
theorem vH{l:List Int}{a:Int}(h:eE l)(ha:0≤a∧a≤1000):eE (l++ [a]):=by
 intro r hr
 rcases List.mem_append.1 hr with h1 | h1
 ·exact h r h1
 ·rw [List.mem_singleton.1 h1];exact ha
theorem LJ{l m:List Int}(h:eE l)(hm:eE m):eE (l++m):=by
 intro r hr
 rcases List.mem_append.1 hr with h1 | h1
 ·exact h r h1
 ·exact hm r h1
theorem iO(t n a:Int):pO t n a:=⟨⟨rfl,rfl⟩,trivial⟩
theorem D6(t n a:Int):VO t (yK t n a):=⟨.inl rfl⟩
theorem aCn(x a:Int):0≤aA x a 9∧aA x a 9≤1000:=by
 have:=RJ x a 9
 simp only [Int.reduceToNat,Int.reducePow]at this
 omega
structure LT (b:Int) (x:FNS):Prop where
 m:0≤x.me∧x.me≤1000
 cu:0≤x.curr∧x.curr≤1000
 ul:eE x.ul
 ln:(x.ul.length:Int)≤b
structure SW (t:Int) (x:FNS):Prop where
 h:x.at'=0∨x.at'=1∨x.at'=2∨x.at'=3∨x.at'=4∨x.at'=5∨x.at'=6
 cl:x.at'=4→VO t x.cl
structure aBz (t b:Int) (s:MS) (o:FnO):Prop where
 a:Act1 s o.s
 q:LT (b+1) o.x
 w:o.d=false→SW t o.x
theorem o7{P:Prop}(h:P:=by(refine⟨?_,⟨?_,?_,?_,?_⟩,fun hd=>?_⟩<;>first
 | exact aX
 | (exact(yM (by assumption) (by assumption)).a)
 | (constructor<;>assumption)
 | exact aCn _ _
 | (exact vH (by assumption) ⟨by assumption,by assumption⟩)
 | exact xX
 | (dsimp only;simp only [List.length_append,List.length_singleton,List.length_nil];omega)
 | exact Bool.noConfusion hd
 | exact⟨by dsimp only;decide,fun e=>absurd e (by dsimp only;decide)⟩
 | exact⟨by dsimp only;decide,fun e=>(yM (by assumption) (by assumption)).w (by assumption)⟩
 | exact⟨by dsimp only;decide,fun e=>by dsimp only;with_reducible exact D6 _ _ _⟩)):P:=h
theorem VX{t n b:Int}{x:FNS}{s:MS}(hb:kT t n s)(hx:SW t x)(hq:LT b x)(hbb:b≤900000):(HO t n x s).run (aBz t b s):=by
 have hb':=hb
 obtain⟨⟨t0,t1⟩,⟨n0,n1⟩,⟨c0,c1⟩,hw⟩:=hb
 obtain⟨h,hcl⟩:=hx
 obtain⟨⟨m0,m1⟩,⟨q0,q1⟩,hul,hln⟩:=hq
 have b0:0≤b:=by omega
 unfold HO
 refine aDa (fun h0=>?_) (fun h0=>aDa (fun h1=>?_) (fun h1=>aDa (fun h2=>?_) (fun h2=>aDa (fun h3=>?_) (fun h3=>aDa (fun h4=>?_) (fun h4=>aDa (fun h5=>?_) (fun h5=>aDa (fun h6=>?_) (fun h6=>?_)))))))
 ·unfold uK
  (repeat' (with_reducible first | exact trivial | rfl | assumption | refine aDb ?_ ?_ | refine Tr.run_ite (fun _=>?_) (fun _=>?_) | refine aDc ?_ | refine And.intro ?_ ?_))
  all_goals first | exact aX | exact iO _ _ _ | (simp only [List.length_append,List.length_singleton];done) | exact o7
 ·unfold w7
  (repeat' (with_reducible first | exact trivial | rfl | assumption | refine aDb ?_ ?_ | refine Tr.run_ite (fun _=>?_) (fun _=>?_) | refine aDc ?_ | refine And.intro ?_ ?_))
  all_goals first | exact aX | exact iO _ _ _ | (simp only [List.length_append,List.length_singleton];done) | exact o7
 ·unfold uL
  (repeat' (with_reducible first | exact trivial | rfl | assumption | refine aDb ?_ ?_ | refine Tr.run_ite (fun _=>?_) (fun _=>?_) | refine aDc ?_ | refine And.intro ?_ ?_))
  all_goals first | exact aX | exact iO _ _ _ | (simp only [List.length_append,List.length_singleton];done) | exact o7
 ·unfold nA
  (repeat' (with_reducible first | exact trivial | rfl | assumption | refine aDb ?_ ?_ | refine Tr.run_ite (fun _=>?_) (fun _=>?_) | refine aDc ?_ | refine And.intro ?_ ?_))
  all_goals first | exact aX | exact iO _ _ _ | (simp only [List.length_append,List.length_singleton];done) | exact o7
 ·unfold B6
  have hcl4:=hcl (fV h4)
  have hclo:=D7 hb' hcl4
  (repeat' (with_reducible first | exact trivial | rfl | assumption | refine aDb ?_ ?_ | refine Tr.run_ite (fun _=>?_) (fun _=>?_) | refine aDc ?_ | refine And.intro ?_ ?_))
  all_goals first | exact aX | exact iO _ _ _ | (simp only [List.length_append,List.length_singleton];done) | exact o7
 ·unfold uM
  (repeat' (with_reducible first | exact trivial | rfl | assumption | refine aDb ?_ ?_ | refine Tr.run_ite (fun _=>?_) (fun _=>?_) | refine aDc ?_ | refine And.intro ?_ ?_))
  all_goals first | exact aX | exact iO _ _ _ | (simp only [List.length_append,List.length_singleton];done) | exact o7
 ·unfold uN
  (repeat' (with_reducible first | exact trivial | rfl | assumption | refine aDb ?_ ?_ | refine Tr.run_ite (fun _=>?_) (fun _=>?_) | refine aDc ?_ | refine And.intro ?_ ?_))
  all_goals first | exact aX | exact iO _ _ _ | (simp only [List.length_append,List.length_singleton];done) | exact o7
 ·simp only [bI,beq_eq_false_iff_ne]at h0 h1 h2 h3 h4 h5 h6
  rcases h with e | e | e | e | e | e | e<;>contradiction
theorem EU{t n b:Int}{x:FNS}{s:MS}(hb:kT t n s)(hx:SW t x)(hq:LT b x)(hbb:b≤900000):JU t n x s:=aDl (VX hb hx hq hbb)
theorem EV{t n b:Int}{x:FNS}{s:MS}(hb:kT t n s)(hx:SW t x)(hq:LT b x)(hbb:b≤900000):aBz t b s (fnF t n x s):=aDi (VX hb hx hq hbb)
theorem cU(sh ky:Int):0≤cB sh ky∧cB sh ky≤3:=by
 unfold cB
 cases ieq sh 2 with
 | true=>exact⟨Int.emod_nonneg _ (by decide),by have:=Int.emod_lt_of_pos ky (b:=4) (by decide);show ky%4≤3;omega⟩
 | false=>exact⟨Int.le_refl 0,(by decide:(0:Int)≤3)⟩
theorem ES{t n me hd key lim:Int}(hn:1≤n∧n≤1000)(hm:0≤me∧me≤1000)(hh:0≤hd∧hd≤3):(NU t n me hd key lim).run (fun x=>SW t x∧LT 0 x):=by
 obtain⟨n0,n1⟩:=hn
 obtain⟨m0,m1⟩:=hm
 obtain⟨e0,e1⟩:=hh
 unfold NU
 (repeat' (with_reducible first | exact trivial | rfl | assumption | refine aDb ?_ ?_ | refine Tr.run_ite (fun _=>?_) (fun _=>?_) | refine aDc ?_ | refine And.intro ?_ ?_))
 all_goals first | exact aX | exact⟨by dsimp only;decide,fun e=>absurd e (by dsimp only;decide)⟩ | exact⟨⟨m0,m1⟩,⟨(by decide:(0:Int)≤0),(by decide:(0:Int)≤1000)⟩,xX,(by decide:((0:Nat):Int)≤0)⟩
end Go.Sh
