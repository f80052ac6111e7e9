import Derived.Test.YtedeloeobocpiaaGreatZM0toM21
set_option linter.all false
set_option maxHeartbeats 8000000
namespace Go.Sh
open Go Go.Proofs
variable [Con]
theorem kK{s k y:Int} :bT s k y=true↔(((s=1∨s=2)∧1≤k∧k≤3)∨((s=3∨s=4)∧(k=4∨k=5)))∧0≤y∧y≤999∧(k=5→y≤0):=by
 have hm:(bif ieq k 5 then(0:Int)else 999)=if k=5 then 0 else 999:=by
  rw [bC];by_cases h:k=5
  ·simp [h]
  ·have h':(k == 5)=false:=by simpa using h
   rw [h',if_neg h];rfl
 have hk:k∈dU s↔(((s=1∨s=2)∧1≤k∧k≤3)∨((s=3∨s=4)∧(k=4∨k=5))):=by
  unfold dU
  rw [bC,bC,bC,bC]
  by_cases h1:s=1
  ·subst h1;simp;omega
  by_cases h2:s=2
  ·subst h2;simp;omega
  by_cases h3:s=3
  ·subst h3;simp
  by_cases h4:s=4
  ·subst h4;simp
  have g1:(s == 1)=false:=by simpa using h1
  have g2:(s == 2)=false:=by simpa using h2
  have g3:(s == 3)=false:=by simpa using h3
  have g4:(s == 4)=false:=by simpa using h4
  rw [g1,g2,g3,g4]
  simp [h1,h2,h3,h4]
 unfold bT
 rw [Bool.and_eq_true,Bool.and_eq_true,DB,hk,bZ,bZ,dT',dT',hm]
 by_cases h5:k=5
 ·simp [h5];omega
 ·simp [h5]
def PU:bE Ob:=fun args h=>match args,h with
 | [.int .i64 s,.agg [.int .i64 k,.int .i64 y]],[]=>some (True,.bool (bT s k y))
 | _,_=>none
theorem PV:aL.ok E21.I Tryz.prog 16 PU.spec:=by
 intro args h o ho K hK
 unfold bE.spec at ho
 split at ho
 case h_2=>cases ho
 rename_i pp vv hv
 unfold PU at hv
 split at hv
 case h_2=>cases hv
 rename_i s k y
 simp only [sI',pI']at hv
 obtain⟨rfl,rfl⟩:=hv
 simp only [sI']at ho;subst ho
 obtain⟨hp,hK⟩:=hK
 have hK:K (.bool (bT s k y)) []:=hK
 refine VV (cM' (E:=E21) (q:=bif ilt y 0 then K (.bool false) []else bif ilt 999 y then K (.bool false) []else bif ieq s 1 then bif ile 1 k then K (.bool (ile k 3)) []else K (.bool false) []else bif ieq s 2 then bif ile 1 k then K (.bool (ile k 3)) []else K (.bool false) []else bif ieq s 3 then bif ieq k 4 then K (.bool true) []else bif ieq k 5 then K (.bool (ieq y 0)) []else K (.bool false) []else bif ieq s 4 then bif ieq k 4 then K (.bool true) []else bif ieq k 5 then K (.bool (ieq y 0)) []else K (.bool false) []else K (.bool false) []) (by kernel_rfl) ?_)
 have hb: ∀v:Bool,bT s k y=v→K (.bool v) []:=by intro v h;rw [←h];exact hK
 have yes:=(kK (s:=s) (k:=k) (y:=y)).2
 have no: ¬((((s=1∨s=2)∧1≤k∧k≤3)∨((s=3∨s=4)∧(k=4∨k=5)))∧0≤y∧y≤999∧(k=5→y≤0))→bT s k y=false:=by
  intro h
  cases e:bT s k y with
  | false=>rfl
  | true=>exact(h (kK.1 e)).elim
 have hle: ∀a b:Int,K (.bool (ile a b)) []∨ ¬K (.bool (ile a b)) []:=fun _ _=>Classical.em _
 repeat' first
  | refine tU (fun _=>?_) (fun _=>?_)
  | refine rK (fun _=>?_) (fun _=>?_)
  | refine FX (fun _=>?_) (fun _=>?_)
 all_goals first
  | exact hb _ (no (by omega))
  | exact hb _ (yes (by omega))
  | (rw [bZ];by_cases c:k≤3
     ·rw [decide_eq_true c];exact hb _ (yes (by omega))
     ·rw [decide_eq_false c];exact hb _ (no (by omega)))
  | (rw [bC];by_cases c:y=0
     ·subst c;exact hb _ (yes (by omega))
     ·have c':(y == 0)=false:=by simpa using c
      rw [c'];exact hb _ (no (by omega)))
noncomputable def E22a:=((E21)).addR 16 PU PV
def T7(x:Int):Bool:=ilt x 65536&&bT (aA x 0 3) (aA x 3 3) (aA x 6 10)
def vP:bE Ob:=fun args h=>match args,h with
 | [.int .u64 x],[]=>some (0≤x∧x≤18446744073709551615,.tup [.agg [.int .i64 (bif ilt x 65536 then aA x 0 3 else 0),.int .i64 (bif ilt x 65536 then aA x 3 3 else 0),.int .i64 (bif ilt x 65536 then aA x 6 10 else 0)],.bool (T7 x)])
 | _,_=>none
theorem D4:aL.ok E22a.I Tryz.prog 24 vP.spec:=by
 intro args h o ho K hK
 unfold bE.spec at ho
 split at ho
 case h_2=>cases ho
 rename_i pp vv hv
 unfold vP at hv
 split at hv
 case h_2=>cases hv
 rename_i x
 simp only [sI',pI']at hv
 obtain⟨rfl,rfl⟩:=hv
 simp only [sI']at ho;subst ho
 obtain⟨hp,hK⟩:=hK
 have hK:K (.tup [.agg [.int .i64 (bif ilt x 65536 then aA x 0 3 else 0),.int .i64 (bif ilt x 65536 then aA x 3 3 else 0),.int .i64 (bif ilt x 65536 then aA x 6 10 else 0)],.bool (T7 x)]) []:=hK
 refine VV (cM' (E:=E22a) (q:=bif ile 65536 x then K (.tup [.agg [.int .i64 0,.int .i64 0,.int .i64 0],.bool false]) []else(8:Int)≠(0:Int)∧(8:Int)≠(0:Int)∧(8:Int)≠(0:Int)∧(64:Int)≠(0:Int)∧True∧K (.tup [.agg [.int .i64 (W (Int.tmod x 8)),.int .i64 (W (Int.tmod (WU (Int.tdiv x 8)) 8)),.int .i64 (W (WU (Int.tdiv x 64)))],.bool (bT (W (Int.tmod x 8)) (W (Int.tmod (WU (Int.tdiv x 8)) 8)) (W (WU (Int.tdiv x 64))))]) []) (by kernel_rfl) ?_)
 have m0:Int.tmod x 8=x%8:=Int.tmod_eq_emod_of_nonneg hp.1
 have m1:Int.tdiv x 8=x / 8:=Int.tdiv_eq_ediv_of_nonneg hp.1
 have m2:Int.tdiv x 64=x / 64:=Int.tdiv_eq_ediv_of_nonneg hp.1
 have m3:Int.tmod (x / 8) 8=x / 8%8:=Int.tmod_eq_emod_of_nonneg (by omega)
 have c0:aA x 0 3=x%8:=by unfold aA;show x / 1%8=x%8;omega
 have c1:aA x 3 3=x / 8%8:=rfl
 unfold T7 at hK
 refine rK (fun h=>?_) (fun h=>?_)
 ·have e:ilt x 65536=false:=by rw [aX];exact decide_eq_false (by omega)
  rw [e]at hK;exact hK
 ·have e:ilt x 65536=true:=by rw [aX];exact decide_eq_true (by omega)
  rw [e]at hK
  have c2:aA x 6 10=x / 64:=by unfold aA;show x / 64%1024=x / 64;omega
  have w1:WU (x / 8)=x / 8:=jG (by omega)
  have w2:WU (x / 64)=x / 64:=jG (by omega)
  have w3:W (x / 64)=x / 64:=dW (by omega)
  have w4:W (x%8)=x%8:=dW (by omega)
  have w5:W (x / 8%8)=x / 8%8:=dW (by omega)
  rw [m0,m1,m2,w1,w2,w3,m3,w4,w5]
  rw [c0,c1,c2]at hK
  exact⟨by omega,by omega,by omega,by omega,trivial,hK⟩
noncomputable def E22b:=(E22a).addR 24 vP D4
noncomputable def E22:=(E22b)
noncomputable def E23:=E22
def z6:bE Ob:=fun args h=>match args,h with
 | [.agg [.int .i64 t,.int .i64 n],.int .i64 a,.int .i64 b],[]=>some ((0≤t∧t≤100000)∧(0≤n∧n≤100000)∧(-1099511627776≤a∧a≤1099511627776)∧(-1099511627776≤b∧b≤1099511627776),.int .i64 (2*n+5+2*a+b))
 | _,_=>none
theorem HL:aL.ok E23.I Tryz.prog 138 z6.spec:=by
 intro args h o ho K hK
 unfold bE.spec at ho
 split at ho
 case h_2=>cases ho
 rename_i pp vv hv
 unfold z6 at hv
 split at hv
 case h_2=>cases hv
 rename_i t n a b
 simp only [sI',pI']at hv
 obtain⟨rfl,rfl⟩:=hv
 simp only [sI']at ho;subst ho
 obtain⟨hp,hK⟩:=hK
 have hK:K (.int .i64 (2*n+5+2*a+b)) []:=hK
 refine VV (cM' (E:=E23) (q:=K (.int .i64 (W (W (W (W (2*n)+5)+W (2*a))+b))) []) (by kernel_rfl) ?_)
 simp(disch:=omega) only [W,cO]
 refine cast (congrArg (fun z=>K (AVal.int .i64 z) []) ?_) hK
 omega
def rJ:bE Ob:=fun args h=>match args,h with
 | [.agg [.int .i64 t,.int .i64 n],.int .i64 a],[]=>some ((0≤t∧t≤100000)∧(0≤n∧n≤100000)∧(-1099511627776≤a∧a≤1099511627776),.int .i64 (2*n+5+2*t+3*a))
 | _,_=>none
theorem z7:aL.ok E23.I Tryz.prog 197 rJ.spec:=by
 intro args h o ho K hK
 unfold bE.spec at ho
 split at ho
 case h_2=>cases ho
 rename_i pp vv hv
 unfold rJ at hv
 split at hv
 case h_2=>cases hv
 rename_i t n a
 simp only [sI',pI']at hv
 obtain⟨rfl,rfl⟩:=hv
 simp only [sI']at ho;subst ho
 obtain⟨hp,hK⟩:=hK
 have hK:K (.int .i64 (2*n+5+2*t+3*a)) []:=hK
 refine VV (cM' (E:=E23) (q:=K (.int .i64 (W (W (W (W (2*n)+5)+W (2*t))+W (3*a)))) []) (by kernel_rfl) ?_)
 simp(disch:=omega) only [W,cO]
 refine cast (congrArg (fun z=>K (AVal.int .i64 z) []) ?_) hK
 omega
def z4:bE Ob:=fun args h=>match args,h with
 | [.agg [.int .i64 t,.int .i64 n],.int .i64 a],[]=>some ((0≤t∧t≤100000)∧(0≤n∧n≤100000)∧(-1099511627776≤a∧a≤1099511627776),.int .i64 (2*n+5+2*t+3*a+2))
 | _,_=>none
theorem HK:aL.ok E23.I Tryz.prog 139 z4.spec:=by
 intro args h o ho K hK
 unfold bE.spec at ho
 split at ho
 case h_2=>cases ho
 rename_i pp vv hv
 unfold z4 at hv
 split at hv
 case h_2=>cases hv
 rename_i t n a
 simp only [sI',pI']at hv
 obtain⟨rfl,rfl⟩:=hv
 simp only [sI']at ho;subst ho
 obtain⟨hp,hK⟩:=hK
 have hK:K (.int .i64 (2*n+5+2*t+3*a+2)) []:=hK
 refine VV (cM' (E:=E23) (q:=K (.int .i64 (W (W (W (W (W (2*n)+5)+W (2*t))+W (3*a))+2))) []) (by kernel_rfl) ?_)
 simp(disch:=omega) only [W,cO]
 refine cast (congrArg (fun z=>K (AVal.int .i64 z) []) ?_) hK
 omega
noncomputable def E24:=(((((E23).addR 138 z6 HL).addR 197 rJ z7)).addR 139 z4 HK)
def guardNewS:aL Ob:=fun args h=>match args,h with
 | [.agg [.int .i64 t,.int .i64 n],.slice 0 0 k 1],[some (.ints (some .i64) xs)]=>some (.pre (k=xs.length∧k≤1000000) (.ret (.ptr 1 0) [some (.ints (some .i64) xs),some (.cells [.int .i64 t,.int .i64 n,.raw (.slice none 0 0),.raw (.slice none 0 0),.slice 2 0 xs.length 1,.map 3,.int .i64 0,.raw (.pointer none)]),some (.ints (some .i64) xs),some (.imap .i64 none [])]))
 | _,_=>none
theorem xO:aL.ok E24.I Tryz.prog 222 guardNewS:=by
 intro args h o ho K hK
 unfold guardNewS at ho
 split at ho<;>cases ho
 rename_i t n k xs
 obtain⟨⟨rfl,hp⟩,hK⟩:=hK
 refine VV (cM' (E:=E24) (q:=((lE' xs∧List.length xs≤(4294967296:Nat))∧True)∧K (.ptr 1 0) [some (.ints (some .i64) xs),some (.cells [.int .i64 t,.int .i64 n,.raw (Value.slice none 0 0),.raw (Value.slice none 0 0),.slice 2 0 (List.length xs) 1,.map 3,.int .i64 0,.raw (Value.pointer none)]),some (.ints (some .i64) xs),some (.imap .i64 none [])]) (by kernel_rfl) ?_)
 exact⟨⟨⟨rfl,by omega⟩,trivial⟩,hK⟩
def backS:aL Ob:=fun args h=>match args,h with
 | [.agg [.int .i64 t,.int .i64 n],.slice 0 0 k 1],[some (.ints (some .i64) xs)]=>some (.pre (k=xs.length∧k≤1000000) (.ret (.ptr 1 0) [some (.ints (some .i64) xs),some (.cells [.int .i64 t,.int .i64 n,.slice 2 0 xs.length 1]),some (.ints (some .i64) xs)]))
 | _,_=>none
theorem JF:aL.ok E24.I Tryz.prog 232 backS:=by
 intro args h o ho K hK
 unfold backS at ho
 split at ho<;>cases ho
 rename_i t n k xs
 obtain⟨⟨rfl,hp⟩,hK⟩:=hK
 refine VV (cM' (E:=E24) (q:=((lE' xs∧List.length xs≤(4294967296:Nat))∧True)∧K (.ptr 1 0) [some (.ints (some .i64) xs),some (.cells [.int .i64 t,.int .i64 n,.slice 2 0 (List.length xs) 1]),some (.ints (some .i64) xs)]) (by kernel_rfl) ?_)
 exact⟨⟨⟨rfl,by omega⟩,trivial⟩,hK⟩
noncomputable def E35a:=(E24.addS 222 guardNewS xO).addS 232 backS JF
def mhas(m:List (Int×Int))(n:Int):Bool:=!ieq (Option.getD (mget m n) 0) 0
def cF(m:List (Int×Int))(xs:List Int):List Int:=xs.filter (mhas m)
def aU(m:List (Int×Int))(xs:List Int):List Int:=xs.filter (fun n=>!mhas m n)
structure SM (m:List (Int×Int)) (xs:List Int) (x:Nat×List Int×List Int):Prop where
 h1:x.1≤xs.length
 h2:x.2.1=cF m (xs.take x.1)
 h3:x.2.2=aU m (xs.take x.1)
def yM(t n at':Int)(m:List (Int×Int))(xs:List Int):Hint Ob:= {X:=Nat×List Int×List Int,st:=fun x=>([.ptr 0 0,.O,.O,.O,.O,.O,.O,.O,.slice 1 0 xs.length 1,.int .i64 (xs.length:Int),.int .i64 (x.1:Int)]++List.replicate 48 .O,[some (.cells [.int .i64 t,.int .i64 n,.slice 3 0 x.2.1.length 1,.slice 4 0 x.2.2.length 1,.slice 1 0 xs.length 1,.map 2,.int .i64 at',.raw (.pointer none)]),some (.ints (some .i64) xs),some (.imap .i64 none m),some (.ints (some .i64) x.2.1),some (.ints (some .i64) x.2.2)]),ok:=SM m xs,mu:=fun x=>xs.length - x.1,keep:=[0,8,9,10],casts:=[(.cell 0 2,.ints (some .i64)),(.cell 0 3,.ints (some .i64))] }
def partsS:aL Ob:=fun args h=>match args,h with
 | [.ptr 0 0],[some (.cells [.int .i64 t,.int .i64 n,.raw (.slice none 0 0),.raw (.slice none 0 0),.slice 1 0 k 1,.map 2,.int .i64 at',.raw (.pointer none)]),some (.ints (some .i64) xs),some (.imap .i64 none m)]=>some (.pre (k=xs.length∧k≤1000000) (.ret (.bool (ieq ((aU m xs).length :Int) 0)) [some (.cells [.int .i64 t,.int .i64 n,.slice 3 0 (cF m xs).length 1,.slice 4 0 (aU m xs).length 1,.slice 1 0 xs.length 1,.map 2,.int .i64 at',.ptr 5 0]),some (.ints (some .i64) xs),some (.imap .i64 none m),some (.ints (some .i64) (cF m xs)),some (.ints (some .i64) (aU m xs)),some (.cells [.int .i64 t,.int .i64 n,.slice 6 0 (aU m xs).length 1]),some (.ints (some .i64) (aU m xs))]))
 | _,_=>none
theorem rC(p:Int→Bool)(xs:List Int):(xs.filter p).length ≤xs.length:=List.length_filter_le p xs
theorem H0:aL.ok E35a.I Tryz.prog 228 partsS:=by
 intro args h o ho K hK
 unfold partsS at ho
 split at ho<;>cases ho
 rename_i t n k at' xs m
 obtain⟨⟨rfl,hp⟩,hK⟩:=hK
 refine VV (aE (E:=E35a) Tryz.checked.mixed (L:=fun _ _=>some (.states (yM t n at' m xs))) (n:=10) (aR (q:=cP (yM t n at' m xs) (Hint.ok (yM t n at' m xs)) [.ptr 0 0,.O,.O,.O,.O,.O,.O,.O,.slice 1 0 (List.length xs) 1,.int .i64 (↑(List.length xs):Int),.int .i64 0,.O,.O,.O,.O,.O,.O,.O,.O,.O,.O,.O,.O,.O,.O,.O,.O,.O,.O,.O,.O,.O,.O,.O,.O,.O,.O,.O,.O,.O,.O,.O,.O,.O,.O,.O,.O,.O,.O,.O,.O,.O,.O,.O,.O,.O,.O,.O,.O] [some (.cells [.int .i64 t,.int .i64 n,.slice 3 0 0 1,.slice 4 0 0 1,.slice 1 0 (List.length xs) 1,.map 2,.int .i64 at',.raw (Value.pointer none)]),some (.ints (some .i64) xs),some (.imap .i64 none m),some (.ints (some .i64) []),some (.ints (some .i64) [])]∧ ∀(x:(Nat×List Int×List Int)),SM m xs x→bif ilt (↑x.1:Int) (↑(List.length xs):Int)then((0:Int)≤(↑x.1:Int)∧(↑x.1:Int)<(↑(List.length xs):Int))∧0+Int.toNat (↑x.1:Int)*(1:Nat)<List.length xs∧bif !ieq (Option.getD (mget m (List.getD xs (0+Int.toNat (↑x.1:Int)*1) 0)) 0) 0 then(0=0∧lE' (Prod.snd x).1∧1=1∧List.length (Prod.snd x).1+(1:Nat)≤(4294967296:Nat))∧cP (yM t n at' m xs) (fun x'=>Hint.ok (yM t n at' m xs) x'∧Hint.mu (yM t n at' m xs) x'<Hint.mu (yM t n at' m xs) x) [.ptr 0 0,.O,.O,.O,.O,.O,.O,.O,.slice 1 0 (List.length xs) 1,.int .i64 (↑(List.length xs):Int),.int .i64 (W ((↑x.1:Int)+1)),.O,.O,.O,.O,.O,.O,.O,.O,.O,.O,.O,.O,.O,.O,.O,.O,.O,.O,.O,.O,.O,.O,.O,.O,.O,.O,.O,.O,.O,.O,.O,.O,.O,.O,.O,.O,.O,.O,.O,.O,.O,.O,.O,.O,.O,.O,.O,.O] [some (.cells [.int .i64 t,.int .i64 n,.slice 3 0 (List.length (Prod.snd x).1+1) 1,.slice 4 0 (List.length (Prod.snd x).2) 1,.slice 1 0 (List.length xs) 1,.map 2,.int .i64 at',.raw (Value.pointer none)]),some (.ints (some .i64) xs),some (.imap .i64 none m),some (.ints (some .i64) ((Prod.snd x).1++ [List.getD xs (0+Int.toNat (↑x.1:Int)*1) 0])),some (.ints (some .i64) (Prod.snd x).2)]else(0=0∧lE' (Prod.snd x).2∧1=1∧List.length (Prod.snd x).2+(1:Nat)≤(4294967296:Nat))∧cP (yM t n at' m xs) (fun x'=>Hint.ok (yM t n at' m xs) x'∧Hint.mu (yM t n at' m xs) x'<Hint.mu (yM t n at' m xs) x) [.ptr 0 0,.O,.O,.O,.O,.O,.O,.O,.slice 1 0 (List.length xs) 1,.int .i64 (↑(List.length xs):Int),.int .i64 (W ((↑x.1:Int)+1)),.O,.O,.O,.O,.O,.O,.O,.O,.O,.O,.O,.O,.O,.O,.O,.O,.O,.O,.O,.O,.O,.O,.O,.O,.O,.O,.O,.O,.O,.O,.O,.O,.O,.O,.O,.O,.O,.O,.O,.O,.O,.O,.O,.O,.O,.O,.O,.O] [some (.cells [.int .i64 t,.int .i64 n,.slice 3 0 (List.length (Prod.snd x).1) 1,.slice 4 0 (List.length (Prod.snd x).2+1) 1,.slice 1 0 (List.length xs) 1,.map 2,.int .i64 at',.raw (Value.pointer none)]),some (.ints (some .i64) xs),some (.imap .i64 none m),some (.ints (some .i64) (Prod.snd x).1),some (.ints (some .i64) ((Prod.snd x).2++ [List.getD xs (0+Int.toNat (↑x.1:Int)*1) 0]))]else((lE' (Prod.snd x).2∧List.length (Prod.snd x).2≤(1000000:Nat))∧True)∧K (.bool (ieq (↑(List.length (Prod.snd x).2):Int) 0)) [some (.cells [.int .i64 t,.int .i64 n,.slice 3 0 (List.length (Prod.snd x).1) 1,.slice 4 0 (List.length (Prod.snd x).2) 1,.slice 1 0 (List.length xs) 1,.map 2,.int .i64 at',.ptr 5 0]),some (.ints (some .i64) xs),some (.imap .i64 none m),some (.ints (some .i64) (Prod.snd x).1),some (.ints (some .i64) (Prod.snd x).2),some (.cells [.int .i64 t,.int .i64 n,.slice 6 0 (List.length (Prod.snd x).2) 1]),some (.ints (some .i64) (Prod.snd x).2)]) (by kernel_rfl) ?_))
 refine⟨aP (H:=yM t n at' m xs) ((0:Nat),([]:List Int),([]:List Int)) rfl ⟨Nat.zero_le _,rfl,rfl⟩,?_⟩
 rintro⟨i,ks,fs⟩ ⟨h1,h2,h3⟩
 dsimp only at h1 h2 h3⊢
 refine tU (fun hi=>?_) (fun hi=>?_)
 ·have hi':i<xs.length:=by omega
  have e2:0+(i:Int).toNat *1=i:=by omega
  have hg:xs.getD i 0=xs[i]:=by rw [gD',gE' hi'];rfl
  have e4:W ((i:Int)+1)=((i+1:Nat):Int):=by rw [dW (by omega)];rfl
  have hk:cF m (xs.take (i+1))=ks++(bif mhas m xs[i]then [xs[i]]else []):=by
   rw [h2];unfold cF;rw [List.take_succ_eq_append_getElem hi',List.filter_append]
   cases hm:mhas m xs[i]<;>simp [hm]
  have hf:aU m (xs.take (i+1))=fs++(bif mhas m xs[i]then []else [xs[i]]):=by
   rw [h3];unfold aU;rw [List.take_succ_eq_append_getElem hi',List.filter_append]
   cases hm:mhas m xs[i]<;>simp [hm]
  have hkl:ks.length≤xs.length:=by rw [h2];exact Nat.le_trans (rC _ _) (by simp;omega)
  have hfl:fs.length≤xs.length:=by rw [h3];exact Nat.le_trans (rC _ _) (by simp;omega)
  have hmu:xs.length - (i+1)<xs.length - i:=by omega
  rw [e2,e4,hg]
  have hd:(!ieq (Option.getD (mget m xs[i]) 0) 0)=mhas m xs[i]:=rfl
  rw [hd]
  refine⟨by omega,by omega,aF (fun hm=>⟨⟨rfl,rfl,rfl,by omega⟩,?_⟩) (fun hm=>⟨⟨rfl,rfl,rfl,by omega⟩,?_⟩)⟩
  ·rw [hm]at hk hf
   simp only [cond_true,List.append_nil]at hk hf
   exact aP (H:=yM t n at' m xs) ((i+1:Nat),ks++ [xs[i]],fs) (by simp only [yM,List.length_append]<;>rfl) ⟨⟨hi',hk.symm,hf.symm⟩,hmu⟩
  ·rw [hm]at hk hf
   simp only [cond_false,List.append_nil]at hk hf
   exact aP (H:=yM t n at' m xs) ((i+1:Nat),ks,fs++ [xs[i]]) (by simp only [yM,List.length_append]<;>rfl) ⟨⟨hi',hk.symm,hf.symm⟩,hmu⟩
 ·rw [List.take_of_length_le (by omega)]at h2 h3
  subst h2 h3
  have:=rC (fun n=>!mhas m n) xs
  refine⟨⟨⟨rfl,?_⟩,trivial⟩,hK⟩
  show(aU m xs).length ≤1000000
  unfold aU
  omega
noncomputable def E35:=E35a.addS 228 partsS H0
def VT(t n me sp:Int)(R:List Int)(s:MS):aB Ob:=[some (.cells [.ptr 1 0,.raw (.pointer none)]),some (.cells [.int .i64 t,.int .i64 n,.int .i64 me,.int .i64 sp,.slice 2 0 R.length 1]),some (.ints (some .i64) R),some (.cells [.int .i64 s.t,.int .i64 s.n,.slice 4 0 s.xs.length 1,.int .i64 s.c,.int .i64 s.k,.int .i64 s.a,.int .u64 s.o,.int .u64 s.w,.bool s.ok]),some (.ints (some .u64) s.xs)]
def ST(t n me sp:Int)(R:List Int)(s:MS)(m:List (Int×Int))(i:Int):aB Ob:=[some (.cells [.ptr 1 0,.ptr 5 0]),some (.cells [.int .i64 t,.int .i64 n,.int .i64 me,.int .i64 sp,.slice 2 0 R.length 1]),some (.ints (some .i64) R),some (.cells [.int .i64 s.t,.int .i64 s.n,.slice 4 0 s.xs.length 1,.int .i64 s.c,.int .i64 s.k,.int .i64 s.a,.int .u64 s.o,.int .u64 s.w,.bool s.ok]),some (.ints (some .u64) s.xs),some (.cells [.int .i64 t,.int .i64 n,.raw (.slice none 0 0),.raw (.slice none 0 0),.slice 6 0 R.length 1,.map 7,.int .i64 i,.raw (.pointer none)]),some (.ints (some .i64) R),some (.imap .i64 none m)]
def T5(t n me sp:Int)(R N:List Int)(s:MS)(m:List (Int×Int))(i:Int):aB Ob:=[some (.cells [.ptr 1 0,.ptr 3 0]),some (.cells [.int .i64 t,.int .i64 n,.int .i64 me,.int .i64 sp,.slice 2 0 R.length 1]),some (.ints (some .i64) R),some (.cells [.int .i64 t,.int .i64 n,.raw (.slice none 0 0),.raw (.slice none 0 0),.slice 4 0 N.length 1,.map 5,.int .i64 i,.raw (.pointer none)]),some (.ints (some .i64) N),some (.imap .i64 none m),some (.cells [.int .i64 s.t,.int .i64 s.n,.slice 7 0 s.xs.length 1,.int .i64 s.c,.int .i64 s.k,.int .i64 s.a,.int .u64 s.o,.int .u64 s.w,.bool s.ok]),some (.ints (some .u64) s.xs)]
def L0(t n me sp:Int)(st:AVal)(R N ks fs:List Int)(s:MS)(m:List (Int×Int))(i:Int):aB Ob:=[some (.cells [.ptr 1 0,.ptr 3 0]),some (.cells [.int .i64 t,.int .i64 n,.int .i64 me,.int .i64 sp,st]),some (.ints (some .i64) R),some (.cells [.int .i64 t,.int .i64 n,.slice 8 0 ks.length 1,.slice 9 0 fs.length 1,.slice 4 0 N.length 1,.map 5,.int .i64 i,.ptr 10 0]),some (.ints (some .i64) N),some (.imap .i64 none m),some (.cells [.int .i64 s.t,.int .i64 s.n,.slice 7 0 s.xs.length 1,.int .i64 s.c,.int .i64 s.k,.int .i64 s.a,.int .u64 s.o,.int .u64 s.w,.bool s.ok]),some (.ints (some .u64) s.xs),some (.ints (some .i64) ks),some (.ints (some .i64) fs),some (.cells [.int .i64 t,.int .i64 n,.slice 11 0 fs.length 1]),some (.ints (some .i64) fs)]
def SU(t n me sp:Int)(st:AVal)(R N ks fs gs:List Int)(s:MS)(m:List (Int×Int))(i:Int)(j l:Nat):aB Ob:=[some (.cells [.ptr 1 0,.ptr 3 0]),some (.cells [.int .i64 t,.int .i64 n,.int .i64 me,.int .i64 sp,st]),some (.ints (some .i64) R),some (.cells [.int .i64 t,.int .i64 n,.slice 4 0 ks.length 1,.slice 5 0 fs.length 1,.slice 6 0 N.length 1,.map 7,.int .i64 i,.ptr 8 0]),some (.ints (some .i64) ks),some (.ints (some .i64) fs),some (.ints (some .i64) N),some (.imap .i64 none m),some (.cells [.int .i64 t,.int .i64 n,.slice 9 j l 1]),some (.ints (some .i64) gs),some (.cells [.int .i64 s.t,.int .i64 s.n,.slice 11 0 s.xs.length 1,.int .i64 s.c,.int .i64 s.k,.int .i64 s.a,.int .u64 s.o,.int .u64 s.w,.bool s.ok]),some (.ints (some .u64) s.xs)]
def fB(w:Nat)(h:aB Ob):Option (Nat×MS):=match h with
 | [some (.cells [.int .i64 t,.int .i64 n,.slice l 0 len 1,.int .i64 c,.int .i64 k,.int .i64 a,.int .u64 o,.int .u64 v,.bool ok]),some (.ints (some .u64) xs)]=>if l=w then some (len,⟨t,n,xs,c,k,a,o,v,ok⟩)else none
 | _=>none
theorem cC{w:Nat}{h:aB Ob}{l:Nat}{s:MS}(e:fB w h=some (l,s))(hl:l=s.xs.length):h=[some (.cells [.int .i64 s.t,.int .i64 s.n,.slice w 0 s.xs.length 1,.int .i64 s.c,.int .i64 s.k,.int .i64 s.a,.int .u64 s.o,.int .u64 s.w,.bool s.ok]),some (.ints (some .u64) s.xs)]:=by
 unfold fB at e
 split at e
 ·split at e
  ·rename_i hw
   simp only [sI',pI']at e
   obtain⟨rfl,rfl⟩:=e
   subst hw
   simp only at hl;subst hl;rfl
  ·cases e
 ·cases e
def bF(n i:Int):Int:=2*n+5+2*0+i
def aS(m:List (Int×Int))(n i:Int)(s:MS):List (Int×Int):=c7 m (W (aD s.xs (bF n i))) 1
def bJ(n:Int)(gs:List Int)(j:Nat):Int:=n+4+List.getD gs (j+Int.toNat 0*1) 0
noncomputable def swS1:aL Ob:=fun args h=>match args,h with
 | [.ptr 0 0,.ptr 3 0],[some (.cells [.ptr 1 0,.raw (.pointer none)]),some (.cells [.int .i64 t,.int .i64 n,.int .i64 me,.int .i64 sp,.slice 2 0 k 1]),some (.ints (some .i64) R),e1,e2]=>(match fB 4 [e1,e2]with
   | some (l,s)=>some (.pre ((l=s.xs.length∧k=R.length)∧(1≤t∧t≤1000)∧(1≤n∧n≤1000)∧(0≤s.c∧s.c≤1000000)∧R.length≤1000000) (.ret (.bool false) (ST t n me sp R (s.loadd (bF n 0)) (aS [] n 0 s) 1)))
   | none=>none)
 | _,_=>none
noncomputable def swS2:aL Ob:=fun args h=>match args,h with
 | [.ptr 0 0,.ptr 6 0],[some (.cells [.ptr 1 0,.ptr 3 0]),some (.cells [.int .i64 t,.int .i64 n,.int .i64 me,.int .i64 sp,.slice 2 0 k 1]),some (.ints (some .i64) R),some (.cells [.int .i64 t',.int .i64 n',.raw (.slice none 0 0),.raw (.slice none 0 0),.slice 4 0 k' 1,.map 5,.int .i64 i,.raw (.pointer none)]),some (.ints (some .i64) N),some (.imap .i64 none m),e1,e2]=>(match fB 7 [e1,e2]with
   | some (l,s)=>some (.pre ((l=s.xs.length∧k=R.length∧k'=N.length∧t'=t∧n'=n)∧(1≤t∧t≤1000)∧(1≤n∧n≤1000)∧(0≤s.c∧s.c≤1000000)∧N.length≤1000000∧(0≤i∧i<2*t)) (.ite (ieq (i+1) (2*t))
      (.ite (ieq ((aU (aS m n i s) N).length :Int) 0) (.ret (.bool true) (L0 t n me sp (.slice 8 0 (cF (aS m n i s) N).length 1) R N (cF (aS m n i s) N) (aU (aS m n i s) N) (s.loadd (bF n i)) (aS m n i s) (i+1)))
        (.ret (.bool false) (L0 t n me sp (.slice 2 0 R.length 1) R N (cF (aS m n i s) N) (aU (aS m n i s) N) (s.loadd (bF n i)) (aS m n i s) (i+1))))
      (.ret (.bool false) (T5 t n me sp R N (s.loadd (bF n i)) (aS m n i s) (i+1)))))
   | none=>none)
 | _,_=>none
noncomputable def swS3:aL Ob:=fun args h=>match args,h with
 | [.ptr 0 0,.ptr 10 0],[some (.cells [.ptr 1 0,.ptr 3 0]),some (.cells [.int .i64 t,.int .i64 n,.int .i64 me,.int .i64 sp,.slice 2 0 k 1]),some (.ints (some .i64) R),some (.cells [.int .i64 t',.int .i64 n',.slice 4 0 k1 1,.slice 5 0 k2 1,.slice 6 0 k3 1,.map 7,.int .i64 i,.ptr 8 0]),some (.ints (some .i64) ks),some (.ints (some .i64) fs),some (.ints (some .i64) N),some (.imap .i64 none m),some (.cells [.int .i64 t'',.int .i64 n'',.slice 9 j l' 1]),some (.ints (some .i64) gs),e1,e2]=>(match fB 11 [e1,e2]with
   | some (l,s)=>some (.pre ((l=s.xs.length∧k=R.length∧k1=ks.length∧k2=fs.length∧k3=N.length∧t'=t∧n'=n∧t''=t∧n''=n)∧(1≤t∧t≤1000)∧(1≤n∧n≤1000)∧(0≤s.c∧s.c≤1000000)∧2*t≤i∧(1≤l'∧gs.length=j+l')∧(-1000000≤List.getD gs (j+Int.toNat 0*1) 0∧List.getD gs (j+Int.toNat 0*1) 0≤1000000)) (.ite (ieq ((l' - 1:Nat):Int) 0)
      (.ret (.bool true) (SU t n me sp (.slice 4 0 ks.length 1) R N ks fs gs (s.added (bJ n gs j) 1) m i (j+1) (l' - 1)))
      (.ret (.bool false) (SU t n me sp (.slice 2 0 R.length 1) R N ks fs gs (s.added (bJ n gs j) 1) m i (j+1) (l' - 1)))))
   | none=>none)
 | _,_=>none
noncomputable def swStepS:aL Ob:=fun args h=>match swS1 args h with
 | some o=>some o
 | none=>match swS2 args h with
   | some o=>some o
   | none=>swS3 args h
theorem QM(t n me sp:Int)(R:List Int)(s:MS)(K:AVal→aB Ob→Prop)(ht:1≤t∧t≤1000)(hn:1≤n∧n≤1000)(hc:0≤s.c∧s.c≤1000000)(hR:R.length≤1000000)(hK:K (.bool false) (ST t n me sp R (s.loadd (bF n 0)) (aS [] n 0 s) 1)):aC E35.I Tryz.prog 195 [.ptr 0 0,.ptr 3 0] (VT t n me sp R s) K:=by
 refine VV (cM' (E:=E35) (q:=((lE' R∧List.length R≤(1000000:Nat))∧True)∧((((0:Int)≤t∧t≤(100000:Int))∧(0:Int)≤n∧n≤(100000:Int))∧True)∧bif ile (2*t) 0 then False else((((0:Int)≤t∧t≤(100000:Int))∧((0:Int)≤n∧n≤(100000:Int))∧((-1099511627776:Int)≤(0:Int)∧(0:Int)≤(1099511627776:Int))∧(-1099511627776:Int)≤(0:Int)∧(0:Int)≤(1099511627776:Int))∧True)∧((lE' s.3∧(0:Int)≤s.4∧s.4≤(4611686018427387904:Int))∧True)∧((((0:Int)≤t∧t≤(100000:Int))∧(0:Int)≤n∧n≤(100000:Int))∧True)∧bif ieq (W (0+1)) (2*t)then((lE' R∧List.length R≤(1000000:Nat))∧True)∧bif !ieq (↑(List.length (aU (c7 [] (W (aD s.3 (2*n+5+2*0+0))) 1) R)):Int) 0 then K (.bool false) [some (.cells [.ptr 1 0,.ptr 5 0]),some (.cells [.int .i64 t,.int .i64 n,.int .i64 me,.int .i64 sp,.slice 2 0 (List.length R) 1]),some (.ints (some .i64) R),some (.cells [.int .i64 s.1,.int .i64 s.2,.slice 4 0 (List.length s.3) 1,.int .i64 (s.4+1),.int .i64 1,.int .i64 (2*n+5+2*0+0),.int .u64 (aD s.3 (2*n+5+2*0+0)),.int .u64 (aD s.3 (2*n+5+2*0+0)),.bool (bW s.3 (2*n+5+2*0+0))]),some (.ints (some .u64) s.3),some (.cells [.int .i64 t,.int .i64 n,.slice 6 0 (List.length (cF (c7 [] (W (aD s.3 (2*n+5+2*0+0))) 1) R)) 1,.slice 7 0 (List.length (aU (c7 [] (W (aD s.3 (2*n+5+2*0+0))) 1) R)) 1,.slice 8 0 (List.length R) 1,.map 9,.int .i64 (W (0+1)),.ptr 10 0]),some (.ints (some .i64) (cF (c7 [] (W (aD s.3 (2*n+5+2*0+0))) 1) R)),some (.ints (some .i64) (aU (c7 [] (W (aD s.3 (2*n+5+2*0+0))) 1) R)),some (.ints (some .i64) R),some (.imap .i64 none (c7 [] (W (aD s.3 (2*n+5+2*0+0))) 1)),some (.cells [.int .i64 t,.int .i64 n,.slice 11 0 (List.length (aU (c7 [] (W (aD s.3 (2*n+5+2*0+0))) 1) R)) 1]),some (.ints (some .i64) (aU (c7 [] (W (aD s.3 (2*n+5+2*0+0))) 1) R))]else K (.bool true) [some (.cells [.ptr 1 0,.ptr 5 0]),some (.cells [.int .i64 t,.int .i64 n,.int .i64 me,.int .i64 sp,.slice 6 0 (List.length (cF (c7 [] (W (aD s.3 (2*n+5+2*0+0))) 1) R)) 1]),some (.ints (some .i64) R),some (.cells [.int .i64 s.1,.int .i64 s.2,.slice 4 0 (List.length s.3) 1,.int .i64 (s.4+1),.int .i64 1,.int .i64 (2*n+5+2*0+0),.int .u64 (aD s.3 (2*n+5+2*0+0)),.int .u64 (aD s.3 (2*n+5+2*0+0)),.bool (bW s.3 (2*n+5+2*0+0))]),some (.ints (some .u64) s.3),some (.cells [.int .i64 t,.int .i64 n,.slice 6 0 (List.length (cF (c7 [] (W (aD s.3 (2*n+5+2*0+0))) 1) R)) 1,.slice 7 0 (List.length (aU (c7 [] (W (aD s.3 (2*n+5+2*0+0))) 1) R)) 1,.slice 8 0 (List.length R) 1,.map 9,.int .i64 (W (0+1)),.ptr 10 0]),some (.ints (some .i64) (cF (c7 [] (W (aD s.3 (2*n+5+2*0+0))) 1) R)),some (.ints (some .i64) (aU (c7 [] (W (aD s.3 (2*n+5+2*0+0))) 1) R)),some (.ints (some .i64) R),some (.imap .i64 none (c7 [] (W (aD s.3 (2*n+5+2*0+0))) 1)),some (.cells [.int .i64 t,.int .i64 n,.slice 11 0 (List.length (aU (c7 [] (W (aD s.3 (2*n+5+2*0+0))) 1) R)) 1]),some (.ints (some .i64) (aU (c7 [] (W (aD s.3 (2*n+5+2*0+0))) 1) R))]else K (.bool false) [some (.cells [.ptr 1 0,.ptr 5 0]),some (.cells [.int .i64 t,.int .i64 n,.int .i64 me,.int .i64 sp,.slice 2 0 (List.length R) 1]),some (.ints (some .i64) R),some (.cells [.int .i64 s.1,.int .i64 s.2,.slice 4 0 (List.length s.3) 1,.int .i64 (s.4+1),.int .i64 1,.int .i64 (2*n+5+2*0+0),.int .u64 (aD s.3 (2*n+5+2*0+0)),.int .u64 (aD s.3 (2*n+5+2*0+0)),.bool (bW s.3 (2*n+5+2*0+0))]),some (.ints (some .u64) s.3),some (.cells [.int .i64 t,.int .i64 n,.raw (Value.slice none 0 0),.raw (Value.slice none 0 0),.slice 6 0 (List.length R) 1,.map 7,.int .i64 (W (0+1)),.raw (Value.pointer none)]),some (.ints (some .i64) R),some (.imap .i64 none (c7 [] (W (aD s.3 (2*n+5+2*0+0))) 1))]) (by kernel_rfl) ?_)
 refine⟨⟨⟨rfl,hR⟩,trivial⟩,⟨by omega,trivial⟩,rK (fun h=>by omega) (fun _=>⟨⟨by omega,trivial⟩,⟨⟨rfl,by omega⟩,trivial⟩,⟨by omega,trivial⟩,?_⟩)⟩
 have e:W (0+1)=1:=by decide
 rw [e]
 refine FX (fun h=>by omega) (fun _=>hK)
theorem QN(t n me sp i:Int)(R N:List Int)(s:MS)(m:List (Int×Int))(K:AVal→aB Ob→Prop)(ht:1≤t∧t≤1000)(hn:1≤n∧n≤1000)(hc:0≤s.c∧s.c≤1000000)(hN:N.length≤1000000)(hi:0≤i∧i<2*t)
 (hK:cond (ieq (i+1) (2*t)) (cond (ieq ((aU (aS m n i s) N).length :Int) 0) (K (.bool true) (L0 t n me sp (.slice 8 0 (cF (aS m n i s) N).length 1) R N (cF (aS m n i s) N) (aU (aS m n i s) N) (s.loadd (bF n i)) (aS m n i s) (i+1))) (K (.bool false) (L0 t n me sp (.slice 2 0 R.length 1) R N (cF (aS m n i s) N) (aU (aS m n i s) N) (s.loadd (bF n i)) (aS m n i s) (i+1)))) (K (.bool false) (T5 t n me sp R N (s.loadd (bF n i)) (aS m n i s) (i+1)))):aC E35.I Tryz.prog 195 [.ptr 0 0,.ptr 6 0] (T5 t n me sp R N s m i) K:=by
 refine VV (cM' (E:=E35) (q:=((((0:Int)≤t∧t≤(100000:Int))∧(0:Int)≤n∧n≤(100000:Int))∧True)∧bif ile (2*t) i then False else((((0:Int)≤t∧t≤(100000:Int))∧((0:Int)≤n∧n≤(100000:Int))∧((-1099511627776:Int)≤(0:Int)∧(0:Int)≤(1099511627776:Int))∧(-1099511627776:Int)≤i∧i≤(1099511627776:Int))∧True)∧((lE' s.3∧(0:Int)≤s.4∧s.4≤(4611686018427387904:Int))∧True)∧((((0:Int)≤t∧t≤(100000:Int))∧(0:Int)≤n∧n≤(100000:Int))∧True)∧bif ieq (W (i+1)) (2*t)then((lE' N∧List.length N≤(1000000:Nat))∧True)∧bif !ieq (↑(List.length (aU (c7 m (W (aD s.3 (2*n+5+2*0+i))) 1) N)):Int) 0 then K (.bool false) [some (.cells [.ptr 1 0,.ptr 3 0]),some (.cells [.int .i64 t,.int .i64 n,.int .i64 me,.int .i64 sp,.slice 2 0 (List.length R) 1]),some (.ints (some .i64) R),some (.cells [.int .i64 t,.int .i64 n,.slice 8 0 (List.length (cF (c7 m (W (aD s.3 (2*n+5+2*0+i))) 1) N)) 1,.slice 9 0 (List.length (aU (c7 m (W (aD s.3 (2*n+5+2*0+i))) 1) N)) 1,.slice 4 0 (List.length N) 1,.map 5,.int .i64 (W (i+1)),.ptr 10 0]),some (.ints (some .i64) N),some (.imap .i64 none (c7 m (W (aD s.3 (2*n+5+2*0+i))) 1)),some (.cells [.int .i64 s.1,.int .i64 s.2,.slice 7 0 (List.length s.3) 1,.int .i64 (s.4+1),.int .i64 1,.int .i64 (2*n+5+2*0+i),.int .u64 (aD s.3 (2*n+5+2*0+i)),.int .u64 (aD s.3 (2*n+5+2*0+i)),.bool (bW s.3 (2*n+5+2*0+i))]),some (.ints (some .u64) s.3),some (.ints (some .i64) (cF (c7 m (W (aD s.3 (2*n+5+2*0+i))) 1) N)),some (.ints (some .i64) (aU (c7 m (W (aD s.3 (2*n+5+2*0+i))) 1) N)),some (.cells [.int .i64 t,.int .i64 n,.slice 11 0 (List.length (aU (c7 m (W (aD s.3 (2*n+5+2*0+i))) 1) N)) 1]),some (.ints (some .i64) (aU (c7 m (W (aD s.3 (2*n+5+2*0+i))) 1) N))]else K (.bool true) [some (.cells [.ptr 1 0,.ptr 3 0]),some (.cells [.int .i64 t,.int .i64 n,.int .i64 me,.int .i64 sp,.slice 8 0 (List.length (cF (c7 m (W (aD s.3 (2*n+5+2*0+i))) 1) N)) 1]),some (.ints (some .i64) R),some (.cells [.int .i64 t,.int .i64 n,.slice 8 0 (List.length (cF (c7 m (W (aD s.3 (2*n+5+2*0+i))) 1) N)) 1,.slice 9 0 (List.length (aU (c7 m (W (aD s.3 (2*n+5+2*0+i))) 1) N)) 1,.slice 4 0 (List.length N) 1,.map 5,.int .i64 (W (i+1)),.ptr 10 0]),some (.ints (some .i64) N),some (.imap .i64 none (c7 m (W (aD s.3 (2*n+5+2*0+i))) 1)),some (.cells [.int .i64 s.1,.int .i64 s.2,.slice 7 0 (List.length s.3) 1,.int .i64 (s.4+1),.int .i64 1,.int .i64 (2*n+5+2*0+i),.int .u64 (aD s.3 (2*n+5+2*0+i)),.int .u64 (aD s.3 (2*n+5+2*0+i)),.bool (bW s.3 (2*n+5+2*0+i))]),some (.ints (some .u64) s.3),some (.ints (some .i64) (cF (c7 m (W (aD s.3 (2*n+5+2*0+i))) 1) N)),some (.ints (some .i64) (aU (c7 m (W (aD s.3 (2*n+5+2*0+i))) 1) N)),some (.cells [.int .i64 t,.int .i64 n,.slice 11 0 (List.length (aU (c7 m (W (aD s.3 (2*n+5+2*0+i))) 1) N)) 1]),some (.ints (some .i64) (aU (c7 m (W (aD s.3 (2*n+5+2*0+i))) 1) N))]else K (.bool false) [some (.cells [.ptr 1 0,.ptr 3 0]),some (.cells [.int .i64 t,.int .i64 n,.int .i64 me,.int .i64 sp,.slice 2 0 (List.length R) 1]),some (.ints (some .i64) R),some (.cells [.int .i64 t,.int .i64 n,.raw (Value.slice none 0 0),.raw (Value.slice none 0 0),.slice 4 0 (List.length N) 1,.map 5,.int .i64 (W (i+1)),.raw (Value.pointer none)]),some (.ints (some .i64) N),some (.imap .i64 none (c7 m (W (aD s.3 (2*n+5+2*0+i))) 1)),some (.cells [.int .i64 s.1,.int .i64 s.2,.slice 7 0 (List.length s.3) 1,.int .i64 (s.4+1),.int .i64 1,.int .i64 (2*n+5+2*0+i),.int .u64 (aD s.3 (2*n+5+2*0+i)),.int .u64 (aD s.3 (2*n+5+2*0+i)),.bool (bW s.3 (2*n+5+2*0+i))]),some (.ints (some .u64) s.3)]) (by kernel_rfl) ?_)
 have e:W (i+1)=i+1:=dW (by omega)
 rw [e]
 refine⟨⟨by omega,trivial⟩,rK (fun h=>by omega) (fun _=>⟨⟨by omega,trivial⟩,⟨⟨rfl,by omega⟩,trivial⟩,⟨by omega,trivial⟩,?_⟩)⟩
 cases h1:ieq (i+1) (2*t)with
 | false=>rw [h1]at hK;exact hK
 | true=>
   rw [h1]at hK
   refine⟨⟨⟨rfl,hN⟩,trivial⟩,?_⟩
   cases h2:ieq ((aU (aS m n i s) N).length :Int) 0 with
   | false=>rw [h2]at hK;unfold aS bF at h2;rw [h2];exact hK
   | true=>rw [h2]at hK;unfold aS bF at h2;rw [h2];exact hK
theorem QO(t n me sp i:Int)(R N ks fs gs:List Int)(s:MS)(m:List (Int×Int))(j l:Nat)(K:AVal→aB Ob→Prop)(ht:1≤t∧t≤1000)(hn:1≤n∧n≤1000)(hc:0≤s.c∧s.c≤1000000)(hi:2*t≤i)(hl:1≤l∧gs.length=j+l)(hg: -1000000≤List.getD gs (j+Int.toNat 0*1) 0∧List.getD gs (j+Int.toNat 0*1) 0≤1000000)
 (hK:cond (ieq ((l - 1:Nat):Int) 0) (K (.bool true) (SU t n me sp (.slice 4 0 ks.length 1) R N ks fs gs (s.added (bJ n gs j) 1) m i (j+1) (l - 1))) (K (.bool false) (SU t n me sp (.slice 2 0 R.length 1) R N ks fs gs (s.added (bJ n gs j) 1) m i (j+1) (l - 1)))):aC E35.I Tryz.prog 195 [.ptr 0 0,.ptr 10 0] (SU t n me sp (.slice 2 0 R.length 1) R N ks fs gs s m i j l) K:=by
 refine VV (cM' (E:=E35) (q:=((((0:Int)≤t∧t≤(100000:Int))∧(0:Int)≤n∧n≤(100000:Int))∧True)∧bif ile (2*t) i then bif ieq (↑l:Int) 0 then(lE' s.3∧(0:Int)≤s.4∧s.4≤(4611686018427387904:Int))∧K (.bool true) [some (.cells [.ptr 1 0,.ptr 3 0]),some (.cells [.int .i64 t,.int .i64 n,.int .i64 me,.int .i64 sp,.slice 4 0 (List.length ks) 1]),some (.ints (some .i64) R),some (.cells [.int .i64 t,.int .i64 n,.slice 4 0 (List.length ks) 1,.slice 5 0 (List.length fs) 1,.slice 6 0 (List.length N) 1,.map 7,.int .i64 i,.ptr 8 0]),some (.ints (some .i64) ks),some (.ints (some .i64) fs),some (.ints (some .i64) N),some (.imap .i64 none m),some (.cells [.int .i64 t,.int .i64 n,.slice 9 j l 1]),some (.ints (some .i64) gs),some (.cells [.int .i64 s.1,.int .i64 s.2,.slice 11 0 (List.length s.3) 1,.int .i64 (s.4+1),.int .i64 1,.int .i64 0,.int .u64 (aD s.3 0),.int .u64 (aD s.3 0),.bool (bW s.3 0)]),some (.ints (some .u64) s.3)]else((0:Int)≤(0:Int)∧(0:Int)<(↑l:Int))∧j+Int.toNat 0*(1:Nat)<List.length gs∧((((0:Int)≤t∧t≤(100000:Int))∧((0:Int)≤n∧n≤(100000:Int))∧(-1099511627776:Int)≤List.getD gs (j+Int.toNat 0*1) 0∧List.getD gs (j+Int.toNat 0*1) (0:Int)≤(1099511627776:Int))∧True)∧((lE' s.3∧(0:Int)≤s.4∧s.4≤(4611686018427387904:Int))∧True)∧((0:Int)≤(1:Int)∧Int.toNat (1:Int)≤l)∧bif !ieq (↑(l - Int.toNat 1):Int) 0 then K (.bool false) [some (.cells [.ptr 1 0,.ptr 3 0]),some (.cells [.int .i64 t,.int .i64 n,.int .i64 me,.int .i64 sp,.slice 2 0 (List.length R) 1]),some (.ints (some .i64) R),some (.cells [.int .i64 t,.int .i64 n,.slice 4 0 (List.length ks) 1,.slice 5 0 (List.length fs) 1,.slice 6 0 (List.length N) 1,.map 7,.int .i64 i,.ptr 8 0]),some (.ints (some .i64) ks),some (.ints (some .i64) fs),some (.ints (some .i64) N),some (.imap .i64 none m),some (.cells [.int .i64 t,.int .i64 n,.slice 9 (j+Int.toNat 1*1) (l - Int.toNat 1) 1]),some (.ints (some .i64) gs),some (.cells [.int .i64 s.1,.int .i64 s.2,.slice 11 0 (List.length (aZ s.3 (n+4+List.getD gs (j+Int.toNat 0*1) 0) (WU (aD s.3 (n+4+List.getD gs (j+Int.toNat 0*1) 0)+1)))) 1,.int .i64 (s.4+1),.int .i64 4,.int .i64 (n+4+List.getD gs (j+Int.toNat 0*1) 0),.int .u64 (aD s.3 (n+4+List.getD gs (j+Int.toNat 0*1) 0)),.int .u64 (bif bW s.3 (n+4+List.getD gs (j+Int.toNat 0*1) 0)then WU (aD s.3 (n+4+List.getD gs (j+Int.toNat 0*1) 0)+1)else 0),.bool (bW s.3 (n+4+List.getD gs (j+Int.toNat 0*1) 0))]),some (.ints (some .u64) (aZ s.3 (n+4+List.getD gs (j+Int.toNat 0*1) 0) (WU (aD s.3 (n+4+List.getD gs (j+Int.toNat 0*1) 0)+1))))]else K (.bool true) [some (.cells [.ptr 1 0,.ptr 3 0]),some (.cells [.int .i64 t,.int .i64 n,.int .i64 me,.int .i64 sp,.slice 4 0 (List.length ks) 1]),some (.ints (some .i64) R),some (.cells [.int .i64 t,.int .i64 n,.slice 4 0 (List.length ks) 1,.slice 5 0 (List.length fs) 1,.slice 6 0 (List.length N) 1,.map 7,.int .i64 i,.ptr 8 0]),some (.ints (some .i64) ks),some (.ints (some .i64) fs),some (.ints (some .i64) N),some (.imap .i64 none m),some (.cells [.int .i64 t,.int .i64 n,.slice 9 (j+Int.toNat 1*1) (l - Int.toNat 1) 1]),some (.ints (some .i64) gs),some (.cells [.int .i64 s.1,.int .i64 s.2,.slice 11 0 (List.length (aZ s.3 (n+4+List.getD gs (j+Int.toNat 0*1) 0) (WU (aD s.3 (n+4+List.getD gs (j+Int.toNat 0*1) 0)+1)))) 1,.int .i64 (s.4+1),.int .i64 4,.int .i64 (n+4+List.getD gs (j+Int.toNat 0*1) 0),.int .u64 (aD s.3 (n+4+List.getD gs (j+Int.toNat 0*1) 0)),.int .u64 (bif bW s.3 (n+4+List.getD gs (j+Int.toNat 0*1) 0)then WU (aD s.3 (n+4+List.getD gs (j+Int.toNat 0*1) 0)+1)else 0),.bool (bW s.3 (n+4+List.getD gs (j+Int.toNat 0*1) 0))]),some (.ints (some .u64) (aZ s.3 (n+4+List.getD gs (j+Int.toNat 0*1) 0) (WU (aD s.3 (n+4+List.getD gs (j+Int.toNat 0*1) 0)+1))))]else((((0:Int)≤t∧t≤(100000:Int))∧((0:Int)≤n∧n≤(100000:Int))∧((-1099511627776:Int)≤(0:Int)∧(0:Int)≤(1099511627776:Int))∧(-1099511627776:Int)≤i∧i≤(1099511627776:Int))∧True)∧((lE' s.3∧(0:Int)≤s.4∧s.4≤(4611686018427387904:Int))∧True)∧((((0:Int)≤t∧t≤(100000:Int))∧(0:Int)≤n∧n≤(100000:Int))∧True)∧bif ieq (W (i+1)) (2*t)then False else K (.bool false) [some (.cells [.ptr 1 0,.ptr 3 0]),some (.cells [.int .i64 t,.int .i64 n,.int .i64 me,.int .i64 sp,.slice 2 0 (List.length R) 1]),some (.ints (some .i64) R),some (.cells [.int .i64 t,.int .i64 n,.slice 4 0 (List.length ks) 1,.slice 5 0 (List.length fs) 1,.slice 6 0 (List.length N) 1,.map 7,.int .i64 (W (i+1)),.ptr 8 0]),some (.ints (some .i64) ks),some (.ints (some .i64) fs),some (.ints (some .i64) N),some (.imap .i64 none (c7 m (W (aD s.3 (2*n+5+2*0+i))) 1)),some (.cells [.int .i64 t,.int .i64 n,.slice 9 j l 1]),some (.ints (some .i64) gs),some (.cells [.int .i64 s.1,.int .i64 s.2,.slice 11 0 (List.length s.3) 1,.int .i64 (s.4+1),.int .i64 1,.int .i64 (2*n+5+2*0+i),.int .u64 (aD s.3 (2*n+5+2*0+i)),.int .u64 (aD s.3 (2*n+5+2*0+i)),.bool (bW s.3 (2*n+5+2*0+i))]),some (.ints (some .u64) s.3)]) (by kernel_rfl) ?_)
 refine⟨⟨by omega,trivial⟩,rK (fun h=>FX (fun h0=>by omega) (fun _=>⟨by omega,by omega,⟨by omega,trivial⟩,⟨⟨rfl,by omega⟩,trivial⟩,by omega,?_⟩)) (fun h=>by omega)⟩
 have e:l - Int.toNat 1=l - 1:=rfl
 rw [e]
 cases h1:ieq ((l - 1:Nat):Int) 0 with
 | false=>rw [h1]at hK;exact hK
 | true=>rw [h1]at hK;exact hK
theorem L4:aL.ok E35.I Tryz.prog 195 swS1:=by
 intro args h o ho K hK
 unfold swS1 at ho
 split at ho
 case h_2=>cases ho
 split at ho<;>cases ho
 rename_i hm
 obtain⟨⟨⟨hl,hk⟩,ht,hn,hc,hR⟩,hK⟩:=hK
 have hh:=cC hm hl
 cases hh
 subst hk
 exact QM _ _ _ _ _ _ K ht hn hc hR hK
theorem L5:aL.ok E35.I Tryz.prog 195 swS2:=by
 intro args h o ho K hK
 unfold swS2 at ho
 split at ho
 case h_2=>cases ho
 split at ho<;>cases ho
 rename_i hm
 obtain⟨⟨⟨hl,hk,hk',h1,h2⟩,ht,hn,hc,hN,hi⟩,hK⟩:=hK
 have hh:=cC hm hl
 cases hh
 subst hk hk' h1 h2
 exact QN _ _ _ _ _ _ _ _ _ K ht hn hc hN hi hK
theorem L6:aL.ok E35.I Tryz.prog 195 swS3:=by
 intro args h o ho K hK
 unfold swS3 at ho
 split at ho
 case h_2=>cases ho
 split at ho<;>cases ho
 rename_i hm
 obtain⟨⟨⟨hl,hk,hk1,hk2,hk3,h1,h2,h3,h4⟩,ht,hn,hc,hi,hl',hg⟩,hK⟩:=hK
 have hh:=cC hm hl
 cases hh
 subst hk hk1 hk2 hk3 h1 h2 h3 h4
 exact QO _ _ _ _ _ _ _ _ _ _ _ _ _ _ K ht hn hc hi hl' hg hK
theorem mB:aL.ok E35.I Tryz.prog 195 swStepS:=by
 intro args h o ho
 unfold swStepS at ho
 split at ho
 ·rename_i e;cases ho;exact L4 _ _ _ e
 ·split at ho
  ·rename_i e;cases ho;exact L5 _ _ _ e
  ·exact L6 _ _ _ ho
noncomputable def E36:=E35.addS 195 swStepS mB
def Q4(t n:Int)(x:AL)(s:MS):aB Ob:=[some (.cells [.int .i64 t,.int .i64 n,.int .i64 x.got,.int .i64 x.at',.int .i64 x.left,.int .u64 x.found,.bool x.free]),some (.cells [.int .i64 s.t,.int .i64 s.n,.slice 2 0 s.xs.length 1,.int .i64 s.c,.int .i64 s.k,.int .i64 s.a,.int .u64 s.o,.int .u64 s.w,.bool s.ok]),some (.ints (some .u64) s.xs)]
def oddB(y:Int):Bool:=!ieq (Int.tmod y 2) 0
def cM(n a:Int):Int:=Int.tmod a n+1
def N0(t n:Int)(x:AL)(s:MS):Out Ob:=.ite x.free
 (.ite (aV s.xs (n+4+x.at') x.found) (.ret (.bool true) (Q4 t n ⟨x.at',x.at',x.left,x.found,true⟩ (s.cased (n+4+x.at') x.found (WU (x.found+1)))))
   (.ret (.bool (ile (x.left - 1) 0)) (Q4 t n ⟨x.got,cM n x.at',x.left - 1,x.found,false⟩ (s.cased (n+4+x.at') x.found (WU (x.found+1))))))
 (.ite (oddB (aD s.xs (n+4+x.at'))) (.ret (.bool (ile (x.left - 1) 0)) (Q4 t n ⟨x.got,cM n x.at',x.left - 1,aD s.xs (n+4+x.at'),false⟩ (s.loadd (n+4+x.at'))))
   (.ret (.bool false) (Q4 t n ⟨x.got,x.at',x.left,aD s.xs (n+4+x.at'),true⟩ (s.loadd (n+4+x.at')))))
theorem JB(t n:Int)(x:AL)(s:MS)(K:AVal→aB Ob→Prop)(ht:1≤t∧t≤1000)(hn:1≤n∧n≤1000)(ha:1≤x.at'∧x.at'≤n)(hl:0≤x.left∧x.left≤1000)(hc:0≤s.c∧s.c≤1000000)(hK:(N0 t n x s).run K):aC E36.I Tryz.prog 145 [.ptr 0 0,.ptr 1 0] (Q4 t n x s) K:=by
 refine VV (cM' (E:=E36) (q:=bif !x.5 then((((0:Int)≤t∧t≤(100000:Int))∧((0:Int)≤n∧n≤(100000:Int))∧(-1099511627776:Int)≤x.2∧x.2≤(1099511627776:Int))∧True)∧((lE' s.3∧(0:Int)≤s.4∧s.4≤(4611686018427387904:Int))∧True)∧(2:Int)≠(0:Int)∧bif !ieq (Int.tmod (aD s.3 (n+4+x.2)) 2) 0 then n≠(0:Int)∧K (.bool (ile (W (x.3 - 1)) 0)) [some (.cells [.int .i64 t,.int .i64 n,.int .i64 x.1,.int .i64 (W (Int.tmod x.2 n+1)),.int .i64 (W (x.3 - 1)),.int .u64 (aD s.3 (n+4+x.2)),.bool false]),some (.cells [.int .i64 s.1,.int .i64 s.2,.slice 2 0 (List.length s.3) 1,.int .i64 (s.4+1),.int .i64 1,.int .i64 (n+4+x.2),.int .u64 (aD s.3 (n+4+x.2)),.int .u64 (aD s.3 (n+4+x.2)),.bool (bW s.3 (n+4+x.2))]),some (.ints (some .u64) s.3)]else K (.bool false) [some (.cells [.int .i64 t,.int .i64 n,.int .i64 x.1,.int .i64 x.2,.int .i64 x.3,.int .u64 (aD s.3 (n+4+x.2)),.bool (ieq (Int.tmod (aD s.3 (n+4+x.2)) 2) 0)]),some (.cells [.int .i64 s.1,.int .i64 s.2,.slice 2 0 (List.length s.3) 1,.int .i64 (s.4+1),.int .i64 1,.int .i64 (n+4+x.2),.int .u64 (aD s.3 (n+4+x.2)),.int .u64 (aD s.3 (n+4+x.2)),.bool (bW s.3 (n+4+x.2))]),some (.ints (some .u64) s.3)]else((((0:Int)≤t∧t≤(100000:Int))∧((0:Int)≤n∧n≤(100000:Int))∧(-1099511627776:Int)≤x.2∧x.2≤(1099511627776:Int))∧True)∧((lE' s.3∧(0:Int)≤s.4∧s.4≤(4611686018427387904:Int))∧True)∧bif aV s.3 (n+4+x.2) x.4 then K (.bool true) [some (.cells [.int .i64 t,.int .i64 n,.int .i64 x.2,.int .i64 x.2,.int .i64 x.3,.int .u64 x.4,.bool x.5]),some (.cells [.int .i64 s.1,.int .i64 s.2,.slice 2 0 (List.length (bif aV s.3 (n+4+x.2) x.4 then aZ s.3 (n+4+x.2) (WU (x.4+1))else s.3)) 1,.int .i64 (s.4+1),.int .i64 3,.int .i64 (n+4+x.2),.int .u64 (aD s.3 (n+4+x.2)),.int .u64 (bif bW s.3 (n+4+x.2)then WU (x.4+1)else 0),.bool (aV s.3 (n+4+x.2) x.4)]),some (.ints (some .u64) (bif aV s.3 (n+4+x.2) x.4 then aZ s.3 (n+4+x.2) (WU (x.4+1))else s.3))]else n≠(0:Int)∧K (.bool (ile (W (x.3 - 1)) 0)) [some (.cells [.int .i64 t,.int .i64 n,.int .i64 x.1,.int .i64 (W (Int.tmod x.2 n+1)),.int .i64 (W (x.3 - 1)),.int .u64 x.4,.bool false]),some (.cells [.int .i64 s.1,.int .i64 s.2,.slice 2 0 (List.length (bif aV s.3 (n+4+x.2) x.4 then aZ s.3 (n+4+x.2) (WU (x.4+1))else s.3)) 1,.int .i64 (s.4+1),.int .i64 3,.int .i64 (n+4+x.2),.int .u64 (aD s.3 (n+4+x.2)),.int .u64 (bif bW s.3 (n+4+x.2)then WU (x.4+1)else 0),.bool (aV s.3 (n+4+x.2) x.4)]),some (.ints (some .u64) (bif aV s.3 (n+4+x.2) x.4 then aZ s.3 (n+4+x.2) (WU (x.4+1))else s.3))]) (by kernel_rfl) ?_)
 obtain⟨got,at',left,found,free⟩:=x
 dsimp only at ha hl⊢
 have hm:=oL (x:=at') (t:=n) (by omega) (by omega)
 have e1:W (left - 1)=left - 1:=dW (by omega)
 have e2:W (Int.tmod at' n+1)=cM n at':=dW (by show _≤Int.tmod at' n+1∧Int.tmod at' n+1≤_;omega)
 rw [e1,e2]
 unfold N0 at hK
 dsimp only [Out.run]at hK
 cases free with
 | false=>
   simp only [cond_false,Bool.not_false,cond_true]at hK⊢
   refine⟨⟨by omega,trivial⟩,⟨⟨trivial,by omega⟩,trivial⟩,by omega,?_⟩
   unfold oddB at hK
   generalize ho:ieq (Int.tmod (aD s.xs (n+4+at')) 2) 0=b at hK⊢
   cases b with
   | false=>exact⟨by omega,hK⟩
   | true=>exact hK
 | true=>
   simp only [cond_true,Bool.not_true,cond_false]at hK⊢
   refine⟨⟨by omega,trivial⟩,⟨⟨trivial,by omega⟩,trivial⟩,?_⟩
   unfold Q4 at hK
   cases hb:aV s.xs (n+4+at') found with
   | true=>
     rw [hb]at hK
     simp only [cond_true]at hK⊢
     unfold MS.cased at hK
     rw [hb]at hK
     exact hK
   | false=>
     rw [hb]at hK
     simp only [cond_false]at hK⊢
     unfold MS.cased at hK
     rw [hb]at hK
     exact⟨by omega,hK⟩
noncomputable def alS:aL Ob:=fun args h=>match args,h with
 | [.ptr 0 0,.ptr 1 0],[some (.cells [.int .i64 t,.int .i64 n,.int .i64 got,.int .i64 at',.int .i64 left,.int .u64 found,.bool free]),e1,e2]=>match fB 2 [e1,e2]with
   | some (l,s)=>some (.pre (l=s.xs.length∧(1≤t∧t≤1000)∧(1≤n∧n≤1000)∧(1≤at'∧at'≤n)∧(0≤left∧left≤1000)∧(0≤s.c∧s.c≤1000000)) (N0 t n ⟨got,at',left,found,free⟩ s))
   | none=>none
 | _,_=>none
theorem Q8:aL.ok E36.I Tryz.prog 145 alS:=by
 intro args h o ho K hK
 unfold alS at ho
 split at ho
 case h_2=>cases ho
 split at ho<;>cases ho
 rename_i hm
 obtain⟨⟨hl,ht,hn,ha,hl',hc⟩,hK⟩:=hK
 have hh:=cC hm hl
 cases hh
 exact JB _ _ _ _ K ht hn ha hl' hc hK
noncomputable def E42:=E36.addS 145 alS Q8
def mH(s:MS):aB Ob:=[some (.cells [.int .i64 s.t,.int .i64 s.n,.slice 1 0 s.xs.length 1,.int .i64 s.c,.int .i64 s.k,.int .i64 s.a,.int .u64 s.o,.int .u64 s.w,.bool s.ok]),some (.ints (some .u64) s.xs)]
theorem BU{xs:List Int}(h:okW xs){a x:Int}(hx:0≤x∧x≤18446744073709551615):okW (aZ xs a x):=by
 unfold aZ
 split
 ·refine⟨fun y hy=>?_⟩
  rcases List.mem_or_eq_of_mem_set hy with h1 | h1
  ·exact h.h y h1
  ·subst h1;exact hx
 ·exact h
theorem EG(x:Int):0≤WU x∧WU x≤18446744073709551615:=by
 unfold WU
 simp only [IntKind.wrap,IntKind.bits,IntKind.signed]
 simp
 omega
theorem PW(n sp:Int)(ns:List Int)(hn:1≤n)(hv: ∀v∈ns,0≤v∧v≤255): ∀r∈mkL n sp ns,1≤r∧r≤n:=by
 have key: ∀(l R:List Int),(∀v∈l,0≤v∧v≤255)→(∀r∈R,1≤r∧r≤n)→ ∀r∈l.foldl (jC n sp) R,1≤r∧r≤n:=by
  intro l
  induction l with
  | nil=>intro R _ hR;exact hR
  | cons v l ih=>
    intro R hl hR
    rw [List.foldl_cons]
    refine ih _ (fun x hx=>hl x (List.mem_cons_of_mem _ hx)) ?_
    have hk:1≤fP n v∧fP n v≤n:=by
     have h0:=hl v List.mem_cons_self
     have:=oL (x:=v) (t:=n) h0.1 hn
     unfold fP;omega
    intro r hr
    unfold jC at hr
    cases h1:ieq (fP n v) sp<;>cases h2:hasB R (fP n v)<;>rw [h1]at hr<;>try rw [h2]at hr
    all_goals simp only [cond_true,cond_false]at hr
    all_goals first
     | exact hR r hr
     | (rcases List.mem_append.1 hr with h | h
        ·exact hR r h
        ·rw [List.mem_singleton]at h;rw [h];exact hk)
 exact key ns [] hv (fun r hr=>by cases hr)
structure EO where
 d:Bool
 e:ENS
 st:STS
 s:MS
def at0(t n me:Int):Int:=bif bN n (aN t n me)then aN t n me else 1
def J2(e:ENS)(st:STS)(x:AL)(s:MS):EO:=match ile x.left 0 with
 | true=>⟨e.dn||ieq (st.R.length:Int) 0,{e with ph:=2,sh:=e.dn||ieq (st.R.length:Int) 0,x:=x},{st with sp:=0},s⟩
 | false=>⟨false,{e with ph:=1,x:=x},st,s⟩
def uY(n:Int)(e:ENS)(st:STS)(x:AL)(s:MS):EO:=match x.free with
 | true=>(match aV s.xs (n+4+x.at') x.found with
   | true=>⟨true,{e with ph:=1,x:=⟨x.at',x.at',x.left,x.found,true⟩ },{st with sp:=x.at'},s.cased (n+4+x.at') x.found (WU (x.found+1))⟩
   | false=>J2 e st ⟨0,cM n x.at',x.left - 1,x.found,false⟩ (s.cased (n+4+x.at') x.found (WU (x.found+1))))
 | false=>(match oddB (aD s.xs (n+4+x.at'))with
   | true=>J2 e st ⟨0,cM n x.at',x.left - 1,aD s.xs (n+4+x.at'),false⟩ (s.loadd (n+4+x.at'))
   | false=>⟨false,{e with ph:=1,x:=⟨0,x.at',x.left,aD s.xs (n+4+x.at'),true⟩ },st,s.loadd (n+4+x.at')⟩)
instance:Inhabited EO:=⟨⟨false,qX,⟨0,0,[]⟩,⟨0,0,[],0,0,0,0,0,false⟩⟩⟩
def enF(t n:Int)(e:ENS)(st:STS)(s:MS):EO:=match e.ph with
 | 0=>(match ieq st.sp 0 with
   | true=>uY n e st ⟨0,at0 t n st.me,n,0,false⟩ s
   | false=>⟨true,e,st,s.loadd 0⟩)
 | 1=>uY n e st e.x s
 | 2=>⟨false,{e with ph:=3,y:= {e.y with N:=st.R,m:=aS [] n 0 s,i:=1} },st,s.loadd (bF n 0)⟩
 | 3=>(match ieq (e.y.i+1) (2*t),ieq ((aU (aS e.y.m n e.y.i s) e.y.N).length :Int) 0 with
   | true,true=>⟨true,{e with ph:=0,sh:=true,dn:=true},{st with R:=cF (aS e.y.m n e.y.i s) e.y.N},s.loadd (bF n e.y.i)⟩
   | true,false=>⟨false,{e with ph:=4,y:=⟨0,e.y.N,aS e.y.m n e.y.i s,e.y.i+1,cF (aS e.y.m n e.y.i s) e.y.N,aU (aS e.y.m n e.y.i s) e.y.N,aU (aS e.y.m n e.y.i s) e.y.N,0,(aU (aS e.y.m n e.y.i s) e.y.N).length⟩ },st,s.loadd (bF n e.y.i)⟩
   | false,_=>⟨false,{e with y:= {e.y with m:=aS e.y.m n e.y.i s,i:=e.y.i+1} },st,s.loadd (bF n e.y.i)⟩)
 | _=>(match ieq ((e.y.l - 1:Nat):Int) 0 with
   | true=>⟨ieq (e.y.fs.length:Int) 0,{e with ph:=0,sh:=ieq (e.y.fs.length:Int) 0,dn:=true},{st with R:=e.y.ks},s.added (bJ n e.y.gs e.y.j) 1⟩
   | false=>⟨false,{e with y:= {e.y with j:=e.y.j+1,l:=e.y.l - 1} },st,s.added (bJ n e.y.gs e.y.j) 1⟩)
structure okAl (n:Int) (x:AL):Prop where
 hg:x.got=0
 ha:1≤x.at'∧x.at'≤n
 hl:0≤x.left∧x.left≤1000
def SL(t n:Int)(e:ENS)(st:STS):Prop:=match e.ph with
 | 0=>True
 | 1=>okAl n e.x
 | 2=>True
 | 3=>e.y.N.length≤1000000∧0≤e.y.i∧e.y.i<2*t
 | 4=>2*t≤e.y.i∧1≤e.y.l∧e.y.gs.length=e.y.j+e.y.l∧ -1000000≤List.getD e.y.gs (e.y.j+Int.toNat 0*1) 0∧List.getD e.y.gs (e.y.j+Int.toNat 0*1) 0≤1000000
 | _=>False
structure okE (t n:Int) (e:ENS) (st:STS) (s:MS):Prop where
 ht:1≤t∧t≤1000
 hn:1≤n∧n≤1000
 hc:0≤s.c∧s.c≤1000000
 hm:0≤st.me∧st.me≤1000
 hR:st.R.length≤1000000
 ho:SL t n e st
abbrev bH(l:Nat)(s:MS):Option (aI Mc):=some (.cells [.int .i64 s.t,.int .i64 s.n,.slice l 0 s.xs.length 1,.int .i64 s.c,.int .i64 s.k,.int .i64 s.a,.int .u64 s.o,.int .u64 s.w,.bool s.ok])
abbrev bI(s:MS):Option (aI Mc):=some (.ints (some .u64) s.xs)
def JY(t n:Int)(e:ENS)(st:STS)(s:MS):aB Ob:=[some (.abs (.ensure t n e) [1]),some (.abs (.store t n st) []),bH 3 s,bI s]
def EO.left(o:EO)(t n:Int)(K:AVal→aB Ob→Prop):Prop:=K (.bool o.d) (JY t n o.e o.st o.s)
theorem fJ{K:AVal→aB Ob→Prop}{t n:Int}{o:EO}{g':aB Ob}(pl:List Nat)(hK:o.left t n K)
 (hb:(dY pl g'.length&&iU pl 0 4&&oZ 1 (BE t n o.e))=true)
 (hT:fR pl g'=bP [some (.abs (.ensure t n o.e) [1]),some (.cells [.int .i64 t,.int .i64 n,.int .i64 o.st.me,.int .i64 o.st.sp,.slice 4 0 o.st.R.length 1]),bH 3 o.s,bI o.s,some (.ints (some .i64) o.st.R)] 0 1 (BE t n o.e) [1]):vZ tbl 4 (vZ tbl 4 K) (.bool o.d) g':=by
 simp only [Bool.and_eq_true]at hb
 obtain⟨⟨b1,b2⟩,b3⟩:=hb
 refine⟨pl,_,.ensure t n o.e,0,1,_,[1],?_,hT,rfl,rfl,⟨[0,1,2,3,4],[some (.abs (.ensure t n o.e) [1]),some (.abs (.store t n o.st) []),bH 3 o.s,bI o.s],.store t n o.st,1,0,jD t n o.st,[],rfl,rfl,rfl,rfl,?_⟩⟩
 ·rw [b1,b2,b3];rfl
 ·exact hK
theorem TG(t n me sp:Int)(R:List Int)(sh dn:Bool)(x:AL)(y:SWS)(s:MS)(K:AVal→aB Ob→Prop)(hK:bif !ieq sp 0 then(lE' s.3∧(0:Int)≤s.4∧s.4≤(4611686018427387904:Int))∧K (.bool true) [some (.cells [.ptr 1 0,.bool sh,.raw (Value.pointer none),.raw (Value.pointer none),.bool dn]),some (.cells [.int .i64 t,.int .i64 n,.int .i64 me,.int .i64 sp,.slice 4 0 (List.length R) 1]),some (.cells [.int .i64 s.1,.int .i64 s.2,.slice 3 0 (List.length s.3) 1,.int .i64 (s.4+1),.int .i64 1,.int .i64 0,.int .u64 (aD s.3 0),.int .u64 (aD s.3 0),.bool (bW s.3 0)]),some (.ints (some .u64) s.3),some (.ints (some .i64) R)]else(((0:Int)≤me∧me≤(100000:Int))∧(0:Int)≤n∧n≤(100000:Int))∧(True∧True)∧(lE' s.3∧((1:Int)≤t∧t≤(1000:Int))∧((1:Int)≤n∧n≤(1000:Int))∧(((1:Int)≤bif bN n (aN t n me)then aN t n me else 1)∧(bif bN n (aN t n me)then aN t n me else 1)≤n)∧((0:Int)≤n∧n≤(1000:Int))∧(0:Int)≤s.4∧s.4≤(1000000:Int))∧bif oddB (aD s.3 (n+4+bif bN n (aN t n me)then aN t n me else 1))then bif !ile (n - 1) 0 then K (.bool false) [some (.cells [.ptr 1 0,.bool sh,.ptr 5 0,.raw (Value.pointer none),.bool dn]),some (.cells [.int .i64 t,.int .i64 n,.int .i64 me,.int .i64 sp,.slice 4 0 (List.length R) 1]),some (.cells [.int .i64 s.1,.int .i64 s.2,.slice 3 0 (List.length s.3) 1,.int .i64 (s.4+1),.int .i64 1,.int .i64 (n+4+bif bN n (aN t n me)then aN t n me else 1),.int .u64 (aD s.3 (n+4+bif bN n (aN t n me)then aN t n me else 1)),.int .u64 (aD s.3 (n+4+bif bN n (aN t n me)then aN t n me else 1)),.bool (bW s.3 (n+4+bif bN n (aN t n me)then aN t n me else 1))]),some (.ints (some .u64) s.3),some (.ints (some .i64) R),some (.cells [.int .i64 t,.int .i64 n,.int .i64 0,.int .i64 (cM n (bif bN n (aN t n me)then aN t n me else 1)),.int .i64 (n - 1),.int .u64 (aD s.3 (n+4+bif bN n (aN t n me)then aN t n me else 1)),.bool false])]else bif dn then K (.bool true) [some (.cells [.ptr 1 0,.bool true,.ptr 5 0,.ptr 6 0,.bool dn]),some (.cells [.int .i64 t,.int .i64 n,.int .i64 me,.int .i64 0,.slice 4 0 (List.length R) 1]),some (.cells [.int .i64 s.1,.int .i64 s.2,.slice 3 0 (List.length s.3) 1,.int .i64 (s.4+1),.int .i64 1,.int .i64 (n+4+bif bN n (aN t n me)then aN t n me else 1),.int .u64 (aD s.3 (n+4+bif bN n (aN t n me)then aN t n me else 1)),.int .u64 (aD s.3 (n+4+bif bN n (aN t n me)then aN t n me else 1)),.bool (bW s.3 (n+4+bif bN n (aN t n me)then aN t n me else 1))]),some (.ints (some .u64) s.3),some (.ints (some .i64) R),some (.cells [.int .i64 t,.int .i64 n,.int .i64 0,.int .i64 (cM n (bif bN n (aN t n me)then aN t n me else 1)),.int .i64 (n - 1),.int .u64 (aD s.3 (n+4+bif bN n (aN t n me)then aN t n me else 1)),.bool false]),some (.cells [.ptr 1 0,.raw (Value.pointer none)])]else K (.bool (ieq (↑(List.length R):Int) 0)) [some (.cells [.ptr 1 0,.bool (ieq (↑(List.length R):Int) 0),.ptr 5 0,.ptr 6 0,.bool dn]),some (.cells [.int .i64 t,.int .i64 n,.int .i64 me,.int .i64 0,.slice 4 0 (List.length R) 1]),some (.cells [.int .i64 s.1,.int .i64 s.2,.slice 3 0 (List.length s.3) 1,.int .i64 (s.4+1),.int .i64 1,.int .i64 (n+4+bif bN n (aN t n me)then aN t n me else 1),.int .u64 (aD s.3 (n+4+bif bN n (aN t n me)then aN t n me else 1)),.int .u64 (aD s.3 (n+4+bif bN n (aN t n me)then aN t n me else 1)),.bool (bW s.3 (n+4+bif bN n (aN t n me)then aN t n me else 1))]),some (.ints (some .u64) s.3),some (.ints (some .i64) R),some (.cells [.int .i64 t,.int .i64 n,.int .i64 0,.int .i64 (cM n (bif bN n (aN t n me)then aN t n me else 1)),.int .i64 (n - 1),.int .u64 (aD s.3 (n+4+bif bN n (aN t n me)then aN t n me else 1)),.bool false]),some (.cells [.ptr 1 0,.raw (Value.pointer none)])]else K (.bool false) [some (.cells [.ptr 1 0,.bool sh,.ptr 5 0,.raw (Value.pointer none),.bool dn]),some (.cells [.int .i64 t,.int .i64 n,.int .i64 me,.int .i64 sp,.slice 4 0 (List.length R) 1]),some (.cells [.int .i64 s.1,.int .i64 s.2,.slice 3 0 (List.length s.3) 1,.int .i64 (s.4+1),.int .i64 1,.int .i64 (n+4+bif bN n (aN t n me)then aN t n me else 1),.int .u64 (aD s.3 (n+4+bif bN n (aN t n me)then aN t n me else 1)),.int .u64 (aD s.3 (n+4+bif bN n (aN t n me)then aN t n me else 1)),.bool (bW s.3 (n+4+bif bN n (aN t n me)then aN t n me else 1))]),some (.ints (some .u64) s.3),some (.ints (some .i64) R),some (.cells [.int .i64 t,.int .i64 n,.int .i64 0,.int .i64 (bif bN n (aN t n me)then aN t n me else 1),.int .i64 n,.int .u64 (aD s.3 (n+4+bif bN n (aN t n me)then aN t n me else 1)),.bool true])]):cT' 85 [.ptr 0 0,.ptr 2 0] [some (.cells [.ptr 1 0,.bool sh,.raw (.pointer none),.raw (.pointer none),.bool dn]),some (.cells [.int .i64 t,.int .i64 n,.int .i64 me,.int .i64 sp,.slice 4 0 R.length 1]),bH 3 s,bI s,some (.ints (some .i64) R)] K:=by
 refine VV (cM' (E:=E42) (by kernel_rfl) hK)
theorem TH(t n me sp:Int)(R:List Int)(sh dn:Bool)(x:AL)(y:SWS)(s:MS)(K:AVal→aB Ob→Prop)(hK:(lE' s.3∧((1:Int)≤t∧t≤(1000:Int))∧((1:Int)≤n∧n≤(1000:Int))∧((1:Int)≤x.2∧x.2≤n)∧((0:Int)≤x.3∧x.3≤(1000:Int))∧(0:Int)≤s.4∧s.4≤(1000000:Int))∧bif x.5 then bif aV s.3 (n+4+x.2) x.4 then bif !ieq x.2 0 then K (.bool true) [some (.cells [.ptr 1 0,.bool sh,.ptr 5 0,.raw (Value.pointer none),.bool dn]),some (.cells [.int .i64 t,.int .i64 n,.int .i64 me,.int .i64 x.2,.slice 4 0 (List.length R) 1]),some (.cells [.int .i64 s.1,.int .i64 s.2,.slice 3 0 (List.length (bif aV s.3 (n+4+x.2) x.4 then aZ s.3 (n+4+x.2) (WU (x.4+1))else s.3)) 1,.int .i64 (s.4+1),.int .i64 3,.int .i64 (n+4+x.2),.int .u64 (aD s.3 (n+4+x.2)),.int .u64 (bif bW s.3 (n+4+x.2)then WU (x.4+1)else 0),.bool (aV s.3 (n+4+x.2) x.4)]),some (.ints (some .u64) (bif aV s.3 (n+4+x.2) x.4 then aZ s.3 (n+4+x.2) (WU (x.4+1))else s.3)),some (.ints (some .i64) R),some (.cells [.int .i64 t,.int .i64 n,.int .i64 x.2,.int .i64 x.2,.int .i64 x.3,.int .u64 x.4,.bool true])]else bif dn then K (.bool true) [some (.cells [.ptr 1 0,.bool true,.ptr 5 0,.ptr 6 0,.bool dn]),some (.cells [.int .i64 t,.int .i64 n,.int .i64 me,.int .i64 x.2,.slice 4 0 (List.length R) 1]),some (.cells [.int .i64 s.1,.int .i64 s.2,.slice 3 0 (List.length (bif aV s.3 (n+4+x.2) x.4 then aZ s.3 (n+4+x.2) (WU (x.4+1))else s.3)) 1,.int .i64 (s.4+1),.int .i64 3,.int .i64 (n+4+x.2),.int .u64 (aD s.3 (n+4+x.2)),.int .u64 (bif bW s.3 (n+4+x.2)then WU (x.4+1)else 0),.bool (aV s.3 (n+4+x.2) x.4)]),some (.ints (some .u64) (bif aV s.3 (n+4+x.2) x.4 then aZ s.3 (n+4+x.2) (WU (x.4+1))else s.3)),some (.ints (some .i64) R),some (.cells [.int .i64 t,.int .i64 n,.int .i64 x.2,.int .i64 x.2,.int .i64 x.3,.int .u64 x.4,.bool true]),some (.cells [.ptr 1 0,.raw (Value.pointer none)])]else K (.bool (ieq (↑(List.length R):Int) 0)) [some (.cells [.ptr 1 0,.bool (ieq (↑(List.length R):Int) 0),.ptr 5 0,.ptr 6 0,.bool dn]),some (.cells [.int .i64 t,.int .i64 n,.int .i64 me,.int .i64 x.2,.slice 4 0 (List.length R) 1]),some (.cells [.int .i64 s.1,.int .i64 s.2,.slice 3 0 (List.length (bif aV s.3 (n+4+x.2) x.4 then aZ s.3 (n+4+x.2) (WU (x.4+1))else s.3)) 1,.int .i64 (s.4+1),.int .i64 3,.int .i64 (n+4+x.2),.int .u64 (aD s.3 (n+4+x.2)),.int .u64 (bif bW s.3 (n+4+x.2)then WU (x.4+1)else 0),.bool (aV s.3 (n+4+x.2) x.4)]),some (.ints (some .u64) (bif aV s.3 (n+4+x.2) x.4 then aZ s.3 (n+4+x.2) (WU (x.4+1))else s.3)),some (.ints (some .i64) R),some (.cells [.int .i64 t,.int .i64 n,.int .i64 x.2,.int .i64 x.2,.int .i64 x.3,.int .u64 x.4,.bool true]),some (.cells [.ptr 1 0,.raw (Value.pointer none)])]else bif !ile (x.3 - 1) 0 then K (.bool false) [some (.cells [.ptr 1 0,.bool sh,.ptr 5 0,.raw (Value.pointer none),.bool dn]),some (.cells [.int .i64 t,.int .i64 n,.int .i64 me,.int .i64 sp,.slice 4 0 (List.length R) 1]),some (.cells [.int .i64 s.1,.int .i64 s.2,.slice 3 0 (List.length (bif aV s.3 (n+4+x.2) x.4 then aZ s.3 (n+4+x.2) (WU (x.4+1))else s.3)) 1,.int .i64 (s.4+1),.int .i64 3,.int .i64 (n+4+x.2),.int .u64 (aD s.3 (n+4+x.2)),.int .u64 (bif bW s.3 (n+4+x.2)then WU (x.4+1)else 0),.bool (aV s.3 (n+4+x.2) x.4)]),some (.ints (some .u64) (bif aV s.3 (n+4+x.2) x.4 then aZ s.3 (n+4+x.2) (WU (x.4+1))else s.3)),some (.ints (some .i64) R),some (.cells [.int .i64 t,.int .i64 n,.int .i64 x.1,.int .i64 (cM n x.2),.int .i64 (x.3 - 1),.int .u64 x.4,.bool false])]else bif !ieq x.1 0 then K (.bool true) [some (.cells [.ptr 1 0,.bool sh,.ptr 5 0,.raw (Value.pointer none),.bool dn]),some (.cells [.int .i64 t,.int .i64 n,.int .i64 me,.int .i64 x.1,.slice 4 0 (List.length R) 1]),some (.cells [.int .i64 s.1,.int .i64 s.2,.slice 3 0 (List.length (bif aV s.3 (n+4+x.2) x.4 then aZ s.3 (n+4+x.2) (WU (x.4+1))else s.3)) 1,.int .i64 (s.4+1),.int .i64 3,.int .i64 (n+4+x.2),.int .u64 (aD s.3 (n+4+x.2)),.int .u64 (bif bW s.3 (n+4+x.2)then WU (x.4+1)else 0),.bool (aV s.3 (n+4+x.2) x.4)]),some (.ints (some .u64) (bif aV s.3 (n+4+x.2) x.4 then aZ s.3 (n+4+x.2) (WU (x.4+1))else s.3)),some (.ints (some .i64) R),some (.cells [.int .i64 t,.int .i64 n,.int .i64 x.1,.int .i64 (cM n x.2),.int .i64 (x.3 - 1),.int .u64 x.4,.bool false])]else bif dn then K (.bool true) [some (.cells [.ptr 1 0,.bool true,.ptr 5 0,.ptr 6 0,.bool dn]),some (.cells [.int .i64 t,.int .i64 n,.int .i64 me,.int .i64 x.1,.slice 4 0 (List.length R) 1]),some (.cells [.int .i64 s.1,.int .i64 s.2,.slice 3 0 (List.length (bif aV s.3 (n+4+x.2) x.4 then aZ s.3 (n+4+x.2) (WU (x.4+1))else s.3)) 1,.int .i64 (s.4+1),.int .i64 3,.int .i64 (n+4+x.2),.int .u64 (aD s.3 (n+4+x.2)),.int .u64 (bif bW s.3 (n+4+x.2)then WU (x.4+1)else 0),.bool (aV s.3 (n+4+x.2) x.4)]),some (.ints (some .u64) (bif aV s.3 (n+4+x.2) x.4 then aZ s.3 (n+4+x.2) (WU (x.4+1))else s.3)),some (.ints (some .i64) R),some (.cells [.int .i64 t,.int .i64 n,.int .i64 x.1,.int .i64 (cM n x.2),.int .i64 (x.3 - 1),.int .u64 x.4,.bool false]),some (.cells [.ptr 1 0,.raw (Value.pointer none)])]else K (.bool (ieq (↑(List.length R):Int) 0)) [some (.cells [.ptr 1 0,.bool (ieq (↑(List.length R):Int) 0),.ptr 5 0,.ptr 6 0,.bool dn]),some (.cells [.int .i64 t,.int .i64 n,.int .i64 me,.int .i64 x.1,.slice 4 0 (List.length R) 1]),some (.cells [.int .i64 s.1,.int .i64 s.2,.slice 3 0 (List.length (bif aV s.3 (n+4+x.2) x.4 then aZ s.3 (n+4+x.2) (WU (x.4+1))else s.3)) 1,.int .i64 (s.4+1),.int .i64 3,.int .i64 (n+4+x.2),.int .u64 (aD s.3 (n+4+x.2)),.int .u64 (bif bW s.3 (n+4+x.2)then WU (x.4+1)else 0),.bool (aV s.3 (n+4+x.2) x.4)]),some (.ints (some .u64) (bif aV s.3 (n+4+x.2) x.4 then aZ s.3 (n+4+x.2) (WU (x.4+1))else s.3)),some (.ints (some .i64) R),some (.cells [.int .i64 t,.int .i64 n,.int .i64 x.1,.int .i64 (cM n x.2),.int .i64 (x.3 - 1),.int .u64 x.4,.bool false]),some (.cells [.ptr 1 0,.raw (Value.pointer none)])]else bif oddB (aD s.3 (n+4+x.2))then bif !ile (x.3 - 1) 0 then K (.bool false) [some (.cells [.ptr 1 0,.bool sh,.ptr 5 0,.raw (Value.pointer none),.bool dn]),some (.cells [.int .i64 t,.int .i64 n,.int .i64 me,.int .i64 sp,.slice 4 0 (List.length R) 1]),some (.cells [.int .i64 s.1,.int .i64 s.2,.slice 3 0 (List.length s.3) 1,.int .i64 (s.4+1),.int .i64 1,.int .i64 (n+4+x.2),.int .u64 (aD s.3 (n+4+x.2)),.int .u64 (aD s.3 (n+4+x.2)),.bool (bW s.3 (n+4+x.2))]),some (.ints (some .u64) s.3),some (.ints (some .i64) R),some (.cells [.int .i64 t,.int .i64 n,.int .i64 x.1,.int .i64 (cM n x.2),.int .i64 (x.3 - 1),.int .u64 (aD s.3 (n+4+x.2)),.bool false])]else bif !ieq x.1 0 then K (.bool true) [some (.cells [.ptr 1 0,.bool sh,.ptr 5 0,.raw (Value.pointer none),.bool dn]),some (.cells [.int .i64 t,.int .i64 n,.int .i64 me,.int .i64 x.1,.slice 4 0 (List.length R) 1]),some (.cells [.int .i64 s.1,.int .i64 s.2,.slice 3 0 (List.length s.3) 1,.int .i64 (s.4+1),.int .i64 1,.int .i64 (n+4+x.2),.int .u64 (aD s.3 (n+4+x.2)),.int .u64 (aD s.3 (n+4+x.2)),.bool (bW s.3 (n+4+x.2))]),some (.ints (some .u64) s.3),some (.ints (some .i64) R),some (.cells [.int .i64 t,.int .i64 n,.int .i64 x.1,.int .i64 (cM n x.2),.int .i64 (x.3 - 1),.int .u64 (aD s.3 (n+4+x.2)),.bool false])]else bif dn then K (.bool true) [some (.cells [.ptr 1 0,.bool true,.ptr 5 0,.ptr 6 0,.bool dn]),some (.cells [.int .i64 t,.int .i64 n,.int .i64 me,.int .i64 x.1,.slice 4 0 (List.length R) 1]),some (.cells [.int .i64 s.1,.int .i64 s.2,.slice 3 0 (List.length s.3) 1,.int .i64 (s.4+1),.int .i64 1,.int .i64 (n+4+x.2),.int .u64 (aD s.3 (n+4+x.2)),.int .u64 (aD s.3 (n+4+x.2)),.bool (bW s.3 (n+4+x.2))]),some (.ints (some .u64) s.3),some (.ints (some .i64) R),some (.cells [.int .i64 t,.int .i64 n,.int .i64 x.1,.int .i64 (cM n x.2),.int .i64 (x.3 - 1),.int .u64 (aD s.3 (n+4+x.2)),.bool false]),some (.cells [.ptr 1 0,.raw (Value.pointer none)])]else K (.bool (ieq (↑(List.length R):Int) 0)) [some (.cells [.ptr 1 0,.bool (ieq (↑(List.length R):Int) 0),.ptr 5 0,.ptr 6 0,.bool dn]),some (.cells [.int .i64 t,.int .i64 n,.int .i64 me,.int .i64 x.1,.slice 4 0 (List.length R) 1]),some (.cells [.int .i64 s.1,.int .i64 s.2,.slice 3 0 (List.length s.3) 1,.int .i64 (s.4+1),.int .i64 1,.int .i64 (n+4+x.2),.int .u64 (aD s.3 (n+4+x.2)),.int .u64 (aD s.3 (n+4+x.2)),.bool (bW s.3 (n+4+x.2))]),some (.ints (some .u64) s.3),some (.ints (some .i64) R),some (.cells [.int .i64 t,.int .i64 n,.int .i64 x.1,.int .i64 (cM n x.2),.int .i64 (x.3 - 1),.int .u64 (aD s.3 (n+4+x.2)),.bool false]),some (.cells [.ptr 1 0,.raw (Value.pointer none)])]else K (.bool false) [some (.cells [.ptr 1 0,.bool sh,.ptr 5 0,.raw (Value.pointer none),.bool dn]),some (.cells [.int .i64 t,.int .i64 n,.int .i64 me,.int .i64 sp,.slice 4 0 (List.length R) 1]),some (.cells [.int .i64 s.1,.int .i64 s.2,.slice 3 0 (List.length s.3) 1,.int .i64 (s.4+1),.int .i64 1,.int .i64 (n+4+x.2),.int .u64 (aD s.3 (n+4+x.2)),.int .u64 (aD s.3 (n+4+x.2)),.bool (bW s.3 (n+4+x.2))]),some (.ints (some .u64) s.3),some (.ints (some .i64) R),some (.cells [.int .i64 t,.int .i64 n,.int .i64 x.1,.int .i64 x.2,.int .i64 x.3,.int .u64 (aD s.3 (n+4+x.2)),.bool true])]):cT' 85 [.ptr 0 0,.ptr 2 0] [some (.cells [.ptr 1 0,.bool sh,.ptr 5 0,.raw (.pointer none),.bool dn]),some (.cells [.int .i64 t,.int .i64 n,.int .i64 me,.int .i64 sp,.slice 4 0 R.length 1]),bH 3 s,bI s,some (.ints (some .i64) R),MN t n x] K:=by
 refine VV (cM' (E:=E42) (by kernel_rfl) hK)
theorem TI(t n me sp:Int)(R:List Int)(sh dn:Bool)(x:AL)(y:SWS)(s:MS)(K:AVal→aB Ob→Prop)(hK:((lE' s.3∧lE' R)∧((1:Int)≤t∧t≤(1000:Int))∧((1:Int)≤n∧n≤(1000:Int))∧((0:Int)≤s.4∧s.4≤(1000000:Int))∧List.length R≤(1000000:Nat))∧K (.bool false) [some (.cells [.ptr 1 0,.bool sh,.ptr 5 0,.ptr 6 0,.bool dn]),some (.cells [.int .i64 t,.int .i64 n,.int .i64 me,.int .i64 sp,.slice 4 0 (List.length R) 1]),some (.cells [.int .i64 s.1,.int .i64 s.2,.slice 3 0 (List.length s.3) 1,.int .i64 (s.4+1),.int .i64 1,.int .i64 (bF n 0),.int .u64 (aD s.3 (bF n 0)),.int .u64 (aD s.3 (bF n 0)),.bool (bW s.3 (bF n 0))]),some (.ints (some .u64) s.3),some (.ints (some .i64) R),some (.cells [.int .i64 t,.int .i64 n,.int .i64 x.1,.int .i64 x.2,.int .i64 x.3,.int .u64 x.4,.bool x.5]),some (.cells [.ptr 1 0,.ptr 7 0]),some (.cells [.int .i64 t,.int .i64 n,.raw (Value.slice none 0 0),.raw (Value.slice none 0 0),.slice 8 0 (List.length R) 1,.map 9,.int .i64 1,.raw (Value.pointer none)]),some (.ints (some .i64) R),some (.imap .i64 none (aS [] n 0 s))]):cT' 85 [.ptr 0 0,.ptr 2 0] [some (.cells [.ptr 1 0,.bool sh,.ptr 5 0,.ptr 6 0,.bool dn]),some (.cells [.int .i64 t,.int .i64 n,.int .i64 me,.int .i64 sp,.slice 4 0 R.length 1]),bH 3 s,bI s,some (.ints (some .i64) R),MN t n x,some (.cells [.ptr 1 0,.raw (.pointer none)])] K:=by
 refine VV (cM' (E:=E42) (by kernel_rfl) hK)
theorem TJ(t n me sp:Int)(R:List Int)(sh dn:Bool)(x:AL)(y:SWS)(s:MS)(K:AVal→aB Ob→Prop)(hK:((lE' s.3∧lE' R∧lE' y.2∧t=t∧n=n)∧((1:Int)≤t∧t≤(1000:Int))∧((1:Int)≤n∧n≤(1000:Int))∧((0:Int)≤s.4∧s.4≤(1000000:Int))∧List.length y.2≤(1000000:Nat)∧(0:Int)≤y.4∧y.4<(2:Int)*t)∧bif ieq (y.4+1) (2*t)then bif ieq (↑(List.length (aU (aS y.3 n y.4 s) y.2)):Int) 0 then K (.bool (ieq (↑(List.length (aU (aS y.3 n y.4 s) y.2)):Int) 0)) [some (.cells [.ptr 1 0,.bool (ieq (↑(List.length (aU (aS y.3 n y.4 s) y.2)):Int) 0),.raw (Value.pointer none),.raw (Value.pointer none),.bool true]),some (.cells [.int .i64 t,.int .i64 n,.int .i64 me,.int .i64 sp,.slice 10 0 (List.length (cF (aS y.3 n y.4 s) y.2)) 1]),some (.cells [.int .i64 s.1,.int .i64 s.2,.slice 3 0 (List.length s.3) 1,.int .i64 (s.4+1),.int .i64 1,.int .i64 (bF n y.4),.int .u64 (aD s.3 (bF n y.4)),.int .u64 (aD s.3 (bF n y.4)),.bool (bW s.3 (bF n y.4))]),some (.ints (some .u64) s.3),some (.ints (some .i64) R),some (.cells [.int .i64 t,.int .i64 n,.int .i64 x.1,.int .i64 x.2,.int .i64 x.3,.int .u64 x.4,.bool x.5]),some (.cells [.ptr 1 0,.ptr 7 0]),some (.cells [.int .i64 t,.int .i64 n,.slice 10 0 (List.length (cF (aS y.3 n y.4 s) y.2)) 1,.slice 11 0 (List.length (aU (aS y.3 n y.4 s) y.2)) 1,.slice 8 0 (List.length y.2) 1,.map 9,.int .i64 (y.4+1),.ptr 12 0]),some (.ints (some .i64) y.2),some (.imap .i64 none (aS y.3 n y.4 s)),some (.ints (some .i64) (cF (aS y.3 n y.4 s) y.2)),some (.ints (some .i64) (aU (aS y.3 n y.4 s) y.2)),some (.cells [.int .i64 t,.int .i64 n,.slice 13 0 (List.length (aU (aS y.3 n y.4 s) y.2)) 1]),some (.ints (some .i64) (aU (aS y.3 n y.4 s) y.2))]else K (.bool false) [some (.cells [.ptr 1 0,.bool sh,.ptr 5 0,.ptr 6 0,.bool dn]),some (.cells [.int .i64 t,.int .i64 n,.int .i64 me,.int .i64 sp,.slice 4 0 (List.length R) 1]),some (.cells [.int .i64 s.1,.int .i64 s.2,.slice 3 0 (List.length s.3) 1,.int .i64 (s.4+1),.int .i64 1,.int .i64 (bF n y.4),.int .u64 (aD s.3 (bF n y.4)),.int .u64 (aD s.3 (bF n y.4)),.bool (bW s.3 (bF n y.4))]),some (.ints (some .u64) s.3),some (.ints (some .i64) R),some (.cells [.int .i64 t,.int .i64 n,.int .i64 x.1,.int .i64 x.2,.int .i64 x.3,.int .u64 x.4,.bool x.5]),some (.cells [.ptr 1 0,.ptr 7 0]),some (.cells [.int .i64 t,.int .i64 n,.slice 10 0 (List.length (cF (aS y.3 n y.4 s) y.2)) 1,.slice 11 0 (List.length (aU (aS y.3 n y.4 s) y.2)) 1,.slice 8 0 (List.length y.2) 1,.map 9,.int .i64 (y.4+1),.ptr 12 0]),some (.ints (some .i64) y.2),some (.imap .i64 none (aS y.3 n y.4 s)),some (.ints (some .i64) (cF (aS y.3 n y.4 s) y.2)),some (.ints (some .i64) (aU (aS y.3 n y.4 s) y.2)),some (.cells [.int .i64 t,.int .i64 n,.slice 13 0 (List.length (aU (aS y.3 n y.4 s) y.2)) 1]),some (.ints (some .i64) (aU (aS y.3 n y.4 s) y.2))]else K (.bool false) [some (.cells [.ptr 1 0,.bool sh,.ptr 5 0,.ptr 6 0,.bool dn]),some (.cells [.int .i64 t,.int .i64 n,.int .i64 me,.int .i64 sp,.slice 4 0 (List.length R) 1]),some (.cells [.int .i64 s.1,.int .i64 s.2,.slice 3 0 (List.length s.3) 1,.int .i64 (s.4+1),.int .i64 1,.int .i64 (bF n y.4),.int .u64 (aD s.3 (bF n y.4)),.int .u64 (aD s.3 (bF n y.4)),.bool (bW s.3 (bF n y.4))]),some (.ints (some .u64) s.3),some (.ints (some .i64) R),some (.cells [.int .i64 t,.int .i64 n,.int .i64 x.1,.int .i64 x.2,.int .i64 x.3,.int .u64 x.4,.bool x.5]),some (.cells [.ptr 1 0,.ptr 7 0]),some (.cells [.int .i64 t,.int .i64 n,.raw (Value.slice none 0 0),.raw (Value.slice none 0 0),.slice 8 0 (List.length y.2) 1,.map 9,.int .i64 (y.4+1),.raw (Value.pointer none)]),some (.ints (some .i64) y.2),some (.imap .i64 none (aS y.3 n y.4 s))]):cT' 85 [.ptr 0 0,.ptr 2 0] [some (.cells [.ptr 1 0,.bool sh,.ptr 5 0,.ptr 6 0,.bool dn]),some (.cells [.int .i64 t,.int .i64 n,.int .i64 me,.int .i64 sp,.slice 4 0 R.length 1]),bH 3 s,bI s,some (.ints (some .i64) R),MN t n x,some (.cells [.ptr 1 0,.ptr 7 0]),some (.cells [.int .i64 t,.int .i64 n,.raw (.slice none 0 0),.raw (.slice none 0 0),.slice 8 0 y.N.length 1,.map 9,.int .i64 y.i,.raw (.pointer none)]),some (.ints (some .i64) y.N),some (.imap .i64 none y.m)] K:=by
 refine VV (cM' (E:=E42) (by kernel_rfl) hK)
theorem TK(t n me sp:Int)(R:List Int)(sh dn:Bool)(x:AL)(y:SWS)(s:MS)(K:AVal→aB Ob→Prop)(hK:((lE' s.3∧lE' R∧lE' y.5∧lE' y.6∧lE' y.2∧t=t∧n=n∧t=t∧n=n)∧((1:Int)≤t∧t≤(1000:Int))∧((1:Int)≤n∧n≤(1000:Int))∧((0:Int)≤s.4∧s.4≤(1000000:Int))∧2*t≤y.4∧((1:Nat)≤y.9∧List.length y.7=y.8+y.9)∧(-1000000:Int)≤List.getD y.7 (y.8+Int.toNat 0*1) 0∧List.getD y.7 (y.8+Int.toNat 0*1) (0:Int)≤(1000000:Int))∧bif ieq (↑(y.9 - 1):Int) 0 then K (.bool (ieq (↑(List.length y.6):Int) 0)) [some (.cells [.ptr 1 0,.bool (ieq (↑(List.length y.6):Int) 0),.raw (Value.pointer none),.raw (Value.pointer none),.bool true]),some (.cells [.int .i64 t,.int .i64 n,.int .i64 me,.int .i64 sp,.slice 8 0 (List.length y.5) 1]),some (.cells [.int .i64 s.1,.int .i64 s.2,.slice 3 0 (List.length (aZ s.3 (bJ n y.7 y.8) (WU (aD s.3 (bJ n y.7 y.8)+1)))) 1,.int .i64 (s.4+1),.int .i64 4,.int .i64 (bJ n y.7 y.8),.int .u64 (aD s.3 (bJ n y.7 y.8)),.int .u64 (bif bW s.3 (bJ n y.7 y.8)then WU (aD s.3 (bJ n y.7 y.8)+1)else 0),.bool (bW s.3 (bJ n y.7 y.8))]),some (.ints (some .u64) (aZ s.3 (bJ n y.7 y.8) (WU (aD s.3 (bJ n y.7 y.8)+1)))),some (.ints (some .i64) R),some (.cells [.int .i64 t,.int .i64 n,.int .i64 x.1,.int .i64 x.2,.int .i64 x.3,.int .u64 x.4,.bool x.5]),some (.cells [.ptr 1 0,.ptr 7 0]),some (.cells [.int .i64 t,.int .i64 n,.slice 8 0 (List.length y.5) 1,.slice 9 0 (List.length y.6) 1,.slice 10 0 (List.length y.2) 1,.map 11,.int .i64 y.4,.ptr 12 0]),some (.ints (some .i64) y.5),some (.ints (some .i64) y.6),some (.ints (some .i64) y.2),some (.imap .i64 none y.3),some (.cells [.int .i64 t,.int .i64 n,.slice 13 (y.8+1) (y.9 - 1) 1]),some (.ints (some .i64) y.7)]else K (.bool false) [some (.cells [.ptr 1 0,.bool sh,.ptr 5 0,.ptr 6 0,.bool dn]),some (.cells [.int .i64 t,.int .i64 n,.int .i64 me,.int .i64 sp,.slice 4 0 (List.length R) 1]),some (.cells [.int .i64 s.1,.int .i64 s.2,.slice 3 0 (List.length (aZ s.3 (bJ n y.7 y.8) (WU (aD s.3 (bJ n y.7 y.8)+1)))) 1,.int .i64 (s.4+1),.int .i64 4,.int .i64 (bJ n y.7 y.8),.int .u64 (aD s.3 (bJ n y.7 y.8)),.int .u64 (bif bW s.3 (bJ n y.7 y.8)then WU (aD s.3 (bJ n y.7 y.8)+1)else 0),.bool (bW s.3 (bJ n y.7 y.8))]),some (.ints (some .u64) (aZ s.3 (bJ n y.7 y.8) (WU (aD s.3 (bJ n y.7 y.8)+1)))),some (.ints (some .i64) R),some (.cells [.int .i64 t,.int .i64 n,.int .i64 x.1,.int .i64 x.2,.int .i64 x.3,.int .u64 x.4,.bool x.5]),some (.cells [.ptr 1 0,.ptr 7 0]),some (.cells [.int .i64 t,.int .i64 n,.slice 8 0 (List.length y.5) 1,.slice 9 0 (List.length y.6) 1,.slice 10 0 (List.length y.2) 1,.map 11,.int .i64 y.4,.ptr 12 0]),some (.ints (some .i64) y.5),some (.ints (some .i64) y.6),some (.ints (some .i64) y.2),some (.imap .i64 none y.3),some (.cells [.int .i64 t,.int .i64 n,.slice 13 (y.8+1) (y.9 - 1) 1]),some (.ints (some .i64) y.7)]):cT' 85 [.ptr 0 0,.ptr 2 0] [some (.cells [.ptr 1 0,.bool sh,.ptr 5 0,.ptr 6 0,.bool dn]),some (.cells [.int .i64 t,.int .i64 n,.int .i64 me,.int .i64 sp,.slice 4 0 R.length 1]),bH 3 s,bI s,some (.ints (some .i64) R),MN t n x,some (.cells [.ptr 1 0,.ptr 7 0]),some (.cells [.int .i64 t,.int .i64 n,.slice 8 0 y.ks.length 1,.slice 9 0 y.fs.length 1,.slice 10 0 y.N.length 1,.map 11,.int .i64 y.i,.ptr 12 0]),some (.ints (some .i64) y.ks),some (.ints (some .i64) y.fs),some (.ints (some .i64) y.N),some (.imap .i64 none y.m),some (.cells [.int .i64 t,.int .i64 n,.slice 13 y.j y.l 1]),some (.ints (some .i64) y.gs)] K:=by
 refine VV (cM' (E:=E42) (by kernel_rfl) hK)
theorem U7(t n:Int)(e:ENS)(st:STS)(s:MS)(K:AVal→aB Ob→Prop)(hp:e.ph=2)(ok:okE t n e st s)(hK:(enF t n e st s).left t n K):cT' 85 [.ptr 0 0,.ptr 2 0] (JY t n e st s) K:=by
 obtain⟨ht,hn,hc,hm,hR,ho⟩:=ok
 obtain⟨ph,sh,dn,x,y⟩:=e
 dsimp only at hp
 subst hp
 obtain⟨me,sp,R⟩:=st
 dsimp only at hm hR
 refine aC.pack tbl (aC.pack tbl ?_)
 refine aC.unpack tbl (.store t n ⟨me,sp,R⟩) 1 0 (jD t n ⟨me,sp,R⟩) [] rfl rfl rfl rfl ?_
 refine aC.unpack tbl (.ensure t n ⟨2,sh,dn,x,y⟩) 0 1 (BE t n ⟨2,sh,dn,x,y⟩) [1] rfl rfl rfl rfl ?_
 refine TI t n me sp R sh dn x y s _ ?_
 exact⟨⟨⟨rfl,rfl⟩,ht,hn,hc,hR⟩,fJ (o:=enF t n ⟨2,sh,dn,x,y⟩ ⟨me,sp,R⟩ s) [0,1,2,3,4,5,6,7,8,9] hK rfl rfl⟩
theorem U8(t n:Int)(e:ENS)(st:STS)(s:MS)(K:AVal→aB Ob→Prop)(hp:e.ph=3)(ok:okE t n e st s)(hK:(enF t n e st s).left t n K):cT' 85 [.ptr 0 0,.ptr 2 0] (JY t n e st s) K:=by
 obtain⟨ht,hn,hc,hm,hR,ho⟩:=ok
 obtain⟨ph,sh,dn,x,y⟩:=e
 dsimp only at hp
 subst hp
 obtain⟨me,sp,R⟩:=st
 dsimp only at hm hR
 refine aC.pack tbl (aC.pack tbl ?_)
 refine aC.unpack tbl (.store t n ⟨me,sp,R⟩) 1 0 (jD t n ⟨me,sp,R⟩) [] rfl rfl rfl rfl ?_
 refine aC.unpack tbl (.ensure t n ⟨3,sh,dn,x,y⟩) 0 1 (BE t n ⟨3,sh,dn,x,y⟩) [1] rfl rfl rfl rfl ?_
 refine TJ t n me sp R sh dn x y s _ ?_
 have ho:y.N.length≤1000000∧0≤y.i∧y.i<2*t:=ho
 refine⟨⟨⟨rfl,rfl,rfl,rfl,rfl⟩,ht,hn,hc,ho.1,ho.2⟩,?_⟩
 unfold enF at hK
 dsimp only at hK
 cases h1:ieq (y.i+1) (2*t)with
 | false=>
   rw [h1]at hK
   exact fJ (o:=⟨false,⟨3,sh,dn,x,{y with m:=aS y.m n y.i s,i:=y.i+1}⟩,⟨me,sp,R⟩,s.loadd (bF n y.i)⟩) [0,1,2,3,4,5,6,7,8,9] hK rfl rfl
 | true=>
   rw [h1]at hK
   cases h2:ieq ((aU (aS y.m n y.i s) y.N).length :Int) 0 with
   | true=>
     rw [h2]at hK
     exact fJ (o:=⟨true,⟨0,true,true,x,y⟩,⟨me,sp,cF (aS y.m n y.i s) y.N⟩,s.loadd (bF n y.i)⟩) [0,1,2,3,10] hK rfl rfl
   | false=>
     rw [h2]at hK
     exact fJ (o:=⟨false,⟨4,sh,dn,x,⟨0,y.N,aS y.m n y.i s,y.i+1,cF (aS y.m n y.i s) y.N,aU (aS y.m n y.i s) y.N,aU (aS y.m n y.i s) y.N,0,(aU (aS y.m n y.i s) y.N).length⟩⟩,⟨me,sp,R⟩,s.loadd (bF n y.i)⟩) [0,1,2,3,4,5,6,7,10,11,8,9,12,13] hK rfl rfl
theorem U9(t n:Int)(e:ENS)(st:STS)(s:MS)(K:AVal→aB Ob→Prop)(hp:e.ph=4)(ok:okE t n e st s)(hK:(enF t n e st s).left t n K):cT' 85 [.ptr 0 0,.ptr 2 0] (JY t n e st s) K:=by
 obtain⟨ht,hn,hc,hm,hR,ho⟩:=ok
 obtain⟨ph,sh,dn,x,y⟩:=e
 dsimp only at hp
 subst hp
 obtain⟨me,sp,R⟩:=st
 dsimp only at hm hR
 refine aC.pack tbl (aC.pack tbl ?_)
 refine aC.unpack tbl (.store t n ⟨me,sp,R⟩) 1 0 (jD t n ⟨me,sp,R⟩) [] rfl rfl rfl rfl ?_
 refine aC.unpack tbl (.ensure t n ⟨4,sh,dn,x,y⟩) 0 1 (BE t n ⟨4,sh,dn,x,y⟩) [1] rfl rfl rfl rfl ?_
 refine TK t n me sp R sh dn x y s _ ?_
 have ho:2*t≤y.i∧1≤y.l∧y.gs.length=y.j+y.l∧ -1000000≤List.getD y.gs (y.j+Int.toNat 0*1) 0∧List.getD y.gs (y.j+Int.toNat 0*1) 0≤1000000:=ho
 refine⟨⟨⟨rfl,rfl,rfl,rfl,rfl,rfl,rfl,rfl,rfl⟩,ht,hn,hc,ho.1,⟨ho.2.1,ho.2.2.1⟩,ho.2.2.2⟩,?_⟩
 unfold enF at hK
 dsimp only at hK
 cases h1:ieq ((y.l - 1:Nat):Int) 0 with
 | false=>
   rw [h1]at hK
   exact fJ (o:=⟨false,⟨4,sh,dn,x,{y with j:=y.j+1,l:=y.l - 1}⟩,⟨me,sp,R⟩,s.added (bJ n y.gs y.j) 1⟩) [0,1,2,3,4,5,6,7,8,9,10,11,12,13] hK rfl rfl
 | true=>
   rw [h1]at hK
   exact fJ (o:=⟨ieq (y.fs.length:Int) 0,⟨0,ieq (y.fs.length:Int) 0,true,x,y⟩,⟨me,sp,y.ks⟩,s.added (bJ n y.gs y.j) 1⟩) [0,1,2,3,8] hK rfl rfl
theorem U6(t n:Int)(e:ENS)(st:STS)(s:MS)(K:AVal→aB Ob→Prop)(hp:e.ph=1)(ok:okE t n e st s)(hK:(enF t n e st s).left t n K):cT' 85 [.ptr 0 0,.ptr 2 0] (JY t n e st s) K:=by
 obtain⟨ht,hn,hc,hm,hR,ho⟩:=ok
 obtain⟨ph,sh,dn,x,y⟩:=e
 dsimp only at hp
 subst hp
 obtain⟨me,sp,R⟩:=st
 dsimp only at hm hR
 refine aC.pack tbl (aC.pack tbl ?_)
 refine aC.unpack tbl (.store t n ⟨me,sp,R⟩) 1 0 (jD t n ⟨me,sp,R⟩) [] rfl rfl rfl rfl ?_
 refine aC.unpack tbl (.ensure t n ⟨1,sh,dn,x,y⟩) 0 1 (BE t n ⟨1,sh,dn,x,y⟩) [1] rfl rfl rfl rfl ?_
 refine TH t n me sp R sh dn x y s _ ?_
 have ho:okAl n x:=ho
 obtain⟨hg,ha,hl⟩:=ho
 refine⟨⟨rfl,ht,hn,ha,hl,hc⟩,?_⟩
 obtain⟨got,at',left,found,free⟩:=x
 dsimp only at hg ha hl⊢
 subst hg
 have i0:ieq at' 0=false:=by rw [bC];simp;omega
 have i00:ieq 0 0=true:=rfl
 rw [i0,i00]
 unfold enF uY J2 at hK
 dsimp only at hK
 cases free with
 | false=>
   dsimp only [cond]at hK⊢
   cases ho:oddB (aD s.xs (n+4+at'))with
   | false=>
     rw [ho]at hK
     exact fJ (o:=⟨false,⟨1,sh,dn,⟨0,at',left,aD s.xs (n+4+at'),true⟩,y⟩,⟨me,sp,R⟩,s.loadd (n+4+at')⟩) [0,1,2,3,4,5] hK rfl rfl
   | true=>
     rw [ho]at hK
     dsimp only [cond]at hK⊢
     cases hw:ile (left - 1) 0 with
     | false=>
       rw [hw]at hK
       exact fJ (o:=⟨false,⟨1,sh,dn,⟨0,cM n at',left - 1,aD s.xs (n+4+at'),false⟩,y⟩,⟨me,sp,R⟩,s.loadd (n+4+at')⟩) [0,1,2,3,4,5] hK rfl rfl
     | true=>
       rw [hw]at hK
       cases dn with
       | true=>exact fJ (o:=⟨true,⟨2,true,true,⟨0,cM n at',left - 1,aD s.xs (n+4+at'),false⟩,y⟩,⟨me,0,R⟩,s.loadd (n+4+at')⟩) [0,1,2,3,4,5,6] hK rfl rfl
       | false=>exact fJ (o:=⟨ieq (R.length:Int) 0,⟨2,ieq (R.length:Int) 0,false,⟨0,cM n at',left - 1,aD s.xs (n+4+at'),false⟩,y⟩,⟨me,0,R⟩,s.loadd (n+4+at')⟩) [0,1,2,3,4,5,6] hK rfl rfl
 | true=>
   dsimp only [cond]at hK⊢
   unfold MS.cased at hK
   cases hb:aV s.xs (n+4+at') found with
   | true=>
     rw [hb]at hK
     exact fJ (o:=⟨true,⟨1,sh,dn,⟨at',at',left,found,true⟩,y⟩,⟨me,at',R⟩,_⟩) [0,1,2,3,4,5] hK rfl rfl
   | false=>
     rw [hb]at hK
     dsimp only [cond]at hK⊢
     cases hw:ile (left - 1) 0 with
     | false=>
       rw [hw]at hK
       exact fJ (o:=⟨false,⟨1,sh,dn,⟨0,cM n at',left - 1,found,false⟩,y⟩,⟨me,sp,R⟩,_⟩) [0,1,2,3,4,5] hK rfl rfl
     | true=>
       rw [hw]at hK
       cases dn with
       | true=>exact fJ (o:=⟨true,⟨2,true,true,⟨0,cM n at',left - 1,found,false⟩,y⟩,⟨me,0,R⟩,_⟩) [0,1,2,3,4,5,6] hK rfl rfl
       | false=>exact fJ (o:=⟨ieq (R.length:Int) 0,⟨2,ieq (R.length:Int) 0,false,⟨0,cM n at',left - 1,found,false⟩,y⟩,⟨me,0,R⟩,_⟩) [0,1,2,3,4,5,6] hK rfl rfl
theorem U5(t n:Int)(e:ENS)(st:STS)(s:MS)(K:AVal→aB Ob→Prop)(hp:e.ph=0)(ok:okE t n e st s)(hK:(enF t n e st s).left t n K):cT' 85 [.ptr 0 0,.ptr 2 0] (JY t n e st s) K:=by
 obtain⟨ht,hn,hc,hm,hR,ho⟩:=ok
 obtain⟨ph,sh,dn,x,y⟩:=e
 dsimp only at hp
 subst hp
 obtain⟨me,sp,R⟩:=st
 dsimp only at hm hR
 refine aC.pack tbl (aC.pack tbl ?_)
 refine aC.unpack tbl (.store t n ⟨me,sp,R⟩) 1 0 (jD t n ⟨me,sp,R⟩) [] rfl rfl rfl rfl ?_
 refine aC.unpack tbl (.ensure t n ⟨0,sh,dn,x,y⟩) 0 1 (BE t n ⟨0,sh,dn,x,y⟩) [1] rfl rfl rfl rfl ?_
 refine TG t n me sp R sh dn x y s _ ?_
 unfold enF uY J2 at hK
 dsimp only at hK
 cases hz:ieq sp 0 with
 | false=>
   rw [hz]at hK
   exact⟨⟨rfl,by omega⟩,fJ (o:=⟨true,⟨0,sh,dn,x,y⟩,⟨me,sp,R⟩,s.loadd 0⟩) [0,1,2,3,4] hK rfl rfl⟩
 | true=>
   rw [hz]at hK
   have ha:1≤at0 t n me∧at0 t n me≤n:=by
    unfold at0 bN
    cases h1:(ile 1 (aN t n me))<;>cases h2:ile (aN t n me) n<;>simp only [Bool.and_true,Bool.and_false,Bool.and_self,cond_true,cond_false]<;>rw [bZ]at h1 h2<;>simp at h1 h2<;>omega
   refine⟨⟨by omega,by omega⟩,⟨trivial,trivial⟩,⟨rfl,ht,hn,ha,by omega,hc⟩,?_⟩
   show cond (oddB (aD s.xs (n+4+at0 t n me))) _ _
   cases ho:oddB (aD s.xs (n+4+at0 t n me))with
   | false=>
     rw [ho]at hK
     exact fJ (o:=⟨false,⟨1,sh,dn,⟨0,at0 t n me,n,aD s.xs (n+4+at0 t n me),true⟩,y⟩,⟨me,sp,R⟩,s.loadd (n+4+at0 t n me)⟩) [0,1,2,3,4,5] hK rfl rfl
   | true=>
     rw [ho]at hK
     dsimp only [cond]at hK⊢
     cases hw:ile (n - 1) 0 with
     | false=>
       rw [hw]at hK
       exact fJ (o:=⟨false,⟨1,sh,dn,⟨0,cM n (at0 t n me),n - 1,aD s.xs (n+4+at0 t n me),false⟩,y⟩,⟨me,sp,R⟩,s.loadd (n+4+at0 t n me)⟩) [0,1,2,3,4,5] hK rfl rfl
     | true=>
       rw [hw]at hK
       cases dn with
       | true=>exact fJ (o:=⟨true,⟨2,true,true,⟨0,cM n (at0 t n me),n - 1,aD s.xs (n+4+at0 t n me),false⟩,y⟩,⟨me,0,R⟩,s.loadd (n+4+at0 t n me)⟩) [0,1,2,3,4,5,6] hK rfl rfl
       | false=>exact fJ (o:=⟨ieq (R.length:Int) 0,⟨2,ieq (R.length:Int) 0,false,⟨0,cM n (at0 t n me),n - 1,aD s.xs (n+4+at0 t n me),false⟩,y⟩,⟨me,0,R⟩,s.loadd (n+4+at0 t n me)⟩) [0,1,2,3,4,5,6] hK rfl rfl
theorem BG(t n:Int)(e:ENS)(st:STS)(s:MS)(K:AVal→aB Ob→Prop)(ok:okE t n e st s)(hK:(enF t n e st s).left t n K):cT' 85 [.ptr 0 0,.ptr 2 0] (JY t n e st s) K:=by
 match h:e.ph with
 | 0=>exact U5 t n e st s K h ok hK
 | 1=>exact U6 t n e st s K h ok hK
 | 2=>exact U7 t n e st s K h ok hK
 | 3=>exact U8 t n e st s K h ok hK
 | 4=>exact U9 t n e st s K h ok hK
 | k+5=>have:=ok.ho;unfold SL at this;rw [h]at this;exact this.elim
noncomputable def enS:aL Ob:=fun args h=>match args,h with
 | [.ptr 0 0,.ptr 2 0],[some (.abs (.ensure t n e) [1]),some (.abs (.store t' n' st) []),e1,e2]=>(match fB 3 [e1,e2]with
   | some (l,s)=>some (.pre ((l=s.xs.length∧t'=t∧n'=n)∧okE t n e st s) (.ret (.bool (enF t n e st s).d) (JY t n (enF t n e st s).e (enF t n e st s).st (enF t n e st s).s)))
   | none=>none)
 | _,_=>none
theorem RK:aL.ok E42.I Tryz.prog 85 enS:=by
 intro args h o ho K hK
 unfold enS at ho
 split at ho
 case h_2=>cases ho
 split at ho<;>cases ho
 rename_i hm
 obtain⟨⟨⟨hl,ht',hn'⟩,ok⟩,hK⟩:=hK
 have hh:=cC hm hl
 cases hh
 subst ht' hn'
 exact BG _ _ _ _ _ K ok hK
noncomputable def enE:=E42.addS 85 enS RK
structure SO where
 d:Bool
 e:SWS
 st:STS
 s:MS
instance:Inhabited SO:=⟨⟨false,JS,⟨0,0,[]⟩,⟨0,0,[],0,0,0,0,0,false⟩⟩⟩
def swF(t n:Int)(y:SWS)(st:STS)(s:MS):SO:=match y.ph with
 | 0=>⟨false,{y with ph:=1,N:=st.R,m:=aS [] n 0 s,i:=1},st,s.loadd (bF n 0)⟩
 | 1=>(match ieq (y.i+1) (2*t),ieq ((aU (aS y.m n y.i s) y.N).length :Int) 0 with
   | true,true=>⟨true,{y with ph:=3},{st with R:=cF (aS y.m n y.i s) y.N},s.loadd (bF n y.i)⟩
   | true,false=>⟨false,⟨2,y.N,aS y.m n y.i s,y.i+1,cF (aS y.m n y.i s) y.N,aU (aS y.m n y.i s) y.N,aU (aS y.m n y.i s) y.N,0,(aU (aS y.m n y.i s) y.N).length⟩,st,s.loadd (bF n y.i)⟩
   | false,_=>⟨false,{y with m:=aS y.m n y.i s,i:=y.i+1},st,s.loadd (bF n y.i)⟩)
 | _=>(match ieq ((y.l - 1:Nat):Int) 0 with
   | true=>⟨true,{y with ph:=3},{st with R:=y.ks},s.added (bJ n y.gs y.j) 1⟩
   | false=>⟨false,{y with j:=y.j+1,l:=y.l - 1},st,s.added (bJ n y.gs y.j) 1⟩)
def NM(t n:Int)(y:SWS):Prop:=match y.ph with
 | 0=>True
 | 1=>y.N.length≤1000000∧0≤y.i∧y.i<2*t
 | 2=>2*t≤y.i∧1≤y.l∧y.gs.length=y.j+y.l∧ -1000000≤List.getD y.gs (y.j+Int.toNat 0*1) 0∧List.getD y.gs (y.j+Int.toNat 0*1) 0≤1000000
 | _=>False
structure rR (t n:Int) (y:SWS) (st:STS) (s:MS):Prop where
 ht:1≤t∧t≤1000
 hn:1≤n∧n≤1000
 hc:0≤s.c∧s.c≤1000000
 hR:st.R.length≤1000000
 ho:NM t n y
def Q7(t n:Int)(y:SWS)(st:STS)(s:MS):aB Ob:=[some (.abs (.sweep t n y) [1]),some (.abs (.store t n st) []),bH 3 s,bI s]
def SO.left(o:SO)(t n:Int)(K:AVal→aB Ob→Prop):Prop:=K (.bool o.d) (Q7 t n o.e o.st o.s)
theorem uD{K:AVal→aB Ob→Prop}{t n:Int}{o:SO}{g':aB Ob}(pl:List Nat)(hK:o.left t n K)
 (hb:(dY pl g'.length&&iU pl 0 4&&oZ 1 (IR t n o.e))=true)
 (hT:fR pl g'=bP [some (.abs (.sweep t n o.e) [1]),some (.cells [.int .i64 t,.int .i64 n,.int .i64 o.st.me,.int .i64 o.st.sp,.slice 4 0 o.st.R.length 1]),bH 3 o.s,bI o.s,some (.ints (some .i64) o.st.R)] 0 1 (IR t n o.e) [1]):vZ tbl 4 (vZ tbl 4 K) (.bool o.d) g':=by
 simp only [Bool.and_eq_true]at hb
 obtain⟨⟨b1,b2⟩,b3⟩:=hb
 refine⟨pl,_,.sweep t n o.e,0,1,_,[1],?_,hT,rfl,rfl,⟨[0,1,2,3,4],[some (.abs (.sweep t n o.e) [1]),some (.abs (.store t n o.st) []),bH 3 o.s,bI o.s],.store t n o.st,1,0,jD t n o.st,[],rfl,rfl,rfl,rfl,?_⟩⟩
 ·rw [b1,b2,b3];rfl
 ·exact hK
def IN(t n me sp:Int)(R:List Int)(y:SWS)(s:MS)(K:AVal→aB Ob→Prop):Prop:=((lE' s.3∧lE' R)∧((1:Int)≤t∧t≤(1000:Int))∧((1:Int)≤n∧n≤(1000:Int))∧((0:Int)≤s.4∧s.4≤(1000000:Int))∧List.length R≤(1000000:Nat))∧K (.bool false) [some (.cells [.ptr 1 0,.ptr 5 0]),some (.cells [.int .i64 t,.int .i64 n,.int .i64 me,.int .i64 sp,.slice 4 0 (List.length R) 1]),some (.cells [.int .i64 s.1,.int .i64 s.2,.slice 3 0 (List.length s.3) 1,.int .i64 (s.4+1),.int .i64 1,.int .i64 (bF n 0),.int .u64 (aD s.3 (bF n 0)),.int .u64 (aD s.3 (bF n 0)),.bool (bW s.3 (bF n 0))]),some (.ints (some .u64) s.3),some (.ints (some .i64) R),some (.cells [.int .i64 t,.int .i64 n,.raw (Value.slice none 0 0),.raw (Value.slice none 0 0),.slice 6 0 (List.length R) 1,.map 7,.int .i64 1,.raw (Value.pointer none)]),some (.ints (some .i64) R),some (.imap .i64 none (aS [] n 0 s))]
theorem T0(t n me sp:Int)(R:List Int)(y:SWS)(s:MS)(K:AVal→aB Ob→Prop)(hK:IN t n me sp R y s K):cT' 195 [.ptr 0 0,.ptr 2 0] [some (.cells [.ptr 1 0,.raw (.pointer none)]),some (.cells [.int .i64 t,.int .i64 n,.int .i64 me,.int .i64 sp,.slice 4 0 R.length 1]),bH 3 s,bI s,some (.ints (some .i64) R)] K:=
 (jJ mB) _ _ _ (Ev.get (aR (p:=mW swStepS [.ptr 0 0,.ptr 2 0] [some (.cells [.ptr 1 0,.raw (.pointer none)]),some (.cells [.int .i64 t,.int .i64 n,.int .i64 me,.int .i64 sp,.slice 4 0 R.length 1]),bH 3 s,bI s,some (.ints (some .i64) R)] K) (q:=IN t n me sp R y s K) (by kernel_rfl) hK))
def IP(t n me sp:Int)(R:List Int)(y:SWS)(s:MS)(K:AVal→aB Ob→Prop):Prop:=((lE' s.3∧lE' R∧lE' y.2∧t=t∧n=n)∧((1:Int)≤t∧t≤(1000:Int))∧((1:Int)≤n∧n≤(1000:Int))∧((0:Int)≤s.4∧s.4≤(1000000:Int))∧List.length y.2≤(1000000:Nat)∧(0:Int)≤y.4∧y.4<(2:Int)*t)∧bif ieq (y.4+1) (2*t)then bif ieq (↑(List.length (aU (aS y.3 n y.4 s) y.2)):Int) 0 then K (.bool true) [some (.cells [.ptr 1 0,.ptr 5 0]),some (.cells [.int .i64 t,.int .i64 n,.int .i64 me,.int .i64 sp,.slice 8 0 (List.length (cF (aS y.3 n y.4 s) y.2)) 1]),some (.cells [.int .i64 s.1,.int .i64 s.2,.slice 3 0 (List.length s.3) 1,.int .i64 (s.4+1),.int .i64 1,.int .i64 (bF n y.4),.int .u64 (aD s.3 (bF n y.4)),.int .u64 (aD s.3 (bF n y.4)),.bool (bW s.3 (bF n y.4))]),some (.ints (some .u64) s.3),some (.ints (some .i64) R),some (.cells [.int .i64 t,.int .i64 n,.slice 8 0 (List.length (cF (aS y.3 n y.4 s) y.2)) 1,.slice 9 0 (List.length (aU (aS y.3 n y.4 s) y.2)) 1,.slice 6 0 (List.length y.2) 1,.map 7,.int .i64 (y.4+1),.ptr 10 0]),some (.ints (some .i64) y.2),some (.imap .i64 none (aS y.3 n y.4 s)),some (.ints (some .i64) (cF (aS y.3 n y.4 s) y.2)),some (.ints (some .i64) (aU (aS y.3 n y.4 s) y.2)),some (.cells [.int .i64 t,.int .i64 n,.slice 11 0 (List.length (aU (aS y.3 n y.4 s) y.2)) 1]),some (.ints (some .i64) (aU (aS y.3 n y.4 s) y.2))]else K (.bool false) [some (.cells [.ptr 1 0,.ptr 5 0]),some (.cells [.int .i64 t,.int .i64 n,.int .i64 me,.int .i64 sp,.slice 4 0 (List.length R) 1]),some (.cells [.int .i64 s.1,.int .i64 s.2,.slice 3 0 (List.length s.3) 1,.int .i64 (s.4+1),.int .i64 1,.int .i64 (bF n y.4),.int .u64 (aD s.3 (bF n y.4)),.int .u64 (aD s.3 (bF n y.4)),.bool (bW s.3 (bF n y.4))]),some (.ints (some .u64) s.3),some (.ints (some .i64) R),some (.cells [.int .i64 t,.int .i64 n,.slice 8 0 (List.length (cF (aS y.3 n y.4 s) y.2)) 1,.slice 9 0 (List.length (aU (aS y.3 n y.4 s) y.2)) 1,.slice 6 0 (List.length y.2) 1,.map 7,.int .i64 (y.4+1),.ptr 10 0]),some (.ints (some .i64) y.2),some (.imap .i64 none (aS y.3 n y.4 s)),some (.ints (some .i64) (cF (aS y.3 n y.4 s) y.2)),some (.ints (some .i64) (aU (aS y.3 n y.4 s) y.2)),some (.cells [.int .i64 t,.int .i64 n,.slice 11 0 (List.length (aU (aS y.3 n y.4 s) y.2)) 1]),some (.ints (some .i64) (aU (aS y.3 n y.4 s) y.2))]else K (.bool false) [some (.cells [.ptr 1 0,.ptr 5 0]),some (.cells [.int .i64 t,.int .i64 n,.int .i64 me,.int .i64 sp,.slice 4 0 (List.length R) 1]),some (.cells [.int .i64 s.1,.int .i64 s.2,.slice 3 0 (List.length s.3) 1,.int .i64 (s.4+1),.int .i64 1,.int .i64 (bF n y.4),.int .u64 (aD s.3 (bF n y.4)),.int .u64 (aD s.3 (bF n y.4)),.bool (bW s.3 (bF n y.4))]),some (.ints (some .u64) s.3),some (.ints (some .i64) R),some (.cells [.int .i64 t,.int .i64 n,.raw (Value.slice none 0 0),.raw (Value.slice none 0 0),.slice 6 0 (List.length y.2) 1,.map 7,.int .i64 (y.4+1),.raw (Value.pointer none)]),some (.ints (some .i64) y.2),some (.imap .i64 none (aS y.3 n y.4 s))]
theorem T3(t n me sp:Int)(R:List Int)(y:SWS)(s:MS)(K:AVal→aB Ob→Prop)(hK:IP t n me sp R y s K):cT' 195 [.ptr 0 0,.ptr 2 0] [some (.cells [.ptr 1 0,.ptr 5 0]),some (.cells [.int .i64 t,.int .i64 n,.int .i64 me,.int .i64 sp,.slice 4 0 R.length 1]),bH 3 s,bI s,some (.ints (some .i64) R),some (.cells [.int .i64 t,.int .i64 n,.raw (.slice none 0 0),.raw (.slice none 0 0),.slice 6 0 y.N.length 1,.map 7,.int .i64 y.i,.raw (.pointer none)]),some (.ints (some .i64) y.N),some (.imap .i64 none y.m)] K:=
 (jJ mB) _ _ _ (Ev.get (aR (p:=mW swStepS [.ptr 0 0,.ptr 2 0] [some (.cells [.ptr 1 0,.ptr 5 0]),some (.cells [.int .i64 t,.int .i64 n,.int .i64 me,.int .i64 sp,.slice 4 0 R.length 1]),bH 3 s,bI s,some (.ints (some .i64) R),some (.cells [.int .i64 t,.int .i64 n,.raw (.slice none 0 0),.raw (.slice none 0 0),.slice 6 0 y.N.length 1,.map 7,.int .i64 y.i,.raw (.pointer none)]),some (.ints (some .i64) y.N),some (.imap .i64 none y.m)] K) (q:=IP t n me sp R y s K) (by kernel_rfl) hK))
def IQ(t n me sp:Int)(R:List Int)(y:SWS)(s:MS)(K:AVal→aB Ob→Prop):Prop:=((lE' s.3∧lE' R∧lE' y.5∧lE' y.6∧lE' y.2∧t=t∧n=n∧t=t∧n=n)∧((1:Int)≤t∧t≤(1000:Int))∧((1:Int)≤n∧n≤(1000:Int))∧((0:Int)≤s.4∧s.4≤(1000000:Int))∧2*t≤y.4∧((1:Nat)≤y.9∧List.length y.7=y.8+y.9)∧(-1000000:Int)≤List.getD y.7 (y.8+Int.toNat 0*1) 0∧List.getD y.7 (y.8+Int.toNat 0*1) (0:Int)≤(1000000:Int))∧bif ieq (↑(y.9 - 1):Int) 0 then K (.bool true) [some (.cells [.ptr 1 0,.ptr 5 0]),some (.cells [.int .i64 t,.int .i64 n,.int .i64 me,.int .i64 sp,.slice 6 0 (List.length y.5) 1]),some (.cells [.int .i64 s.1,.int .i64 s.2,.slice 3 0 (List.length (aZ s.3 (bJ n y.7 y.8) (WU (aD s.3 (bJ n y.7 y.8)+1)))) 1,.int .i64 (s.4+1),.int .i64 4,.int .i64 (bJ n y.7 y.8),.int .u64 (aD s.3 (bJ n y.7 y.8)),.int .u64 (bif bW s.3 (bJ n y.7 y.8)then WU (aD s.3 (bJ n y.7 y.8)+1)else 0),.bool (bW s.3 (bJ n y.7 y.8))]),some (.ints (some .u64) (aZ s.3 (bJ n y.7 y.8) (WU (aD s.3 (bJ n y.7 y.8)+1)))),some (.ints (some .i64) R),some (.cells [.int .i64 t,.int .i64 n,.slice 6 0 (List.length y.5) 1,.slice 7 0 (List.length y.6) 1,.slice 8 0 (List.length y.2) 1,.map 9,.int .i64 y.4,.ptr 10 0]),some (.ints (some .i64) y.5),some (.ints (some .i64) y.6),some (.ints (some .i64) y.2),some (.imap .i64 none y.3),some (.cells [.int .i64 t,.int .i64 n,.slice 11 (y.8+1) (y.9 - 1) 1]),some (.ints (some .i64) y.7)]else K (.bool false) [some (.cells [.ptr 1 0,.ptr 5 0]),some (.cells [.int .i64 t,.int .i64 n,.int .i64 me,.int .i64 sp,.slice 4 0 (List.length R) 1]),some (.cells [.int .i64 s.1,.int .i64 s.2,.slice 3 0 (List.length (aZ s.3 (bJ n y.7 y.8) (WU (aD s.3 (bJ n y.7 y.8)+1)))) 1,.int .i64 (s.4+1),.int .i64 4,.int .i64 (bJ n y.7 y.8),.int .u64 (aD s.3 (bJ n y.7 y.8)),.int .u64 (bif bW s.3 (bJ n y.7 y.8)then WU (aD s.3 (bJ n y.7 y.8)+1)else 0),.bool (bW s.3 (bJ n y.7 y.8))]),some (.ints (some .u64) (aZ s.3 (bJ n y.7 y.8) (WU (aD s.3 (bJ n y.7 y.8)+1)))),some (.ints (some .i64) R),some (.cells [.int .i64 t,.int .i64 n,.slice 6 0 (List.length y.5) 1,.slice 7 0 (List.length y.6) 1,.slice 8 0 (List.length y.2) 1,.map 9,.int .i64 y.4,.ptr 10 0]),some (.ints (some .i64) y.5),some (.ints (some .i64) y.6),some (.ints (some .i64) y.2),some (.imap .i64 none y.3),some (.cells [.int .i64 t,.int .i64 n,.slice 11 (y.8+1) (y.9 - 1) 1]),some (.ints (some .i64) y.7)]
theorem T4(t n me sp:Int)(R:List Int)(y:SWS)(s:MS)(K:AVal→aB Ob→Prop)(hK:IQ t n me sp R y s K):cT' 195 [.ptr 0 0,.ptr 2 0] [some (.cells [.ptr 1 0,.ptr 5 0]),some (.cells [.int .i64 t,.int .i64 n,.int .i64 me,.int .i64 sp,.slice 4 0 R.length 1]),bH 3 s,bI s,some (.ints (some .i64) R),some (.cells [.int .i64 t,.int .i64 n,.slice 6 0 y.ks.length 1,.slice 7 0 y.fs.length 1,.slice 8 0 y.N.length 1,.map 9,.int .i64 y.i,.ptr 10 0]),some (.ints (some .i64) y.ks),some (.ints (some .i64) y.fs),some (.ints (some .i64) y.N),some (.imap .i64 none y.m),some (.cells [.int .i64 t,.int .i64 n,.slice 11 y.j y.l 1]),some (.ints (some .i64) y.gs)] K:=
 (jJ mB) _ _ _ (Ev.get (aR (p:=mW swStepS [.ptr 0 0,.ptr 2 0] [some (.cells [.ptr 1 0,.ptr 5 0]),some (.cells [.int .i64 t,.int .i64 n,.int .i64 me,.int .i64 sp,.slice 4 0 R.length 1]),bH 3 s,bI s,some (.ints (some .i64) R),some (.cells [.int .i64 t,.int .i64 n,.slice 6 0 y.ks.length 1,.slice 7 0 y.fs.length 1,.slice 8 0 y.N.length 1,.map 9,.int .i64 y.i,.ptr 10 0]),some (.ints (some .i64) y.ks),some (.ints (some .i64) y.fs),some (.ints (some .i64) y.N),some (.imap .i64 none y.m),some (.cells [.int .i64 t,.int .i64 n,.slice 11 y.j y.l 1]),some (.ints (some .i64) y.gs)] K) (q:=IQ t n me sp R y s K) (by kernel_rfl) hK))
theorem wc{x y:Option (aI Ob)}{g g2:aB Ob}(h:mP x y)(k:i7 g g2):i7 (x::g) (y::g2):=⟨h,k⟩
theorem wv{v w:AVal}{vs ws:List AVal}(h:w=v∨w=.O)(k:lX vs ws):lX (v::vs) (w::ws):=⟨h,k⟩
theorem T9:lX [] []:=trivial
theorem S2{vs ws:List AVal}(h:lX vs ws):mP (some (.cells vs):Option (aI Ob)) (some (.cells ws)):=h
theorem UR: ∀vs:List AVal,lX vs vs
 | []=>trivial
 | v::vs=>⟨.inl rfl,UR vs⟩
theorem S3: ∀x:Option (aI Ob),mP x x
 | none=>trivial
 | some (.cells vs)=>UR vs
 | some (.ints c xs)=>rfl
 | some (.abs t ps)=>rfl
 | some (.tab ks r)=>rfl
 | some (.imap k v m)=>rfl
 | some (.iter _ _ _ _ _ _)=>rfl
theorem A7: ∀g:aB Ob,i7 g g
 | []=>trivial
 | x::g=>⟨S3 x,A7 g⟩
theorem qF{K:AVal→aB Ob→Prop}{v:AVal}{g:aB Ob}(h:K v g):EB K v g:=⟨g,A7 g,h⟩
theorem xS{K:AVal→aB Ob→Prop}{v a b:AVal}{g:aB Ob}(h:K v (some (.cells [a,.O])::g)):EB K v (some (.cells [a,b])::g):=⟨_,wc (S2 (wv (.inl rfl) (wv (.inr rfl) T9))) (A7 g),h⟩
theorem VP(t n:Int)(y:SWS)(st:STS)(s:MS)(K:AVal→aB Ob→Prop)(hp:y.ph=0)(ok:rR t n y st s)(hK:(swF t n y st s).left t n K):cT' 195 [.ptr 0 0,.ptr 2 0] (Q7 t n y st s) K:=by
 obtain⟨ht,hn,hc,hR,ho⟩:=ok
 obtain⟨ph,N,m,i,ks,fs,gs,j,l⟩:=y
 dsimp only at hp
 subst hp
 obtain⟨me,sp,R⟩:=st
 dsimp only at hR
 refine aC.pack tbl (aC.pack tbl (XG ?_))
 refine aC.unpack tbl (.store t n ⟨me,sp,R⟩) 1 0 (jD t n ⟨me,sp,R⟩) [] rfl rfl rfl rfl ?_
 refine aC.unpack tbl (.sweep t n ⟨0,N,m,i,ks,fs,gs,j,l⟩) 0 1 (IR t n ⟨0,N,m,i,ks,fs,gs,j,l⟩) [1] rfl rfl rfl rfl ?_
 refine T0 t n me sp R ⟨0,N,m,i,ks,fs,gs,j,l⟩ s _ ?_
 unfold IN
 exact⟨⟨⟨rfl,rfl⟩,ht,hn,hc,hR⟩,qF (uD (o:=swF t n ⟨0,N,m,i,ks,fs,gs,j,l⟩ ⟨me,sp,R⟩ s) [0,1,2,3,4,5,6,7] hK rfl rfl)⟩
theorem VQ(t n:Int)(y:SWS)(st:STS)(s:MS)(K:AVal→aB Ob→Prop)(hp:y.ph=1)(ok:rR t n y st s)(hK:(swF t n y st s).left t n K):cT' 195 [.ptr 0 0,.ptr 2 0] (Q7 t n y st s) K:=by
 obtain⟨ht,hn,hc,hR,ho⟩:=ok
 obtain⟨ph,N,m,i,ks,fs,gs,j,l⟩:=y
 dsimp only at hp
 subst hp
 obtain⟨me,sp,R⟩:=st
 dsimp only at hR
 refine aC.pack tbl (aC.pack tbl (XG ?_))
 refine aC.unpack tbl (.store t n ⟨me,sp,R⟩) 1 0 (jD t n ⟨me,sp,R⟩) [] rfl rfl rfl rfl ?_
 refine aC.unpack tbl (.sweep t n ⟨1,N,m,i,ks,fs,gs,j,l⟩) 0 1 (IR t n ⟨1,N,m,i,ks,fs,gs,j,l⟩) [1] rfl rfl rfl rfl ?_
 refine T3 t n me sp R ⟨1,N,m,i,ks,fs,gs,j,l⟩ s _ ?_
 unfold IP
 have ho:N.length≤1000000∧0≤i∧i<2*t:=ho
 refine⟨⟨⟨rfl,rfl,rfl,rfl,rfl⟩,ht,hn,hc,ho.1,ho.2⟩,?_⟩
 unfold swF at hK
 dsimp only at hK⊢
 cases h1:ieq (i+1) (2*t)with
 | false=>
   rw [h1]at hK
   exact qF (uD (o:=⟨false,⟨1,N,aS m n i s,i+1,ks,fs,gs,j,l⟩,⟨me,sp,R⟩,s.loadd (bF n i)⟩) [0,1,2,3,4,5,6,7] hK rfl rfl)
 | true=>
   rw [h1]at hK
   cases h2:ieq ((aU (aS m n i s) N).length :Int) 0 with
   | true=>
     rw [h2]at hK
     exact xS (uD (o:=⟨true,⟨3,N,m,i,ks,fs,gs,j,l⟩,⟨me,sp,cF (aS m n i s) N⟩,s.loadd (bF n i)⟩) [0,1,2,3,8] hK rfl rfl)
   | false=>
     rw [h2]at hK
     exact qF (uD (o:=⟨false,⟨2,N,aS m n i s,i+1,cF (aS m n i s) N,aU (aS m n i s) N,aU (aS m n i s) N,0,(aU (aS m n i s) N).length⟩,⟨me,sp,R⟩,s.loadd (bF n i)⟩) [0,1,2,3,4,5,8,9,6,7,10,11] hK rfl rfl)
theorem VR(t n:Int)(y:SWS)(st:STS)(s:MS)(K:AVal→aB Ob→Prop)(hp:y.ph=2)(ok:rR t n y st s)(hK:(swF t n y st s).left t n K):cT' 195 [.ptr 0 0,.ptr 2 0] (Q7 t n y st s) K:=by
 obtain⟨ht,hn,hc,hR,ho⟩:=ok
 obtain⟨ph,N,m,i,ks,fs,gs,j,l⟩:=y
 dsimp only at hp
 subst hp
 obtain⟨me,sp,R⟩:=st
 dsimp only at hR
 refine aC.pack tbl (aC.pack tbl (XG ?_))
 refine aC.unpack tbl (.store t n ⟨me,sp,R⟩) 1 0 (jD t n ⟨me,sp,R⟩) [] rfl rfl rfl rfl ?_
 refine aC.unpack tbl (.sweep t n ⟨2,N,m,i,ks,fs,gs,j,l⟩) 0 1 (IR t n ⟨2,N,m,i,ks,fs,gs,j,l⟩) [1] rfl rfl rfl rfl ?_
 refine T4 t n me sp R ⟨2,N,m,i,ks,fs,gs,j,l⟩ s _ ?_
 unfold IQ
 have ho:2*t≤i∧1≤l∧gs.length=j+l∧ -1000000≤List.getD gs (j+Int.toNat 0*1) 0∧List.getD gs (j+Int.toNat 0*1) 0≤1000000:=ho
 refine⟨⟨⟨rfl,rfl,rfl,rfl,rfl,rfl,rfl,rfl,rfl⟩,ht,hn,hc,ho.1,⟨ho.2.1,ho.2.2.1⟩,ho.2.2.2⟩,?_⟩
 unfold swF at hK
 dsimp only at hK⊢
 cases h1:ieq ((l - 1:Nat):Int) 0 with
 | false=>
   rw [h1]at hK
   exact qF (uD (o:=⟨false,⟨2,N,m,i,ks,fs,gs,j+1,l - 1⟩,⟨me,sp,R⟩,s.added (bJ n gs j) 1⟩) [0,1,2,3,4,5,6,7,8,9,10,11] hK rfl rfl)
 | true=>
   rw [h1]at hK
   exact xS (uD (o:=⟨true,⟨3,N,m,i,ks,fs,gs,j,l⟩,⟨me,sp,ks⟩,s.added (bJ n gs j) 1⟩) [0,1,2,3,6] hK rfl rfl)
theorem L8(t n:Int)(y:SWS)(st:STS)(s:MS)(K:AVal→aB Ob→Prop)(ok:rR t n y st s)(hK:(swF t n y st s).left t n K):cT' 195 [.ptr 0 0,.ptr 2 0] (Q7 t n y st s) K:=by
 match h:y.ph with
 | 0=>exact VP t n y st s K h ok hK
 | 1=>exact VQ t n y st s K h ok hK
 | 2=>exact VR t n y st s K h ok hK
 | k+3=>have:=ok.ho;unfold NM at this;rw [h]at this;exact this.elim
theorem uB{I:Itp Ob}{n:Nat}{K:AVal→aB Ob→Prop}{d:Bool}{a b g:aB Ob}(hK:(Out.ite d (.ret (.bool true) a) (.ret (.bool false) b)).run K)(h1:K (.bool true) a→gM I n K (.bool true) g)(h2:d=false→K (.bool false) b→gM I n K (.bool false) g):gM I n K (.bool d) g:=by
 cases d with
 | true=>exact h1 hK
 | false=>exact h2 rfl hK
abbrev stC(l:Nat)(t n:Int)(st:STS):Option (aI Mc):=some (.cells [.int .i64 t,.int .i64 n,.int .i64 st.me,.int .i64 st.sp,.slice l 0 st.R.length 1])
abbrev mF(st:STS):Option (aI Mc):=some (.ints (some .i64) st.R)
def sJ(w:Nat)(h:aB Ob):Option (Nat×Int×Int×STS):=match h with
 | [some (.cells [.int .i64 t,.int .i64 n,.int .i64 me,.int .i64 sp,.slice l 0 len 1]),some (.ints (some .i64) xs)]=>if l=w then some (len,t,n,⟨me,sp,xs⟩)else none
 | _=>none
theorem dF{w:Nat}{h:aB Ob}{l:Nat}{t n:Int}{st:STS}(e:sJ w h=some (l,t,n,st))(hl:l=st.R.length):h=[stC w t n st,mF st]:=by
 unfold sJ at e
 split at e
 ·split at e
  ·rename_i hw
   simp only [sI',pI']at e
   obtain⟨rfl,rfl,rfl,rfl⟩:=e
   subst hw
   simp only at hl;subst hl;rfl
  ·cases e
 ·cases e
theorem mA{f:FuncId}{t n:Int}{st st':STS}{s s':MS}{M:Mc}{e1 e2:aI Mc}{d:Bool}(h1: ∀ι:Nat→Nat,ι 1=1→e1.ren ι=e1)(h2: ∀ι:Nat→Nat,ι 1=1→e2.ren ι=e2)
 (hA: ∀K,(Out.ite d (.ret (.bool true) [some e1,some (.abs (.store t n st') []),bH 3 s',bI s']) (.ret (.bool false) [some e2,some (.abs (.store t n st') []),bH 3 s',bI s'])).run K→cT' f [.ptr 0 0,.ptr 2 0] [some (.abs M [1]),some (.abs (.store t n st) []),bH 3 s,bI s] K)
 (K:AVal→aB Ob→Prop) (hK:(Out.ite d (.ret (.bool true) [some e1,stC 5 t n st',none,bH 4 s',bI s',mF st']) (.ret (.bool false) [some e2,stC 5 t n st',none,bH 4 s',bI s',mF st'])).run K):
 cT' f [.ptr 0 0,.ptr 3 0] [some (.abs M [1]),stC 2 t n st,mF st,bH 4 s,bI s] K:=by
 refine W5 ?_
 refine XL (h0:=[some (.abs M [1]),stC 4 t n st,bH 3 s,bI s,mF st]) (args0:=[.ptr 0 0,.ptr 2 0]) (K0:=fun v g=>gM (obI tbl) 5 K (v.ren (iota [0,1,3,4,2] 5)) (mJ [some (.abs M [1]),stC 2 t n st,mF st,bH 4 s,bI s] [0,1,3,4,2] g)) ?_ [0,1,3,4,2] rfl (by decide) (by intro l hl;simp at hl⊢;omega) ?_ rfl (fun v g hk _=>hk)
 ·refine XH tbl [some (.abs M [1]),some (.abs (.store t n st) []),bH 3 s,bI s] (.store t n st) 1 0 (jD t n st) [] (by kernel_rfl) rfl rfl (by kernel_rfl) (hA _ ?_)
  have i1:farI 4 1 1=1:=rfl
  have i2:iota [0,1,3,4,2] 5 1=1:=rfl
  cases d with
  | true=>
    have q1:((e1.ren (farI 4 1)).ren (iota [0,1,3,4,2] 5))=e1:=by rw [h1 _ i1,h1 _ i2]
    refine⟨_,_,aQ.trans (WJ (g2:=[some e1,some (.abs (.store t n st') []),none,bH 4 s',bI s']) (by kernel_rfl) ?_) (aQ.unpack (.store t n st') 1 0 (jD t n st') [] rfl rfl rfl rfl),hK⟩
    show [some ((e1.ren (farI 4 1)).ren (iota [0,1,3,4,2] 5)),_,_,_,_]=_
    rw [q1];rfl
  | false=>
    have q2:((e2.ren (farI 4 1)).ren (iota [0,1,3,4,2] 5))=e2:=by rw [h2 _ i1,h2 _ i2]
    refine⟨_,_,aQ.trans (WJ (g2:=[some e2,some (.abs (.store t n st') []),none,bH 4 s',bI s']) (by kernel_rfl) ?_) (aQ.unpack (.store t n st') 1 0 (jD t n st') [] rfl rfl rfl rfl),hK⟩
    show [some ((e2.ren (farI 4 1)).ren (iota [0,1,3,4,2] 5)),_,_,_,_]=_
    rw [q2];rfl
 ·intro i l hi
  match i,hi with
  | 0,hi=>cases hi;rfl
  | 1,hi=>cases hi;rfl
  | 2,hi=>cases hi;rfl
  | 3,hi=>cases hi;rfl
  | 4,hi=>cases hi;rfl
  | _+5,hi=>cases hi
def bL(kd:Int):Bool:=ieq kd 1||ieq kd 4
def mK(sh kd:Int):Bool:=ieq kd 5&&ieq sh 4
def eV(ky curr cw:Int):Bool:=bif ieq curr 0 then false else ieq (aA cw 0 10) ky
def cR(sh ky:Int):Int:=bif ieq sh 2 then ky%4 else 0
def fA(sh kd ky:Int):Int:=bif ieq sh 2 then ky else bif ieq sh 1 then ky else bif ieq sh 3 then(bif bL kd then 1024 else -1)else -1
def G7:bE Ob:=fun args h=>match args,h with
 | [.agg [.int .i64 t,.int .i64 n],.int .i64 a],[]=>some ((0≤n∧n≤100000)∧(-1000000≤a∧a≤1000000),.int .i64 (n+1+a))
 | _,_=>none
theorem K7:sT' 65 G7.spec:=by
 intro args h o ho K hK
 unfold bE.spec G7 at ho
 split at ho
 case h_2=>cases ho
 rename_i p v hp
 split at hp
 case h_2=>cases hp
 rename_i t n a
 simp only [sI',pI']at hp
 obtain⟨rfl,rfl⟩:=hp
 simp only [sI']at ho;subst ho
 obtain⟨hp,hK⟩:=hK
 have hK:K (.int .i64 (n+1+a)) []:=hK
 refine VV (cM' (E:=enE) (q:=K (.int .i64 (W (W (1+n)+a))) []) (by kernel_rfl) ?_)
 simp(disch:=omega) only [W,cO]
 refine cast (congrArg (fun z=>K (AVal.int .i64 z) []) ?_) hK
 omega
def A6:bE Ob:=fun args h=>match args,h with
 | [.agg [.int .i64 k,.int .i64 y,.bool m,.int .i64 c,.int .i64 v]],[]=>some (0≤v∧v≤1000000,.agg [.int .i64 k,.int .i64 y,.bool m,.int .i64 0,.int .i64 (aM v)])
 | _,_=>none
theorem I2:sT' 165 A6.spec:=by
 intro args h o ho K hK
 unfold bE.spec A6 at ho
 split at ho
 case h_2=>cases ho
 rename_i p v hp
 split at hp
 case h_2=>cases hp
 rename_i k y m c v
 simp only [sI',pI']at hp
 obtain⟨rfl,rfl⟩:=hp
 simp only [sI']at ho;subst ho
 obtain⟨hp,hK⟩:=hK
 have hK:K (.agg [.int .i64 k,.int .i64 y,.bool m,.int .i64 0,.int .i64 (aM v)]) []:=hK
 refine VV (cM' (E:=enE) (q:=K (.agg [.int .i64 k,.int .i64 y,.bool m,.int .i64 0,.int .i64 (W (↑(BitVec.toNat (BitVec.ofInt (IntKind.bits .i64) (W (v+1))&&&BitVec.ofInt (IntKind.bits .i64) 262143)):Int))]) []) (by kernel_rfl) ?_)
 refine cast (congrArg (fun z=>K (.agg [.int .i64 k,.int .i64 y,.bool m,.int .i64 0,.int .i64 z]) []) ?_) hK
 show aM v=_
 have hb:IntKind.bits .i64 =64:=rfl
 simp only [W]
 rw [hb,cO (x:=v+1) (by omega)]
 have:=kW (n:=64) (w:=18) (v+1) (by omega)
 have e:(2:Int)^18 - 1=262143:=by decide
 rw [e]at this
 rw [this]
 have e2:(2:Int)^18=262144:=by decide
 rw [e2,cO (by omega)]
 rfl
def vW:bE Ob:=fun args h=>match args,h with
 | [.agg [.int .i64 k,.int .i64 y,.bool m,.int .i64 c,.int .i64 v],.int .i64 b,.int .i64 x,.bool q],[]=>some (-1000000≤b∧b≤1000000,.agg [.int .i64 k,.int .i64 x,.bool q,.int .i64 (b+1),.int .i64 v])
 | _,_=>none
theorem D8:sT' 168 vW.spec:=by
 intro args h o ho K hK
 unfold bE.spec vW at ho
 split at ho
 case h_2=>cases ho
 rename_i p v hp
 split at hp
 case h_2=>cases hp
 rename_i k y m c v b x q
 simp only [sI',pI']at hp
 obtain⟨rfl,rfl⟩:=hp
 simp only [sI']at ho;subst ho
 obtain⟨hp,hK⟩:=hK
 have hK:K (.agg [.int .i64 k,.int .i64 x,.bool q,.int .i64 (b+1),.int .i64 v]) []:=hK
 refine VV (cM' (E:=enE) (q:=K (.agg [.int .i64 k,.int .i64 x,.bool q,.int .i64 (W (b+1)),.int .i64 v]) []) (by kernel_rfl) ?_)
 rw [dW (by omega)]
 exact hK
def vQ:bE Ob:=fun args h=>match args,h with
 | [.agg [.int .i64 sh,.int .i64 kd,.int .i64 ky]],[]=>some (True,.bool (bL kd))
 | _,_=>none
theorem D5:sT' 84 vQ.spec:=by
 intro args h o ho K hK
 unfold bE.spec vQ at ho
 split at ho
 case h_2=>cases ho
 rename_i p v hp
 split at hp
 case h_2=>cases hp
 rename_i sh kd ky
 simp only [sI',pI']at hp
 obtain⟨rfl,rfl⟩:=hp
 simp only [sI']at ho;subst ho
 obtain⟨hp,hK⟩:=hK
 have hK:K (.bool (bL kd)) []:=hK
 refine VV (cM' (E:=enE) (q:=bif ieq kd 1 then K (.bool true) []else K (.bool (ieq kd 4)) []) (by kernel_rfl) ?_)
 unfold bL at hK
 cases h:ieq kd 1<;>rw [h]at hK<;>exact hK
def AX:bE Ob:=fun args h=>match args,h with
 | [.agg [.int .i64 sh,.int .i64 kd,.int .i64 ky]],[]=>some (True,.bool (mK sh kd))
 | _,_=>none
theorem IX:sT' 212 AX.spec:=by
 intro args h o ho K hK
 unfold bE.spec AX at ho
 split at ho
 case h_2=>cases ho
 rename_i p v hp
 split at hp
 case h_2=>cases hp
 rename_i sh kd ky
 simp only [sI',pI']at hp
 obtain⟨rfl,rfl⟩:=hp
 simp only [sI']at ho;subst ho
 obtain⟨hp,hK⟩:=hK
 have hK:K (.bool (mK sh kd)) []:=hK
 refine VV (cM' (E:=enE) (q:=bif ieq kd 5 then K (.bool (ieq sh 4)) []else K (.bool false) []) (by kernel_rfl) ?_)
 unfold mK at hK
 cases h:ieq kd 5<;>rw [h]at hK<;>exact hK
noncomputable def hasCS:aL Ob:=cU [(.slot 0,.ints (some .i64))] zY.spec
theorem K5:sT' 124 hasCS:=cD G6
noncomputable def EB0:=((((((enE.addS 124 hasCS K5).addR 65 G7 K7).addR 165 A6 I2).addR 168 vW D8).addR 84 vQ D5).addR 212 AX IX)
def isS:aL Ob:=fun args h=>match args,h with
 | [.agg [.int .i64 a,.int .i64 b,.int .i64 c,.int .i64 d,.bool m,.int .i64 e,.int .i64 f],.slice 0 0 1 1],[some (.cells [.int .i64 s])]=>some (.ret (.bool (hasB [s] e)) [some (.ints (some .i64) [s])])
 | _,_=>none
theorem SG:sT' 172 isS:=by
 intro args h o ho K hK
 unfold isS at ho
 split at ho<;>cases ho
 rename_i a b c d m e f s
 have hK:K (.bool (hasB [s] e)) [some (.ints (some .i64) [s])]:=hK
 refine VV (cM' (E:=EB0) (q:=(1=1∧(1:Nat)≤(4294967296:Nat))∧K (.bool (hasB [s] e)) [some (.ints (some .i64) [s])]) (by kernel_rfl) ?_)
 exact⟨⟨rfl,by omega⟩,hK⟩
noncomputable def EB0b:=EB0.addS 172 isS SG
def FI:bE Ob:=fun args h=>match args,h with
 | [.int .u64 x],[]=>some (True,.int .i64 (aA x 20 5 - 1))
 | _,_=>none
theorem JN:sT' 161 FI.spec:=by
 intro args h o ho K hK
 unfold bE.spec FI at ho
 split at ho
 case h_2=>cases ho
 rename_i p v hp
 split at hp
 case h_2=>cases hp
 rename_i x
 simp only [sI',pI']at hp
 obtain⟨rfl,rfl⟩:=hp
 simp only [sI']at ho;subst ho
 obtain⟨hp,hK⟩:=hK
 have hK:K (.int .i64 (aA x 20 5 - 1)) []:=hK
 refine VV (cM' (E:=EB0b) (q:=True∧K (.int .i64 (W (aA x 20 5 - 1))) []) (by kernel_rfl) ?_)
 have hb:0≤aA x 20 5∧aA x 20 5<32:=by
  unfold aA
  have e:(2:Int)^(5:Int).toNat =32:=by decide
  rw [e]
  exact⟨Int.emod_nonneg _ (by decide),Int.emod_lt_of_pos _ (by decide)⟩
 have e1:W (aA x 20 5 - 1)=aA x 20 5 - 1:=cO (by omega)
 rw [e1]
 exact⟨trivial,hK⟩
def zK:bE Ob:=fun args h=>match args,h with
 | [.agg [.int .i64 a,.int .i64 b,.int .i64 c,.int .i64 d,.bool m,.int .i64 e,.int .i64 f],.int .i64 g],[]=>some (True,.agg [.int .i64 a,.int .i64 b,.int .i64 c,.int .i64 d,.bool m,.int .i64 g,.int .i64 f])
 | _,_=>none
theorem FV:sT' 163 zK.spec:=by
 intro args h o ho K hK
 unfold bE.spec zK at ho
 split at ho
 case h_2=>cases ho
 rename_i p v hp
 split at hp
 case h_2=>cases hp
 rename_i a b c d m e f g
 simp only [sI',pI']at hp
 obtain⟨rfl,rfl⟩:=hp
 simp only [sI']at ho;subst ho
 obtain⟨hp,hK⟩:=hK
 have hK:K (.agg [.int .i64 a,.int .i64 b,.int .i64 c,.int .i64 d,.bool m,.int .i64 g,.int .i64 f]) []:=hK
 refine VV (cM' (E:=EB0b) (q:=K (.agg [.int .i64 a,.int .i64 b,.int .i64 c,.int .i64 d,.bool m,.int .i64 g,.int .i64 f]) []) (by kernel_rfl) ?_)
 exact hK
noncomputable def EB0c:=(EB0b.addR 161 FI JN).addR 163 zK FV
def vT:bE Ob:=fun args h=>match args,h with
 | [.agg [.int .i64 sh,.int .i64 kd,.int .i64 ky]],[]=>some (True,.agg [.int .i64 (cR sh ky),.int .i64 (fA sh kd ky)])
 | _,_=>none
theorem D7:sT' 131 vT.spec:=by
 intro args h o ho K hK
 unfold bE.spec vT at ho
 split at ho
 case h_2=>cases ho
 rename_i p v hp
 split at hp
 case h_2=>cases hp
 rename_i sh kd ky
 simp only [sI',pI']at hp
 obtain⟨rfl,rfl⟩:=hp
 simp only [sI']at ho;subst ho
 obtain⟨hp,hK⟩:=hK
 have hK:K (.agg [.int .i64 (cR sh ky),.int .i64 (fA sh kd ky)]) []:=hK
 refine VV (cM' (E:=EB0c) (q:=bif ieq sh 2 then K (.agg [.int .i64 (W (↑(BitVec.toNat (BitVec.ofInt (IntKind.bits .i64) ky&&&BitVec.ofInt (IntKind.bits .i64) 3)):Int)),.int .i64 ky]) []else bif ieq sh 1 then K (.agg [.int .i64 0,.int .i64 ky]) []else bif ieq sh 2 then K (.agg [.int .i64 0,.int .i64 ky]) []else bif ieq sh 3 then True∧bif bL kd then K (.agg [.int .i64 0,.int .i64 1024]) []else K (.agg [.int .i64 0,.int .i64 (-1:Int)]) []else K (.agg [.int .i64 0,.int .i64 (-1:Int)]) []) (by kernel_rfl) ?_)
 have e4:W (((BitVec.ofInt (IntKind.bits .i64) ky&&&BitVec.ofInt (IntKind.bits .i64) 3).toNat :Nat):Int)=ky%4:=by
  have hb:IntKind.bits .i64 =64:=rfl
  rw [hb]
  have:=kW (n:=64) (w:=2) ky (by omega)
  have e:(2:Int)^2 - 1=3:=by decide
  rw [e]at this
  rw [this]
  have e2:(2:Int)^2=4:=by decide
  rw [e2]
  exact cO (by omega)
 unfold cR fA at hK
 refine aF (fun e=>?_) (fun e=>aF (fun e1=>?_) (fun e1=>aF (fun e2=>?_) (fun e2=>aF (fun e3=>⟨trivial,aF (fun e5=>?_) (fun e5=>?_)⟩) (fun e3=>?_))))
 ·rw [e]at hK;rw [e4];exact hK
 ·rw [e,e1]at hK;exact hK
 ·rw [e]at e2;cases e2
 ·rw [e,e1,e3,e5]at hK;exact hK
 ·rw [e,e1,e3,e5]at hK;exact hK
 ·rw [e,e1,e3]at hK;exact hK
def vF:bE Ob:=fun args h=>match args,h with
 | [.agg [.int .i64 sh,.int .i64 kd,.int .i64 ky,.int .i64 pred,.int .u64 pw,.int .i64 curr,.int .u64 cw]],[]=>some (True,.bool (eV ky curr cw))
 | _,_=>none
theorem DK:sT' 200 vF.spec:=by
 intro args h o ho K hK
 unfold bE.spec vF at ho
 split at ho
 case h_2=>cases ho
 rename_i p v hp
 split at hp
 case h_2=>cases hp
 rename_i sh kd ky pred pw curr cw
 simp only [sI',pI']at hp
 obtain⟨rfl,rfl⟩:=hp
 simp only [sI']at ho;subst ho
 obtain⟨hp,hK⟩:=hK
 have hK:K (.bool (eV ky curr cw)) []:=hK
 refine VV (cM' (E:=EB0c) (q:=bif !ieq curr 0 then True∧K (.bool (ieq (aA cw 0 10) ky)) []else K (.bool false) []) (by kernel_rfl) ?_)
 unfold eV at hK
 cases h:ieq curr 0 with
 | true=>rw [h]at hK;exact hK
 | false=>rw [h]at hK;exact⟨trivial,hK⟩
noncomputable def EB1:=(EB0c.addR 131 vT D7).addR 200 vF DK
def NN(v:AVal)(g:aB Ob):Option (Prop×PLN):=match v,g with
 | .agg [.bool now,.int .i64 code,.bool okk,.int .i64 val,.int .i64 addr,.int .u64 old,.int .i64 nxt,.bool mark,.int .i64 pops],[]=>some (True,⟨now,code,okk,val,addr,old,nxt,mark,pops⟩)
 | _,_=>none
def x6(y:PLN):AVal:=.agg [.bool y.now,.int .i64 y.code,.bool y.okk,.int .i64 y.val,.int .i64 y.addr,.int .u64 y.old,.int .i64 y.nxt,.bool y.mark,.int .i64 y.pops]
theorem H4:dB (obI tbl) 0 NN (fun y=>.ret (x6 y) []):=by
 intro v g p x hp hq K hK
 unfold NN at hp
 split at hp
 case h_2=>cases hp
 simp only [sI',pI']at hp
 obtain⟨rfl,rfl⟩:=hp
 exact⟨⟨_,_,WV _ _ _,hK⟩⟩
def oE(sh kd ky pred pw curr cw spare:Int):Tr (PLN):=.pre True (.ite (!bT sh kd ky) (.pre True (.ret {now:=true,code:=1,okk:=false,val:=0,addr:=0,old:=0,nxt:=0,mark:=false,pops:=0})) (.ite (ieq kd 4) (.ite (ieq kd 4) (.pre True (.pre True (.ret {now:=false,code:=0,okk:=true,val:=0,addr:=pred,old:=pw,nxt:=spare,mark:=ieq (aA pw 19 1) 1,pops:=0}))) (.ite (ieq kd 2) (.pre True (.ite (eV ky curr cw) (.pre True (.pre True (.ret {now:=false,code:=0,okk:=true,val:=0,addr:=curr,old:=cw,nxt:=aA cw 10 9,mark:=true,pops:=0}))) (.ite (ieq kd 5) (.ite (ieq curr 0) (.pre True (.ret {now:=true,code:=0,okk:=false,val:=0,addr:=0,old:=0,nxt:=0,mark:=false,pops:=0})) (.pre True (.pre True (.ite (mK sh kd) (.pre True (.pre True (.pre True (.ret {now:=false,code:=0,okk:=true,val:=aA cw 0 10,addr:=pred,old:=pw,nxt:=aA cw 10 9,mark:=ieq (aA pw 19 1) 1,pops:=curr})))) (.pre True (.pre True (.ret {now:=false,code:=0,okk:=true,val:=aA cw 0 10,addr:=curr,old:=cw,nxt:=aA cw 10 9,mark:=true,pops:=0}))))))) (.ite (ieq kd 3) (.pre True (.pre True (.ret {now:=true,code:=0,okk:=eV ky curr cw,val:=0,addr:=0,old:=0,nxt:=0,mark:=false,pops:=0}))) (.pre True (.ret {now:=true,code:=0,okk:=false,val:=0,addr:=0,old:=0,nxt:=0,mark:=false,pops:=0})))))) (.ite (ieq kd 5) (.ite (ieq curr 0) (.pre True (.ret {now:=true,code:=0,okk:=false,val:=0,addr:=0,old:=0,nxt:=0,mark:=false,pops:=0})) (.pre True (.pre True (.ite (mK sh kd) (.pre True (.pre True (.pre True (.ret {now:=false,code:=0,okk:=true,val:=aA cw 0 10,addr:=pred,old:=pw,nxt:=aA cw 10 9,mark:=ieq (aA pw 19 1) 1,pops:=curr})))) (.pre True (.pre True (.ret {now:=false,code:=0,okk:=true,val:=aA cw 0 10,addr:=curr,old:=cw,nxt:=aA cw 10 9,mark:=true,pops:=0}))))))) (.ite (ieq kd 3) (.pre True (.pre True (.ret {now:=true,code:=0,okk:=eV ky curr cw,val:=0,addr:=0,old:=0,nxt:=0,mark:=false,pops:=0}))) (.pre True (.ret {now:=true,code:=0,okk:=false,val:=0,addr:=0,old:=0,nxt:=0,mark:=false,pops:=0})))))) (.ite (ieq kd 1) (.pre True (.ite (!eV ky curr cw) (.pre True (.pre True (.ret {now:=false,code:=0,okk:=true,val:=0,addr:=pred,old:=pw,nxt:=spare,mark:=ieq (aA pw 19 1) 1,pops:=0}))) (.ite (ieq kd 2) (.pre True (.ite (eV ky curr cw) (.pre True (.pre True (.ret {now:=false,code:=0,okk:=true,val:=0,addr:=curr,old:=cw,nxt:=aA cw 10 9,mark:=true,pops:=0}))) (.ite (ieq kd 5) (.ite (ieq curr 0) (.pre True (.ret {now:=true,code:=0,okk:=false,val:=0,addr:=0,old:=0,nxt:=0,mark:=false,pops:=0})) (.pre True (.pre True (.ite (mK sh kd) (.pre True (.pre True (.pre True (.ret {now:=false,code:=0,okk:=true,val:=aA cw 0 10,addr:=pred,old:=pw,nxt:=aA cw 10 9,mark:=ieq (aA pw 19 1) 1,pops:=curr})))) (.pre True (.pre True (.ret {now:=false,code:=0,okk:=true,val:=aA cw 0 10,addr:=curr,old:=cw,nxt:=aA cw 10 9,mark:=true,pops:=0}))))))) (.ite (ieq kd 3) (.pre True (.pre True (.ret {now:=true,code:=0,okk:=eV ky curr cw,val:=0,addr:=0,old:=0,nxt:=0,mark:=false,pops:=0}))) (.pre True (.ret {now:=true,code:=0,okk:=false,val:=0,addr:=0,old:=0,nxt:=0,mark:=false,pops:=0})))))) (.ite (ieq kd 5) (.ite (ieq curr 0) (.pre True (.ret {now:=true,code:=0,okk:=false,val:=0,addr:=0,old:=0,nxt:=0,mark:=false,pops:=0})) (.pre True (.pre True (.ite (mK sh kd) (.pre True (.pre True (.pre True (.ret {now:=false,code:=0,okk:=true,val:=aA cw 0 10,addr:=pred,old:=pw,nxt:=aA cw 10 9,mark:=ieq (aA pw 19 1) 1,pops:=curr})))) (.pre True (.pre True (.ret {now:=false,code:=0,okk:=true,val:=aA cw 0 10,addr:=curr,old:=cw,nxt:=aA cw 10 9,mark:=true,pops:=0}))))))) (.ite (ieq kd 3) (.pre True (.pre True (.ret {now:=true,code:=0,okk:=eV ky curr cw,val:=0,addr:=0,old:=0,nxt:=0,mark:=false,pops:=0}))) (.pre True (.ret {now:=true,code:=0,okk:=false,val:=0,addr:=0,old:=0,nxt:=0,mark:=false,pops:=0}))))))) (.ite (ieq kd 2) (.pre True (.ite (eV ky curr cw) (.pre True (.pre True (.ret {now:=false,code:=0,okk:=true,val:=0,addr:=curr,old:=cw,nxt:=aA cw 10 9,mark:=true,pops:=0}))) (.ite (ieq kd 5) (.ite (ieq curr 0) (.pre True (.ret {now:=true,code:=0,okk:=false,val:=0,addr:=0,old:=0,nxt:=0,mark:=false,pops:=0})) (.pre True (.pre True (.ite (mK sh kd) (.pre True (.pre True (.pre True (.ret {now:=false,code:=0,okk:=true,val:=aA cw 0 10,addr:=pred,old:=pw,nxt:=aA cw 10 9,mark:=ieq (aA pw 19 1) 1,pops:=curr})))) (.pre True (.pre True (.ret {now:=false,code:=0,okk:=true,val:=aA cw 0 10,addr:=curr,old:=cw,nxt:=aA cw 10 9,mark:=true,pops:=0}))))))) (.ite (ieq kd 3) (.pre True (.pre True (.ret {now:=true,code:=0,okk:=eV ky curr cw,val:=0,addr:=0,old:=0,nxt:=0,mark:=false,pops:=0}))) (.pre True (.ret {now:=true,code:=0,okk:=false,val:=0,addr:=0,old:=0,nxt:=0,mark:=false,pops:=0})))))) (.ite (ieq kd 5) (.ite (ieq curr 0) (.pre True (.ret {now:=true,code:=0,okk:=false,val:=0,addr:=0,old:=0,nxt:=0,mark:=false,pops:=0})) (.pre True (.pre True (.ite (mK sh kd) (.pre True (.pre True (.pre True (.ret {now:=false,code:=0,okk:=true,val:=aA cw 0 10,addr:=pred,old:=pw,nxt:=aA cw 10 9,mark:=ieq (aA pw 19 1) 1,pops:=curr})))) (.pre True (.pre True (.ret {now:=false,code:=0,okk:=true,val:=aA cw 0 10,addr:=curr,old:=cw,nxt:=aA cw 10 9,mark:=true,pops:=0}))))))) (.ite (ieq kd 3) (.pre True (.pre True (.ret {now:=true,code:=0,okk:=eV ky curr cw,val:=0,addr:=0,old:=0,nxt:=0,mark:=false,pops:=0}))) (.pre True (.ret {now:=true,code:=0,okk:=false,val:=0,addr:=0,old:=0,nxt:=0,mark:=false,pops:=0}))))))))
def aO(sh kd ky pred pw curr cw spare:Int):PLN:=(oE sh kd ky pred pw curr cw spare).val
def vG(sh kd ky pred pw curr cw spare:Int):Prop:=(oE sh kd ky pred pw curr cw spare).ok
def planS:aL Ob:=fun args h=>match args,h with
 | [.agg [.int .i64 sh,.int .i64 kd,.int .i64 ky],.agg [.int .i64 pred,.int .u64 pw,.int .i64 curr,.int .u64 cw],.int .i64 spare],[]=>some (.pre (vG sh kd ky pred pw curr cw spare) (.ret (x6 (aO sh kd ky pred pw curr cw spare)) []))
 | _,_=>none
theorem LK:sT' 157 planS:=by
 intro args h o ho K hK
 unfold planS at ho
 split at ho<;>cases ho
 rename_i sh kd ky pred pw curr cw spare
 obtain⟨ok,hK⟩:=hK
 refine WI (root:=0) (pos:=[]) (cs:=[]) H4 ?_
 exact cM' (E:=EB1) (q:=(oE sh kd ky pred pw curr cw spare).run (fun y=>(Out.ret (x6 y) []).run K)) (by kernel_rfl) (WB ok hK)
def H5(v:AVal)(g:aB Ob):Option (Prop×Int):=match v,g with
 | .int .u64 x,[]=>some (True,x)
 | _,_=>none
def AN(y:Int):AVal:=.int .u64 y
theorem DO:dB (obI tbl) 0 H5 (fun y=>.ret (AN y) []):=by
 intro v g p x hp hq K hK
 unfold H5 at hp
 split at hp
 case h_2=>cases hp
 simp only [sI',pI']at hp
 obtain⟨rfl,rfl⟩:=hp
 exact⟨⟨_,_,WV _ _ _,hK⟩⟩
def pA(now:Bool)(code:Int)(okk:Bool)(val:Int)(addr:Int)(old:Int)(nxt:Int)(mark:Bool)(pops:Int):Tr (Int):=.ite now (.pre True (.ret 0)) (.pre True (.pre ((-1000000:Int)≤(0:Int)∧(0:Int)≤(1000000:Int)) (.pre ((0:Int)≤aA old 25 18∧aA old 25 (18:Int)≤(1000000:Int)) (.pre True (.pre True (.ret (bif bif aK (aA old 0 10) 10 then bif aK nxt 9 then bif aK 0 5 then aK (aM (aA old 25 18)) 18 else false else false else false then bO (aA old 0 10) nxt mark 0 (aM (aA old 25 18))else 0)))))))
def bA(now:Bool)(code:Int)(okk:Bool)(val:Int)(addr:Int)(old:Int)(nxt:Int)(mark:Bool)(pops:Int):Int:=(pA now code okk val addr old nxt mark pops).val
def vH(now:Bool)(code:Int)(okk:Bool)(val:Int)(addr:Int)(old:Int)(nxt:Int)(mark:Bool)(pops:Int):Prop:=(pA now code okk val addr old nxt mark pops).ok
def planWS:aL Ob:=fun args h=>match args,h with
 | [.agg [.bool now,.int .i64 code,.bool okk,.int .i64 val,.int .i64 addr,.int .u64 old,.int .i64 nxt,.bool mark,.int .i64 pops]],[]=>some (.pre (vH now code okk val addr old nxt mark pops) (.ret (AN (bA now code okk val addr old nxt mark pops)) []))
 | _,_=>none
theorem H6:sT' 100 planWS:=by
 intro args h o ho K hK
 unfold planWS at ho
 split at ho<;>cases ho
 rename_i now code okk val addr old nxt mark pops
 obtain⟨ok,hK⟩:=hK
 refine WI (root:=0) (pos:=[]) (cs:=[]) DO ?_
 exact cM' (E:=EB1) (q:=(pA now code okk val addr old nxt mark pops).run (fun y=>(Out.ret (AN y) []).run K)) (by kernel_rfl) (WB ok hK)
def H1(v:AVal)(g:aB Ob):Option (Prop×Bool):=match v,g with
 | .bool x,[]=>some (True,x)
 | _,_=>none
def AJ(y:Bool):AVal:=.bool y
theorem DL:dB (obI tbl) 0 H1 (fun y=>.ret (AJ y) []):=by
 intro v g p x hp hq K hK
 unfold H1 at hp
 split at hp
 case h_2=>cases hp
 simp only [sI',pI']at hp
 obtain⟨rfl,rfl⟩:=hp
 exact⟨⟨_,_,WV _ _ _,hK⟩⟩
def rW(now:Bool)(code:Int)(okk:Bool)(val:Int)(addr:Int)(old:Int)(nxt:Int)(mark:Bool)(pops:Int):Tr (Bool):=.ite (!now) (.pre True (.pre True (.ret !ieq (aA old 20 5) 0))) (.pre True (.ret false))
def fG(now:Bool)(code:Int)(okk:Bool)(val:Int)(addr:Int)(old:Int)(nxt:Int)(mark:Bool)(pops:Int):Bool:=(rW now code okk val addr old nxt mark pops).val
def oD(now:Bool)(code:Int)(okk:Bool)(val:Int)(addr:Int)(old:Int)(nxt:Int)(mark:Bool)(pops:Int):Prop:=(rW now code okk val addr old nxt mark pops).ok
def planCS:aL Ob:=fun args h=>match args,h with
 | [.agg [.bool now,.int .i64 code,.bool okk,.int .i64 val,.int .i64 addr,.int .u64 old,.int .i64 nxt,.bool mark,.int .i64 pops]],[]=>some (.pre (oD now code okk val addr old nxt mark pops) (.ret (AJ (fG now code okk val addr old nxt mark pops)) []))
 | _,_=>none
theorem H2:sT' 158 planCS:=by
 intro args h o ho K hK
 unfold planCS at ho
 split at ho<;>cases ho
 rename_i now code okk val addr old nxt mark pops
 obtain⟨ok,hK⟩:=hK
 refine WI (root:=0) (pos:=[]) (cs:=[]) DL ?_
 exact cM' (E:=EB1) (q:=(rW now code okk val addr old nxt mark pops).run (fun y=>(Out.ret (AJ y) []).run K)) (by kernel_rfl) (WB ok hK)
noncomputable def EB2:=(((EB1.addS 157 planS LK).addS 100 planWS H6).addS 158 planCS H2)
abbrev OK(x:ENS):aI Mc:=.cells [.ptr 1 0,.bool x.sh,.O,.O,.bool x.dn]
theorem J3{t n:Int}{x:ENS}{st:STS}{s:MS} :aQ (obI tbl) 4 (.bool true) [some (.abs (.ensure t n x) [1]),some (.abs (.store t n st) []),bH 3 s,bI s] (.bool true) [some (OK x),some (.abs (.store t n st) []),bH 3 s,bI s]:=by
 obtain⟨ph,sh,dn,a,y⟩:=x
 match ph with
 | 0=>exact(aQ.unpack (.ensure t n ⟨0,sh,dn,a,y⟩) 0 1 (BE t n ⟨0,sh,dn,a,y⟩) [1] rfl rfl (by kernel_rfl) rfl).trans ((aQ.weak (cY _ 0 [2,3])).trans ((aQ.pick (upto 0 4) rfl).trans (WJ (by kernel_rfl) (by kernel_rfl))))
 | 1=>exact(aQ.unpack (.ensure t n ⟨1,sh,dn,a,y⟩) 0 1 (BE t n ⟨1,sh,dn,a,y⟩) [1] rfl rfl (by kernel_rfl) rfl).trans ((aQ.weak (cY _ 0 [2,3])).trans ((aQ.pick (upto 0 4) rfl).trans (WJ (by kernel_rfl) (by kernel_rfl))))
 | 2=>exact(aQ.unpack (.ensure t n ⟨2,sh,dn,a,y⟩) 0 1 (BE t n ⟨2,sh,dn,a,y⟩) [1] rfl rfl (by kernel_rfl) rfl).trans ((aQ.weak (cY _ 0 [2,3])).trans ((aQ.pick (upto 0 4) rfl).trans (WJ (by kernel_rfl) (by kernel_rfl))))
 | 3=>exact(aQ.unpack (.ensure t n ⟨3,sh,dn,a,y⟩) 0 1 (BE t n ⟨3,sh,dn,a,y⟩) [1] rfl rfl (by kernel_rfl) rfl).trans ((aQ.weak (cY _ 0 [2,3])).trans ((aQ.pick (upto 0 4) rfl).trans (WJ (by kernel_rfl) (by kernel_rfl))))
 | k+4=>exact(aQ.unpack (.ensure t n ⟨k+4,sh,dn,a,y⟩) 0 1 (BE t n ⟨k+4,sh,dn,a,y⟩) [1] rfl rfl (by kernel_rfl) rfl).trans ((aQ.weak (cY _ 0 [2,3])).trans ((aQ.pick (upto 0 4) rfl).trans (WJ (by kernel_rfl) (by kernel_rfl))))
def EO.fin(t n:Int)(y:EO):Out Ob:=.ite y.d (.ret (.bool true) [some (OK y.e),some (.abs (.store t n y.st) []),bH 3 y.s,bI y.s]) (.ret (.bool false) [some (.abs (.ensure t n y.e) [1]),some (.abs (.store t n y.st) []),bH 3 y.s,bI y.s])
theorem wP(t n:Int)(e:ENS)(st:STS)(s:MS)(K:AVal→aB Ob→Prop)(ok:okE t n e st s)(hK:((enF t n e st s).fin t n).run K):cT' 85 [.ptr 0 0,.ptr 2 0] (JY t n e st s) K:=by
 refine W5 (BG t n e st s _ ok ?_)
 show gM (obI tbl) 4 K (.bool (enF t n e st s).d) _
 generalize enF t n e st s=y at hK⊢
 exact B4 hK (fun h=>⟨⟨_,_,J3,h⟩⟩) (fun h=>⟨⟨_,_,WV _ _ _,h⟩⟩)
noncomputable def enSA:aL Ob:=fun args h=>match args,h with
 | [.ptr 0 0,.ptr 2 0],[some (.abs (.ensure t n x) [1]),some (.abs (.store t2 n2 st) []),e3,e4]=>(match fB 3 [e3,e4]with
   | some (l,s)=>some (.pre ((l=s.xs.length∧t2=t∧n2=n)∧okE t n x st s) (EO.fin t n (enF t n x st s)))
   | none=>none)
 | _,_=>none
theorem ON:sT' 85 enSA:=by
 intro args h o ho K hK
 unfold enSA at ho
 split at ho
 case h_2=>cases ho
 split at ho<;>cases ho
 rename_i hm
 obtain⟨⟨⟨hl,rfl,rfl⟩,ok⟩,hK⟩:=hK
 have hh:=cC hm hl
 cases hh
 exact wP _ _ _ _ _ K ok hK
def EO.finB(t n:Int)(y:EO):Out Ob:=.ite y.d (.ret (.bool true) [some (OK y.e),stC 5 t n y.st,none,bH 4 y.s,bI y.s,mF y.st]) (.ret (.bool false) [some (.abs (.ensure t n y.e) [1]),stC 5 t n y.st,none,bH 4 y.s,bI y.s,mF y.st])
noncomputable def enSB:aL Ob:=fun args h=>match args,h with
 | [.ptr 0 0,.ptr 3 0],[some (.abs (.ensure t n x) [1]),e1,e2,e3,e4]=>(match sJ 2 [e1,e2],fB 4 [e3,e4]with
   | some (l2,t2,n2,st),some (l,s)=>some (.pre ((l=s.xs.length∧l2=st.R.length∧t2=t∧n2=n)∧okE t n x st s) (EO.finB t n (enF t n x st s)))
   | _,_=>none)
 | _,_=>none
theorem OO:sT' 85 enSB:=by
 intro args h o ho K hK
 unfold enSB at ho
 split at ho
 case h_2=>cases ho
 split at ho<;>cases ho
 rename_i hs hm
 obtain⟨⟨⟨hl,hl2,rfl,rfl⟩,ok⟩,hK⟩:=hK
 have hh:=cC hm hl
 cases hh
 have hh:=dF hs hl2
 cases hh
 exact mA (fun ι hι=>by simp [aI.ren,V5,AVal.ren,hι]) (fun ι hι=>by simp [aI.ren,hι]) (fun K hK=>wP _ _ _ _ _ K ok hK) K hK
noncomputable def enS2:aL Ob:=aL.or enSA enSB
theorem OM:sT' 85 enS2:=WT ON OO
abbrev QQ(x:SWS):aI Mc:=.cells [.ptr 1 0,.O]
theorem L7{t n:Int}{x:SWS}{st:STS}{s:MS} :aQ (obI tbl) 4 (.bool true) [some (.abs (.sweep t n x) [1]),some (.abs (.store t n st) []),bH 3 s,bI s] (.bool true) [some (QQ x),some (.abs (.store t n st) []),bH 3 s,bI s]:=by
 obtain⟨ph,N,m,i,ks,fs,gs,j,l⟩:=x
 match ph with
 | 0=>exact(aQ.unpack (.sweep t n ⟨0,N,m,i,ks,fs,gs,j,l⟩) 0 1 (IR t n ⟨0,N,m,i,ks,fs,gs,j,l⟩) [1] rfl rfl (by kernel_rfl) rfl).trans ((aQ.weak (cY _ 0 [1])).trans ((aQ.pick (upto 0 4) rfl).trans (WJ (by kernel_rfl) (by kernel_rfl))))
 | 1=>exact(aQ.unpack (.sweep t n ⟨1,N,m,i,ks,fs,gs,j,l⟩) 0 1 (IR t n ⟨1,N,m,i,ks,fs,gs,j,l⟩) [1] rfl rfl (by kernel_rfl) rfl).trans ((aQ.weak (cY _ 0 [1])).trans ((aQ.pick (upto 0 4) rfl).trans (WJ (by kernel_rfl) (by kernel_rfl))))
 | 2=>exact(aQ.unpack (.sweep t n ⟨2,N,m,i,ks,fs,gs,j,l⟩) 0 1 (IR t n ⟨2,N,m,i,ks,fs,gs,j,l⟩) [1] rfl rfl (by kernel_rfl) rfl).trans ((aQ.weak (cY _ 0 [1])).trans ((aQ.pick (upto 0 4) rfl).trans (WJ (by kernel_rfl) (by kernel_rfl))))
 | k+3=>exact(aQ.unpack (.sweep t n ⟨k+3,N,m,i,ks,fs,gs,j,l⟩) 0 1 (IR t n ⟨k+3,N,m,i,ks,fs,gs,j,l⟩) [1] rfl rfl (by kernel_rfl) rfl).trans ((aQ.weak (cY _ 0 [1])).trans ((aQ.pick (upto 0 4) rfl).trans (WJ (by kernel_rfl) (by kernel_rfl))))
def SO.fin(t n:Int)(y:SO):Out Ob:=.ite y.d (.ret (.bool true) [some (QQ y.e),some (.abs (.store t n y.st) []),bH 3 y.s,bI y.s]) (.ret (.bool false) [some (.abs (.sweep t n y.e) [1]),some (.abs (.store t n y.st) []),bH 3 y.s,bI y.s])
theorem yH(t n:Int)(e:SWS)(st:STS)(s:MS)(K:AVal→aB Ob→Prop)(ok:rR t n e st s)(hK:((swF t n e st s).fin t n).run K):cT' 195 [.ptr 0 0,.ptr 2 0] (Q7 t n e st s) K:=by
 refine W5 (L8 t n e st s _ ok ?_)
 show gM (obI tbl) 4 K (.bool (swF t n e st s).d) _
 generalize swF t n e st s=y at hK⊢
 exact B4 hK (fun h=>⟨⟨_,_,L7,h⟩⟩) (fun h=>⟨⟨_,_,WV _ _ _,h⟩⟩)
noncomputable def swSA:aL Ob:=fun args h=>match args,h with
 | [.ptr 0 0,.ptr 2 0],[some (.abs (.sweep t n x) [1]),some (.abs (.store t2 n2 st) []),e3,e4]=>(match fB 3 [e3,e4]with
   | some (l,s)=>some (.pre ((l=s.xs.length∧t2=t∧n2=n)∧rR t n x st s) (SO.fin t n (swF t n x st s)))
   | none=>none)
 | _,_=>none
theorem QV:sT' 195 swSA:=by
 intro args h o ho K hK
 unfold swSA at ho
 split at ho
 case h_2=>cases ho
 split at ho<;>cases ho
 rename_i hm
 obtain⟨⟨⟨hl,rfl,rfl⟩,ok⟩,hK⟩:=hK
 have hh:=cC hm hl
 cases hh
 exact yH _ _ _ _ _ K ok hK
def SO.finB(t n:Int)(y:SO):Out Ob:=.ite y.d (.ret (.bool true) [some (QQ y.e),stC 5 t n y.st,none,bH 4 y.s,bI y.s,mF y.st]) (.ret (.bool false) [some (.abs (.sweep t n y.e) [1]),stC 5 t n y.st,none,bH 4 y.s,bI y.s,mF y.st])
noncomputable def swSB:aL Ob:=fun args h=>match args,h with
 | [.ptr 0 0,.ptr 3 0],[some (.abs (.sweep t n x) [1]),e1,e2,e3,e4]=>(match sJ 2 [e1,e2],fB 4 [e3,e4]with
   | some (l2,t2,n2,st),some (l,s)=>some (.pre ((l=s.xs.length∧l2=st.R.length∧t2=t∧n2=n)∧rR t n x st s) (SO.finB t n (swF t n x st s)))
   | _,_=>none)
 | _,_=>none
theorem QW:sT' 195 swSB:=by
 intro args h o ho K hK
 unfold swSB at ho
 split at ho
 case h_2=>cases ho
 split at ho<;>cases ho
 rename_i hs hm
 obtain⟨⟨⟨hl,hl2,rfl,rfl⟩,ok⟩,hK⟩:=hK
 have hh:=cC hm hl
 cases hh
 have hh:=dF hs hl2
 cases hh
 exact mA (fun ι hι=>by simp [aI.ren,V5,AVal.ren,hι]) (fun ι hι=>by simp [aI.ren,hι]) (fun K hK=>yH _ _ _ _ _ K ok hK) K hK
noncomputable def swSC:aL Ob:=aL.or swSA swSB
theorem QU:sT' 195 swSC:=WT QV QW
def OL(t n:Int)(v:AVal)(g:aB Ob):Option (Prop×STS):=match v,g with
 | .ptr 2 0,[e1,e2,some (.cells [.ptr 0 0,.bool false,.raw (.pointer none),.raw (.pointer none),.bool false])]=>(match sJ 1 [e1,e2]with
   | some (l2,t2,n2,st)=>some (t2=t∧n2=n∧l2=st.R.length,st)
   | none=>none)
 | _,_=>none
abbrev J0(t n:Int)(y:STS):aB Ob:=[stC 1 t n y,mF y,some (.abs (.ensure t n qX) [0])]
theorem J1{t n:Int} :dB (obI tbl) 2 (OL t n) (fun y=>.ret (.ptr 2 0) (J0 t n y)):=by
 intro v g p x hp hq K hK
 unfold OL at hp
 split at hp
 case h_2=>cases hp
 split at hp
 case h_2=>cases hp
 rename_i l2 t2 n2 st hs
 simp only [sI',pI']at hp
 obtain⟨rfl,rfl⟩:=hp
 obtain⟨rfl,rfl,hl2⟩:=hq
 have hh:=dF hs hl2
 cases hh
 exact⟨⟨_,_,aQ.pack (J0 t2 n2 st) (.ensure t2 n2 qX) 2 1 (BE t2 n2 qX) [0] (by kernel_rfl) rfl rfl (by kernel_rfl),hK⟩⟩
def wO(t n:Int)(st:STS):Tr STS:=.pre (t=t∧n=n∧lE' st.3) (.ret {me:=st.1,sp:=st.2,R:=st.3})
def enNS:aL Ob:=fun args h=>match args,h with
 | [.ptr 0 0],[e1,e2]=>(match sJ 1 [e1,e2]with
   | some (l2,t,n,st)=>some (.pre (l2=st.R.length∧(wO t n st).ok) (.ret (.ptr 2 0) (J0 t n (wO t n st).val)))
   | none=>none)
 | _,_=>none
theorem zL:sT' 37 enNS:=by
 intro args h o ho K hK
 unfold enNS at ho
 split at ho
 case h_2=>cases ho
 split at ho<;>cases ho
 rename_i l2 t n st hs
 obtain⟨⟨hl2,ok⟩,hK⟩:=hK
 have hh:=dF hs hl2
 cases hh
 refine WI (root:=2) (pos:=[]) (cs:=[]) (parse:=OL t n) J1 ?_
 exact cM' (E:=EB2) (q:=(wO t n st).run (fun y=>(Out.ret (.ptr 2 0) (J0 t n y)).run K)) (by kernel_rfl) (WB ok hK)
def QR(t n:Int)(v:AVal)(g:aB Ob):Option (Prop×STS):=match v,g with
 | .ptr 2 0,[e1,e2,some (.cells [.ptr 0 0,.raw (.pointer none)])]=>(match sJ 1 [e1,e2]with
   | some (l2,t2,n2,st)=>some (t2=t∧n2=n∧l2=st.R.length,st)
   | none=>none)
 | _,_=>none
abbrev L2(t n:Int)(y:STS):aB Ob:=[stC 1 t n y,mF y,some (.abs (.sweep t n JS) [0])]
theorem L3{t n:Int} :dB (obI tbl) 2 (QR t n) (fun y=>.ret (.ptr 2 0) (L2 t n y)):=by
 intro v g p x hp hq K hK
 unfold QR at hp
 split at hp
 case h_2=>cases hp
 split at hp
 case h_2=>cases hp
 rename_i l2 t2 n2 st hs
 simp only [sI',pI']at hp
 obtain⟨rfl,rfl⟩:=hp
 obtain⟨rfl,rfl,hl2⟩:=hq
 have hh:=dF hs hl2
 cases hh
 exact⟨⟨_,_,aQ.pack (L2 t2 n2 st) (.sweep t2 n2 JS) 2 1 (IR t2 n2 JS) [0] (by kernel_rfl) rfl rfl (by kernel_rfl),hK⟩⟩
def QS(t n:Int)(st:STS):Tr STS:=.pre (t=t∧n=n∧lE' st.3) (.ret {me:=st.1,sp:=st.2,R:=st.3})
def swNS:aL Ob:=fun args h=>match args,h with
 | [.ptr 0 0],[e1,e2]=>(match sJ 1 [e1,e2]with
   | some (l2,t,n,st)=>some (.pre (l2=st.R.length∧(QS t n st).ok) (.ret (.ptr 2 0) (L2 t n (QS t n st).val)))
   | none=>none)
 | _,_=>none
theorem QT:sT' 146 swNS:=by
 intro args h o ho K hK
 unfold swNS at ho
 split at ho
 case h_2=>cases ho
 split at ho<;>cases ho
 rename_i l2 t n st hs
 obtain⟨⟨hl2,ok⟩,hK⟩:=hK
 have hh:=dF hs hl2
 cases hh
 refine WI (root:=2) (pos:=[]) (cs:=[]) (parse:=QR t n) L3 ?_
 exact cM' (E:=EB2) (q:=(QS t n st).run (fun y=>(Out.ret (.ptr 2 0) (L2 t n y)).run K)) (by kernel_rfl) (WB ok hK)
noncomputable def EB3:=(((EB2.addS 85 enS2 OM).addS 195 swSC QU).addS 37 enNS zL).addS 146 swNS QT
structure ClO where
 d:Bool
 x:CLS
 s:MS
instance:Inhabited ClO:=⟨⟨false,⟨0,0,0,0⟩,⟨0,0,[],0,0,0,0,0,false⟩⟩⟩
instance:Inhabited CLS:=⟨⟨0,0,0,0⟩⟩
abbrev TE(t n:Int)(x:CLS)(s:MS):aB Ob:=[some (.abs (.clear t n x) []),bH 2 s,bI s]
abbrev UX(t n:Int)(x:CLS)(s:MS):aB Ob:=[some (.cells [.int .i64 t,.int .i64 n,.int .i64 x.addr,.int .i64 x.at',.int .u64 x.word,.int .u64 x.found]),bH 2 s,bI s]
def ClO.fin(t n:Int)(y:ClO):Out Ob:=.ite y.d (.ret (.bool true) (UX t n y.x y.s)) (.ret (.bool false) (TE t n y.x y.s))
def N9(t n:Int)(v:AVal)(g:aB Ob):Option (Prop×ClO):=match v,g with
 | .bool d,[some (.cells [.int .i64 t1,.int .i64 n1,.int .i64 addr,.int .i64 at',.int .u64 word,.int .u64 found]),e1,e2]=>(match fB 2 [e1,e2]with
   | some (l,s)=>some ((t1=t∧n1=n)∧l=s.xs.length,⟨d,⟨addr,at',word,found⟩,s⟩)
   | none=>none)
 | _,_=>none
def I3(t n:Int)(v:AVal)(g:aB Ob):Option (Prop×ClO):=N9 t n v g
theorem JK{t n:Int} :dB (obI tbl) 3 (N9 t n) (ClO.fin t n):=by
 intro v g p x hp hq K hK
 unfold N9 at hp
 split at hp
 case h_2=>cases hp
 rename_i d t1 n1 addr at' word found e1 e2
 split at hp
 case h_2=>cases hp
 rename_i l s hm
 simp only [sI',pI']at hp
 obtain⟨rfl,rfl⟩:=hp
 obtain⟨⟨rfl,rfl⟩,hl⟩:=hq
 have hh:=cC hm hl
 cases hh
 refine B4 hK (fun h=>?_) (fun h=>?_)
 ·exact⟨⟨_,_,WV _ _ _,h⟩⟩
 ·exact⟨⟨_,_,(aQ.pack (TE t1 n1 (⟨addr,at',word,found⟩:CLS) s) (.clear t1 n1 (⟨addr,at',word,found⟩:CLS)) 0 0 (kC t1 n1 (⟨addr,at',word,found⟩:CLS)) [] (by kernel_rfl) rfl (congrArg (Prod.mk 0) rfl) (by kernel_rfl)),h⟩⟩
theorem uW{t n:Int} :dB (obI tbl) 3 (I3 t n) (ClO.fin t n):=by
 intro v g p x hp hq K hK
 unfold I3 at hp
 exact JK v g p x hp hq K hK
def qS(t n:Int)(x:CLS)(s:MS):Tr ClO:=.pre (lE' s.3∧(0:Int)≤s.4∧s.4≤(4611686018427387904:Int)) (.pre True (.ite (ilt (aA (aD s.3 x.1) 20 5 - 1) 0) (.pre ((t=t∧n=n)∧lE' s.3) (.ret {d:=true,x:= {addr:=x.1,at':=1,word:=aD s.3 x.1,found:=x.4},s:= {s with c:=s.4+1,k:=1,a:=x.1,o:=aD s.3 x.1,w:=aD s.3 x.1,ok:=bW s.3 x.1} })) (.pre ((t=t∧n=n)∧lE' s.3) (.ret {d:=ile t (aA (aD s.3 x.1) 20 5 - 1),x:= {addr:=x.1,at':=1,word:=aD s.3 x.1,found:=x.4},s:= {s with c:=s.4+1,k:=1,a:=x.1,o:=aD s.3 x.1,w:=aD s.3 x.1,ok:=bW s.3 x.1} }))))
theorem CL(t n:Int)(x:CLS)(s:MS)(K:ClO→Prop)(h:(qS t n x s).run K):cT' 96 [.ptr 0 0,.ptr 1 0] [some (.cells [.int .i64 t,.int .i64 n,.int .i64 x.addr,.int .i64 0,.int .u64 x.word,.int .u64 x.found]),bH 2 s,bI s] (dX 3 0 [] [] (I3 t n) K):=by
 exact cM' (E:=EB3) (by kernel_rfl) h
def qT(t n:Int)(x:CLS)(s:MS):Tr ClO:=.pre True (.pre ((((0:Int)≤t∧t≤(100000:Int))∧((0:Int)≤n∧n≤(100000:Int))∧(-1099511627776:Int)≤aA x.3 20 5 - 1∧aA x.3 20 5 - (1:Int)≤(1099511627776:Int))∧True) (.pre ((lE' s.3∧(0:Int)≤s.4∧s.4≤(4611686018427387904:Int))∧True) (.pre True (.ite (hasB [2] (aA (aD s.3 (2*n+5+2*t+3*(aA x.3 20 5 - 1)+2)) 49 3)) (.ite (ieq (aA (aD s.3 (2*n+5+2*t+3*(aA x.3 20 5 - 1)+2)) 12 9) x.1) (.pre True (.ite (ieq (aA (aD s.3 (2*n+5+2*t+3*(aA x.3 20 5 - 1)+2)) 21 18) (aA x.3 25 18)) (.pre ((t=t∧n=n)∧lE' s.3) (.ret {d:=false,x:= {addr:=x.1,at':=2,word:=x.3,found:=aD s.3 (2*n+5+2*t+3*(aA x.3 20 5 - 1)+2) },s:= {s with c:=s.4+1,k:=1,a:=2*n+5+2*t+3*(aA x.3 20 5 - 1)+2,o:=aD s.3 (2*n+5+2*t+3*(aA x.3 20 5 - 1)+2),w:=aD s.3 (2*n+5+2*t+3*(aA x.3 20 5 - 1)+2),ok:=bW s.3 (2*n+5+2*t+3*(aA x.3 20 5 - 1)+2) } })) (.pre ((t=t∧n=n)∧lE' s.3) (.ret {d:=false,x:= {addr:=x.1,at':=3,word:=x.3,found:=aD s.3 (2*n+5+2*t+3*(aA x.3 20 5 - 1)+2) },s:= {s with c:=s.4+1,k:=1,a:=2*n+5+2*t+3*(aA x.3 20 5 - 1)+2,o:=aD s.3 (2*n+5+2*t+3*(aA x.3 20 5 - 1)+2),w:=aD s.3 (2*n+5+2*t+3*(aA x.3 20 5 - 1)+2),ok:=bW s.3 (2*n+5+2*t+3*(aA x.3 20 5 - 1)+2) } })))) (.pre ((t=t∧n=n)∧lE' s.3) (.ret {d:=false,x:= {addr:=x.1,at':=3,word:=x.3,found:=aD s.3 (2*n+5+2*t+3*(aA x.3 20 5 - 1)+2) },s:= {s with c:=s.4+1,k:=1,a:=2*n+5+2*t+3*(aA x.3 20 5 - 1)+2,o:=aD s.3 (2*n+5+2*t+3*(aA x.3 20 5 - 1)+2),w:=aD s.3 (2*n+5+2*t+3*(aA x.3 20 5 - 1)+2),ok:=bW s.3 (2*n+5+2*t+3*(aA x.3 20 5 - 1)+2) } }))) (.pre ((t=t∧n=n)∧lE' s.3) (.ret {d:=false,x:= {addr:=x.1,at':=3,word:=x.3,found:=aD s.3 (2*n+5+2*t+3*(aA x.3 20 5 - 1)+2) },s:= {s with c:=s.4+1,k:=1,a:=2*n+5+2*t+3*(aA x.3 20 5 - 1)+2,o:=aD s.3 (2*n+5+2*t+3*(aA x.3 20 5 - 1)+2),w:=aD s.3 (2*n+5+2*t+3*(aA x.3 20 5 - 1)+2),ok:=bW s.3 (2*n+5+2*t+3*(aA x.3 20 5 - 1)+2) } }))))))
theorem CM(t n:Int)(x:CLS)(s:MS)(K:ClO→Prop)(h:(qT t n x s).run K):cT' 96 [.ptr 0 0,.ptr 1 0] [some (.cells [.int .i64 t,.int .i64 n,.int .i64 x.addr,.int .i64 1,.int .u64 x.word,.int .u64 x.found]),bH 2 s,bI s] (dX 3 0 [] [] (I3 t n) K):=by
 exact cM' (E:=EB3) (by kernel_rfl) h
def qU(t n:Int)(x:CLS)(s:MS):Tr ClO:=.pre True (.pre True (.pre True (.pre True (.pre ((((0:Int)≤t∧t≤(100000:Int))∧((0:Int)≤n∧n≤(100000:Int))∧(-1099511627776:Int)≤aA x.3 20 5 - 1∧aA x.3 20 5 - (1:Int)≤(1099511627776:Int))∧True) (.pre ((lE' s.3∧(0:Int)≤s.4∧s.4≤(4611686018427387904:Int))∧True) (.pre ((t=t∧n=n)∧lE' (bif aV s.3 (2*n+5+2*t+3*(aA x.3 20 5 - 1)+2) x.4 then aZ s.3 (2*n+5+2*t+3*(aA x.3 20 5 - 1)+2) (bif dOk (aA x.4 0 12) (aA x.4 12 9) (aA x.4 21 18) (aA x.4 39 9) 3 (aA x.4 52 10)then eI (aA x.4 0 12) (aA x.4 12 9) (aA x.4 21 18) (aA x.4 39 9) (ieq (aA x.4 48 1) 1) 3 (aA x.4 52 10)else 0)else s.3)) (.ret {d:=false,x:= {x with at':=3},s:= {t:=s.1,n:=s.2,xs:=bif aV s.3 (2*n+5+2*t+3*(aA x.3 20 5 - 1)+2) x.4 then aZ s.3 (2*n+5+2*t+3*(aA x.3 20 5 - 1)+2) (bif dOk (aA x.4 0 12) (aA x.4 12 9) (aA x.4 21 18) (aA x.4 39 9) 3 (aA x.4 52 10)then eI (aA x.4 0 12) (aA x.4 12 9) (aA x.4 21 18) (aA x.4 39 9) (ieq (aA x.4 48 1) 1) 3 (aA x.4 52 10)else 0)else s.3,c:=s.4+1,k:=3,a:=2*n+5+2*t+3*(aA x.3 20 5 - 1)+2,o:=aD s.3 (2*n+5+2*t+3*(aA x.3 20 5 - 1)+2),w:=bif bW s.3 (2*n+5+2*t+3*(aA x.3 20 5 - 1)+2)then bif dOk (aA x.4 0 12) (aA x.4 12 9) (aA x.4 21 18) (aA x.4 39 9) 3 (aA x.4 52 10)then eI (aA x.4 0 12) (aA x.4 12 9) (aA x.4 21 18) (aA x.4 39 9) (ieq (aA x.4 48 1) 1) 3 (aA x.4 52 10)else 0 else 0,ok:=aV s.3 (2*n+5+2*t+3*(aA x.3 20 5 - 1)+2) x.4} })))))))
theorem CN(t n:Int)(x:CLS)(s:MS)(K:ClO→Prop)(h:(qU t n x s).run K):cT' 96 [.ptr 0 0,.ptr 1 0] [some (.cells [.int .i64 t,.int .i64 n,.int .i64 x.addr,.int .i64 2,.int .u64 x.word,.int .u64 x.found]),bH 2 s,bI s] (dX 3 0 [] [] (I3 t n) K):=by
 exact cM' (E:=EB3) (by kernel_rfl) h
def qV(t n:Int)(x:CLS)(s:MS):Tr ClO:=.pre True (.pre ((0:Int)≤aA x.3 25 18∧aA x.3 25 (18:Int)≤(1000000:Int)) (.pre True (.pre ((lE' s.3∧(0:Int)≤s.4∧s.4≤(4611686018427387904:Int))∧True) (.pre ((t=t∧n=n)∧lE' (bif aV s.3 x.1 x.3 then aZ s.3 x.1 (bif bif aK (aA x.3 0 10) 10 then bif aK (aA x.3 10 9) 9 then bif aK 0 5 then aK (aM (aA x.3 25 18)) 18 else false else false else false then bO (aA x.3 0 10) (aA x.3 10 9) (ieq (aA x.3 19 1) 1) 0 (aM (aA x.3 25 18))else 0)else s.3)) (.ret {d:=true,x:= {x with at':=3},s:= {t:=s.1,n:=s.2,xs:=bif aV s.3 x.1 x.3 then aZ s.3 x.1 (bif bif aK (aA x.3 0 10) 10 then bif aK (aA x.3 10 9) 9 then bif aK 0 5 then aK (aM (aA x.3 25 18)) 18 else false else false else false then bO (aA x.3 0 10) (aA x.3 10 9) (ieq (aA x.3 19 1) 1) 0 (aM (aA x.3 25 18))else 0)else s.3,c:=s.4+1,k:=3,a:=x.1,o:=aD s.3 x.1,w:=bif bW s.3 x.1 then bif bif aK (aA x.3 0 10) 10 then bif aK (aA x.3 10 9) 9 then bif aK 0 5 then aK (aM (aA x.3 25 18)) 18 else false else false else false then bO (aA x.3 0 10) (aA x.3 10 9) (ieq (aA x.3 19 1) 1) 0 (aM (aA x.3 25 18))else 0 else 0,ok:=aV s.3 x.1 x.3} })))))
theorem CO(t n:Int)(x:CLS)(s:MS)(K:ClO→Prop)(h:(qV t n x s).run K):cT' 96 [.ptr 0 0,.ptr 1 0] [some (.cells [.int .i64 t,.int .i64 n,.int .i64 x.addr,.int .i64 3,.int .u64 x.word,.int .u64 x.found]),bH 2 s,bI s] (dX 3 0 [] [] (I3 t n) K):=by
 exact cM' (E:=EB3) (by kernel_rfl) h
def I4(t n:Int)(x:CLS)(s:MS):Tr ClO:=
 bif ieq x.at' 0 then qS t n x s else
 bif ieq x.at' 1 then qT t n x s else
 bif ieq x.at' 2 then qU t n x s else
 bif ieq x.at' 3 then qV t n x s else .pre False (.ret default)
def clF(t n:Int)(x:CLS)(s:MS):ClO:=(I4 t n x s).val
def JJ(t n:Int)(x:CLS)(s:MS):Prop:=(I4 t n x s).ok
theorem JL(t n:Int)(x:CLS)(s:MS)(K:AVal→aB Ob→Prop)(h:(I4 t n x s).run (fun y=>(ClO.fin t n y).run K)):cT' 96 [.ptr 0 0,.ptr 1 0] (TE t n x s) K:=by
 unfold I4 at h
 by_cases e:x.at'=0
 ·rw [e]at h
  have h:(qS t n x s).run _:=h
  refine V9 (root:=0) (pos:=[]) (cs:=[]) (parse:=I3 t n) (fin:=ClO.fin t n) uW (cQ.unpack (.clear t n x) 0 0 (kC t n x) [] rfl (congrArg (Prod.mk 0) rfl) (by kernel_rfl) rfl) ?_
  have q:=CL t n x s _ h
  rw [←e]at q
  exact q
 rw [eZ e]at h
 by_cases e:x.at'=1
 ·rw [e]at h
  have h:(qT t n x s).run _:=h
  refine V9 (root:=0) (pos:=[]) (cs:=[]) (parse:=I3 t n) (fin:=ClO.fin t n) uW (cQ.unpack (.clear t n x) 0 0 (kC t n x) [] rfl (congrArg (Prod.mk 0) rfl) (by kernel_rfl) rfl) ?_
  have q:=CM t n x s _ h
  rw [←e]at q
  exact q
 rw [eZ e]at h
 by_cases e:x.at'=2
 ·rw [e]at h
  have h:(qU t n x s).run _:=h
  refine V9 (root:=0) (pos:=[]) (cs:=[]) (parse:=I3 t n) (fin:=ClO.fin t n) uW (cQ.unpack (.clear t n x) 0 0 (kC t n x) [] rfl (congrArg (Prod.mk 0) rfl) (by kernel_rfl) rfl) ?_
  have q:=CN t n x s _ h
  rw [←e]at q
  exact q
 rw [eZ e]at h
 by_cases e:x.at'=3
 ·rw [e]at h
  have h:(qV t n x s).run _:=h
  refine V9 (root:=0) (pos:=[]) (cs:=[]) (parse:=I3 t n) (fin:=ClO.fin t n) uW (cQ.unpack (.clear t n x) 0 0 (kC t n x) [] rfl (congrArg (Prod.mk 0) rfl) (by kernel_rfl) rfl) ?_
  have q:=CO t n x s _ h
  rw [←e]at q
  exact q
 rw [eZ e]at h
 exact h.1.elim
noncomputable def clS:aL Ob:=fun args h=>match args,h with
 | [.ptr 0 0,.ptr 1 0],[some (.abs (.clear t n x) []),e1,e2]=>(match fB 2 [e1,e2]with
   | some (l,s)=>some (.pre (l=s.xs.length∧JJ t n x s) (ClO.fin t n (clF t n x s)))
   | none=>none)
 | _,_=>none
theorem RD:sT' 96 clS:=by
 intro args h o ho K hK
 unfold clS at ho
 split at ho
 case h_2=>cases ho
 split at ho<;>cases ho
 rename_i hm
 obtain⟨⟨hl,ok⟩,hK⟩:=hK
 have hh:=cC hm hl
 cases hh
 exact JL _ _ _ _ K (WB ok hK)
def N6(t n:Int)(v:AVal)(g:aB Ob):Option (Prop×CLS):=match v,g with
 | .ptr 0 0,[some (.cells [.int .i64 t1,.int .i64 n1,.int .i64 addr,.int .i64 at',.int .u64 word,.int .u64 found])]=>some ((t1=t∧n1=n),(⟨addr,at',word,found⟩:CLS))
 | _,_=>none
abbrev JH(t n:Int)(y:CLS):aB Ob:=[some (.abs (.clear t n y) [])]
theorem JI{t n:Int} :dB (obI tbl) 0 (N6 t n) (fun y=>.ret (.ptr 0 0) (JH t n y)):=by
 intro v g p x hp hq K hK
 unfold N6 at hp
 split at hp
 case h_2=>cases hp
 rename_i t1 n1 addr at' word found
 simp only [sI',pI']at hp
 obtain⟨rfl,rfl⟩:=hp
 obtain⟨rfl,rfl⟩:=hq
 exact⟨⟨_,_,aQ.pack (JH t1 n1 (⟨addr,at',word,found⟩:CLS)) (.clear t1 n1 (⟨addr,at',word,found⟩:CLS)) 0 0 (kC t1 n1 (⟨addr,at',word,found⟩:CLS)) [] (by kernel_rfl) rfl (congrArg (Prod.mk 0) rfl) (by kernel_rfl),hK⟩⟩
def N7(t n:Int)(a:Int):Tr CLS:=.pre (t=t∧n=n) (.ret {addr:=a,at':=0,word:=0,found:=0})
def clNF(t n:Int)(a:Int):CLS:=(N7 t n a).val
def pL(t n:Int)(a:Int):Prop:=(N7 t n a).ok
def clNS:aL Ob:=fun args h=>match args,h with
 | [.agg [.int .i64 t,.int .i64 n],.int .i64 a],[]=>some (.pre (pL t n a) (.ret (.ptr 0 0) (JH t n (clNF t n a))))
 | _,_=>none
theorem N8:sT' 159 clNS:=by
 intro args h o ho K hK
 unfold clNS at ho
 split at ho<;>cases ho
 rename_i t n a
 obtain⟨ok,hK⟩:=hK
 refine WI (root:=0) (pos:=[]) (cs:=[]) (parse:=N6 t n) JI ?_
 exact cM' (E:=EB3) (q:=(N7 t n a).run (fun y=>(Out.ret (.ptr 0 0) (JH t n y)).run K)) (by kernel_rfl) (WB ok hK)
noncomputable def EC1:=((EB3.addS 96 clS RD).addS 159 clNS N8)
noncomputable def EQ1:=((EC1))
noncomputable def EQ2:=EQ1
noncomputable def EQ:=EQ2
structure HdO where
 d:Bool
 x:HDS
 s:MS
instance:Inhabited HdO:=⟨⟨false,⟨0,0,0,false⟩,⟨0,0,[],0,0,0,0,0,false⟩⟩⟩
instance:Inhabited HDS:=⟨⟨0,0,0,false⟩⟩
abbrev VK(t n:Int)(x:HDS)(s:MS):aB Ob:=[some (.abs (.head t n x) []),bH 2 s,bI s]
abbrev VJ(t n:Int)(x:HDS)(s:MS):aB Ob:=[some (.cells [.int .i64 t,.int .i64 n,.int .i64 x.u,.int .u64 x.no,.int .i64 x.at',.bool x.tk]),bH 2 s,bI s]
def HdO.fin(t n:Int)(y:HdO):Out Ob:=.ite y.d (.ret (.bool true) (VJ t n y.x y.s)) (.ret (.bool false) (VK t n y.x y.s))
noncomputable def EC2:=((EQ))
structure DrO where
 d:Bool
 x:DRS
 s:MS
instance:Inhabited DrO:=⟨⟨false,⟨0,0⟩,⟨0,0,[],0,0,0,0,0,false⟩⟩⟩
instance:Inhabited DRS:=⟨⟨0,0⟩⟩
abbrev U3(t n:Int)(x:DRS)(s:MS):aB Ob:=[some (.abs (.drop t n x) []),bH 2 s,bI s]
abbrev U2(t n:Int)(x:DRS)(s:MS):aB Ob:=[some (.cells [.int .i64 t,.int .i64 n,.int .i64 x.th,.int .i64 x.at']),bH 2 s,bI s]
def DrO.fin(t n:Int)(y:DrO):Out Ob:=.ite y.d (.ret (.bool true) (U2 t n y.x y.s)) (.ret (.bool false) (U3 t n y.x y.s))
noncomputable def EC3:=((EC2))
structure AnO where
 d:Bool
 x:ANS
 s:MS
instance:Inhabited AnO:=⟨⟨false,⟨0,0,0,0,false,0⟩,⟨0,0,[],0,0,0,0,0,false⟩⟩⟩
instance:Inhabited ANS:=⟨⟨0,0,0,0,false,0⟩⟩
abbrev UU(t n:Int)(x:ANS)(s:MS):aB Ob:=[some (.abs (.announce t n x) []),bH 2 s,bI s]
abbrev UT(t n:Int)(x:ANS)(s:MS):aB Ob:=[some (.cells [.int .i64 t,.int .i64 n,.int .u64 x.no,.int .i64 x.me,.int .i64 x.at',.int .u64 x.bits,.bool x.wrong,.int .u64 x.found]),bH 2 s,bI s]
def AnO.fin(t n:Int)(y:AnO):Out Ob:=.ite y.d (.ret (.bool true) (UT t n y.x y.s)) (.ret (.bool false) (UU t n y.x y.s))
noncomputable def EC4:=((EC3))
structure AwO where
 d:Bool
 x:AWS
 s:MS
instance:Inhabited AwO:=⟨⟨false,⟨0,false,0,0⟩,⟨0,0,[],0,0,0,0,0,false⟩⟩⟩
instance:Inhabited AWS:=⟨⟨0,false,0,0⟩⟩
abbrev UW(t n:Int)(x:AWS)(s:MS):aB Ob:=[some (.abs (.answer t n x) []),bH 2 s,bI s]
abbrev UV(t n:Int)(x:AWS)(s:MS):aB Ob:=[some (.cells [.int .i64 t,.int .i64 n,.int .i64 x.code,.bool x.okk,.int .i64 x.val,.int .i64 x.me]),bH 2 s,bI s]
def AwO.fin(t n:Int)(y:AwO):Out Ob:=.ite y.d (.ret (.bool true) (UV t n y.x y.s)) (.ret (.bool false) (UW t n y.x y.s))
noncomputable def EC5:=((EC4))
noncomputable def EX1:=EC5
noncomputable def EX2:=(EX1)
instance:Inhabited STS:=⟨⟨0,0,[]⟩⟩
structure ExO where
 d:Bool
 x:EXS
 s:MS
instance:Inhabited ExO:=⟨⟨false,RF,⟨0,0,[],0,0,0,0,0,false⟩⟩⟩
instance:Inhabited EXS:=⟨RF⟩
abbrev VC(t n:Int)(x:EXS)(s:MS):aB Ob:=[some (.abs (.exec t n x) []),bH 2 s,bI s]
abbrev VB(t n:Int)(x:EXS)(s:MS):aB Ob:=[some (.cells [.int .i64 t,.int .i64 n,.int .i64 x.popped,.int .i64 x.gave,.int .i64 x.u,.int .i64 x.sh,.int .i64 x.kd,.int .i64 x.ky,.bool x.only,.int .i64 x.att,.int .i64 x.at',.int .u64 x.found,.int .u64 x.word]),bH 2 s,bI s]
def ExO.fin(t n:Int)(y:ExO):Out Ob:=.ite y.d (.ret (.bool true) (VB t n y.x y.s)) (.ret (.bool false) (VC t n y.x y.s))
noncomputable def EC6:=((EX2))
end Go.Sh
