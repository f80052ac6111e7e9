import Derived.Test.YtedeloeobocpiaaGreatZShM
set_option linter.all false
set_option maxHeartbeats 8000000
namespace Go.Sh
open Go Go.Proofs
variable [Con]
noncomputable def XV:oS Ob Tryz.prog:= {EV6 with row:=S4 Tryz.prog (WV.ops Tryz.prog),rowOk:=OY WV.ops_ok}
def cA(xs:List Int)(n:Int):Nat→List (Int×Int)
 | 0=>[]
 | h+1=>fH (keyF xs n h) (cA xs n h)
structure V9 (xs:List Int) (n:Int) (x:Nat×List (Int×Int)):Prop where
 h0:x.1≤4
 eq:x.2=cA xs n x.1
structure WA (xs:List Int) (n h:Int) (x:Nat×List (Int×Int)):Prop where
 h0:0≤h∧h<4
 hi:x.1≤(keyF xs n h).length
 eq:x.2=fH ((keyF xs n h).take x.1) (cA xs n h.toNat)
structure WB (x:Nat):Prop where
 k0:x≤1024
structure WC (k:Int) (m:List (Int×Int)) (x:Nat×Nat):Prop where
 k0:0≤k∧k<1024
 eq:x.1+x.2=((mget m k).getD 0).toNat
def MJ(t n:Int)(s:MS):Hint Ob:= {X:=Nat×List (Int×Int),st:=fun x=>([.ptr 0 0,.O,.O,.O,.ptr 2 0,.O,.O,.map 3,.int .i64 (x.1:Int)]++List.replicate 45 .O,[aX 1 s,aY s,some (.cells [.int .i64 t,.int .i64 n]),some (.imap .i64 (some .i64) x.2)]),ok:=V9 s.xs n,mu:=fun x=>4 - x.1,keep:=[0,4,7,8] }
def HI2(t n:Int)(s:MS)(h:Int):Hint Ob:= {X:=Nat×List (Int×Int),st:=fun x=>([.ptr 0 0,.O,.O,.O,.ptr 2 0,.O,.O,.map 3,.int .i64 h]++List.replicate 18 .O ++ [.slice 4 0 (keyF s.xs n h).length 1,.int .i64 ((keyF s.xs n h).length :Int),.int .i64 (x.1:Int)]++List.replicate 24 .O,[aX 1 s,aY s,some (.cells [.int .i64 t,.int .i64 n]),some (.imap .i64 (some .i64) x.2),some (.ints (some .i64) (keyF s.xs n h))]),ok:=WA s.xs n h,mu:=fun x=>(keyF s.xs n h).length - x.1,keep:=[0,4,7,8,27,28,29] }
def MB(s:MS)(m:List (Int×Int)):Hint Ob:= {X:=Nat,st:=fun x=>([.ptr 0 0,.O,.O,.O,.O,.O,.O,.map 2,.O,.O,.O,.slice 3 0 (dV m x).length 1,.int .i64 (x:Int)]++List.replicate 41 .O,[aX 1 s,aY s,some (.imap .i64 (some .i64) m),some (.ints (some .i64) (dV m x))]),ok:=WB,mu:=fun x=>1024 - x,keep:=[0,7,11,12],casts:=[(.slot 11,.ints (some .i64))] }
def HI4(s:MS)(m:List (Int×Int))(k:Int):Hint Ob:= {X:=Nat×Nat,st:=fun x=>([.ptr 0 0,.O,.O,.O,.O,.O,.O,.map 2,.O,.O,.O,.slice 3 0 (dV m k.toNat++List.replicate x.1 k).length 1,.int .i64 k,.int .i64 (x.2:Int)]++List.replicate 40 .O,[aX 1 s,aY s,some (.imap .i64 (some .i64) m),some (.ints (some .i64) (dV m k.toNat++List.replicate x.1 k))]),ok:=WC k m,mu:=fun x=>x.2,keep:=[0,7,11,12,13],casts:=[(.slot 11,.ints (some .i64))] }
def XK(t n:Int)(s:MS):FuncId→Nat→Option (nP Ob):=fun _ k=>if k=5 then some (.states (MJ t n s))else if k=8 then some (.statesAt 8 (HI2 t n s))else if k=14 then some (.states (MB s (cA s.xs n 4)))else if k=17 then some (.statesAt 12 (HI4 s (cA s.xs n 4)))else none
def EG(t n sh:Int)(s:MS)(K:AVal→aC Ob→Prop):Prop:=bif ilt 2 sh then(lE' s.3∧((0:Int)≤n∧n≤(100000:Int))∧(-1000000:Int)≤(0:Int)∧(0:Int)≤(1000000:Int))∧K (.slice 2 0 (List.length (keyF s.3 n 0)) 1) [some (.cells [.int .i64 s.1,.int .i64 s.2,.slice 1 0 (List.length s.3) 1,.int .i64 s.4,.int .i64 s.5,.int .i64 s.6,.int .u64 s.7,.int .u64 s.8,.bool s.9]),some (.ints (some .u64) s.3),some (.ints (some .i64) (keyF s.3 n 0))]else okSt (MJ t n s) (Hint.ok (MJ t n s)) [.ptr 0 0,.O,.O,.O,.ptr 2 0,.O,.O,.map 3,.int .i64 0,.O,.O,.O,.O,.O,.O,.O,.O,.O,.O,.O,.O,.O,.O,.O,.O,.O,.O,.O,.O,.O,.O,.O,.O,.O,.O,.O,.O,.O,.O,.O,.O,.O,.O,.O,.O,.O,.O,.O,.O,.O,.O,.O,.O,.O] [some (.cells [.int .i64 s.1,.int .i64 s.2,.slice 1 0 (List.length s.3) 1,.int .i64 s.4,.int .i64 s.5,.int .i64 s.6,.int .u64 s.7,.int .u64 s.8,.bool s.9]),some (.ints (some .u64) s.3),some (.cells [.int .i64 t,.int .i64 n]),some (.imap .i64 (some .i64) [])]∧ ∀(x:(Nat×List (Int×Int))),V9 s.3 n x→bif ilt (↑x.1:Int) 4 then(lE' s.3∧((0:Int)≤n∧n≤(100000:Int))∧(-1000000:Int)≤(↑x.1:Int)∧(↑x.1:Int)≤(1000000:Int))∧okSt (HI2 t n s (↑(Prod.fst x):Int)) (Hint.ok (HI2 t n s (↑(Prod.fst x):Int))) [.ptr 0 0,.O,.O,.O,.ptr 2 0,.O,.O,.map 3,.int .i64 (↑x.1:Int),.O,.O,.O,.O,.O,.O,.O,.O,.O,.O,.O,.O,.O,.O,.O,.O,.O,.O,.slice 4 0 (List.length (keyF s.3 n (↑x.1:Int))) 1,.int .i64 (↑(List.length (keyF s.3 n (↑x.1:Int))):Int),.int .i64 0,.O,.O,.O,.O,.O,.O,.O,.O,.O,.O,.O,.O,.O,.O,.O,.O,.O,.O,.O,.O,.O,.O,.O,.O] [some (.cells [.int .i64 s.1,.int .i64 s.2,.slice 1 0 (List.length s.3) 1,.int .i64 s.4,.int .i64 s.5,.int .i64 s.6,.int .u64 s.7,.int .u64 s.8,.bool s.9]),some (.ints (some .u64) s.3),some (.cells [.int .i64 t,.int .i64 n]),some (.imap .i64 (some .i64) x.2),some (.ints (some .i64) (keyF s.3 n (↑x.1:Int)))]∧ ∀(x_1:Hint.X (HI2 t n s (↑(Prod.fst x):Int))),WA s.3 n (↑x.1:Int) x_1→bif ilt (↑x_1.1:Int) (↑(List.length (keyF s.3 n (↑x.1:Int))):Int)then((0:Int)≤(↑x_1.1:Int)∧(↑x_1.1:Int)<(↑(List.length (keyF s.3 n (↑x.1:Int))):Int))∧0+Int.toNat (↑x_1.1:Int)*(1:Nat)<List.length (keyF s.3 n (↑x.1:Int))∧okSt (HI2 t n s (↑(Prod.fst x):Int)) (fun x'=>Hint.ok (HI2 t n s (↑(Prod.fst x):Int)) x'∧Hint.mu (HI2 t n s (↑(Prod.fst x):Int)) x'<Hint.mu (HI2 t n s (↑(Prod.fst x):Int)) x_1) [.ptr 0 0,.O,.O,.O,.ptr 2 0,.O,.O,.map 3,.int .i64 (↑x.1:Int),.O,.O,.O,.O,.O,.O,.O,.O,.O,.O,.O,.O,.O,.O,.O,.O,.O,.O,.slice 4 0 (List.length (keyF s.3 n (↑x.1:Int))) 1,.int .i64 (↑(List.length (keyF s.3 n (↑x.1:Int))):Int),.int .i64 (W ((↑x_1.1:Int)+1)),.O,.O,.O,.O,.O,.O,.O,.O,.O,.O,.O,.O,.O,.O,.O,.O,.O,.O,.O,.O,.O,.O,.O,.O] [some (.cells [.int .i64 s.1,.int .i64 s.2,.slice 1 0 (List.length s.3) 1,.int .i64 s.4,.int .i64 s.5,.int .i64 s.6,.int .u64 s.7,.int .u64 s.8,.bool s.9]),some (.ints (some .u64) s.3),some (.cells [.int .i64 t,.int .i64 n]),some (.imap .i64 (some .i64) (cH x_1.2 (List.getD (keyF s.3 n (↑x.1:Int)) (0+Int.toNat (↑x_1.1:Int)*1) 0) (W (Option.getD (mget (Prod.snd x_1) (List.getD (keyF s.3 n (↑x.1:Int)) (0+Int.toNat (↑x_1.1:Int)*1) 0)) 0+1)))),some (.ints (some .i64) (keyF s.3 n (↑x.1:Int)))]else okSt (MJ t n s) (fun x'=>Hint.ok (MJ t n s) x'∧Hint.mu (MJ t n s) x'<Hint.mu (MJ t n s) x) [.ptr 0 0,.O,.O,.O,.ptr 2 0,.O,.O,.map 3,.int .i64 (W ((↑x.1:Int)+1)),.O,.O,.O,.O,.O,.O,.O,.O,.O,.O,.O,.O,.O,.O,.O,.O,.O,.O,.O,.O,.O,.O,.O,.O,.O,.O,.O,.O,.O,.O,.O,.O,.O,.O,.O,.O,.O,.O,.O,.O,.O,.O,.O,.O,.O] [some (.cells [.int .i64 s.1,.int .i64 s.2,.slice 1 0 (List.length s.3) 1,.int .i64 s.4,.int .i64 s.5,.int .i64 s.6,.int .u64 s.7,.int .u64 s.8,.bool s.9]),some (.ints (some .u64) s.3),some (.cells [.int .i64 t,.int .i64 n]),some (.imap .i64 (some .i64) x_1.2)]else okSt (MB s (cA (MS.xs s) n 4)) (Hint.ok (MB s (cA (MS.xs s) n 4))) [.ptr 0 0,.O,.O,.O,.O,.O,.O,.map 2,.O,.O,.O,.slice 3 0 0 1,.int .i64 0,.O,.O,.O,.O,.O,.O,.O,.O,.O,.O,.O,.O,.O,.O,.O,.O,.O,.O,.O,.O,.O,.O,.O,.O,.O,.O,.O,.O,.O,.O,.O,.O,.O,.O,.O,.O,.O,.O,.O,.O,.O] [some (.cells [.int .i64 s.1,.int .i64 s.2,.slice 1 0 (List.length s.3) 1,.int .i64 s.4,.int .i64 s.5,.int .i64 s.6,.int .u64 s.7,.int .u64 s.8,.bool s.9]),some (.ints (some .u64) s.3),some (.imap .i64 (some .i64) x.2),some (.ints (some .i64) [])]∧ ∀(x:Nat),WB x→bif ile (↑x:Int) 1023 then okSt (HI4 s (cA (MS.xs s) n 4) (↑x:Int)) (Hint.ok (HI4 s (cA (MS.xs s) n 4) (↑x:Int))) [.ptr 0 0,.O,.O,.O,.O,.O,.O,.map 2,.O,.O,.O,.slice 3 0 (List.length (dV (cA s.3 n 4) x)) 1,.int .i64 (↑x:Int),.int .i64 (Option.getD (mget (cA (MS.xs s) n 4) (↑x:Int)) 0),.O,.O,.O,.O,.O,.O,.O,.O,.O,.O,.O,.O,.O,.O,.O,.O,.O,.O,.O,.O,.O,.O,.O,.O,.O,.O,.O,.O,.O,.O,.O,.O,.O,.O,.O,.O,.O,.O,.O,.O] [some (.cells [.int .i64 s.1,.int .i64 s.2,.slice 1 0 (List.length s.3) 1,.int .i64 s.4,.int .i64 s.5,.int .i64 s.6,.int .u64 s.7,.int .u64 s.8,.bool s.9]),some (.ints (some .u64) s.3),some (.imap .i64 (some .i64) (cA s.3 n 4)),some (.ints (some .i64) (dV (cA s.3 n 4) x))]∧ ∀(x_1:Hint.X (HI4 s (cA (MS.xs s) n 4) (↑x:Int))),WC (↑x:Int) (cA s.3 n 4) x_1→bif ilt 0 (↑x_1.2:Int)then(0=0∧lE' (dV (cA s.3 n 4) (Int.toNat (↑x:Int))++List.replicate x_1.1 (↑x:Int))∧1=1∧List.length (dV (cA s.3 n 4) (Int.toNat (↑x:Int))++List.replicate x_1.1 (↑x:Int))+(1:Nat)≤(4294967296:Nat))∧okSt (HI4 s (cA (MS.xs s) n 4) (↑x:Int)) (fun x'=>Hint.ok (HI4 s (cA (MS.xs s) n 4) (↑x:Int)) x'∧Hint.mu (HI4 s (cA (MS.xs s) n 4) (↑x:Int)) x'<Hint.mu (HI4 s (cA (MS.xs s) n 4) (↑x:Int)) x_1) [.ptr 0 0,.O,.O,.O,.O,.O,.O,.map 2,.O,.O,.O,.slice 3 0 (List.length (dV (cA s.3 n 4) (Int.toNat (↑x:Int))++List.replicate x_1.1 (↑x:Int))+1) 1,.int .i64 (↑x:Int),.int .i64 (W ((↑x_1.2:Int) - 1)),.O,.O,.O,.O,.O,.O,.O,.O,.O,.O,.O,.O,.O,.O,.O,.O,.O,.O,.O,.O,.O,.O,.O,.O,.O,.O,.O,.O,.O,.O,.O,.O,.O,.O,.O,.O,.O,.O,.O,.O] [some (.cells [.int .i64 s.1,.int .i64 s.2,.slice 1 0 (List.length s.3) 1,.int .i64 s.4,.int .i64 s.5,.int .i64 s.6,.int .u64 s.7,.int .u64 s.8,.bool s.9]),some (.ints (some .u64) s.3),some (.imap .i64 (some .i64) (cA s.3 n 4)),some (.ints (some .i64) (dV (cA s.3 n 4) (Int.toNat (↑x:Int))++List.replicate x_1.1 (↑x:Int)++ [(↑x:Int)]))]else okSt (MB s (cA (MS.xs s) n 4)) (fun x'=>Hint.ok (MB s (cA (MS.xs s) n 4)) x'∧Hint.mu (MB s (cA (MS.xs s) n 4)) x'<Hint.mu (MB s (cA (MS.xs s) n 4)) x) [.ptr 0 0,.O,.O,.O,.O,.O,.O,.map 2,.O,.O,.O,.slice 3 0 (List.length (dV (cA s.3 n 4) (Int.toNat (↑x:Int))++List.replicate x_1.1 (↑x:Int))) 1,.int .i64 (W ((↑x:Int)+1)),.O,.O,.O,.O,.O,.O,.O,.O,.O,.O,.O,.O,.O,.O,.O,.O,.O,.O,.O,.O,.O,.O,.O,.O,.O,.O,.O,.O,.O,.O,.O,.O,.O,.O,.O,.O,.O,.O,.O,.O,.O] [some (.cells [.int .i64 s.1,.int .i64 s.2,.slice 1 0 (List.length s.3) 1,.int .i64 s.4,.int .i64 s.5,.int .i64 s.6,.int .u64 s.7,.int .u64 s.8,.bool s.9]),some (.ints (some .u64) s.3),some (.imap .i64 (some .i64) (cA s.3 n 4)),some (.ints (some .i64) (dV (cA s.3 n 4) (Int.toNat (↑x:Int))++List.replicate x_1.1 (↑x:Int)))]else K (.slice 2 0 (List.length (dV (cA s.3 n 4) x)) 1) [some (.cells [.int .i64 s.1,.int .i64 s.2,.slice 1 0 (List.length s.3) 1,.int .i64 s.4,.int .i64 s.5,.int .i64 s.6,.int .u64 s.7,.int .u64 s.8,.bool s.9]),some (.ints (some .u64) s.3),some (.ints (some .i64) (dV (cA s.3 n 4) x))]
theorem G2(t n sh:Int)(s:MS)(K:AVal→aC Ob→Prop)(h:EG t n sh s K):cT' 34 [.ptr 0 0,.agg [.int .i64 t,.int .i64 n],.int .i64 sh] [aX 1 s,aY s] K:=by
 refine Y2 (aE (E:=XV) Tryz.checked.mixed (L:=(XK t n s)) (n:=10) (aU (by kernel_rfl) h))
theorem AN(xs:List Int)(n:Int): ∀(k:Nat) (a:Int) (out:List Int),(qR xs n k a out).length ≤out.length+k
 | 0,a,out=>Nat.le_refl _
 | k+1,a,out=>by
   show(bif bC n a then bif !hasB out a then qR xs n k (aB (aA xs a) 10 9) (out++ [a])else out else out:List Int).length ≤_
   cases bC n a with
   | false=>rw [cond_false];omega
   | true=>
     cases hasB out a with
     | true=>simp only [cond_true,Bool.not_true,cond_false];omega
     | false=>
       simp only [cond_true,Bool.not_false]
       have:=AN xs n k (aB (aA xs a) 10 9) (out++ [a])
       rw [List.length_append]at this
       simp at this;omega
theorem AF(xs:List Int)(n h:Int)(hn:0≤n∧n≤100000):(keyF xs n h).length ≤100001:=by
 have:=AN xs n (n.toNat+1) (aB (aA xs (n+1+h)) 10 9) []
 unfold keyF kyL ndF
 rw [List.length_map]
 refine Nat.le_trans (List.length_filter_le _ _) ?_
 simp only [List.length_nil]at this
 omega
def yM(B:Int)(m:List (Int×Int)):Prop:= ∀k,0≤(mget m k).getD 0∧(mget m k).getD 0≤B
theorem rQ: ∀(ks:List Int) (m:List (Int×Int)) (B:Int),yM B m→B+ks.length≤1000000→yM (B+ks.length) (fH ks m)
 | [],m,B,h,_=>by
   intro k
   have:=h k
   show 0≤(mget m k).getD 0∧(mget m k).getD 0≤B+((0:Nat):Int)
   omega
 | a::ks,m,B,h,hb=>by
   simp only [List.length_cons]at hb
   have ha:=h a
   have hw:W ((mget m a).getD 0+1)=(mget m a).getD 0+1:=cE (by omega)
   have:=rQ ks (cH m a (W ((mget m a).getD 0+1))) (B+1) (by
    intro k
    rw [f9,hw]
    by_cases e:k=a
    ·rw [if_pos e];exact⟨by show 0≤(mget m a).getD 0+1;omega,by show(mget m a).getD 0+1≤_;omega⟩
    ·rw [if_neg e];have:=h k;omega) (by omega)
   have e:B+((a::ks).length :Int)=B+1+ks.length:=by simp only [List.length_cons];omega
   rw [e];exact this
theorem rR(xs:List Int)(n:Int)(hn:0≤n∧n≤100000): ∀h:Nat,h≤4→yM (100001*h) (cA xs n h)
 | 0,_=>fun k=>⟨Int.le_refl 0,Int.le_refl 0⟩
 | h+1,hh=>by
   have ih:=rR xs n hn h (by omega)
   have hk:=AF xs n h hn
   have:=rQ (keyF xs n h) _ _ ih (by omega)
   intro k
   have:=this k
   exact⟨this.1,by have:=this.2;show(mget (fH (keyF xs n h) (cA xs n h)) k).getD 0≤_;omega⟩
theorem wP(m:List (Int×Int))(h:yM 400004 m): ∀k,(dV m k).length ≤400004*k
 | 0=>Nat.le_refl 0
 | k+1=>by
   have ih:=wP m h k
   have:=h k
   show(dV m k++List.replicate ((mget m (k:Int)).getD 0).toNat (k:Int)).length ≤_
   rw [List.length_append,List.length_replicate]
   omega
theorem S0(t n sh:Int)(s:MS)(K:AVal→aC Ob→Prop)(hn:0≤n∧n≤100000)(hK:K (.slice 2 0 (f7 s.xs n sh).length 1) [aX 1 s,aY s,some (.ints (some .i64) (f7 s.xs n sh))]):EG t n sh s K:=by
 unfold EG
 unfold f7 at hK
 refine aI (fun a=>?_) (fun a=>?_)
 ·rw [a]at hK
  exact⟨⟨rfl,hn,by decide,by decide⟩,hK⟩
 ·rw [a]at hK
  have hsm:=rR s.xs n hn 4 (Nat.le_refl _)
  refine⟨aH (H:=MJ t n s) (0,[]) rfl ⟨Nat.zero_le _,rfl⟩,?_⟩
  rintro⟨h,m⟩ ⟨h0,heq⟩
  dsimp only at h0 heq⊢
  refine mA (fun e=>?_) (fun e=>?_)
  ·refine⟨⟨rfl,hn,by omega,by omega⟩,aH (H:=HI2 t n s h) (0,m) rfl ⟨⟨by omega,by omega⟩,Nat.zero_le _,by rw [heq];rfl⟩,?_⟩
   rintro⟨i,m2⟩ ⟨b0,bi,beq⟩
   dsimp only at b0 bi beq⊢
   refine mA (fun e2=>?_) (fun e2=>?_)
   ·have hi:i<(keyF s.xs n h).length :=by omega
    have hkl:=AF s.xs n h hn
    have e4:W ((i:Int)+1)=((i+1:Nat):Int):=(cE (by omega)).trans rfl
    have e0:0+(i:Int).toNat *1=i:=by omega
    rw [e4,e0]
    refine⟨⟨by omega,by omega⟩,hi,aH (H:=HI2 t n s h) (i+1,cH m2 (keyF s.xs n h)[i] (W ((mget m2 (keyF s.xs n h)[i]).getD 0+1))) ?_ ⟨⟨b0,hi,?_⟩,by show(keyF s.xs n h).length - (i+1)<(keyF s.xs n h).length - i;omega⟩⟩
    ·have hg:List.getD (keyF s.xs n h) i 0=(keyF s.xs n h)[i]:=by rw [gD',gE' hi];rfl
     simp only [HI2,←hg]
     rfl
    ·have ht:(keyF s.xs n h).take (i+1)=(keyF s.xs n h).take i++ [(keyF s.xs n h)[i]]:=List.take_succ_eq_append_getElem hi
     rw [ht,show∀a b m,fH (a++b) m=fH b (fH a m)from fun a b=>by
      induction a with
      | nil=>intro m;rfl
      | cons x a ih=>intro m;exact ih _]
     rw [←beq];rfl
   ·have hi:i=(keyF s.xs n h).length :=by omega
    have e4:W ((h:Int)+1)=((h+1:Nat):Int):=(cE (by omega)).trans rfl
    rw [e4]
    refine aH (H:=MJ t n s) (h+1,m2) rfl ⟨⟨by show h+1≤4;omega,?_⟩,by show 4 - (h+1)<4 - h;omega⟩
    rw [hi,List.take_length]at beq
    exact beq
  ·have h4:h=4:=by omega
   subst h4
   subst heq
   refine⟨aH (H:=MB s (cA s.xs n 4)) (0:Nat) rfl ⟨Nat.zero_le _⟩,?_⟩
   rintro k ⟨k0⟩
   have hrl:=wP _ hsm
   refine sG (fun e3=>?_) (fun e3=>?_)
   ·have hc:=hsm k
    have hv:(mget (cA s.xs n 4) (k:Int)).getD 0=((((mget (cA s.xs n 4) (k:Int)).getD 0).toNat :Nat):Int):=by omega
    have hk4:W ((k:Int)+1)=((k+1:Nat):Int):=(cE (by omega)).trans rfl
    rw [hv,hk4]
    generalize hcc:((mget (cA s.xs n 4) (k:Int)).getD 0).toNat =c at*
    refine⟨aH (H:=HI4 s (cA s.xs n 4) k) (0,c) (by simp only [HI4,List.replicate_zero,List.append_nil]<;>rfl) ⟨⟨by omega,by omega⟩,by show 0+c=_;rw [hcc];omega⟩,?_⟩
    rintro⟨j,l⟩ ⟨c0,ceq⟩
    dsimp only at c0 ceq⊢
    rw [hcc]at ceq
    have hr:=hrl k
    have hkt:((k:Nat):Int).toNat =k:=rfl
    refine mA (fun e5=>?_) (fun e5=>?_)
    ·obtain⟨l,rfl⟩: ∃y,l=y+1:=⟨l - 1,by omega⟩
     have e6:W (((l+1:Nat):Int) - 1)=(l:Int):=(cE (by omega)).trans (by omega)
     rw [e6]
     refine⟨⟨rfl,rfl,rfl,by rw [List.length_append,List.length_replicate,hkt];omega⟩,aH (H:=HI4 s (cA s.xs n 4) k) (j+1,l) ?_ ⟨⟨c0,by show j+1+l=_;rw [hcc];omega⟩,Nat.lt_succ_self l⟩⟩
     have hrep:List.replicate (j+1) ((k:Nat):Int)=List.replicate j ((k:Nat):Int)++ [((k:Nat):Int)]:=List.replicate_succ'
     simp only [HI4,hrep,List.length_append,List.length_singleton,←List.append_assoc]
     rfl
    ·have hl:l=0:=by omega
     subst hl
     have hj:j=c:=by omega
     subst hj
     refine aH (H:=MB s (cA s.xs n 4)) (k+1:Nat) ?_ ⟨⟨by show k+1≤1024;omega⟩,by show 1024 - (k+1)<1024 - k;omega⟩
     have hrs:dV (cA s.xs n 4) (k+1)=dV (cA s.xs n 4) k++List.replicate j ((k:Nat):Int):=by
      show dV (cA s.xs n 4) k++List.replicate ((mget (cA s.xs n 4) (k:Int)).getD 0).toNat (k:Int)=_
      rw [hcc]
     simp only [MB,hrs]
     rfl
   ·have hk:k=1024:=by omega
    subst hk
    have he:cntM s.xs n=cA s.xs n 4:=rfl
    rw [he]at hK
    exact hK
def itmS:aK Ob:=fun args h=>match args,h with
 | [.ptr 0 0,.agg [.int .i64 t,.int .i64 n],.int .i64 sh],[e1,e2]=>(match eN 1 [e1,e2]with
   | some (l,s)=>some (.pre (l=s.xs.length∧0≤n∧n≤100000) (.ret (.slice 2 0 (f7 s.xs n sh).length 1) [aX 1 s,aY s,some (.ints (some .i64) (f7 s.xs n sh))]))
   | none=>none)
 | _,_=>none
theorem SY:sT' 34 itmS:=by
 intro args h o ho K hK
 unfold itmS at ho
 split at ho
 case h_2=>cases ho
 rename_i t n sh e1 e2
 split at ho<;>cases ho
 rename_i l s hm
 obtain⟨⟨hl,h1⟩,hK⟩:=hK
 have hh:=bU hm hl
 cases hh
 exact G2 t n sh s K (S0 t n sh s K h1 hK)
noncomputable def EV8:=XV.addS 34 itmS SY
noncomputable def EV9:=EV8
noncomputable def EW0:=EV9
noncomputable def EW1:=EW0
def MM(k:Int)(m:Nat)(f g:Nat→Int):Hint Ob:= {X:=Nat,st:=fun x=>([.int .i64 k,.O,.O,.O,.O,.O,.O,.view m 2 (fun i=>[.int .i64 (f i),.int .i64 (g i)]),.int .i64 (m:Int),.int .i64 (x:Int)]++List.replicate 8 .O,[]),ok:=fun x=>x≤m∧ ∀j,j<x→cO k (f j) (g j)=true,mu:=fun x=>m - x,keep:=[0,7,8,9] }
def MK(xs ys:List Int)(off k:Nat):Hint Ob:= {X:=Nat,st:=fun i=>([.slice 0 0 xs.length 1,.slice 1 off k 1,.O,.O,.O,.int .i64 (i:Int)]++List.replicate 20 .O,[some (.ints (some .i64) xs),some (.ints (some .i64) ys)]),ok:=W3 xs (ys.drop off),mu:=fun i=>xs.length - i,keep:=[0,1,5] }
def KH(xs ys:List Int)(off k:Nat)(K:AVal→aC Ob→Prop):Prop:=bif !ieq (↑(List.length xs):Int) (↑k:Int)then K (.bool false) [some (.ints (some .i64) xs),some (.ints (some .i64) ys)]else okSt (MK xs ys off k) (Hint.ok (MK xs ys off k)) [.slice 0 0 (List.length xs) 1,.slice 1 off k 1,.O,.O,.O,.int .i64 0,.O,.O,.O,.O,.O,.O,.O,.O,.O,.O,.O,.O,.O,.O,.O,.O,.O,.O,.O,.O] [some (.ints (some .i64) xs),some (.ints (some .i64) ys)]∧ ∀(x:Nat),W3 xs (List.drop off ys) x→bif ilt (↑x:Int) (↑(List.length xs):Int)then((0:Int)≤(↑x:Int)∧(↑x:Int)<(↑(List.length xs):Int))∧0+Int.toNat (↑x:Int)*(1:Nat)<List.length xs∧((0:Int)≤(↑x:Int)∧(↑x:Int)<(↑k:Int))∧off+Int.toNat (↑x:Int)*(1:Nat)<List.length ys∧bif !ieq (List.getD xs (0+Int.toNat (↑x:Int)*1) 0) (List.getD ys (off+Int.toNat (↑x:Int)*1) 0)then K (.bool false) [some (.ints (some .i64) xs),some (.ints (some .i64) ys)]else okSt (MK xs ys off k) (fun x'=>Hint.ok (MK xs ys off k) x'∧Hint.mu (MK xs ys off k) x'<Hint.mu (MK xs ys off k) x) [.slice 0 0 (List.length xs) 1,.slice 1 off k 1,.O,.O,.O,.int .i64 (W ((↑x:Int)+1)),.O,.O,.O,.O,.O,.O,.O,.O,.O,.O,.O,.O,.O,.O,.O,.O,.O,.O,.O,.O] [some (.ints (some .i64) xs),some (.ints (some .i64) ys)]else K (.bool true) [some (.ints (some .i64) xs),some (.ints (some .i64) ys)]
theorem G1(xs ys:List Int)(off k:Nat)(K:AVal→aC Ob→Prop)(h:KH xs ys off k K):cT' 33 [.slice 0 0 xs.length 1,.slice 1 off k 1] [some (.ints (some .i64) xs),some (.ints (some .i64) ys)] K:=by
 refine Y2 (aE (E:=EW1) Tryz.checked.mixed (L:=(fun _ _=>some (.states (MK xs ys off k)))) (n:=10) (aU (by kernel_rfl) h))
def s9(sh t m:Int)(ys:List Int)(off k:Nat):Hint Ob:= {X:=Nat×MS,st:=fun x=>([.int .i64 sh,.O,.O,.slice 0 off k 1,.O,.O,.O,.O,.O,.ptr 1 0,.ptr 2 0,.ptr 3 0,.O,.int .i64 (x.1:Int)]++List.replicate 79 .O,[some (.ints (some .i64) ys),some (.cells [.int .i64 0,.int .i64 0]),some (.cells [.int .i64 t,.int .i64 (IntKind.wrap .i64 ((k:Int)+m))]),aX 4 x.2,aY x.2]),ok:=nA sh t (IntKind.wrap .i64 ((k:Int)+m)) (ys.drop off),mu:=fun x=>4 - x.1,keep:=[0,3,9,10,11,13] }
def HFio(sh t m:Int)(ys:List Int)(off k:Nat)(h:Int):Hint Ob:= {X:=Nat×Int×Int×Int×MS,st:=fun x=>([.int .i64 sh,.O,.O,.slice 0 off k 1,.O,.O,.O,.O,.O,.ptr 1 0,.ptr 2 0,.ptr 3 0,.O,.int .i64 h,.int .i64 x.2.1,.ptr 5 0]++List.replicate 28 .O ++ [.slice 0 off k 1,.int .i64 (k:Int),.int .i64 (x.1:Int)]++List.replicate 46 .O,[some (.ints (some .i64) ys),some (.cells [.int .i64 0,.int .i64 0]),some (.cells [.int .i64 t,.int .i64 (IntKind.wrap .i64 ((k:Int)+m))]),aX 4 x.2.2.2.2,aY x.2.2.2.2,some (.cells [.int .i64 x.2.2.1,.int .i64 0,.bool false,.int .i64 0,.int .i64 x.2.2.2.1])]),ok:=sS sh t (IntKind.wrap .i64 ((k:Int)+m)) (ys.drop off) h,mu:=fun x=>k - x.1,keep:=[0,3,9,10,11,13,14,15,44,45,46] }
def RS(sh t m:Int)(ys:List Int)(off k:Nat):FuncId→Nat→Option (nP Ob):=fun _ q=>if q=6 then some (.states (s9 sh t m ys off k))else if q=10 then some (.statesAt 13 (HFio sh t m ys off k))else some (.rounds 12)
def DY(sh t m:Int)(ys:List Int)(off k:Nat)(K:AVal→aC Ob→Prop):Prop:=True∧bif !fB t (W ((↑k:Int)+m))then K (.tup [.raw (Value.pointer none),.agg [.int .i64 t,.int .i64 (W ((↑k:Int)+m))]]) [some (.ints (some .i64) ys)]else(((0:Int)≤t∧t≤(100000:Int))∧(0:Int)≤W ((↑k:Int)+m)∧W ((↑k:Int)+m)≤(100000:Int))∧bif ilt (2*W ((↑k:Int)+m)+5*t+6) (↑0:Int)then K (.tup [.raw (Value.pointer none),.agg [.int .i64 t,.int .i64 (W ((↑k:Int)+m))]]) [some (.ints (some .i64) ys)]else((((0:Int)≤t∧t≤(100000:Int))∧(0:Int)≤W ((↑k:Int)+m)∧W ((↑k:Int)+m)≤(100000:Int))∧True)∧((0:Int)≤(2:Int)*W ((↑k:Int)+m)+5*t+6∧2*W ((↑k:Int)+m)+5*t+(6:Int)=(2:Int)*W ((↑k:Int)+m)+5*t+6∧2*W ((↑k:Int)+m)+5*t+(6:Int)≤(4294967296:Int))∧okSt (s9 sh t m ys off k) (Hint.ok (s9 sh t m ys off k)) [.int .i64 sh,.O,.O,.slice 0 off k 1,.O,.O,.O,.O,.O,.ptr 1 0,.ptr 2 0,.ptr 3 0,.O,.int .i64 0,.O,.O,.O,.O,.O,.O,.O,.O,.O,.O,.O,.O,.O,.O,.O,.O,.O,.O,.O,.O,.O,.O,.O,.O,.O,.O,.O,.O,.O,.O,.O,.O,.O,.O,.O,.O,.O,.O,.O,.O,.O,.O,.O,.O,.O,.O,.O,.O,.O,.O,.O,.O,.O,.O,.O,.O,.O,.O,.O,.O,.O,.O,.O,.O,.O,.O,.O,.O,.O,.O,.O,.O,.O,.O,.O,.O,.O,.O,.O] [some (.ints (some .i64) ys),some (.cells [.int .i64 0,.int .i64 0]),some (.cells [.int .i64 t,.int .i64 (W ((↑k:Int)+m))]),some (.cells [.int .i64 t,.int .i64 (W ((↑k:Int)+m)),.slice 4 0 (Int.toNat (2*W ((↑k:Int)+m)+5*t+6)) 1,.int .i64 0,.int .i64 0,.int .i64 0,.int .u64 0,.int .u64 0,.bool false]),some (.ints (some .u64) (List.replicate (Int.toNat (2*W ((↑k:Int)+m)+5*t+6)) 0))]∧ ∀(x:(Nat×MS)),nA sh t (W ((↑k:Int)+m)) (List.drop off ys) x→bif ilt (↑x.1:Int) 4 then(((0:Int)≤W ((↑k:Int)+m)∧W ((↑k:Int)+m)≤(100000:Int))∧(-1000000:Int)≤(↑x.1:Int)∧(↑x.1:Int)≤(1000000:Int))∧okSt (HFio sh t m ys off k (↑(Prod.fst x):Int)) (Hint.ok (HFio sh t m ys off k (↑(Prod.fst x):Int))) [.int .i64 sh,.O,.O,.slice 0 off k 1,.O,.O,.O,.O,.O,.ptr 1 0,.ptr 2 0,.ptr 3 0,.O,.int .i64 (↑x.1:Int),.int .i64 (W ((↑k:Int)+m)+1+(↑x.1:Int)),.ptr 5 0,.O,.O,.O,.O,.O,.O,.O,.O,.O,.O,.O,.O,.O,.O,.O,.O,.O,.O,.O,.O,.O,.O,.O,.O,.O,.O,.O,.O,.slice 0 off k 1,.int .i64 (↑k:Int),.int .i64 0,.O,.O,.O,.O,.O,.O,.O,.O,.O,.O,.O,.O,.O,.O,.O,.O,.O,.O,.O,.O,.O,.O,.O,.O,.O,.O,.O,.O,.O,.O,.O,.O,.O,.O,.O,.O,.O,.O,.O,.O,.O,.O,.O,.O,.O,.O] [some (.ints (some .i64) ys),some (.cells [.int .i64 0,.int .i64 0]),some (.cells [.int .i64 t,.int .i64 (W ((↑k:Int)+m))]),some (.cells [.int .i64 (Prod.snd x).1,.int .i64 (Prod.snd x).2,.slice 4 0 (List.length (Prod.snd x).3) 1,.int .i64 (Prod.snd x).4,.int .i64 (Prod.snd x).5,.int .i64 (Prod.snd x).6,.int .u64 (Prod.snd x).7,.int .u64 (Prod.snd x).8,.bool (Prod.snd x).9]),some (.ints (some .u64) (Prod.snd x).3),some (.cells [.int .i64 0,.int .i64 0,.bool false,.int .i64 0,.int .i64 0])]∧ ∀(x_1:Hint.X (HFio sh t m ys off k (↑(Prod.fst x):Int))),sS sh t (W ((↑k:Int)+m)) (List.drop off ys) (↑x.1:Int) x_1→bif ilt (↑x_1.1:Int) (↑k:Int)then((0:Int)≤(↑x_1.1:Int)∧(↑x_1.1:Int)<(↑k:Int))∧off+Int.toNat (↑x_1.1:Int)*(1:Nat)<List.length ys∧bif ieq sh 2 then(4:Int)≠(0:Int)∧bif !ieq (Int.tmod (List.getD ys (off+Int.toNat (↑x_1.1:Int)*1) 0) 4) (↑x.1:Int)then okSt (HFio sh t m ys off k (↑(Prod.fst x):Int)) (fun x'=>Hint.ok (HFio sh t m ys off k (↑(Prod.fst x):Int)) x'∧Hint.mu (HFio sh t m ys off k (↑(Prod.fst x):Int)) x'<Hint.mu (HFio sh t m ys off k (↑(Prod.fst x):Int)) x_1) [.int .i64 sh,.O,.O,.slice 0 off k 1,.O,.O,.O,.O,.O,.ptr 1 0,.ptr 2 0,.ptr 3 0,.O,.int .i64 (↑x.1:Int),.int .i64 (Prod.snd x_1).1,.ptr 5 0,.O,.O,.O,.O,.O,.O,.O,.O,.O,.O,.O,.O,.O,.O,.O,.O,.O,.O,.O,.O,.O,.O,.O,.O,.O,.O,.O,.O,.slice 0 off k 1,.int .i64 (↑k:Int),.int .i64 (W ((↑x_1.1:Int)+1)),.O,.O,.O,.O,.O,.O,.O,.O,.O,.O,.O,.O,.O,.O,.O,.O,.O,.O,.O,.O,.O,.O,.O,.O,.O,.O,.O,.O,.O,.O,.O,.O,.O,.O,.O,.O,.O,.O,.O,.O,.O,.O,.O,.O,.O,.O] [some (.ints (some .i64) ys),some (.cells [.int .i64 0,.int .i64 0]),some (.cells [.int .i64 t,.int .i64 (W ((↑k:Int)+m))]),some (.cells [.int .i64 (Prod.snd (Prod.snd x_1.2).2).1,.int .i64 (Prod.snd (Prod.snd x_1.2).2).2,.slice 4 0 (List.length (Prod.snd (Prod.snd x_1.2).2).3) 1,.int .i64 (Prod.snd (Prod.snd x_1.2).2).4,.int .i64 (Prod.snd (Prod.snd x_1.2).2).5,.int .i64 (Prod.snd (Prod.snd x_1.2).2).6,.int .u64 (Prod.snd (Prod.snd x_1.2).2).7,.int .u64 (Prod.snd (Prod.snd x_1.2).2).8,.bool (Prod.snd (Prod.snd x_1.2).2).9]),some (.ints (some .u64) (Prod.snd (Prod.snd x_1.2).2).3),some (.cells [.int .i64 (Prod.snd x_1.2).1,.int .i64 0,.bool false,.int .i64 0,.int .i64 (Prod.snd (Prod.snd x_1).2).1])]else bif !ieq sh 2 then bif ilt 0 (↑x.1:Int)then okSt (HFio sh t m ys off k (↑(Prod.fst x):Int)) (fun x'=>Hint.ok (HFio sh t m ys off k (↑(Prod.fst x):Int)) x'∧Hint.mu (HFio sh t m ys off k (↑(Prod.fst x):Int)) x'<Hint.mu (HFio sh t m ys off k (↑(Prod.fst x):Int)) x_1) [.int .i64 sh,.O,.O,.slice 0 off k 1,.O,.O,.O,.O,.O,.ptr 1 0,.ptr 2 0,.ptr 3 0,.O,.int .i64 (↑x.1:Int),.int .i64 (Prod.snd x_1).1,.ptr 5 0,.O,.O,.O,.O,.O,.O,.O,.O,.O,.O,.O,.O,.O,.O,.O,.O,.O,.O,.O,.O,.O,.O,.O,.O,.O,.O,.O,.O,.slice 0 off k 1,.int .i64 (↑k:Int),.int .i64 (W ((↑x_1.1:Int)+1)),.O,.O,.O,.O,.O,.O,.O,.O,.O,.O,.O,.O,.O,.O,.O,.O,.O,.O,.O,.O,.O,.O,.O,.O,.O,.O,.O,.O,.O,.O,.O,.O,.O,.O,.O,.O,.O,.O,.O,.O,.O,.O,.O,.O,.O,.O] [some (.ints (some .i64) ys),some (.cells [.int .i64 0,.int .i64 0]),some (.cells [.int .i64 t,.int .i64 (W ((↑k:Int)+m))]),some (.cells [.int .i64 (Prod.snd (Prod.snd x_1.2).2).1,.int .i64 (Prod.snd (Prod.snd x_1.2).2).2,.slice 4 0 (List.length (Prod.snd (Prod.snd x_1.2).2).3) 1,.int .i64 (Prod.snd (Prod.snd x_1.2).2).4,.int .i64 (Prod.snd (Prod.snd x_1.2).2).5,.int .i64 (Prod.snd (Prod.snd x_1.2).2).6,.int .u64 (Prod.snd (Prod.snd x_1.2).2).7,.int .u64 (Prod.snd (Prod.snd x_1.2).2).8,.bool (Prod.snd (Prod.snd x_1.2).2).9]),some (.ints (some .u64) (Prod.snd (Prod.snd x_1.2).2).3),some (.cells [.int .i64 (Prod.snd x_1.2).1,.int .i64 0,.bool false,.int .i64 0,.int .i64 (Prod.snd (Prod.snd x_1).2).1])]else(((0:Int)≤(Prod.snd x_1.2).1∧(Prod.snd x_1.2).1<(1024:Int))∧((0:Int)≤W ((↑x_1.1:Int)+1)∧W ((↑x_1.1:Int)+1)<(512:Int))∧((0:Int)≤(0:Int)∧(0:Int)<(32:Int))∧(0:Int)≤(Prod.snd (Prod.snd x_1).2).1∧(Prod.snd (Prod.snd x_1).2).1<(262144:Int))∧(lE' (Prod.snd (Prod.snd x_1.2).2).3∧(0:Int)≤(Prod.snd (Prod.snd x_1.2).2).4∧(Prod.snd (Prod.snd x_1.2).2).4≤(4611686018427387904:Int))∧(((0:Int)≤t∧t≤(100000:Int))∧((0:Int)≤W ((↑k:Int)+m)∧W ((↑k:Int)+m)≤(100000:Int))∧(-1099511627776:Int)≤W ((↑x_1.1:Int)+1)∧W ((↑x_1.1:Int)+1)≤(1099511627776:Int))∧(lE' (aO (Prod.snd (Prod.snd x_1.2).2).3 (Prod.snd x_1).1 (aV (Prod.snd x_1.2).1 (W ((↑x_1.1:Int)+1)) false 0 (Prod.snd (Prod.snd x_1).2).1))∧(0:Int)≤(Prod.snd (Prod.snd x_1.2).2).4+1∧(Prod.snd (Prod.snd x_1.2).2).4+(1:Int)≤(4611686018427387904:Int))∧okSt (HFio sh t m ys off k (↑(Prod.fst x):Int)) (fun x'=>Hint.ok (HFio sh t m ys off k (↑(Prod.fst x):Int)) x'∧Hint.mu (HFio sh t m ys off k (↑(Prod.fst x):Int)) x'<Hint.mu (HFio sh t m ys off k (↑(Prod.fst x):Int)) x_1) [.int .i64 sh,.O,.O,.slice 0 off k 1,.O,.O,.O,.O,.O,.ptr 1 0,.ptr 2 0,.ptr 3 0,.O,.int .i64 (↑x.1:Int),.int .i64 (W ((↑x_1.1:Int)+1)),.ptr 5 0,.O,.O,.O,.O,.O,.O,.O,.O,.O,.O,.O,.O,.O,.O,.O,.O,.O,.O,.O,.O,.O,.O,.O,.O,.O,.O,.O,.O,.slice 0 off k 1,.int .i64 (↑k:Int),.int .i64 (W ((↑x_1.1:Int)+1)),.O,.O,.O,.O,.O,.O,.O,.O,.O,.O,.O,.O,.O,.O,.O,.O,.O,.O,.O,.O,.O,.O,.O,.O,.O,.O,.O,.O,.O,.O,.O,.O,.O,.O,.O,.O,.O,.O,.O,.O,.O,.O,.O,.O,.O,.O] [some (.ints (some .i64) ys),some (.cells [.int .i64 0,.int .i64 0]),some (.cells [.int .i64 t,.int .i64 (W ((↑k:Int)+m))]),some (.cells [.int .i64 (Prod.snd (Prod.snd x_1.2).2).1,.int .i64 (Prod.snd (Prod.snd x_1.2).2).2,.slice 4 0 (List.length (aO (aO (Prod.snd (Prod.snd x_1.2).2).3 (Prod.snd x_1).1 (aV (Prod.snd x_1.2).1 (W ((↑x_1.1:Int)+1)) false 0 (Prod.snd (Prod.snd x_1).2).1)) (W ((↑k:Int)+m)+4+W ((↑x_1.1:Int)+1)) 1)) 1,.int .i64 ((Prod.snd (Prod.snd x_1.2).2).4+1+1),.int .i64 2,.int .i64 (W ((↑k:Int)+m)+4+W ((↑x_1.1:Int)+1)),.int .u64 (aA (aO (Prod.snd (Prod.snd x_1.2).2).3 (Prod.snd x_1).1 (aV (Prod.snd x_1.2).1 (W ((↑x_1.1:Int)+1)) false 0 (Prod.snd (Prod.snd x_1).2).1)) (W ((↑k:Int)+m)+4+W ((↑x_1.1:Int)+1))),.int .u64 (bif bR (aO (Prod.snd (Prod.snd x_1.2).2).3 (Prod.snd x_1).1 (aV (Prod.snd x_1.2).1 (W ((↑x_1.1:Int)+1)) false 0 (Prod.snd (Prod.snd x_1).2).1)) (W ((↑k:Int)+m)+4+W ((↑x_1.1:Int)+1))then 1 else 0),.bool (bR (aO (Prod.snd (Prod.snd x_1.2).2).3 (Prod.snd x_1).1 (aV (Prod.snd x_1.2).1 (W ((↑x_1.1:Int)+1)) false 0 (Prod.snd (Prod.snd x_1).2).1)) (W ((↑k:Int)+m)+4+W ((↑x_1.1:Int)+1)))]),some (.ints (some .u64) (aO (aO (Prod.snd (Prod.snd x_1.2).2).3 (Prod.snd x_1).1 (aV (Prod.snd x_1.2).1 (W ((↑x_1.1:Int)+1)) false 0 (Prod.snd (Prod.snd x_1).2).1)) (W ((↑k:Int)+m)+4+W ((↑x_1.1:Int)+1)) 1)),some (.cells [.int .i64 (List.getD ys (off+Int.toNat (↑x_1.1:Int)*1) 0),.int .i64 0,.bool false,.int .i64 0,.int .i64 3])]else(((0:Int)≤(Prod.snd x_1.2).1∧(Prod.snd x_1.2).1<(1024:Int))∧((0:Int)≤W ((↑x_1.1:Int)+1)∧W ((↑x_1.1:Int)+1)<(512:Int))∧((0:Int)≤(0:Int)∧(0:Int)<(32:Int))∧(0:Int)≤(Prod.snd (Prod.snd x_1).2).1∧(Prod.snd (Prod.snd x_1).2).1<(262144:Int))∧(lE' (Prod.snd (Prod.snd x_1.2).2).3∧(0:Int)≤(Prod.snd (Prod.snd x_1.2).2).4∧(Prod.snd (Prod.snd x_1.2).2).4≤(4611686018427387904:Int))∧(((0:Int)≤t∧t≤(100000:Int))∧((0:Int)≤W ((↑k:Int)+m)∧W ((↑k:Int)+m)≤(100000:Int))∧(-1099511627776:Int)≤W ((↑x_1.1:Int)+1)∧W ((↑x_1.1:Int)+1)≤(1099511627776:Int))∧(lE' (aO (Prod.snd (Prod.snd x_1.2).2).3 (Prod.snd x_1).1 (aV (Prod.snd x_1.2).1 (W ((↑x_1.1:Int)+1)) false 0 (Prod.snd (Prod.snd x_1).2).1))∧(0:Int)≤(Prod.snd (Prod.snd x_1.2).2).4+1∧(Prod.snd (Prod.snd x_1.2).2).4+(1:Int)≤(4611686018427387904:Int))∧okSt (HFio sh t m ys off k (↑(Prod.fst x):Int)) (fun x'=>Hint.ok (HFio sh t m ys off k (↑(Prod.fst x):Int)) x'∧Hint.mu (HFio sh t m ys off k (↑(Prod.fst x):Int)) x'<Hint.mu (HFio sh t m ys off k (↑(Prod.fst x):Int)) x_1) [.int .i64 sh,.O,.O,.slice 0 off k 1,.O,.O,.O,.O,.O,.ptr 1 0,.ptr 2 0,.ptr 3 0,.O,.int .i64 (↑x.1:Int),.int .i64 (W ((↑x_1.1:Int)+1)),.ptr 5 0,.O,.O,.O,.O,.O,.O,.O,.O,.O,.O,.O,.O,.O,.O,.O,.O,.O,.O,.O,.O,.O,.O,.O,.O,.O,.O,.O,.O,.slice 0 off k 1,.int .i64 (↑k:Int),.int .i64 (W ((↑x_1.1:Int)+1)),.O,.O,.O,.O,.O,.O,.O,.O,.O,.O,.O,.O,.O,.O,.O,.O,.O,.O,.O,.O,.O,.O,.O,.O,.O,.O,.O,.O,.O,.O,.O,.O,.O,.O,.O,.O,.O,.O,.O,.O,.O,.O,.O,.O,.O,.O] [some (.ints (some .i64) ys),some (.cells [.int .i64 0,.int .i64 0]),some (.cells [.int .i64 t,.int .i64 (W ((↑k:Int)+m))]),some (.cells [.int .i64 (Prod.snd (Prod.snd x_1.2).2).1,.int .i64 (Prod.snd (Prod.snd x_1.2).2).2,.slice 4 0 (List.length (aO (aO (Prod.snd (Prod.snd x_1.2).2).3 (Prod.snd x_1).1 (aV (Prod.snd x_1.2).1 (W ((↑x_1.1:Int)+1)) false 0 (Prod.snd (Prod.snd x_1).2).1)) (W ((↑k:Int)+m)+4+W ((↑x_1.1:Int)+1)) 1)) 1,.int .i64 ((Prod.snd (Prod.snd x_1.2).2).4+1+1),.int .i64 2,.int .i64 (W ((↑k:Int)+m)+4+W ((↑x_1.1:Int)+1)),.int .u64 (aA (aO (Prod.snd (Prod.snd x_1.2).2).3 (Prod.snd x_1).1 (aV (Prod.snd x_1.2).1 (W ((↑x_1.1:Int)+1)) false 0 (Prod.snd (Prod.snd x_1).2).1)) (W ((↑k:Int)+m)+4+W ((↑x_1.1:Int)+1))),.int .u64 (bif bR (aO (Prod.snd (Prod.snd x_1.2).2).3 (Prod.snd x_1).1 (aV (Prod.snd x_1.2).1 (W ((↑x_1.1:Int)+1)) false 0 (Prod.snd (Prod.snd x_1).2).1)) (W ((↑k:Int)+m)+4+W ((↑x_1.1:Int)+1))then 1 else 0),.bool (bR (aO (Prod.snd (Prod.snd x_1.2).2).3 (Prod.snd x_1).1 (aV (Prod.snd x_1.2).1 (W ((↑x_1.1:Int)+1)) false 0 (Prod.snd (Prod.snd x_1).2).1)) (W ((↑k:Int)+m)+4+W ((↑x_1.1:Int)+1)))]),some (.ints (some .u64) (aO (aO (Prod.snd (Prod.snd x_1.2).2).3 (Prod.snd x_1).1 (aV (Prod.snd x_1.2).1 (W ((↑x_1.1:Int)+1)) false 0 (Prod.snd (Prod.snd x_1).2).1)) (W ((↑k:Int)+m)+4+W ((↑x_1.1:Int)+1)) 1)),some (.cells [.int .i64 (List.getD ys (off+Int.toNat (↑x_1.1:Int)*1) 0),.int .i64 0,.bool false,.int .i64 0,.int .i64 3])]else bif !ieq sh 2 then bif ilt 0 (↑x.1:Int)then okSt (HFio sh t m ys off k (↑(Prod.fst x):Int)) (fun x'=>Hint.ok (HFio sh t m ys off k (↑(Prod.fst x):Int)) x'∧Hint.mu (HFio sh t m ys off k (↑(Prod.fst x):Int)) x'<Hint.mu (HFio sh t m ys off k (↑(Prod.fst x):Int)) x_1) [.int .i64 sh,.O,.O,.slice 0 off k 1,.O,.O,.O,.O,.O,.ptr 1 0,.ptr 2 0,.ptr 3 0,.O,.int .i64 (↑x.1:Int),.int .i64 (Prod.snd x_1).1,.ptr 5 0,.O,.O,.O,.O,.O,.O,.O,.O,.O,.O,.O,.O,.O,.O,.O,.O,.O,.O,.O,.O,.O,.O,.O,.O,.O,.O,.O,.O,.slice 0 off k 1,.int .i64 (↑k:Int),.int .i64 (W ((↑x_1.1:Int)+1)),.O,.O,.O,.O,.O,.O,.O,.O,.O,.O,.O,.O,.O,.O,.O,.O,.O,.O,.O,.O,.O,.O,.O,.O,.O,.O,.O,.O,.O,.O,.O,.O,.O,.O,.O,.O,.O,.O,.O,.O,.O,.O,.O,.O,.O,.O] [some (.ints (some .i64) ys),some (.cells [.int .i64 0,.int .i64 0]),some (.cells [.int .i64 t,.int .i64 (W ((↑k:Int)+m))]),some (.cells [.int .i64 (Prod.snd (Prod.snd x_1.2).2).1,.int .i64 (Prod.snd (Prod.snd x_1.2).2).2,.slice 4 0 (List.length (Prod.snd (Prod.snd x_1.2).2).3) 1,.int .i64 (Prod.snd (Prod.snd x_1.2).2).4,.int .i64 (Prod.snd (Prod.snd x_1.2).2).5,.int .i64 (Prod.snd (Prod.snd x_1.2).2).6,.int .u64 (Prod.snd (Prod.snd x_1.2).2).7,.int .u64 (Prod.snd (Prod.snd x_1.2).2).8,.bool (Prod.snd (Prod.snd x_1.2).2).9]),some (.ints (some .u64) (Prod.snd (Prod.snd x_1.2).2).3),some (.cells [.int .i64 (Prod.snd x_1.2).1,.int .i64 0,.bool false,.int .i64 0,.int .i64 (Prod.snd (Prod.snd x_1).2).1])]else(((0:Int)≤(Prod.snd x_1.2).1∧(Prod.snd x_1.2).1<(1024:Int))∧((0:Int)≤W ((↑x_1.1:Int)+1)∧W ((↑x_1.1:Int)+1)<(512:Int))∧((0:Int)≤(0:Int)∧(0:Int)<(32:Int))∧(0:Int)≤(Prod.snd (Prod.snd x_1).2).1∧(Prod.snd (Prod.snd x_1).2).1<(262144:Int))∧(lE' (Prod.snd (Prod.snd x_1.2).2).3∧(0:Int)≤(Prod.snd (Prod.snd x_1.2).2).4∧(Prod.snd (Prod.snd x_1.2).2).4≤(4611686018427387904:Int))∧(((0:Int)≤t∧t≤(100000:Int))∧((0:Int)≤W ((↑k:Int)+m)∧W ((↑k:Int)+m)≤(100000:Int))∧(-1099511627776:Int)≤W ((↑x_1.1:Int)+1)∧W ((↑x_1.1:Int)+1)≤(1099511627776:Int))∧(lE' (aO (Prod.snd (Prod.snd x_1.2).2).3 (Prod.snd x_1).1 (aV (Prod.snd x_1.2).1 (W ((↑x_1.1:Int)+1)) false 0 (Prod.snd (Prod.snd x_1).2).1))∧(0:Int)≤(Prod.snd (Prod.snd x_1.2).2).4+1∧(Prod.snd (Prod.snd x_1.2).2).4+(1:Int)≤(4611686018427387904:Int))∧okSt (HFio sh t m ys off k (↑(Prod.fst x):Int)) (fun x'=>Hint.ok (HFio sh t m ys off k (↑(Prod.fst x):Int)) x'∧Hint.mu (HFio sh t m ys off k (↑(Prod.fst x):Int)) x'<Hint.mu (HFio sh t m ys off k (↑(Prod.fst x):Int)) x_1) [.int .i64 sh,.O,.O,.slice 0 off k 1,.O,.O,.O,.O,.O,.ptr 1 0,.ptr 2 0,.ptr 3 0,.O,.int .i64 (↑x.1:Int),.int .i64 (W ((↑x_1.1:Int)+1)),.ptr 5 0,.O,.O,.O,.O,.O,.O,.O,.O,.O,.O,.O,.O,.O,.O,.O,.O,.O,.O,.O,.O,.O,.O,.O,.O,.O,.O,.O,.O,.slice 0 off k 1,.int .i64 (↑k:Int),.int .i64 (W ((↑x_1.1:Int)+1)),.O,.O,.O,.O,.O,.O,.O,.O,.O,.O,.O,.O,.O,.O,.O,.O,.O,.O,.O,.O,.O,.O,.O,.O,.O,.O,.O,.O,.O,.O,.O,.O,.O,.O,.O,.O,.O,.O,.O,.O,.O,.O,.O,.O,.O,.O] [some (.ints (some .i64) ys),some (.cells [.int .i64 0,.int .i64 0]),some (.cells [.int .i64 t,.int .i64 (W ((↑k:Int)+m))]),some (.cells [.int .i64 (Prod.snd (Prod.snd x_1.2).2).1,.int .i64 (Prod.snd (Prod.snd x_1.2).2).2,.slice 4 0 (List.length (aO (aO (Prod.snd (Prod.snd x_1.2).2).3 (Prod.snd x_1).1 (aV (Prod.snd x_1.2).1 (W ((↑x_1.1:Int)+1)) false 0 (Prod.snd (Prod.snd x_1).2).1)) (W ((↑k:Int)+m)+4+W ((↑x_1.1:Int)+1)) 1)) 1,.int .i64 ((Prod.snd (Prod.snd x_1.2).2).4+1+1),.int .i64 2,.int .i64 (W ((↑k:Int)+m)+4+W ((↑x_1.1:Int)+1)),.int .u64 (aA (aO (Prod.snd (Prod.snd x_1.2).2).3 (Prod.snd x_1).1 (aV (Prod.snd x_1.2).1 (W ((↑x_1.1:Int)+1)) false 0 (Prod.snd (Prod.snd x_1).2).1)) (W ((↑k:Int)+m)+4+W ((↑x_1.1:Int)+1))),.int .u64 (bif bR (aO (Prod.snd (Prod.snd x_1.2).2).3 (Prod.snd x_1).1 (aV (Prod.snd x_1.2).1 (W ((↑x_1.1:Int)+1)) false 0 (Prod.snd (Prod.snd x_1).2).1)) (W ((↑k:Int)+m)+4+W ((↑x_1.1:Int)+1))then 1 else 0),.bool (bR (aO (Prod.snd (Prod.snd x_1.2).2).3 (Prod.snd x_1).1 (aV (Prod.snd x_1.2).1 (W ((↑x_1.1:Int)+1)) false 0 (Prod.snd (Prod.snd x_1).2).1)) (W ((↑k:Int)+m)+4+W ((↑x_1.1:Int)+1)))]),some (.ints (some .u64) (aO (aO (Prod.snd (Prod.snd x_1.2).2).3 (Prod.snd x_1).1 (aV (Prod.snd x_1.2).1 (W ((↑x_1.1:Int)+1)) false 0 (Prod.snd (Prod.snd x_1).2).1)) (W ((↑k:Int)+m)+4+W ((↑x_1.1:Int)+1)) 1)),some (.cells [.int .i64 (List.getD ys (off+Int.toNat (↑x_1.1:Int)*1) 0),.int .i64 0,.bool false,.int .i64 0,.int .i64 3])]else(((0:Int)≤(Prod.snd x_1.2).1∧(Prod.snd x_1.2).1<(1024:Int))∧((0:Int)≤W ((↑x_1.1:Int)+1)∧W ((↑x_1.1:Int)+1)<(512:Int))∧((0:Int)≤(0:Int)∧(0:Int)<(32:Int))∧(0:Int)≤(Prod.snd (Prod.snd x_1).2).1∧(Prod.snd (Prod.snd x_1).2).1<(262144:Int))∧(lE' (Prod.snd (Prod.snd x_1.2).2).3∧(0:Int)≤(Prod.snd (Prod.snd x_1.2).2).4∧(Prod.snd (Prod.snd x_1.2).2).4≤(4611686018427387904:Int))∧(((0:Int)≤t∧t≤(100000:Int))∧((0:Int)≤W ((↑k:Int)+m)∧W ((↑k:Int)+m)≤(100000:Int))∧(-1099511627776:Int)≤W ((↑x_1.1:Int)+1)∧W ((↑x_1.1:Int)+1)≤(1099511627776:Int))∧(lE' (aO (Prod.snd (Prod.snd x_1.2).2).3 (Prod.snd x_1).1 (aV (Prod.snd x_1.2).1 (W ((↑x_1.1:Int)+1)) false 0 (Prod.snd (Prod.snd x_1).2).1))∧(0:Int)≤(Prod.snd (Prod.snd x_1.2).2).4+1∧(Prod.snd (Prod.snd x_1.2).2).4+(1:Int)≤(4611686018427387904:Int))∧okSt (HFio sh t m ys off k (↑(Prod.fst x):Int)) (fun x'=>Hint.ok (HFio sh t m ys off k (↑(Prod.fst x):Int)) x'∧Hint.mu (HFio sh t m ys off k (↑(Prod.fst x):Int)) x'<Hint.mu (HFio sh t m ys off k (↑(Prod.fst x):Int)) x_1) [.int .i64 sh,.O,.O,.slice 0 off k 1,.O,.O,.O,.O,.O,.ptr 1 0,.ptr 2 0,.ptr 3 0,.O,.int .i64 (↑x.1:Int),.int .i64 (W ((↑x_1.1:Int)+1)),.ptr 5 0,.O,.O,.O,.O,.O,.O,.O,.O,.O,.O,.O,.O,.O,.O,.O,.O,.O,.O,.O,.O,.O,.O,.O,.O,.O,.O,.O,.O,.slice 0 off k 1,.int .i64 (↑k:Int),.int .i64 (W ((↑x_1.1:Int)+1)),.O,.O,.O,.O,.O,.O,.O,.O,.O,.O,.O,.O,.O,.O,.O,.O,.O,.O,.O,.O,.O,.O,.O,.O,.O,.O,.O,.O,.O,.O,.O,.O,.O,.O,.O,.O,.O,.O,.O,.O,.O,.O,.O,.O,.O,.O] [some (.ints (some .i64) ys),some (.cells [.int .i64 0,.int .i64 0]),some (.cells [.int .i64 t,.int .i64 (W ((↑k:Int)+m))]),some (.cells [.int .i64 (Prod.snd (Prod.snd x_1.2).2).1,.int .i64 (Prod.snd (Prod.snd x_1.2).2).2,.slice 4 0 (List.length (aO (aO (Prod.snd (Prod.snd x_1.2).2).3 (Prod.snd x_1).1 (aV (Prod.snd x_1.2).1 (W ((↑x_1.1:Int)+1)) false 0 (Prod.snd (Prod.snd x_1).2).1)) (W ((↑k:Int)+m)+4+W ((↑x_1.1:Int)+1)) 1)) 1,.int .i64 ((Prod.snd (Prod.snd x_1.2).2).4+1+1),.int .i64 2,.int .i64 (W ((↑k:Int)+m)+4+W ((↑x_1.1:Int)+1)),.int .u64 (aA (aO (Prod.snd (Prod.snd x_1.2).2).3 (Prod.snd x_1).1 (aV (Prod.snd x_1.2).1 (W ((↑x_1.1:Int)+1)) false 0 (Prod.snd (Prod.snd x_1).2).1)) (W ((↑k:Int)+m)+4+W ((↑x_1.1:Int)+1))),.int .u64 (bif bR (aO (Prod.snd (Prod.snd x_1.2).2).3 (Prod.snd x_1).1 (aV (Prod.snd x_1.2).1 (W ((↑x_1.1:Int)+1)) false 0 (Prod.snd (Prod.snd x_1).2).1)) (W ((↑k:Int)+m)+4+W ((↑x_1.1:Int)+1))then 1 else 0),.bool (bR (aO (Prod.snd (Prod.snd x_1.2).2).3 (Prod.snd x_1).1 (aV (Prod.snd x_1.2).1 (W ((↑x_1.1:Int)+1)) false 0 (Prod.snd (Prod.snd x_1).2).1)) (W ((↑k:Int)+m)+4+W ((↑x_1.1:Int)+1)))]),some (.ints (some .u64) (aO (aO (Prod.snd (Prod.snd x_1.2).2).3 (Prod.snd x_1).1 (aV (Prod.snd x_1.2).1 (W ((↑x_1.1:Int)+1)) false 0 (Prod.snd (Prod.snd x_1).2).1)) (W ((↑k:Int)+m)+4+W ((↑x_1.1:Int)+1)) 1)),some (.cells [.int .i64 (List.getD ys (off+Int.toNat (↑x_1.1:Int)*1) 0),.int .i64 0,.bool false,.int .i64 0,.int .i64 3])]else(((0:Int)≤(Prod.snd x_1.2).1∧(Prod.snd x_1.2).1<(1024:Int))∧((0:Int)≤(0:Int)∧(0:Int)<(512:Int))∧((0:Int)≤(0:Int)∧(0:Int)<(32:Int))∧(0:Int)≤(Prod.snd (Prod.snd x_1).2).1∧(Prod.snd (Prod.snd x_1).2).1<(262144:Int))∧(lE' (Prod.snd (Prod.snd x_1.2).2).3∧(0:Int)≤(Prod.snd (Prod.snd x_1.2).2).4∧(Prod.snd (Prod.snd x_1.2).2).4≤(4611686018427387904:Int))∧okSt (s9 sh t m ys off k) (fun x'=>Hint.ok (s9 sh t m ys off k) x'∧Hint.mu (s9 sh t m ys off k) x'<Hint.mu (s9 sh t m ys off k) x) [.int .i64 sh,.O,.O,.slice 0 off k 1,.O,.O,.O,.O,.O,.ptr 1 0,.ptr 2 0,.ptr 3 0,.O,.int .i64 (W ((↑x.1:Int)+1)),.O,.O,.O,.O,.O,.O,.O,.O,.O,.O,.O,.O,.O,.O,.O,.O,.O,.O,.O,.O,.O,.O,.O,.O,.O,.O,.O,.O,.O,.O,.O,.O,.O,.O,.O,.O,.O,.O,.O,.O,.O,.O,.O,.O,.O,.O,.O,.O,.O,.O,.O,.O,.O,.O,.O,.O,.O,.O,.O,.O,.O,.O,.O,.O,.O,.O,.O,.O,.O,.O,.O,.O,.O,.O,.O,.O,.O,.O,.O] [some (.ints (some .i64) ys),some (.cells [.int .i64 0,.int .i64 0]),some (.cells [.int .i64 t,.int .i64 (W ((↑k:Int)+m))]),some (.cells [.int .i64 (Prod.snd (Prod.snd x_1.2).2).1,.int .i64 (Prod.snd (Prod.snd x_1.2).2).2,.slice 4 0 (List.length (aO (Prod.snd (Prod.snd x_1.2).2).3 (Prod.snd x_1).1 (aV (Prod.snd x_1.2).1 0 false 0 (Prod.snd (Prod.snd x_1).2).1))) 1,.int .i64 ((Prod.snd (Prod.snd x_1.2).2).4+1),.int .i64 2,.int .i64 (Prod.snd x_1).1,.int .u64 (aA (Prod.snd (Prod.snd x_1.2).2).3 (Prod.snd x_1).1),.int .u64 (bif bR (Prod.snd (Prod.snd x_1.2).2).3 (Prod.snd x_1).1 then aV (Prod.snd x_1.2).1 0 false 0 (Prod.snd (Prod.snd x_1).2).1 else 0),.bool (bR (Prod.snd (Prod.snd x_1.2).2).3 (Prod.snd x_1).1)]),some (.ints (some .u64) (aO (Prod.snd (Prod.snd x_1.2).2).3 (Prod.snd x_1).1 (aV (Prod.snd x_1.2).1 0 false 0 (Prod.snd (Prod.snd x_1).2).1)))]else K (.tup [.ptr 1 0,.agg [.int .i64 t,.int .i64 (W ((↑k:Int)+m))]]) [some (.ints (some .i64) ys),some (.cells [.int .i64 (Prod.snd x).1,.int .i64 (Prod.snd x).2,.slice 2 0 (List.length (Prod.snd x).3) 1,.int .i64 (Prod.snd x).4,.int .i64 (Prod.snd x).5,.int .i64 (Prod.snd x).6,.int .u64 (Prod.snd x).7,.int .u64 (Prod.snd x).8,.bool (Prod.snd x).9]),some (.ints (some .u64) (Prod.snd x).3)]
theorem F5(sh t m:Int)(ys:List Int)(off k:Nat)(K:AVal→aC Ob→Prop)(h:DY sh t m ys off k K):cT' 15 [.int .i64 sh,.int .i64 t,.int .i64 m,.slice 0 off k 1] [some (.ints (some .i64) ys)] K:=by
 refine Y2 (aE (E:=EW1) Tryz.checked.mixed (L:=(RS sh t m ys off k)) (n:=10) (aU (by kernel_rfl) h))
theorem xK{ys:List Int}{off k i:Nat}(ho:off+k=ys.length)(hi:i<k):ys.getD (off+(i:Int).toNat *1) 0=(ys.drop off)[i]'(by rw [List.length_drop];omega):=by
 have e:off+(i:Int).toNat *1=off+i:=by omega
 rw [e,List.getElem_drop,gD',gE' (by omega)];rfl
theorem SX(xs ys:List Int)(off k:Nat)(K:AVal→aC Ob→Prop)(ho:off+k=ys.length)(hp:xs.length≤4294967296)(hK:K (.bool (nV xs (ys.drop off))) [some (.ints (some .i64) xs),some (.ints (some .i64) ys)]):KH xs ys off k K:=by
 have hd:(ys.drop off).length =k:=by rw [List.length_drop];omega
 have hS:nV xs (ys.drop off)=decide (xs=ys.drop off):=rfl
 refine aI (fun e=>?_) (fun e=>⟨aH (H:=MK xs ys off k) (0:Nat) rfl ⟨Nat.zero_le _,?_,rfl⟩,?_⟩)
 ·rw [bJ]at e
  have:xs≠ys.drop off:=by intro h;rw [h,hd]at e;simp at e
  rw [hS,decide_eq_false this]at hK;exact hK
 ·rw [bJ]at e;simp at e;omega
 ·rintro i ⟨h1,h2,h3⟩
  refine aI (fun e1=>?_) (fun e1=>?_)
  ·rw [bB,dT']at e1
   have hi:i<xs.length:=by omega
   have hj:i<(ys.drop off).length :=by omega
   have e2:0+(i:Int).toNat *1=i:=by omega
   rw [e2,xK ho (show i<k by omega)]
   refine⟨by omega,hi,by omega,by omega,aI (fun e3=>?_) (fun e3=>?_)⟩
   ·rw [bJ]at e3
    have:xs≠ys.drop off:=by
     intro h
     have:xs.getD i 0=(ys.drop off)[i]:=by rw [gD',gE' hi];simp only [h]<;>rfl
     rw [this]at e3;simp at e3
    rw [hS,decide_eq_false this]at hK;exact hK
   ·rw [bJ]at e3
    have e3:xs.getD i 0=(ys.drop off)[i]:=by simpa using e3
    have e4:IntKind.wrap .i64 ((i:Int)+1)=((i+1:Nat):Int):=by rw [cE (by omega)];rfl
    refine aH (H:=MK xs ys off k) (i+1:Nat) (by simp only [W,e4]<;>rfl) ⟨⟨hi,h2,?_⟩,by show xs.length - (i+1)<xs.length - i;omega⟩
    rw [gD',gE' hi]at e3
    rw [List.take_succ_eq_append_getElem hi,List.take_succ_eq_append_getElem hj,h3]
    have e5:xs[i]=(ys.drop off)[i]:=by simpa using e3
    rw [e5]
  ·rw [bB,dF']at e1
   have:xs=ys.drop off:=by
    rw [List.take_of_length_le (by omega),List.take_of_length_le (by omega)]at h3;exact h3
   rw [hS,decide_eq_true this]at hK;exact hK
def iofS:aK Ob:=fun args h=>match args,h with
 | [.slice 0 0 n 1,.slice 1 off k 1],[some (.ints (some .i64) xs),some (.ints (some .i64) ys)]=>some (.pre ((n=xs.length∧off+k=ys.length)∧n≤4294967296) (.ret (.bool (nV xs (ys.drop off))) [some (.ints (some .i64) xs),some (.ints (some .i64) ys)]))
 | _,_=>none
theorem SW:sT' 33 iofS:=by
 intro args h o ho K hK
 unfold iofS at ho
 split at ho<;>cases ho
 rename_i n off k xs ys
 obtain⟨⟨⟨rfl,hf⟩,hp⟩,hK⟩:=hK
 exact G1 xs ys off k K (SX xs ys off k K hf hp hK)
theorem RV(sh t m:Int)(ys:List Int)(off k:Nat)(K:AVal→aC Ob→Prop)(ho:off+k=ys.length)(hm:0≤m∧m≤100)(hl:k≤100)(hr:fB t ((k:Int)+m)=true)(hk: ∀q∈ys.drop off,0≤q∧q<1024)
 (hK:K (.tup [.ptr 1 0,.agg [.int .i64 t,.int .i64 ((k:Int)+m)]]) [some (.ints (some .i64) ys),aX 2 (fA sh ((k:Int)+m) (ys.drop off) 4 0 (memN t ((k:Int)+m))),aY (fA sh ((k:Int)+m) (ys.drop off) 4 0 (memN t ((k:Int)+m)))]):DY sh t m ys off k K:=by
 have hd:(ys.drop off).length =k:=by rw [List.length_drop];omega
 unfold DY
 have hr2:=mJ.1 hr
 have hn:W ((k:Int)+m)=k+m:=cE (by omega)
 have hr':fB t (W ((k:Int)+m))=true:=by rw [hn];exact hr
 have hz:(2*W ((k:Int)+m)+5*t+6).toNat =(2*((k:Int)+m)+5*t+6).toNat :=by rw [hn]
 rw [hr']
 refine⟨trivial,aI (fun e=>by cases e) (fun _=>⟨⟨by omega,by omega,by omega⟩,aI (fun e=>?_) (fun _=>⟨⟨⟨by omega,by omega,by omega⟩,trivial⟩,⟨by omega,rfl,by omega⟩,?_,?_⟩)⟩)⟩
 ·rw [bB,dT']at e;omega
 ·refine aH (H:=s9 sh t m ys off k) ((0:Nat),memN t (W ((k:Int)+m))) ?_ ⟨Nat.zero_le _,⟨Int.le_refl 0,by show(0:Int)≤_;omega⟩,rfl⟩
  simp only [s9,aX,aY,memN,List.length_replicate]
  rfl
 ·rintro⟨h,s⟩ ⟨h4,hc,heq⟩
  simp only at h4 hc heq
  refine aI (fun e1=>?_) (fun e1=>?_)
  ·rw [bB,dT']at e1
   refine⟨⟨by omega,by omega,by omega⟩,aH (H:=HFio sh t m ys off k (h:Int)) ((0:Nat),(W ((k:Int)+m)+1+h,((0:Int),((0:Int),s)))) rfl ⟨by omega,Nat.zero_le _,⟨Int.le_refl 0,by show(0:Int)<1024;omega⟩,⟨Int.le_refl 0,by show(0:Int)<262144;omega⟩,⟨hc.1,by show s.c≤1000*(h:Int)+3*((0:Nat):Int);omega⟩,?_⟩,?_⟩
   ·rw [heq,tU _ _ _ _ (by omega)];rfl
   ·rintro⟨i,a,ky,vr,s1⟩ ⟨g4,gi,gk,gv,gc,geq⟩
    simp only at g4 gi gk gv gc geq
    have gc2:s1.c≤1000*(h:Int)+3*i:=gc.2
    have gc1:0≤s1.c:=gc.1
    have gh:(h:Int)<4:=g4.2
    have hskip: ∀(hi:i<k),dB sh h (ys.getD (off+(i:Int).toNat *1) 0)=true→okSt (HFio sh t m ys off k h) (fun x'=>Hint.ok (HFio sh t m ys off k h) x'∧Hint.mu (HFio sh t m ys off k h) x'<Hint.mu (HFio sh t m ys off k h) (i,a,ky,vr,s1)) ((HFio sh t m ys off k h).st ((i+1:Nat),a,ky,vr,s1)).1 ((HFio sh t m ys off k h).st ((i+1:Nat),a,ky,vr,s1)).2:=by
     intro hi hs
     refine aH (H:=HFio sh t m ys off k h) ((i+1:Nat),a,ky,vr,s1) rfl ⟨⟨g4,(by show i+1≤(ys.drop off).length;omega),gk,gv,⟨gc.1,by show s1.c≤1000*(h:Int)+3*((i+1:Nat):Int);omega⟩,?_⟩,by show k - (i+1)<k - i;omega⟩
     rw [xK ho hi]at hs
     rw [geq,List.drop_eq_getElem_cons (show i<(ys.drop off).length by omega),rW _ _ _ _ _ _ _ _ _ _ hs];rfl
    have hput: ∀(hi:i<k),dB sh h (ys.getD (off+(i:Int).toNat *1) 0)=false→okSt (HFio sh t m ys off k h) (fun x'=>Hint.ok (HFio sh t m ys off k h) x'∧Hint.mu (HFio sh t m ys off k h) x'<Hint.mu (HFio sh t m ys off k h) (i,a,ky,vr,s1)) ((HFio sh t m ys off k h).st ((i+1:Nat),((i+1:Nat):Int),(ys.getD (off+(i:Int).toNat *1) 0,(3:Int),((s1.stored a (aV ky ((i:Int)+1) false 0 vr)).stored (W ((k:Int)+m)+4+((i:Int)+1)) 1)))).1 ((HFio sh t m ys off k h).st ((i+1:Nat),((i+1:Nat):Int),(ys.getD (off+(i:Int).toNat *1) 0,(3:Int),((s1.stored a (aV ky ((i:Int)+1) false 0 vr)).stored (W ((k:Int)+m)+4+((i:Int)+1)) 1)))).2:=by
     intro hi hs
     rw [xK ho hi]at hs⊢
     refine aH (H:=HFio sh t m ys off k h) _ rfl ⟨⟨g4,(by show i+1≤(ys.drop off).length;omega),hk _ (List.getElem_mem _),⟨by show(0:Int)≤3;omega,by show(3:Int)<262144;omega⟩,⟨?_,?_⟩,?_⟩,by show k - (i+1)<k - i;omega⟩
     ·show 0≤s1.c+1+1;omega
     ·show s1.c+1+1≤1000*(h:Int)+3*((i+1:Nat):Int);omega
     ·rw [geq,List.drop_eq_getElem_cons (show i<(ys.drop off).length by omega),rX _ _ _ _ _ _ _ _ _ _ hs];rfl
    have e4:i<k→W ((i:Int)+1)=((i+1:Nat):Int):=fun hi=>(cE (by omega)).trans rfl
    have e4':W ((h:Int)+1)=((h+1:Nat):Int):=(cE (by have:(h:Int)<4:=g4.2;omega)).trans rfl
    refine aI (fun e2=>?_) (fun e2=>?_)
    ·rw [bB,dT']at e2
     have hi:i<k:=by omega
     have e4:=e4 hi
     have e0:off+(i:Int).toNat *1<ys.length:=by omega
     refine⟨⟨by omega,by omega⟩,e0,?_⟩
     have hput:=hput hi
     have hskip:=hskip hi
     unfold dB at hput hskip
     simp only [e4]at hput hskip⊢
     refine aI (fun e5=>?_) (fun e5=>?_)
     ·rw [e5]at hput hskip
      refine⟨by decide,aI (fun e6=>?_) (fun e6=>?_)⟩
      ·exact hskip e6
      ·rw [e5]
       refine aI (fun e7=>by cases e7) (fun _=>?_)
       refine⟨⟨gk,⟨by omega,by omega⟩,⟨by decide,by decide⟩,gv⟩,⟨trivial,gc.1,by omega⟩,⟨⟨by omega,by omega⟩,⟨by omega,by omega⟩,by omega,by omega⟩,⟨trivial,by omega,by omega⟩,?_⟩
       exact hput e6
     ·rw [e5]at hput hskip
      rw [e5]
      refine aI (fun _=>aI (fun e6=>?_) (fun e6=>?_)) (fun e7=>by cases e7)
      ·exact hskip e6
      ·refine⟨⟨gk,⟨by omega,by omega⟩,⟨by decide,by decide⟩,gv⟩,⟨trivial,gc.1,by omega⟩,⟨⟨by omega,by omega⟩,⟨by omega,by omega⟩,by omega,by omega⟩,⟨trivial,by omega,by omega⟩,?_⟩
       exact hput e6
    ·rw [bB,dF']at e2
     have hi:i=k:=by omega
     refine⟨⟨gk,⟨by decide,by decide⟩,⟨by decide,by decide⟩,gv⟩,⟨rfl,gc1,by show s1.c≤4611686018427387904;omega⟩,aH (H:=s9 sh t m ys off k) ((h+1:Nat),s1.stored a (aV ky 0 false 0 vr)) ?_ ⟨⟨by show h+1≤4;omega,⟨by show 0≤s1.c+1;omega,by show s1.c+1≤1000*((h+1:Nat):Int);omega⟩,?_⟩,by show 4 - (h+1)<4 - h;omega⟩⟩
     ·simp only [s9,←e4']
      rfl
     ·rw [geq,show(ys.drop off).drop i=[]from List.drop_eq_nil_of_le (by omega)]
      have e9:(3 - (h:Int)).toNat =4 - (h+1):=by omega
      rw [e9];rfl
  ·rw [bB,dF']at e1
   have e5:h=4:=by omega
   subst e5
   have heq':fA sh (W ((k:Int)+m)) (ys.drop off) 4 0 (memN t (W ((k:Int)+m)))=s:=heq
   rw [hn]at heq'
   rw [heq']at hK
   rw [hn]
   exact hK
def fillSo:aK Ob:=fun args h=>match args,h with
 | [.int .i64 sh,.int .i64 t,.int .i64 m,.slice 0 off k 1],[some (.ints (some .i64) ys)]=>some (.pre (off+k=ys.length∧tT t m (ys.drop off)) (.ret (.tup [.ptr 1 0,.agg [.int .i64 t,.int .i64 (k+m)]]) [some (.ints (some .i64) ys),aX 2 (cJ sh t (k+m) (ys.drop off)),aY (cJ sh t (k+m) (ys.drop off))]))
 | _,_=>none
theorem JN:sT' 15 fillSo:=by
 intro args h o ho K hK
 unfold fillSo at ho
 split at ho<;>cases ho
 rename_i sh t m off k ys
 obtain⟨⟨hf,ok⟩,hK⟩:=hK
 have hd:(ys.drop off).length =k:=by rw [List.length_drop];omega
 exact F5 sh t m ys off k K (RV sh t m ys off k K hf ok.hm (by rw [←hd];exact ok.hl) (by rw [←hd];exact ok.hr) ok.hk hK)
noncomputable def EW2:=((EW1).addS 33 iofS SW).addS 15 (aK.or fillSo fillSb) (ZM JN zT)
def uB(S:List STS):List Int:=S.flatMap fun st=>bD st.sp st.R
def gA(xs:List Int)(n:Int):List Int:=ndF xs n 0++(ndF xs n 1++(ndF xs n 2++ndF xs n 3))
def lE(xs:List Int)(n:Int)(S:List STS):Bool:=match fC xs n (uB S++gA xs n) []with
 | none=>false
 | some m=>ieq (m.length:Int) (n - (hU xs n).length)
def FK(t n nd:Int)(s:MS)(K:AVal→aC Ob→Prop):Prop:=True∧bif bC n nd then(((0:Int)≤t∧t≤(100000:Int))∧((0:Int)≤n∧n≤(100000:Int))∧(-1099511627776:Int)≤nd∧nd≤(1099511627776:Int))∧(lE' s.3∧True)∧(2:Int)≠(0:Int)∧K (.bool (ieq (Int.tmod (aA s.3 (n+4+nd)) 2) 1)) [some (.cells [.int .i64 s.1,.int .i64 s.2,.slice 1 0 (List.length s.3) 1,.int .i64 s.4,.int .i64 s.5,.int .i64 s.6,.int .u64 s.7,.int .u64 s.8,.bool s.9]),some (.ints (some .u64) s.3)]else K (.bool false) [some (.cells [.int .i64 s.1,.int .i64 s.2,.slice 1 0 (List.length s.3) 1,.int .i64 s.4,.int .i64 s.5,.int .i64 s.6,.int .u64 s.7,.int .u64 s.8,.bool s.9]),some (.ints (some .u64) s.3)]
theorem H0(t n nd:Int)(s:MS)(K:AVal→aC Ob→Prop)(h:FK t n nd s K):cT' 90 [.ptr 0 0,.agg [.int .i64 t,.int .i64 n],.int .i64 nd] [aX 1 s,aY s] K:=by
 refine Y2 (cM' (E:=EW2) (by kernel_rfl) h)
theorem UH(t n nd:Int)(s:MS)(K:AVal→aC Ob→Prop)(ht:0≤t∧t≤100000)(hn:0≤n∧n≤100000)(hK:K (.bool (cY s.xs n nd)) [aX 1 s,aY s]):FK t n nd s K:=by
 unfold FK
 unfold cY at hK
 cases hb:bC n nd with
 | true=>
   rw [hb]at hK
   have hb2:1≤nd∧nd≤n:=by
    unfold bC at hb
    rw [bV,bV]at hb
    simpa using hb
   exact⟨trivial,⟨ht,hn,by omega,by omega⟩,⟨rfl,trivial⟩,by decide,hK⟩
 | false=>rw [hb]at hK;exact⟨trivial,hK⟩
def takS:aK Ob:=fun args h=>match args,h with
 | [.ptr 0 0,.agg [.int .i64 t,.int .i64 n],.int .i64 nd],[e1,e2]=>(match eN 1 [e1,e2]with
   | some (l,s)=>some (.pre (l=s.xs.length∧(0≤t∧t≤100000)∧(0≤n∧n≤100000)) (.ret (.bool (cY s.xs n nd)) [aX 1 s,aY s]))
   | none=>none)
 | _,_=>none
theorem UG:sT' 90 takS:=by
 intro args h o ho K hK
 unfold takS at ho
 split at ho
 case h_2=>cases ho
 rename_i t n nd e1 e2
 split at ho<;>cases ho
 rename_i l s hm
 obtain⟨⟨hl,h0,h1⟩,hK⟩:=hK
 have hh:=bU hm hl
 cases hh
 exact H0 t n nd s K (UH t n nd s K h0 h1 hK)
noncomputable def EJ0:=EW2.addS 90 takS UG
def fV(xs:List Int)(n:Int)(k:Nat):List Int:=((List.range k).map fun(i:Nat)=>(i:Int)+1).filter fun r=>!cY xs n r
theorem CH(xs:List Int)(n:Int)(k:Nat):fV xs n (k+1)=fV xs n k++(bif cY xs n ((k:Int)+1)then []else [(k:Int)+1]):=by
 unfold fV
 rw [List.range_succ,List.map_append,List.filter_append]
 cases h:cY xs n ((k:Int)+1)<;>simp [h]
theorem v8(xs:List Int)(n:Int)(k:Nat):(fV xs n k).length ≤k:=by
 unfold fV
 exact Nat.le_trans (List.length_filter_le _ _) (by simp)
structure V5 (n:Int) (i:Nat):Prop where
 h:(i:Int)≤n
def BB(t n:Int)(s:MS):Hint Ob:= {X:=Nat,st:=fun i=>([.ptr 0 0,.O,.O,.ptr 2 0,.O,.slice 3 0 (fV s.xs n i).length 1,.int .i64 ((i:Int)+1)]++List.replicate 15 .O,[aX 1 s,aY s,some (.cells [.int .i64 t,.int .i64 n]),some (.ints (some .i64) (fV s.xs n i))]),ok:=V5 n,mu:=fun i=>n.toNat - i,keep:=[0,3,5,6],casts:=[(.slot 5,.ints (some .i64))] }
def D4(t n:Int)(s:MS)(K:AVal→aC Ob→Prop):Prop:=okSt (BB t n s) (Hint.ok (BB t n s)) [.ptr 0 0,.O,.O,.ptr 2 0,.O,.slice 3 0 0 1,.int .i64 1,.O,.O,.O,.O,.O,.O,.O,.O,.O,.O,.O,.O,.O,.O,.O] [some (.cells [.int .i64 s.1,.int .i64 s.2,.slice 1 0 (List.length s.3) 1,.int .i64 s.4,.int .i64 s.5,.int .i64 s.6,.int .u64 s.7,.int .u64 s.8,.bool s.9]),some (.ints (some .u64) s.3),some (.cells [.int .i64 t,.int .i64 n]),some (.ints (some .i64) [])]∧ ∀(x:Nat),V5 n x→True∧bif bC n ((↑x:Int)+1)then(lE' s.3∧((0:Int)≤t∧t≤(100000:Int))∧(0:Int)≤n∧n≤(100000:Int))∧bif !cY s.3 n ((↑x:Int)+1)then(0=0∧lE' (fV s.3 n x)∧1=1∧List.length (fV s.3 n x)+(1:Nat)≤(4294967296:Nat))∧okSt (BB t n s) (fun x'=>Hint.ok (BB t n s) x'∧Hint.mu (BB t n s) x'<Hint.mu (BB t n s) x) [.ptr 0 0,.O,.O,.ptr 2 0,.O,.slice 3 0 (List.length (fV s.3 n x)+1) 1,.int .i64 (W ((↑x:Int)+1+1)),.O,.O,.O,.O,.O,.O,.O,.O,.O,.O,.O,.O,.O,.O,.O] [some (.cells [.int .i64 s.1,.int .i64 s.2,.slice 1 0 (List.length s.3) 1,.int .i64 s.4,.int .i64 s.5,.int .i64 s.6,.int .u64 s.7,.int .u64 s.8,.bool s.9]),some (.ints (some .u64) s.3),some (.cells [.int .i64 t,.int .i64 n]),some (.ints (some .i64) (fV s.3 n x++ [(↑x:Int)+1]))]else okSt (BB t n s) (fun x'=>Hint.ok (BB t n s) x'∧Hint.mu (BB t n s) x'<Hint.mu (BB t n s) x) [.ptr 0 0,.O,.O,.ptr 2 0,.O,.slice 3 0 (List.length (fV s.3 n x)) 1,.int .i64 (W ((↑x:Int)+1+1)),.O,.O,.O,.O,.O,.O,.O,.O,.O,.O,.O,.O,.O,.O,.O] [some (.cells [.int .i64 s.1,.int .i64 s.2,.slice 1 0 (List.length s.3) 1,.int .i64 s.4,.int .i64 s.5,.int .i64 s.6,.int .u64 s.7,.int .u64 s.8,.bool s.9]),some (.ints (some .u64) s.3),some (.cells [.int .i64 t,.int .i64 n]),some (.ints (some .i64) (fV s.3 n x))]else K (.slice 2 0 (List.length (fV s.3 n x)) 1) [some (.cells [.int .i64 s.1,.int .i64 s.2,.slice 1 0 (List.length s.3) 1,.int .i64 s.4,.int .i64 s.5,.int .i64 s.6,.int .u64 s.7,.int .u64 s.8,.bool s.9]),some (.ints (some .u64) s.3),some (.ints (some .i64) (fV s.3 n x))]
theorem GJ(t n:Int)(s:MS)(K:AVal→aC Ob→Prop)(h:D4 t n s K):cT' 91 [.ptr 0 0,.agg [.int .i64 t,.int .i64 n]] [aX 1 s,aY s] K:=by
 refine Y2 (aE (E:=EJ0) Tryz.checked.mixed (L:=(fun _ _=>some (.states (BB t n s)))) (n:=10) (aU (by kernel_rfl) h))
theorem wF(n a:Int):bC n a=decide (1≤a∧a≤n):=by
 unfold bC
 cases h1:(ile 1 a)<;>cases h2:ile a n<;>rw [bV]at h1 h2<;>simp at h1 h2<;>simp<;>omega
theorem SA(t n:Int)(s:MS)(K:AVal→aC Ob→Prop)(ht:0≤t∧t≤100000)(hn:0≤n∧n≤100000)(hK:K (.slice 2 0 (hU s.xs n).length 1) [aX 1 s,aY s,some (.ints (some .i64) (hU s.xs n))]):D4 t n s K:=by
 unfold D4
 have eT:hU s.xs n=fV s.xs n n.toNat:=rfl
 rw [eT]at hK
 refine⟨aH (H:=BB t n s) (0:Nat) rfl ⟨by show((0:Nat):Int)≤n;omega⟩,?_⟩
 rintro i ⟨hi⟩
 refine⟨trivial,?_⟩
 have e1:W ((i:Int)+1+1)=((i+1:Nat):Int)+1:=by rw [FP (by omega)];omega
 have hs:=CH s.xs n i
 have hfl:=v8 s.xs n i
 rw [e1]
 cases hb:bC n ((i:Int)+1)with
 | true=>
   have hb':1≤(i:Int)+1∧(i:Int)+1≤n:=by
    rw [wF]at hb
    exact of_decide_eq_true hb
   refine⟨⟨rfl,ht,hn⟩,?_⟩
   have hmu:n.toNat - (i+1)<n.toNat - i:=by omega
   cases h:cY s.xs n ((i:Int)+1)with
   | true=>
     rw [h]at hs
     simp only [cond_true,List.append_nil]at hs
     exact aH (H:=BB t n s) (i+1:Nat) (by simp only [BB,hs]<;>rfl) ⟨⟨by show((i+1:Nat):Int)≤n;omega⟩,hmu⟩
   | false=>
     rw [h]at hs
     simp only [cond_false]at hs
     exact⟨⟨rfl,rfl,rfl,by omega⟩,aH (H:=BB t n s) (i+1:Nat) (by simp only [BB,hs,List.length_append]<;>rfl) ⟨⟨by show((i+1:Nat):Int)≤n;omega⟩,hmu⟩⟩
 | false=>
   have hb': ¬(1≤(i:Int)+1∧(i:Int)+1≤n):=by
    rw [wF]at hb
    exact of_decide_eq_false hb
   have:i=n.toNat:=by omega
   subst this
   exact hK
def freS:aK Ob:=fun args h=>match args,h with
 | [.ptr 0 0,.agg [.int .i64 t,.int .i64 n]],[e1,e2]=>(match eN 1 [e1,e2]with
   | some (l,s)=>some (.pre (l=s.xs.length∧(0≤t∧t≤100000)∧(0≤n∧n≤100000)) (.ret (.slice 2 0 (hU s.xs n).length 1) [aX 1 s,aY s,some (.ints (some .i64) (hU s.xs n))]))
   | none=>none)
 | _,_=>none
theorem R9:sT' 91 freS:=by
 intro args h o ho K hK
 unfold freS at ho
 split at ho
 case h_2=>cases ho
 rename_i t n e1 e2
 split at ho<;>cases ho
 rename_i l s hm
 obtain⟨⟨hl,h0,h1⟩,hK⟩:=hK
 have hh:=bU hm hl
 cases hh
 exact GJ t n s K (SA t n s K h0 h1 hK)
noncomputable def EJ1:=EJ0.addS 91 freS R9
def hstS:aK Ob:=fun args h=>match args,h with
 | [.ptr 0 0],[some (.abs (.store t n st) [])]=>some (.pre (st.R.length≤1000000) (.ret (.slice 1 0 (bD st.sp st.R).length 1) [some (.abs (.store t n st) []),some (.ints (some .i64) (bD st.sp st.R))]))
 | _,_=>none
theorem ST:sT' 89 hstS:=by
 intro args h o ho K hK
 unfold hstS at ho
 split at ho<;>cases ho
 rename_i t n st
 obtain⟨ok,hK⟩:=hK
 refine aD.pack (tb:=tbl) (aD.unpack (tb:=tbl) (Mc.store t n st) 0 0 (jT t n st) [] rfl rfl rfl rfl ?_)
 exact EA [.ptr 0 0] [stC 1 t n st,nK st] _ rfl _ ⟨⟨rfl,ok⟩,⟨[0,2,1],[some (.abs (.store t n st) []),some (.ints (some .i64) (bD st.sp st.R))],.store t n st,0,0,jT t n st,[],by kernel_rfl,by kernel_rfl,rfl,rfl,hK⟩⟩
noncomputable def EJ2:=EJ1.addS 89 hstS ST
def ndsT(xs:List Int)(n:Int):Nat→Nat→List Int
 | _,0=>[]
 | h,k+1=>ndF xs n h++ndsT xs n (h+1) k
structure V6 (xs:List Int) (n:Int) (B:List Int) (x:Nat×List (Int×Int)):Prop where
 hi:x.1≤B.length
 eq:fC xs n (B++gA xs n) []=fC xs n (B.drop x.1++gA xs n) x.2
structure V7 (xs:List Int) (n:Int) (B:List Int) (x:Nat×List (Int×Int)):Prop where
 hi:x.1≤4
 eq:fC xs n (B++gA xs n) []=fC xs n (ndsT xs n x.1 (4 - x.1)) x.2
structure V8 (xs:List Int) (n:Int) (B:List Int) (h:Int) (x:Nat×List (Int×Int)):Prop where
 h4:0≤h∧h<4
 hi:x.1≤(ndF xs n h).length
 eq:fC xs n (B++gA xs n) []=fC xs n ((ndF xs n h).drop x.1++ndsT xs n (h.toNat+1) (3 - h.toNat)) x.2
def H7(t n:Int)(st:STS)(s:MS):Hint Ob:= {X:=Nat×List (Int×Int),st:=fun x=>([.ptr 0 0,.O,.slice 2 0 1 1,.O,.ptr 4 0,.O,.O,.map 5]++List.replicate 8 .O ++ [.slice 2 0 1 1,.int .i64 1,.int .i64 0,.O,.O,.O,.O,.slice 6 0 (bD st.sp st.R).length 1,.int .i64 ((bD st.sp st.R).length :Int),.int .i64 (x.1:Int)]++List.replicate 59 .O,[aX 1 s,aY s,some (.cells [.ptr 3 0]),some (.abs (.store t n st) []),some (.cells [.int .i64 t,.int .i64 n]),some (.imap .i64 (some .i64) x.2),some (.ints (some .i64) (bD st.sp st.R))]),ok:=V6 s.xs n (bD st.sp st.R),mu:=fun x=>(bD st.sp st.R).length - x.1,keep:=[0,2,4,7,16,17,18,23,24,25] }
def L9(t n:Int)(st:STS)(s:MS):Hint Ob:= {X:=Nat×List (Int×Int),st:=fun x=>([.ptr 0 0,.O,.slice 2 0 1 1,.O,.ptr 4 0,.O,.O,.map 5,.O,.O,.O,.O,.int .i64 (x.1:Int)]++List.replicate 72 .O,[aX 1 s,aY s,some (.cells [.ptr 3 0]),some (.abs (.store t n st) []),some (.cells [.int .i64 t,.int .i64 n]),some (.imap .i64 (some .i64) x.2)]),ok:=V7 s.xs n (bD st.sp st.R),mu:=fun x=>4 - x.1,keep:=[0,2,4,7,12] }
def MA(t n:Int)(st:STS)(s:MS)(h:Int):Hint Ob:= {X:=Nat×List (Int×Int),st:=fun x=>([.ptr 0 0,.O,.slice 2 0 1 1,.O,.ptr 4 0,.O,.O,.map 5,.O,.O,.O,.O,.int .i64 h]++List.replicate 40 .O ++ [.slice 6 0 (ndF s.xs n h).length 1,.int .i64 ((ndF s.xs n h).length :Int),.int .i64 (x.1:Int)]++List.replicate 29 .O,[aX 1 s,aY s,some (.cells [.ptr 3 0]),some (.abs (.store t n st) []),some (.cells [.int .i64 t,.int .i64 n]),some (.imap .i64 (some .i64) x.2),some (.ints (some .i64) (ndF s.xs n h))]),ok:=V8 s.xs n (bD st.sp st.R) h,mu:=fun x=>(ndF s.xs n h).length - x.1,keep:=[0,2,4,7,12,53,54,55] }
def VJ(t n:Int)(st:STS)(s:MS):FuncId→Nat→Option (nP Ob):=fun _ k=>if k=6 then some (.states (H7 t n st s))else if k=14 then some (.states (L9 t n st s))else if k=17 then some (.statesAt 12 (MA t n st s))else some (.rounds 2)
def EB(t n:Int)(st:STS)(s:MS)(K:AVal→aC Ob→Prop):Prop:=((0:Int)≤(0:Int)∧(0:Int)<(↑1:Int))∧List.length st.3≤(1000000:Nat)∧okSt (H7 t n st s) (Hint.ok (H7 t n st s)) [.ptr 0 0,.O,.slice 2 0 1 1,.O,.ptr 4 0,.O,.O,.map 5,.O,.O,.O,.O,.O,.O,.O,.O,.slice 2 0 1 1,.int .i64 (↑1:Int),.int .i64 0,.O,.O,.O,.O,.slice 6 0 (List.length (bD st.2 st.3)) 1,.int .i64 (↑(List.length (bD st.2 st.3)):Int),.int .i64 0,.O,.O,.O,.O,.O,.O,.O,.O,.O,.O,.O,.O,.O,.O,.O,.O,.O,.O,.O,.O,.O,.O,.O,.O,.O,.O,.O,.O,.O,.O,.O,.O,.O,.O,.O,.O,.O,.O,.O,.O,.O,.O,.O,.O,.O,.O,.O,.O,.O,.O,.O,.O,.O,.O,.O,.O,.O,.O,.O] [some (.cells [.int .i64 s.1,.int .i64 s.2,.slice 1 0 (List.length s.3) 1,.int .i64 s.4,.int .i64 s.5,.int .i64 s.6,.int .u64 s.7,.int .u64 s.8,.bool s.9]),some (.ints (some .u64) s.3),some (.cells [.ptr 3 0]),some (.abs (.store t n st) []),some (.cells [.int .i64 t,.int .i64 n]),some (.imap .i64 (some .i64) []),some (.ints (some .i64) (bD st.2 st.3))]∧ ∀(x:(Nat×List (Int×Int))),V6 s.3 n (bD st.2 st.3) x→bif ilt (↑x.1:Int) (↑(List.length (bD st.2 st.3)):Int)then((0:Int)≤(↑x.1:Int)∧(↑x.1:Int)<(↑(List.length (bD st.2 st.3)):Int))∧0+Int.toNat (↑x.1:Int)*(1:Nat)<List.length (bD st.2 st.3)∧bif ilt 1 (Option.getD (mget (cH (Prod.snd x) (List.getD (bD (STS.sp st) (STS.R st)) (0+Int.toNat (↑(Prod.fst x):Int)*1) 0) (W (Option.getD (mget (Prod.snd x) (List.getD (bD (STS.sp st) (STS.R st)) (0+Int.toNat (↑(Prod.fst x):Int)*1) 0)) 0+1))) (List.getD (bD st.2 st.3) (0+Int.toNat (↑x.1:Int)*1) 0)) 0)then K (.bool false) [some (.cells [.int .i64 s.1,.int .i64 s.2,.slice 1 0 (List.length s.3) 1,.int .i64 s.4,.int .i64 s.5,.int .i64 s.6,.int .u64 s.7,.int .u64 s.8,.bool s.9]),some (.ints (some .u64) s.3),some (.cells [.ptr 3 0]),some (.abs (.store t n st) [])]else(lE' s.3∧((0:Int)≤t∧t≤(100000:Int))∧(0:Int)≤n∧n≤(100000:Int))∧bif !cY s.3 n (List.getD (bD st.2 st.3) (0+Int.toNat (↑x.1:Int)*1) 0)then K (.bool false) [some (.cells [.int .i64 s.1,.int .i64 s.2,.slice 1 0 (List.length s.3) 1,.int .i64 s.4,.int .i64 s.5,.int .i64 s.6,.int .u64 s.7,.int .u64 s.8,.bool s.9]),some (.ints (some .u64) s.3),some (.cells [.ptr 3 0]),some (.abs (.store t n st) [])]else okSt (H7 t n st s) (fun x'=>Hint.ok (H7 t n st s) x'∧Hint.mu (H7 t n st s) x'<Hint.mu (H7 t n st s) x) [.ptr 0 0,.O,.slice 2 0 1 1,.O,.ptr 4 0,.O,.O,.map 5,.O,.O,.O,.O,.O,.O,.O,.O,.slice 2 0 1 1,.int .i64 1,.int .i64 0,.O,.O,.O,.O,.slice 6 0 (List.length (bD st.2 st.3)) 1,.int .i64 (↑(List.length (bD st.2 st.3)):Int),.int .i64 (W ((↑x.1:Int)+1)),.O,.O,.O,.O,.O,.O,.O,.O,.O,.O,.O,.O,.O,.O,.O,.O,.O,.O,.O,.O,.O,.O,.O,.O,.O,.O,.O,.O,.O,.O,.O,.O,.O,.O,.O,.O,.O,.O,.O,.O,.O,.O,.O,.O,.O,.O,.O,.O,.O,.O,.O,.O,.O,.O,.O,.O,.O,.O,.O] [some (.cells [.int .i64 s.1,.int .i64 s.2,.slice 1 0 (List.length s.3) 1,.int .i64 s.4,.int .i64 s.5,.int .i64 s.6,.int .u64 s.7,.int .u64 s.8,.bool s.9]),some (.ints (some .u64) s.3),some (.cells [.ptr 3 0]),some (.abs (.store t n st) []),some (.cells [.int .i64 t,.int .i64 n]),some (.imap .i64 (some .i64) (cH x.2 (List.getD (bD st.2 st.3) (0+Int.toNat (↑x.1:Int)*1) 0) (W (Option.getD (mget (Prod.snd x) (List.getD (bD st.2 st.3) (0+Int.toNat (↑x.1:Int)*1) 0)) 0+1)))),some (.ints (some .i64) (bD st.2 st.3))]else okSt (L9 t n st s) (Hint.ok (L9 t n st s)) [.ptr 0 0,.O,.slice 2 0 1 1,.O,.ptr 4 0,.O,.O,.map 5,.O,.O,.O,.O,.int .i64 0,.O,.O,.O,.O,.O,.O,.O,.O,.O,.O,.O,.O,.O,.O,.O,.O,.O,.O,.O,.O,.O,.O,.O,.O,.O,.O,.O,.O,.O,.O,.O,.O,.O,.O,.O,.O,.O,.O,.O,.O,.O,.O,.O,.O,.O,.O,.O,.O,.O,.O,.O,.O,.O,.O,.O,.O,.O,.O,.O,.O,.O,.O,.O,.O,.O,.O,.O,.O,.O,.O,.O,.O] [some (.cells [.int .i64 s.1,.int .i64 s.2,.slice 1 0 (List.length s.3) 1,.int .i64 s.4,.int .i64 s.5,.int .i64 s.6,.int .u64 s.7,.int .u64 s.8,.bool s.9]),some (.ints (some .u64) s.3),some (.cells [.ptr 3 0]),some (.abs (.store t n st) []),some (.cells [.int .i64 t,.int .i64 n]),some (.imap .i64 (some .i64) x.2)]∧ ∀(x:(Nat×List (Int×Int))),V7 s.3 n (bD st.2 st.3) x→bif ilt (↑x.1:Int) 4 then(lE' s.3∧((0:Int)≤n∧n≤(100000:Int))∧(-1000000:Int)≤(↑x.1:Int)∧(↑x.1:Int)≤(1000000:Int))∧okSt (MA t n st s (↑(Prod.fst x):Int)) (Hint.ok (MA t n st s (↑(Prod.fst x):Int))) [.ptr 0 0,.O,.slice 2 0 1 1,.O,.ptr 4 0,.O,.O,.map 5,.O,.O,.O,.O,.int .i64 (↑x.1:Int),.O,.O,.O,.O,.O,.O,.O,.O,.O,.O,.O,.O,.O,.O,.O,.O,.O,.O,.O,.O,.O,.O,.O,.O,.O,.O,.O,.O,.O,.O,.O,.O,.O,.O,.O,.O,.O,.O,.O,.O,.slice 6 0 (List.length (ndF s.3 n (↑x.1:Int))) 1,.int .i64 (↑(List.length (ndF s.3 n (↑x.1:Int))):Int),.int .i64 0,.O,.O,.O,.O,.O,.O,.O,.O,.O,.O,.O,.O,.O,.O,.O,.O,.O,.O,.O,.O,.O,.O,.O,.O,.O,.O,.O,.O,.O] [some (.cells [.int .i64 s.1,.int .i64 s.2,.slice 1 0 (List.length s.3) 1,.int .i64 s.4,.int .i64 s.5,.int .i64 s.6,.int .u64 s.7,.int .u64 s.8,.bool s.9]),some (.ints (some .u64) s.3),some (.cells [.ptr 3 0]),some (.abs (.store t n st) []),some (.cells [.int .i64 t,.int .i64 n]),some (.imap .i64 (some .i64) x.2),some (.ints (some .i64) (ndF s.3 n (↑x.1:Int)))]∧ ∀(x_1:(Nat×List (Int×Int))),V8 s.3 n (bD st.2 st.3) (↑x.1:Int) x_1→bif ilt (↑x_1.1:Int) (↑(List.length (ndF s.3 n (↑x.1:Int))):Int)then((0:Int)≤(↑x_1.1:Int)∧(↑x_1.1:Int)<(↑(List.length (ndF s.3 n (↑x.1:Int))):Int))∧0+Int.toNat (↑x_1.1:Int)*(1:Nat)<List.length (ndF s.3 n (↑x.1:Int))∧bif ilt 1 (Option.getD (mget (cH (Prod.snd x_1) (List.getD (ndF (MS.xs s) n (↑(Prod.fst x):Int)) (0+Int.toNat (↑(Prod.fst x_1):Int)*1) 0) (W (Option.getD (mget (Prod.snd x_1) (List.getD (ndF (MS.xs s) n (↑(Prod.fst x):Int)) (0+Int.toNat (↑(Prod.fst x_1):Int)*1) 0)) 0+1))) (List.getD (ndF s.3 n (↑x.1:Int)) (0+Int.toNat (↑x_1.1:Int)*1) 0)) 0)then K (.bool false) [some (.cells [.int .i64 s.1,.int .i64 s.2,.slice 1 0 (List.length s.3) 1,.int .i64 s.4,.int .i64 s.5,.int .i64 s.6,.int .u64 s.7,.int .u64 s.8,.bool s.9]),some (.ints (some .u64) s.3),some (.cells [.ptr 3 0]),some (.abs (.store t n st) [])]else(lE' s.3∧((0:Int)≤t∧t≤(100000:Int))∧(0:Int)≤n∧n≤(100000:Int))∧bif !cY s.3 n (List.getD (ndF s.3 n (↑x.1:Int)) (0+Int.toNat (↑x_1.1:Int)*1) 0)then K (.bool false) [some (.cells [.int .i64 s.1,.int .i64 s.2,.slice 1 0 (List.length s.3) 1,.int .i64 s.4,.int .i64 s.5,.int .i64 s.6,.int .u64 s.7,.int .u64 s.8,.bool s.9]),some (.ints (some .u64) s.3),some (.cells [.ptr 3 0]),some (.abs (.store t n st) [])]else okSt (MA t n st s (↑(Prod.fst x):Int)) (fun x'=>Hint.ok (MA t n st s (↑(Prod.fst x):Int)) x'∧Hint.mu (MA t n st s (↑(Prod.fst x):Int)) x'<Hint.mu (MA t n st s (↑(Prod.fst x):Int)) x_1) [.ptr 0 0,.O,.slice 2 0 1 1,.O,.ptr 4 0,.O,.O,.map 5,.O,.O,.O,.O,.int .i64 (↑x.1:Int),.O,.O,.O,.O,.O,.O,.O,.O,.O,.O,.O,.O,.O,.O,.O,.O,.O,.O,.O,.O,.O,.O,.O,.O,.O,.O,.O,.O,.O,.O,.O,.O,.O,.O,.O,.O,.O,.O,.O,.O,.slice 6 0 (List.length (ndF s.3 n (↑x.1:Int))) 1,.int .i64 (↑(List.length (ndF s.3 n (↑x.1:Int))):Int),.int .i64 (W ((↑x_1.1:Int)+1)),.O,.O,.O,.O,.O,.O,.O,.O,.O,.O,.O,.O,.O,.O,.O,.O,.O,.O,.O,.O,.O,.O,.O,.O,.O,.O,.O,.O,.O] [some (.cells [.int .i64 s.1,.int .i64 s.2,.slice 1 0 (List.length s.3) 1,.int .i64 s.4,.int .i64 s.5,.int .i64 s.6,.int .u64 s.7,.int .u64 s.8,.bool s.9]),some (.ints (some .u64) s.3),some (.cells [.ptr 3 0]),some (.abs (.store t n st) []),some (.cells [.int .i64 t,.int .i64 n]),some (.imap .i64 (some .i64) (cH x_1.2 (List.getD (ndF s.3 n (↑x.1:Int)) (0+Int.toNat (↑x_1.1:Int)*1) 0) (W (Option.getD (mget (Prod.snd x_1) (List.getD (ndF s.3 n (↑x.1:Int)) (0+Int.toNat (↑x_1.1:Int)*1) 0)) 0+1)))),some (.ints (some .i64) (ndF s.3 n (↑x.1:Int)))]else okSt (L9 t n st s) (fun x'=>Hint.ok (L9 t n st s) x'∧Hint.mu (L9 t n st s) x'<Hint.mu (L9 t n st s) x) [.ptr 0 0,.O,.slice 2 0 1 1,.O,.ptr 4 0,.O,.O,.map 5,.O,.O,.O,.O,.int .i64 (W ((↑x.1:Int)+1)),.O,.O,.O,.O,.O,.O,.O,.O,.O,.O,.O,.O,.O,.O,.O,.O,.O,.O,.O,.O,.O,.O,.O,.O,.O,.O,.O,.O,.O,.O,.O,.O,.O,.O,.O,.O,.O,.O,.O,.O,.O,.O,.O,.O,.O,.O,.O,.O,.O,.O,.O,.O,.O,.O,.O,.O,.O,.O,.O,.O,.O,.O,.O,.O,.O,.O,.O,.O,.O,.O,.O,.O] [some (.cells [.int .i64 s.1,.int .i64 s.2,.slice 1 0 (List.length s.3) 1,.int .i64 s.4,.int .i64 s.5,.int .i64 s.6,.int .u64 s.7,.int .u64 s.8,.bool s.9]),some (.ints (some .u64) s.3),some (.cells [.ptr 3 0]),some (.abs (.store t n st) []),some (.cells [.int .i64 t,.int .i64 n]),some (.imap .i64 (some .i64) x_1.2)]else((lE' s.3∧((0:Int)≤t∧t≤(100000:Int))∧(0:Int)≤n∧n≤(100000:Int))∧True)∧K (.bool (ieq (↑(List.length x.2):Int) (W (n - (↑(List.length (hU s.3 n)):Int))))) [some (.cells [.int .i64 s.1,.int .i64 s.2,.slice 1 0 (List.length s.3) 1,.int .i64 s.4,.int .i64 s.5,.int .i64 s.6,.int .u64 s.7,.int .u64 s.8,.bool s.9]),some (.ints (some .u64) s.3),some (.cells [.ptr 3 0]),some (.abs (.store t n st) [])]
theorem GY(t n:Int)(st:STS)(s:MS)(K:AVal→aC Ob→Prop)(h:EB t n st s K):cT' 36 [.ptr 0 0,.agg [.int .i64 t,.int .i64 n],.slice 2 0 1 1] [aX 1 s,aY s,some (.cells [.ptr 3 0]),some (.abs (.store t n st) [])] K:=by
 refine Y2 (aE (E:=EJ2) Tryz.checked.mixed (L:=(VJ t n st s)) (n:=10) (aU (by kernel_rfl) h))
theorem LQ(xs:List Int)(n b:Int)(bs:List Int)(m:List (Int×Int)):fC xs n (b::bs) m=bif ilt 1 (W ((mget m b).getD 0+1))|| !cY xs n b then none else fC xs n bs (cH m b (W ((mget m b).getD 0+1))):=rfl
theorem EX(m:List (Int×Int))(b v:Int):(mget (cH m b v) b).getD 0=v:=by
 rw [f9,if_pos rfl];rfl
theorem VX(xs:List Int)(n:Int)(h:Nat)(hh:h<4):ndsT xs n h (4 - h)=ndF xs n h++ndsT xs n (h+1) (3 - h):=by
 have:4 - h=(3 - h)+1:=by omega
 rw [this];rfl
theorem D9{B:List Int}{i:Nat}(hi:i<B.length):List.getD B (0+Int.toNat (i:Int)*1) 0=B[i]:=by
 have e:0+Int.toNat (i:Int)*1=i:=by omega
 rw [e,gD',gE' hi];rfl
theorem SS(t n:Int)(st:STS)(s:MS)(K:AVal→aC Ob→Prop)(ht:0≤t∧t≤100000)(hn:0≤n∧n≤100000)(hR:st.R.length≤1000000)(hK:K (.bool (lE s.xs n [st])) [aX 1 s,aY s,some (.cells [.ptr 3 0]),some (.abs (.store t n st) [])]):EB t n st s K:=by
 unfold EB
 have hA:uB [st]=bD st.sp st.R:=by unfold uB;simp
 have hlB:(bD st.sp st.R).length ≤st.R.length+1:=by
  unfold bD
  cases ieq st.sp 0 with
  | true=>exact Nat.le_succ _
  | false=>exact Nat.le_refl _
 have hlF:(hU s.xs n).length ≤n.toNat:=by
  have eT:hU s.xs n=fV s.xs n n.toNat:=rfl
  rw [eT];exact v8 _ _ _
 have hK0:fC s.xs n (bD st.sp st.R++gA s.xs n) []=none→K (.bool false) [aX 1 s,aY s,some (.cells [.ptr 3 0]),some (.abs (.store t n st) [])]:=by
  intro h
  have:lE s.xs n [st]=false:=by unfold lE;rw [hA,h]
  rw [this]at hK;exact hK
 have hK1: ∀m,fC s.xs n (bD st.sp st.R++gA s.xs n) []=some m→K (.bool (ieq (m.length:Int) (W (n - ((hU s.xs n).length :Int))))) [aX 1 s,aY s,some (.cells [.ptr 3 0]),some (.abs (.store t n st) [])]:=by
  intro m h
  have:lE s.xs n [st]=ieq (m.length:Int) (n - ((hU s.xs n).length :Int)):=by unfold lE;rw [hA,h]
  rw [this]at hK
  have e:W (n - ((hU s.xs n).length :Int))=n - ((hU s.xs n).length :Int):=cE (by omega)
  rw [e];exact hK
 clear hK
 generalize hB:bD st.sp st.R=B at*
 refine⟨⟨by decide,by decide⟩,hR,aH (H:=H7 t n st s) ((0:Nat),[]) (by simp only [H7,hB]<;>rfl) ⟨Nat.zero_le _,by rw [hB];rfl⟩,?_⟩
 rintro⟨i,m⟩ ⟨hi,heq⟩
 simp only at hi heq
 refine aI (fun e=>?_) (fun e=>?_)
 ·rw [bB,dT']at e
  have e:(i:Int)<(B.length:Int):=e
  have hi2:i<B.length:=by omega
  have e4:W ((i:Int)+1)=((i+1:Nat):Int):=(cE (by omega)).trans rfl
  rw [List.drop_eq_getElem_cons hi2,List.cons_append,LQ]at heq
  refine⟨⟨by omega,e⟩,by show 0+Int.toNat (i:Int)*1<B.length;omega,?_⟩
  show bif ilt 1 ((mget (cH m (List.getD B (0+Int.toNat (i:Int)*1) 0) (W ((mget m (List.getD B (0+Int.toNat (i:Int)*1) 0)).getD 0+1))) (List.getD B (0+Int.toNat (i:Int)*1) 0)).getD 0)then _ else _
  rw [EX]
  have hat:=D9 hi2
  refine aI (fun e2=>?_) (fun e2=>⟨⟨rfl,ht,hn⟩,aI (fun e3=>?_) (fun e3=>?_)⟩)
  ·rw [hat]at e2
   exact hK0 (heq.trans (by rw [e2];rfl))
  ·have e3:(!cY s.xs n (List.getD B (0+Int.toNat (i:Int)*1) 0))=true:=e3
   rw [hat]at e3
   exact hK0 (heq.trans (by rw [e3,Bool.or_true];rfl))
  ·have e3:(!cY s.xs n (List.getD B (0+Int.toNat (i:Int)*1) 0))=false:=e3
   rw [hat]at e3 e2
   rw [e2,e3]at heq
   refine aH (H:=H7 t n st s) ((i+1:Nat),cH m B[i] (W ((mget m B[i]).getD 0+1))) ?_ ⟨⟨by rw [hB];exact hi2,by rw [hB];exact heq⟩,by show(bD st.sp st.R).length - (i+1)<(bD st.sp st.R).length - i;rw [hB];omega⟩
   simp only [H7,hB,←hat,←e4]
   rfl
 ·rw [bB,dF']at e
  have e: ¬(i:Int)<(B.length:Int):=e
  rw [List.drop_eq_nil_of_le (by omega)]at heq
  have hN:gA s.xs n=ndsT s.xs n 0 4:=by
   unfold gA
   show _=ndF s.xs n 0++(ndF s.xs n 1++(ndF s.xs n 2++(ndF s.xs n 3++ [])))
   rw [List.append_nil]
  refine⟨aH (H:=L9 t n st s) ((0:Nat),m) rfl ⟨Nat.zero_le _,by rw [hB];exact heq.trans (by rw [List.nil_append,hN];rfl)⟩,?_⟩
  clear heq e hi
  rintro⟨h,m⟩ ⟨hh,heq⟩
  simp only at hh heq
  refine aI (fun e=>?_) (fun e=>?_)
  ·rw [bB,dT']at e
   have e:(h:Int)<4:=e
   have e5:W ((h:Int)+1)=((h+1:Nat):Int):=(cE (by omega)).trans rfl
   refine⟨⟨rfl,hn,by show(-1000000:Int)≤(h:Int);omega,by show(h:Int)≤1000000;omega⟩,aH (H:=MA t n st s (h:Int)) ((0:Nat),m) rfl ⟨⟨by omega,e⟩,Nat.zero_le _,?_⟩,?_⟩
   ·rw [hB]
    rw [VX _ _ _ (by omega)]at heq
    exact heq
   ·rintro⟨i,m⟩ ⟨_,hi,heq⟩
    simp only [Int.toNat_natCast]at hi heq
    have hlC:=EJ s.xs n (h:Int)
    generalize hC:ndF s.xs n (h:Int)=C at*
    refine aI (fun e2=>?_) (fun e2=>?_)
    ·rw [bB,dT']at e2
     have e2:(i:Int)<(C.length:Int):=e2
     have hi2:i<C.length:=by omega
     have e4:W ((i:Int)+1)=((i+1:Nat):Int):=(cE (by omega)).trans rfl
     rw [List.drop_eq_getElem_cons hi2,List.cons_append,LQ]at heq
     refine⟨⟨by omega,e2⟩,by show 0+Int.toNat (i:Int)*1<C.length;omega,?_⟩
     show bif ilt 1 ((mget (cH m (List.getD C (0+Int.toNat (i:Int)*1) 0) (W ((mget m (List.getD C (0+Int.toNat (i:Int)*1) 0)).getD 0+1))) (List.getD C (0+Int.toNat (i:Int)*1) 0)).getD 0)then _ else _
     rw [EX]
     have hat:=D9 hi2
     refine aI (fun e2=>?_) (fun e2=>⟨⟨rfl,ht,hn⟩,aI (fun e3=>?_) (fun e3=>?_)⟩)
     ·rw [hat]at e2
      exact hK0 (heq.trans (by rw [e2];rfl))
     ·have e3:(!cY s.xs n (List.getD C (0+Int.toNat (i:Int)*1) 0))=true:=e3
      rw [hat]at e3
      exact hK0 (heq.trans (by rw [e3,Bool.or_true];rfl))
     ·have e3:(!cY s.xs n (List.getD C (0+Int.toNat (i:Int)*1) 0))=false:=e3
      rw [hat]at e3 e2
      rw [e2,e3]at heq
      refine aH (H:=MA t n st s (h:Int)) ((i+1:Nat),cH m C[i] (W ((mget m C[i]).getD 0+1))) ?_ ⟨⟨⟨by omega,e⟩,by rw [hC];exact hi2,by rw [hB,hC,Int.toNat_natCast];exact heq⟩,by show(ndF s.xs n (h:Int)).length - (i+1)<(ndF s.xs n (h:Int)).length - i;rw [hC];omega⟩
      simp only [MA,hC,←hat,←e4]
      rfl
    ·rw [bB,dF']at e2
     have e2: ¬(i:Int)<(C.length:Int):=e2
     rw [List.drop_eq_nil_of_le (by omega),List.nil_append]at heq
     refine aH (H:=L9 t n st s) ((h+1:Nat),m) ?_ ⟨⟨by show h+1≤4;omega,?_⟩,by show 4 - (h+1)<4 - h;omega⟩
     ·simp only [L9,←e5]
      rfl
     ·rw [hB,heq]
      show _=fC s.xs n (ndsT s.xs n (h+1) (4 - (h+1))) m
      rw [show 4 - (h+1)=3 - h by omega]
  ·rw [bB,dF']at e
   have e: ¬(h:Int)<4:=e
   have h4:h=4:=by omega
   subst h4
   exact⟨⟨⟨rfl,ht,hn⟩,trivial⟩,hK1 m heq⟩
def hldS:aK Ob:=fun args h=>match args,h with
 | [.ptr 0 0,.agg [.int .i64 t,.int .i64 n],.slice 2 0 1 1],[e1,e2,some (.cells [.ptr 3 0]),some (.abs (.store t' n' st) [])]=>(match eN 1 [e1,e2]with
   | some (l,s)=>some (.pre ((l=s.xs.length∧t'=t∧n'=n)∧(0≤t∧t≤100000)∧(0≤n∧n≤100000)∧st.R.length≤1000000) (.ret (.bool (lE s.xs n [st])) [aX 1 s,aY s,some (.cells [.ptr 3 0]),some (.abs (.store t n st) [])]))
   | none=>none)
 | _,_=>none
theorem SR:sT' 36 hldS:=by
 intro args h o ho K hK
 unfold hldS at ho
 split at ho
 case h_2=>cases ho
 rename_i t n e1 e2 t' n' st
 split at ho<;>cases ho
 rename_i l s hm
 obtain⟨⟨⟨hl,rfl,rfl⟩,h0,h1,h2⟩,hK⟩:=hK
 have hh:=bU hm hl
 cases hh
 exact GY _ _ st s K (SS _ _ st s K h0 h1 h2 hK)
noncomputable def EJ3:=EJ2.addS 36 hldS SR
def LK(k:Int)(m:Nat)(f g:Nat→Int)(K:AVal→aC Ob→Prop):Prop:=okSt (MM k m f g) (Hint.ok (MM k m f g)) [.int .i64 k,.O,.O,.O,.O,.O,.O,.view m 2 fun i=>[.int .i64 (f i),.int .i64 (g i)],.int .i64 (↑m:Int),.int .i64 0,.O,.O,.O,.O,.O,.O,.O,.O] []∧ ∀(x:Nat),(x≤m∧ ∀(j:Nat),j<x→cO k (f j) (g j)=true)→bif ilt (↑x:Int) (↑m:Int)then((0:Int)≤(↑x:Int)∧(↑x:Int)<(↑m:Int))∧True∧bif !cO k (f (Int.toNat (↑x:Int))) (g (Int.toNat (↑x:Int)))then K (.bool false) []else okSt (MM k m f g) (fun x'=>Hint.ok (MM k m f g) x'∧Hint.mu (MM k m f g) x'<Hint.mu (MM k m f g) x) [.int .i64 k,.O,.O,.O,.O,.O,.O,.view m 2 fun i=>[.int .i64 (f i),.int .i64 (g i)],.int .i64 (↑m:Int),.int .i64 (W ((↑x:Int)+1)),.O,.O,.O,.O,.O,.O,.O,.O] []else K (.bool true) []
theorem HW(k:Int)(m:Nat)(f g:Nat→Int)(K:AVal→aC Ob→Prop)(h:LK k m f g K):cT' 30 [.int .i64 k,.view m 2 (fun i=>[.int .i64 (f i),.int .i64 (g i)])] [] K:=by
 refine Y2 (aE (E:=EJ3) Tryz.checked.mixed (L:=(fun _ _=>some (.states (MM k m f g)))) (n:=10) (aU (by kernel_rfl) h))
def L3(sh:Int)(f g:Nat→Int):Nat→Nat→List (List Int)
 | _,0=>[]
 | j,k+1=>[sh,f j,g j]::L3 sh f g (j+1) k
def yV(sh:Int)(f g:Nat→Int)(k:Nat):List (List Int):=L3 sh f g 0 k
theorem TY(k:Int)(m:Nat)(f g:Nat→Int)(K:AVal→aC Ob→Prop)(hm:m≤4611686018427387904)(hK:K (.bool (jR k m f g)) []):LK k m f g K:=by
 refine⟨aH (H:=MM k m f g) (0:Nat) rfl ⟨Nat.zero_le _,fun j hj=>by omega⟩,?_⟩
 rintro x ⟨hx,hj⟩
 refine aI (fun e=>?_) (fun e=>?_)
 ·rw [bB,dT']at e
  refine⟨⟨by omega,by omega⟩,trivial,aI (fun e2=>?_) (fun e2=>?_)⟩
  ·have hf:jR k m f g=false:=by
    cases h:jR k m f g with
    | false=>rfl
    | true=>
      have:=oN.1 h x (by omega)
      rw [Int.toNat_natCast]at e2
      rw [this]at e2;cases e2
   rw [hf]at hK;exact hK
  ·have e4:W ((x:Int)+1)=((x+1:Nat):Int):=by rw [W,cE (by omega)];rfl
   refine aH (H:=MM k m f g) (x+1:Nat) (by simp only [e4]<;>rfl) ⟨⟨by show x+1≤m;omega,?_⟩,by show m - (x+1)<m - x;omega⟩
   intro j hj2
   by_cases hjx:j=x
   ·subst hjx
    rw [Int.toNat_natCast]at e2
    simpa using e2
   ·exact hj j (by omega)
 ·rw [bB,dF']at e
  have ht:jR k m f g=true:=oN.2 fun j hj3=>hj j (by omega)
  rw [ht]at hK;exact hK
def rieS:aK Ob:=fun args h=>match args,h with
 | [.int .i64 k,.view m 2 row],[]=>some (.pre (m≤4611686018427387904∧dF row) (.ret (.bool (jR k m (rK row) (rY row))) []))
 | _,_=>none
theorem TX:sT' 30 rieS:=by
 intro args h o ho K hK
 unfold rieS at ho
 split at ho<;>cases ho
 rename_i k m row
 obtain⟨⟨hm,⟨hr⟩⟩,hK⟩:=hK
 have hK:K (.bool (jR k m (rK row) (rY row))) []:=hK
 rw [hr]
 exact HW k m (rK row) (rY row) K (TY k m (rK row) (rY row) K hm hK)
noncomputable def EJ4:=EJ3.addS 30 rieS TX
def kS(sh:Int):Int:=IntKind.wrap .i64 (1+Int.tmod (IntKind.wrap .i64 sh) 4)
def mS(most:Int):Int:=Int.tmod (IntKind.wrap .i64 most) 8
def fqA(sh:Int)(m:Nat)(f g:Nat→Int)(most:Int):List (List Int)×Bool×STS×MS:=BG 2 30 (mS most) (yV (kS sh) f g m) ⟨1,0,[]⟩ (cJ (kS sh) 2 30 [])
def fqX(sh:Int)(x:Nat)(f g:Nat→Int)(most:Int):List (List Int)×Bool×STS×MS:=BG 2 30 (mS most) (yV (kS sh) f g x) ⟨1,0,[]⟩ (cJ (kS sh) 2 30 [])
structure O3 (m i:Nat):Prop where
 h:i≤m
def ME(sh:Int)(m:Nat)(f g:Nat→Int)(most:Int):Hint Ob:= {X:=Nat,st:=fun i=>([.O,.view m 2 (fun i=>[.int .i64 (f i),.int .i64 (g i)]),.int .u8 most,.O,.O,.O,.O,.int .i64 (kS sh),.ptr 0 0,.ptr 2 0,.tslice 3 0 (yV (kS sh) f g i).length 3]++List.replicate 29 .O ++ [.view m 2 (fun i=>[.int .i64 (f i),.int .i64 (g i)]),.int .i64 (m:Int),.int .i64 (i:Int)]++List.replicate 65 .O,[aX 1 (cJ (kS sh) 2 30 []),aY (cJ (kS sh) 2 30 []),some (.cells [.int .i64 2,.int .i64 30]),some (.tab [some .i64,some .i64,some .i64] (yV (kS sh) f g i))]),ok:=O3 m,mu:=fun i=>m - i,keep:=[1,2,7,8,9,10,40,41,42],casts:=[(.slot 10,.tab [some .i64,some .i64,some .i64])] }
def H8(sh:Int)(m:Nat)(f g:Nat→Int)(most:Int):Hint Ob:= {X:=Nat,st:=fun i=>([.O,.view m 2 (fun i=>[.int .i64 (f i),.int .i64 (g i)]),.O,.O,.O,.O,.O,.int .i64 (kS sh),.ptr 0 0,.ptr 2 0,.O,.O,.O,.ptr 3 0,.tslice 4 0 (fqA sh m f g most).1.length 3]++List.replicate 59 .O ++ [.view m 2 (fun i=>[.int .i64 (f i),.int .i64 (g i)]),.int .i64 (m:Int),.int .i64 (i:Int)]++List.replicate 31 .O,[aX 1 (fqA sh m f g most).2.2.2,aY (fqA sh m f g most).2.2.2,some (.cells [.int .i64 2,.int .i64 30]),some (.abs (.store 2 30 (fqA sh m f g most).2.2.1) []),some (.tab [some .i64,none,some .i64] (fqA sh m f g most).1)]),ok:=O3 m,mu:=fun i=>m - i,keep:=[1,7,8,9,13,14,74,75,76] }
def VA(sh:Int)(m:Nat)(f g:Nat→Int)(most:Int):FuncId→Nat→Option (nP Ob):=fun _ k=>if k=11 then some (.states (ME sh m f g most))else if k=20 then some (.states (H8 sh m f g most))else none
def D5(sh:Int)(m:Nat)(f g:Nat→Int)(most:Int)(K:AVal→aC Ob→Prop):Prop:=True∧(4:Int)≠(0:Int)∧bif ilt 20 (↑m:Int)then K (.bool true) []else(m≤(4611686018427387904:Nat)∧dF fun i=>[.int .i64 (f i),.int .i64 (g i)])∧bif !jR (kS sh) m f g then K (.bool true) []else tT 2 30 []∧okSt (ME sh m f g most) (Hint.ok (ME sh m f g most)) [.O,.view m 2 fun i=>[.int .i64 (f i),.int .i64 (g i)],.int .u8 most,.O,.O,.O,.O,.int .i64 (kS sh),.ptr 0 0,.ptr 2 0,.tslice 3 0 0 3,.O,.O,.O,.O,.O,.O,.O,.O,.O,.O,.O,.O,.O,.O,.O,.O,.O,.O,.O,.O,.O,.O,.O,.O,.O,.O,.O,.O,.O,.view m 2 fun i=>[.int .i64 (f i),.int .i64 (g i)],.int .i64 (↑m:Int),.int .i64 0,.O,.O,.O,.O,.O,.O,.O,.O,.O,.O,.O,.O,.O,.O,.O,.O,.O,.O,.O,.O,.O,.O,.O,.O,.O,.O,.O,.O,.O,.O,.O,.O,.O,.O,.O,.O,.O,.O,.O,.O,.O,.O,.O,.O,.O,.O,.O,.O,.O,.O,.O,.O,.O,.O,.O,.O,.O,.O,.O,.O,.O,.O,.O,.O,.O] [some (.cells [.int .i64 (cJ (kS sh) 2 30 []).1,.int .i64 (cJ (kS sh) 2 30 []).2,.slice 1 0 (List.length (cJ (kS sh) 2 30 []).3) 1,.int .i64 (cJ (kS sh) 2 30 []).4,.int .i64 (cJ (kS sh) 2 30 []).5,.int .i64 (cJ (kS sh) 2 30 []).6,.int .u64 (cJ (kS sh) 2 30 []).7,.int .u64 (cJ (kS sh) 2 30 []).8,.bool (cJ (kS sh) 2 30 []).9]),some (.ints (some .u64) (cJ (kS sh) 2 30 []).3),some (.cells [.int .i64 2,.int .i64 30]),some (.tab [some .i64,some .i64,some .i64] [])]∧ ∀(x:Nat),O3 m x→bif ilt (↑x:Int) (↑m:Int)then((0:Int)≤(↑x:Int)∧(↑x:Int)<(↑m:Int))∧(0=0∧lE' (yV (kS sh) f g x)∧List.length (yV (kS sh) f g x)+(1:Nat)≤(4294967296:Nat))∧okSt (ME sh m f g most) (fun x'=>Hint.ok (ME sh m f g most) x'∧Hint.mu (ME sh m f g most) x'<Hint.mu (ME sh m f g most) x) [.O,.view m 2 fun i=>[.int .i64 (f i),.int .i64 (g i)],.int .u8 most,.O,.O,.O,.O,.int .i64 (kS sh),.ptr 0 0,.ptr 2 0,.tslice 3 0 (List.length (yV (kS sh) f g x)+1) 3,.O,.O,.O,.O,.O,.O,.O,.O,.O,.O,.O,.O,.O,.O,.O,.O,.O,.O,.O,.O,.O,.O,.O,.O,.O,.O,.O,.O,.O,.view m 2 fun i=>[.int .i64 (f i),.int .i64 (g i)],.int .i64 (↑m:Int),.int .i64 (W ((↑x:Int)+1)),.O,.O,.O,.O,.O,.O,.O,.O,.O,.O,.O,.O,.O,.O,.O,.O,.O,.O,.O,.O,.O,.O,.O,.O,.O,.O,.O,.O,.O,.O,.O,.O,.O,.O,.O,.O,.O,.O,.O,.O,.O,.O,.O,.O,.O,.O,.O,.O,.O,.O,.O,.O,.O,.O,.O,.O,.O,.O,.O,.O,.O,.O,.O,.O,.O] [some (.cells [.int .i64 (cJ (kS sh) 2 30 []).1,.int .i64 (cJ (kS sh) 2 30 []).2,.slice 1 0 (List.length (cJ (kS sh) 2 30 []).3) 1,.int .i64 (cJ (kS sh) 2 30 []).4,.int .i64 (cJ (kS sh) 2 30 []).5,.int .i64 (cJ (kS sh) 2 30 []).6,.int .u64 (cJ (kS sh) 2 30 []).7,.int .u64 (cJ (kS sh) 2 30 []).8,.bool (cJ (kS sh) 2 30 []).9]),some (.ints (some .u64) (cJ (kS sh) 2 30 []).3),some (.cells [.int .i64 2,.int .i64 30]),some (.tab [some .i64,some .i64,some .i64] (yV (kS sh) f g x++ [[kS sh,f (Int.toNat (↑x:Int)),g (Int.toNat (↑x:Int))]]))]else True∧(8:Int)≠(0:Int)∧((lE' (cJ (kS sh) 2 30 []).3∧lE' (yV (kS sh) f g x))∧List.length (yV (kS sh) f g x)≤(1000000:Nat)∧z7 2 30 (mS most) (yV (kS sh) f g x) {me:=1,sp:=0,R:=[] } (cJ (kS sh) 2 30 []))∧bif !(Prod.snd (fqX sh x f g most)).1 then K (.bool false) []else bif !ieq (↑(List.length (fqX sh x f g most).1):Int) (↑m:Int)then K (.bool false) []else okSt (H8 sh m f g most) (Hint.ok (H8 sh m f g most)) [.O,.view m 2 fun i=>[.int .i64 (f i),.int .i64 (g i)],.O,.O,.O,.O,.O,.int .i64 (kS sh),.ptr 0 0,.ptr 2 0,.O,.O,.O,.ptr 3 0,.tslice 4 0 (List.length (fqX sh x f g most).1) 3,.O,.O,.O,.O,.O,.O,.O,.O,.O,.O,.O,.O,.O,.O,.O,.O,.O,.O,.O,.O,.O,.O,.O,.O,.O,.O,.O,.O,.O,.O,.O,.O,.O,.O,.O,.O,.O,.O,.O,.O,.O,.O,.O,.O,.O,.O,.O,.O,.O,.O,.O,.O,.O,.O,.O,.O,.O,.O,.O,.view m 2 fun i=>[.int .i64 (f i),.int .i64 (g i)],.int .i64 (↑m:Int),.int .i64 0,.O,.O,.O,.O,.O,.O,.O,.O,.O,.O,.O,.O,.O,.O,.O,.O,.O,.O,.O,.O,.O,.O,.O,.O,.O,.O,.O,.O,.O,.O,.O] [some (.cells [.int .i64 (Prod.snd (Prod.snd (fqX sh x f g most)).2).1,.int .i64 (Prod.snd (Prod.snd (fqX sh x f g most)).2).2,.slice 1 0 (List.length (Prod.snd (Prod.snd (fqX sh x f g most)).2).3) 1,.int .i64 (Prod.snd (Prod.snd (fqX sh x f g most)).2).4,.int .i64 (Prod.snd (Prod.snd (fqX sh x f g most)).2).5,.int .i64 (Prod.snd (Prod.snd (fqX sh x f g most)).2).6,.int .u64 (Prod.snd (Prod.snd (fqX sh x f g most)).2).7,.int .u64 (Prod.snd (Prod.snd (fqX sh x f g most)).2).8,.bool (Prod.snd (Prod.snd (fqX sh x f g most)).2).9]),some (.ints (some .u64) (Prod.snd (Prod.snd (fqX sh x f g most)).2).3),some (.cells [.int .i64 2,.int .i64 30]),some (.abs (.store 2 30 (Prod.snd (fqX sh x f g most).2).1) []),some (.tab [some .i64,none,some .i64] (fqX sh x f g most).1)]∧ ∀(x:Nat),O3 m x→bif ilt (↑x:Int) (↑m:Int)then((0:Int)≤(↑x:Int)∧(↑x:Int)<(↑m:Int))∧((0:Int)≤(↑x:Int)∧(↑x:Int)<(↑(List.length (fqA sh m f g most).1):Int))∧0+Int.toNat (↑x:Int)<List.length (fqA sh m f g most).1∧((0:Int)≤(↑x:Int)∧Int.toNat (↑x:Int)≤m)∧((Int.toNat (↑x:Int)≤(1000000:Nat)∧dF fun i=>[.int .i64 (f i),.int .i64 (g i)])∧True)∧bif !bif ieq (List.headD (List.getD (fqA sh m f g most).1 (0+Int.toNat (↑x:Int)) []) 0) 0 then bif bif !ieq (List.headD (List.tail (List.getD (fqA sh m f g most).1 (0+Int.toNat (↑x:Int)) [])) 0) 0 then resB (kS sh) f g (Int.toNat (↑x:Int)) (f (Int.toNat (↑x:Int))) (g (Int.toNat (↑x:Int)))else !resB (kS sh) f g (Int.toNat (↑x:Int)) (f (Int.toNat (↑x:Int))) (g (Int.toNat (↑x:Int)))then bif ieq (List.headD (List.tail (List.tail (List.getD (fqA sh m f g most).1 (0+Int.toNat (↑x:Int)) []))) 0) (resV (kS sh) f g (Int.toNat (↑x:Int)) (f (Int.toNat (↑x:Int))) (g (Int.toNat (↑x:Int))))then true else false else false else false then K (.bool false) []else okSt (H8 sh m f g most) (fun x'=>Hint.ok (H8 sh m f g most) x'∧Hint.mu (H8 sh m f g most) x'<Hint.mu (H8 sh m f g most) x) [.O,.view m 2 fun i=>[.int .i64 (f i),.int .i64 (g i)],.O,.O,.O,.O,.O,.int .i64 (kS sh),.ptr 0 0,.ptr 2 0,.O,.O,.O,.ptr 3 0,.tslice 4 0 (List.length (fqA sh m f g most).1) 3,.O,.O,.O,.O,.O,.O,.O,.O,.O,.O,.O,.O,.O,.O,.O,.O,.O,.O,.O,.O,.O,.O,.O,.O,.O,.O,.O,.O,.O,.O,.O,.O,.O,.O,.O,.O,.O,.O,.O,.O,.O,.O,.O,.O,.O,.O,.O,.O,.O,.O,.O,.O,.O,.O,.O,.O,.O,.O,.O,.view m 2 fun i=>[.int .i64 (f i),.int .i64 (g i)],.int .i64 (↑m:Int),.int .i64 (W ((↑x:Int)+1)),.O,.O,.O,.O,.O,.O,.O,.O,.O,.O,.O,.O,.O,.O,.O,.O,.O,.O,.O,.O,.O,.O,.O,.O,.O,.O,.O,.O,.O,.O,.O] [some (.cells [.int .i64 (Prod.snd (Prod.snd (fqA sh m f g most)).2).1,.int .i64 (Prod.snd (Prod.snd (fqA sh m f g most)).2).2,.slice 1 0 (List.length (Prod.snd (Prod.snd (fqA sh m f g most)).2).3) 1,.int .i64 (Prod.snd (Prod.snd (fqA sh m f g most)).2).4,.int .i64 (Prod.snd (Prod.snd (fqA sh m f g most)).2).5,.int .i64 (Prod.snd (Prod.snd (fqA sh m f g most)).2).6,.int .u64 (Prod.snd (Prod.snd (fqA sh m f g most)).2).7,.int .u64 (Prod.snd (Prod.snd (fqA sh m f g most)).2).8,.bool (Prod.snd (Prod.snd (fqA sh m f g most)).2).9]),some (.ints (some .u64) (Prod.snd (Prod.snd (fqA sh m f g most)).2).3),some (.cells [.int .i64 2,.int .i64 30]),some (.abs (.store 2 30 (Prod.snd (fqA sh m f g most).2).1) []),some (.tab [some .i64,none,some .i64] (fqA sh m f g most).1)]else(lE' (Prod.snd (Prod.snd (fqA sh m f g most)).2).3∧(0:Int)≤(30:Int)∧(30:Int)≤(100000:Int))∧(m≤(1000000:Nat)∧dF fun i=>[.int .i64 (f i),.int .i64 (g i)])∧((lE' (f7 (Prod.snd (Prod.snd (fqA sh m f g most)).2).3 30 (kS sh))∧fL (kS sh) f g m+List.length (bG (kS sh) f g m)=List.length (hE (kS sh) f g m))∧List.length (f7 (Prod.snd (Prod.snd (fqA sh m f g most)).2).3 30 (kS sh))≤(4294967296:Nat))∧bif nV (f7 (Prod.snd (Prod.snd (fqA sh m f g most)).2).3 30 (kS sh)) (List.drop (fL (kS sh) f g m) (hE (kS sh) f g m))then((lE' (Prod.snd (Prod.snd (fqA sh m f g most)).2).3∧(2:Int)=(2:Int)∧(30:Int)=(30:Int))∧((0:Int)≤(2:Int)∧(2:Int)≤(100000:Int))∧((0:Int)≤(30:Int)∧(30:Int)≤(100000:Int))∧List.length (Prod.fst (Prod.snd (fqA sh m f g most)).2).3≤(1000000:Nat))∧K (.bool (lE (Prod.snd (Prod.snd (fqA sh m f g most)).2).3 30 [(Prod.snd (fqA sh m f g most).2).1])) []else K (.bool false) []
theorem GK(sh:Int)(m:Nat)(f g:Nat→Int)(most:Int)(K:AVal→aC Ob→Prop)(h:D5 sh m f g most K):cT' 5 [.int .u8 sh,.view m 2 (fun i=>[.int .i64 (f i),.int .i64 (g i)]),.int .u8 most] [] K:=by
 refine Y2 (aE (E:=EJ4) Tryz.checked.mixed (L:=(VA sh m f g most)) (n:=10) (aU (by kernel_rfl) h))
theorem ZN{X:Type}{K:X→Prop} : ∀ {t:Tr X},t.run K→t.ok
 | .ret x,k=>trivial
 | .ite b l r,k=>by cases b with
   | true=>exact ZN (t:=l) k
   | false=>exact ZN (t:=r) k
 | .pre p t,k=>⟨k.1,ZN (t:=t) k.2⟩
theorem ZI{X:Type}{K:X→Prop} : ∀ {t:Tr X},t.run K→K t.val
 | .ret x,k=>k
 | .ite b l r,k=>by cases b with
   | true=>exact ZI (t:=l) k
   | false=>exact ZI (t:=r) k
 | .pre p t,k=>ZI (t:=t) k.2
theorem Tr.run_ite{X:Type}{K:X→Prop}{b:Bool}{l r:Tr X}(h1:b=true→l.run K)(h2:b=false→r.run K):(Tr.ite b l r).run K:=aI h1 h2
theorem ZE{X:Type}{K:X→Prop}{b:Bool}{l r:Tr X}(h1:b=true→l.run K)(h2:b=false→r.run K):(bif b then l else r).run K:=by
 cases b with
 | true=>exact h1 rfl
 | false=>exact h2 rfl
theorem Y9{X:Type}{K:X→Prop}{p:Prop}{t:Tr X}(h1:p)(h2:t.run K):(Tr.pre p t).run K:=⟨h1,h2⟩
theorem ZA{X:Type}{K:X→Prop}{x:X}(h:K x):(Tr.ret x).run K:=h
theorem nE'{P Q:Prop}(h:¬P:=by dsimp only;decide):P→Q:=fun e=>absurd e h
structure rngU (x:Int):Prop where
 h0:0≤x
 h1:x≤18446744073709551615
theorem LN:rngU 0:=⟨by decide,by decide⟩
theorem C8(x:Int):rngU (WU x):=⟨(BL x).1,(BL x).2⟩
theorem FD{b:Bool}{x y:Int}(h1:b=true→rngU x)(h2:rngU y):rngU (bif b then x else y):=by
 cases b with
 | true=>exact h1 rfl
 | false=>exact h2
theorem jO{n w:Int}(h:aM n w=true):0≤n∧n<2^w.toNat:=by
 unfold aM at h
 simp only [Bool.and_eq_true,bV,bB,dT']at h
 exact h
theorem IQ(b:Bool):0≤bitI b∧bitI b≤1:=by cases b<;>decide
theorem LO{a b c d e f:Int}{m:Bool} :rngU (bif dOk a b c d e f then lW a b c d m e f else 0):=by
 refine FD (fun h=>?_) LN
 unfold dOk at h
 simp only [Bool.and_eq_true]at h
 obtain⟨h1,h2,h3,h4,h5,h6⟩:=h
 have h1:=jO h1
 have h2:=jO h2
 have h3:=jO h3
 have h4:=jO h4
 have h5:=jO h5
 have h6:=jO h6
 have hb:=IQ m
 simp only [Int.reduceToNat,Int.reducePow]at h1 h2 h3 h4 h5 h6
 unfold lW
 exact⟨by omega,by omega⟩
theorem PG{a b c v:Int}{m:Bool} :rngU (bif bif aM a 10 then bif aM b 9 then bif aM c 5 then aM v 18 else false else false else false then aV a b m c v else 0):=by
 refine FD (fun h=>?_) LN
 cases h1:aM a 10 with
 | false=>rw [h1]at h;cases h
 | true=>
   cases h2:aM b 9 with
   | false=>rw [h1,h2]at h;cases h
   | true=>
     cases h3:aM c 5 with
     | false=>rw [h1,h2,h3]at h;cases h
     | true=>
       rw [h1,h2,h3]at h
       have h:=jO (show aM v 18=true from h)
       have h1:=jO h1
       have h2:=jO h2
       have h3:=jO h3
       have hb:=IQ m
       simp only [Int.reduceToNat,Int.reducePow]at h h1 h2 h3
       unfold aV
       exact⟨by omega,by omega⟩
structure Act1 (s s':MS):Prop where
 c:s'.c=s.c+1
 len:s'.xs.length=s.xs.length
 w:okW s.xs→okW s'.xs
 t:s'.t=s.t
 n:s'.n=s.n
theorem y0(s:MS)(k a o w:Int)(ok:Bool):Act1 s ⟨s.t,s.n,s.xs,s.c+1,k,a,o,w,ok⟩:=⟨rfl,rfl,id,rfl,rfl⟩
theorem xA(s:MS)(b v k a o w:Int)(ok:Bool)(h:rngU v):Act1 s ⟨s.t,s.n,aO s.xs b v,s.c+1,k,a,o,w,ok⟩:=⟨rfl,bZ _ _ _,fun hw=>eU hw ⟨h.h0,h.h1⟩,rfl,rfl⟩
theorem DH(s:MS)(q:Bool)(b v k a o w:Int)(ok:Bool)(h:rngU v):Act1 s ⟨s.t,s.n,bif q then aO s.xs b v else s.xs,s.c+1,k,a,o,w,ok⟩:=by
 cases q with
 | true=>exact xA s b v k a o w ok h
 | false=>exact y0 s k a o w ok
theorem ND(x a:Int)(w:Int):0≤aB x a w∧aB x a w<2^w.toNat:=kP
structure w7 (t n:Int) (s:MS):Prop where
 ht:1≤t∧t≤1000
 hn:1≤n∧n≤1000
 hc:0≤s.c∧s.c≤900000
 hw:okW s.xs
theorem uS{P:Prop}(h:P:=by(with_reducible first | exact LN | exact C8 _ | exact LO | exact PG | assumption)):P:=h
theorem I0{P:Prop}(h:P:=by(simp only [aB,Int.reduceToNat,Int.reducePow];omega)):P:=h
theorem b9{P:Prop}(h:P:=by(first
 | with_reducible exact trivial
 | with_reducible rfl
 | with_reducible assumption
 | with_reducible exact y0 _ _ _ _ _ _
 | ((with_reducible refine xA _ _ _ _ _ _ _ _ ?_);exact uS)
 | ((with_reducible refine DH _ _ _ _ _ _ _ _ _ ?_);exact uS)
 | omega
 | exact I0
 | decide)):P:=h
structure RA (t:Int) (x:CLS):Prop where
 h:x.at'=0∨x.at'=1∨x.at'=2∨x.at'=3
structure UW (t:Int) (s:MS) (o:ClO):Prop where
 a:Act1 s o.s
 w:o.d=false→RA t o.x
theorem P5{t n:Int}{x:CLS}{s:MS}(hb:w7 t n s)(hx:RA t x):(UL t n x s).run (UW t s):=by
 obtain⟨⟨t0,t1⟩,⟨n0,n1⟩,⟨c0,c1⟩,hw⟩:=hb
 obtain⟨h⟩:=hx
 unfold UL
 refine ZE (fun h0=>?_) (fun h0=>ZE (fun h1=>?_) (fun h1=>ZE (fun h2=>?_) (fun h2=>ZE (fun h3=>?_) (fun h3=>?_))))
 ·unfold zE
  (repeat' (with_reducible first | exact trivial | rfl | assumption | refine Y9 ?_ ?_ | refine Tr.run_ite (fun _=>?_) (fun _=>?_) | refine ZA ?_ | refine And.intro ?_ ?_))
  all_goals first | exact b9 | (refine⟨by exact b9,fun hd=>?_⟩;first | (exact Bool.noConfusion hd) | exact⟨by dsimp only;decide⟩)
 ·unfold zF
  (repeat' (with_reducible first | exact trivial | rfl | assumption | refine Y9 ?_ ?_ | refine Tr.run_ite (fun _=>?_) (fun _=>?_) | refine ZA ?_ | refine And.intro ?_ ?_))
  all_goals first | exact b9 | (refine⟨by exact b9,fun hd=>?_⟩;first | (exact Bool.noConfusion hd) | exact⟨by dsimp only;decide⟩)
 ·unfold zG
  (repeat' (with_reducible first | exact trivial | rfl | assumption | refine Y9 ?_ ?_ | refine Tr.run_ite (fun _=>?_) (fun _=>?_) | refine ZA ?_ | refine And.intro ?_ ?_))
  all_goals first | exact b9 | (refine⟨by exact b9,fun hd=>?_⟩;first | (exact Bool.noConfusion hd) | exact⟨by dsimp only;decide⟩)
 ·unfold zH
  (repeat' (with_reducible first | exact trivial | rfl | assumption | refine Y9 ?_ ?_ | refine Tr.run_ite (fun _=>?_) (fun _=>?_) | refine ZA ?_ | refine And.intro ?_ ?_))
  all_goals first | exact b9 | (refine⟨by exact b9,fun hd=>?_⟩;first | (exact Bool.noConfusion hd) | exact⟨by dsimp only;decide⟩)
 ·simp only [bJ,beq_eq_false_iff_ne]at h0 h1 h2 h3
  rcases h with e | e | e | e<;>contradiction
theorem IV{t n:Int}{x:CLS}{s:MS}(hb:w7 t n s)(hx:RA t x):MY t n x s:=ZN (P5 hb hx)
theorem B4{t n:Int}{x:CLS}{s:MS}(hb:w7 t n s)(hx:RA t x):UW t s (eA t n x s):=ZI (P5 hb hx)
structure UN (t:Int) (x:PRS):Prop where
 h:True
structure WK (t:Int) (s:MS) (st:STS) (o:PrO):Prop where
 a:Act1 s o.s
 w:o.d=false→UN t o.x
 st:o.st=st
theorem QN{t n:Int}{x:PRS}{st:STS}{s:MS}(hb:w7 t n s)(hx:UN t x):(QM t n x st s).run (WK t s st):=by
 obtain⟨⟨t0,t1⟩,⟨n0,n1⟩,⟨c0,c1⟩,hw⟩:=hb
 obtain⟨h⟩:=hx
 unfold QM
 unfold HR
 (repeat' (with_reducible first | exact trivial | rfl | assumption | refine Y9 ?_ ?_ | refine Tr.run_ite (fun _=>?_) (fun _=>?_) | refine ZA ?_ | refine And.intro ?_ ?_))
 all_goals first | exact b9 | (refine⟨by exact b9,fun hd=>?_,rfl⟩;first | (exact Bool.noConfusion hd) | exact⟨trivial⟩)
theorem TO{t n:Int}{x:PRS}{st:STS}{s:MS}(hb:w7 t n s)(hx:UN t x):PB t n x st s:=ZN (QN hb hx)
theorem TP{t n:Int}{x:PRS}{st:STS}{s:MS}(hb:w7 t n s)(hx:UN t x):WK t s st (prF t n x st s):=ZI (QN hb hx)
theorem EC{a b:Int}(h:ieq a b=true):a=b:=by simpa [bJ]using h
theorem KC{a b:Int}(h:ieq a b=false):a≠b:=by simpa [bJ]using h
def eP(l:List Int):Prop:= ∀r∈l,0≤r∧r≤1000
theorem wT:eP []:=fun r h=>nomatch h
theorem uV{l:List Int}{a:Int}(h:eP l)(ha:0≤a∧a≤1000):eP (l++ [a]):=by
 intro r hr
 rcases List.mem_append.1 hr with h1 | h1
 ·exact h r h1
 ·rw [List.mem_singleton.1 h1];exact ha
theorem HY{l m:List Int}(h:eP l)(hm:eP m):eP (l++m):=by
 intro r hr
 rcases List.mem_append.1 hr with h1 | h1
 ·exact h r h1
 ·exact hm r h1
theorem jA(t n a:Int):rP t n a:=⟨⟨rfl,rfl⟩,trivial⟩
theorem IU(t n a:Int):RA t (zD t n a):=⟨.inl rfl⟩
theorem XA(x a:Int):0≤aB x a 9∧aB x a 9≤1000:=by
 have:=ND x a 9
 simp only [Int.reduceToNat,Int.reducePow]at this
 omega
structure MG (b:Int) (x:FNS):Prop where
 m:0≤x.me∧x.me≤1000
 cu:0≤x.curr∧x.curr≤1000
 ul:eP x.ul
 ln:(x.ul.length:Int)≤b
structure R4 (t:Int) (x:FNS):Prop where
 h:x.at'=0∨x.at'=1∨x.at'=2∨x.at'=3∨x.at'=4∨x.at'=5∨x.at'=6
 cl:x.at'=4→RA t x.cl
structure U7 (t b:Int) (s:MS) (o:FnO):Prop where
 a:Act1 s o.s
 q:MG (b+1) o.x
 w:o.d=false→R4 t o.x
theorem oG{P:Prop}(h:P:=by(refine⟨?_,⟨?_,?_,?_,?_⟩,fun hd=>?_⟩<;>first
 | exact b9
 | (exact(B4 (by assumption) (by assumption)).a)
 | (constructor<;>assumption)
 | exact XA _ _
 | (exact uV (by assumption) ⟨by assumption,by assumption⟩)
 | exact wT
 | (dsimp only;simp only [List.length_append,List.length_singleton,List.length_nil];omega)
 | exact Bool.noConfusion hd
 | exact⟨by dsimp only;decide,fun e=>absurd e (by dsimp only;decide)⟩
 | exact⟨by dsimp only;decide,fun e=>(B4 (by assumption) (by assumption)).w (by assumption)⟩
 | exact⟨by dsimp only;decide,fun e=>by dsimp only;with_reducible exact IU _ _ _⟩)):P:=h
theorem P7{t n b:Int}{x:FNS}{s:MS}(hb:w7 t n s)(hx:R4 t x)(hq:MG b x)(hbb:b≤900000):(D3 t n x s).run (U7 t b s):=by
 have hb':=hb
 obtain⟨⟨t0,t1⟩,⟨n0,n1⟩,⟨c0,c1⟩,hw⟩:=hb
 obtain⟨h,hcl⟩:=hx
 obtain⟨⟨m0,m1⟩,⟨q0,q1⟩,hul,hln⟩:=hq
 have b0:0≤b:=by omega
 unfold D3
 refine ZE (fun h0=>?_) (fun h0=>ZE (fun h1=>?_) (fun h1=>ZE (fun h2=>?_) (fun h2=>ZE (fun h3=>?_) (fun h3=>ZE (fun h4=>?_) (fun h4=>ZE (fun h5=>?_) (fun h5=>ZE (fun h6=>?_) (fun h6=>?_)))))))
 ·unfold tW
  (repeat' (with_reducible first | exact trivial | rfl | assumption | refine Y9 ?_ ?_ | refine Tr.run_ite (fun _=>?_) (fun _=>?_) | refine ZA ?_ | refine And.intro ?_ ?_))
  all_goals first | exact b9 | exact jA _ _ _ | (simp only [List.length_append,List.length_singleton];done) | exact oG
 ·unfold v6
  (repeat' (with_reducible first | exact trivial | rfl | assumption | refine Y9 ?_ ?_ | refine Tr.run_ite (fun _=>?_) (fun _=>?_) | refine ZA ?_ | refine And.intro ?_ ?_))
  all_goals first | exact b9 | exact jA _ _ _ | (simp only [List.length_append,List.length_singleton];done) | exact oG
 ·unfold tX
  (repeat' (with_reducible first | exact trivial | rfl | assumption | refine Y9 ?_ ?_ | refine Tr.run_ite (fun _=>?_) (fun _=>?_) | refine ZA ?_ | refine And.intro ?_ ?_))
  all_goals first | exact b9 | exact jA _ _ _ | (simp only [List.length_append,List.length_singleton];done) | exact oG
 ·unfold l1
  (repeat' (with_reducible first | exact trivial | rfl | assumption | refine Y9 ?_ ?_ | refine Tr.run_ite (fun _=>?_) (fun _=>?_) | refine ZA ?_ | refine And.intro ?_ ?_))
  all_goals first | exact b9 | exact jA _ _ _ | (simp only [List.length_append,List.length_singleton];done) | exact oG
 ·unfold zY
  have hcl4:=hcl (EC h4)
  have hclo:=IV hb' hcl4
  (repeat' (with_reducible first | exact trivial | rfl | assumption | refine Y9 ?_ ?_ | refine Tr.run_ite (fun _=>?_) (fun _=>?_) | refine ZA ?_ | refine And.intro ?_ ?_))
  all_goals first | exact b9 | exact jA _ _ _ | (simp only [List.length_append,List.length_singleton];done) | exact oG
 ·unfold tY
  (repeat' (with_reducible first | exact trivial | rfl | assumption | refine Y9 ?_ ?_ | refine Tr.run_ite (fun _=>?_) (fun _=>?_) | refine ZA ?_ | refine And.intro ?_ ?_))
  all_goals first | exact b9 | exact jA _ _ _ | (simp only [List.length_append,List.length_singleton];done) | exact oG
 ·unfold tZ
  (repeat' (with_reducible first | exact trivial | rfl | assumption | refine Y9 ?_ ?_ | refine Tr.run_ite (fun _=>?_) (fun _=>?_) | refine ZA ?_ | refine And.intro ?_ ?_))
  all_goals first | exact b9 | exact jA _ _ _ | (simp only [List.length_append,List.length_singleton];done) | exact oG
 ·simp only [bJ,beq_eq_false_iff_ne]at h0 h1 h2 h3 h4 h5 h6
  rcases h with e | e | e | e | e | e | e<;>contradiction
theorem R5{t n b:Int}{x:FNS}{s:MS}(hb:w7 t n s)(hx:R4 t x)(hq:MG b x)(hbb:b≤900000):NZ t n x s:=ZN (P7 hb hx hq hbb)
theorem R6{t n b:Int}{x:FNS}{s:MS}(hb:w7 t n s)(hx:R4 t x)(hq:MG b x)(hbb:b≤900000):U7 t b s (fnF t n x s):=ZI (P7 hb hx hq hbb)
theorem c9(sh ky:Int):0≤cI sh ky∧cI sh ky≤3:=by
 unfold cI
 cases ieq sh 2 with
 | true=>exact⟨Int.emod_nonneg _ (by decide),by have:=Int.emod_lt_of_pos ky (b:=4) (by decide);show ky%4≤3;omega⟩
 | false=>exact⟨Int.le_refl 0,(by decide:(0:Int)≤3)⟩
theorem CG{t n me hd key lim:Int}(hn:1≤n∧n≤1000)(hm:0≤me∧me≤1000)(hh:0≤hd∧hd≤3):(JP t n me hd key lim).run (fun x=>R4 t x∧MG 0 x):=by
 obtain⟨n0,n1⟩:=hn
 obtain⟨m0,m1⟩:=hm
 obtain⟨e0,e1⟩:=hh
 unfold JP
 (repeat' (with_reducible first | exact trivial | rfl | assumption | refine Y9 ?_ ?_ | refine Tr.run_ite (fun _=>?_) (fun _=>?_) | refine ZA ?_ | refine And.intro ?_ ?_))
 all_goals first | exact b9 | exact⟨by dsimp only;decide,fun e=>absurd e (by dsimp only;decide)⟩ | exact⟨⟨m0,m1⟩,⟨(by decide:(0:Int)≤0),(by decide:(0:Int)≤1000)⟩,wT,(by decide:((0:Nat):Int)≤0)⟩
theorem ES(sh kd ky pred pw cw sp:Int){curr:Int}(hc:0≤curr∧curr≤1000):(wL sh kd ky pred pw curr cw sp).run (fun p=>0≤p.pops∧p.pops≤1000):=by
 obtain⟨c0,c1⟩:=hc
 unfold wL
 (repeat' (with_reducible first | exact trivial | rfl | assumption | refine Y9 ?_ ?_ | refine Tr.run_ite (fun _=>?_) (fun _=>?_) | refine ZA ?_ | refine And.intro ?_ ?_))
 all_goals first | exact b9 | (dsimp only;first | assumption | decide)
theorem LB(sh kd ky pred pw cw sp:Int){curr:Int}(hc:0≤curr∧curr≤1000):yC sh kd ky pred pw curr cw sp:=ZN (ES sh kd ky pred pw cw sp hc)
theorem HP(sh kd ky pred pw cw sp:Int){curr:Int}(hc:0≤curr∧curr≤1000):0≤(aP sh kd ky pred pw curr cw sp).pops ∧(aP sh kd ky pred pw curr cw sp).pops ≤1000:=ZI (ES sh kd ky pred pw cw sp hc)
theorem AU(a b c d e f g h i):(qX a b c d e f g h i).run rngU:=by
 unfold qX
 (repeat' (with_reducible first | exact trivial | rfl | assumption | refine Y9 ?_ ?_ | refine Tr.run_ite (fun _=>?_) (fun _=>?_) | refine ZA ?_ | refine And.intro ?_ ?_))
 all_goals first | exact b9 | exact uS
theorem HO(a b c d e f g h i):yD a b c d e f g h i:=ZN (AU a b c d e f g h i)
theorem HN(a b c d e f g h i):rngU (cN a b c d e f g h i):=ZI (AU a b c d e f g h i)
theorem AT(a b c d e f g h i):(qW a b c d e f g h i).run (fun _=>True):=by
 unfold qW
 (repeat' (with_reducible first | exact trivial | rfl | assumption | refine Y9 ?_ ?_ | refine Tr.run_ite (fun _=>?_) (fun _=>?_) | refine ZA ?_ | refine And.intro ?_ ?_))
 all_goals exact b9
theorem HL(p:PLN):pS p.1 p.2 p.3 p.4 p.5 p.6 p.7 p.8 p.9:=ZN (AT _ _ _ _ _ _ _ _ _)
theorem C2(a b c d e f g h i):pS a b c d e f g h i:=ZN (AT _ _ _ _ _ _ _ _ _)
theorem pA{b c:Int}{x:FNS}(h:MG b x)(hbc:b≤c):MG c x:=⟨h.m,h.cu,h.ul,Int.le_trans h.ln hbc⟩
theorem xW{t n me hd key lim:Int}(hn:1≤n∧n≤1000)(hm:0≤me∧me≤1000)(hh:0≤hd∧hd≤3):zX t n me hd key lim:=ZN (CG hn hm hh)
theorem JR{t n me hd key lim:Int}(hn:1≤n∧n≤1000)(hm:0≤me∧me≤1000)(hh:0≤hd∧hd≤3):R4 t (xV t n me hd key lim):=by
 have h:=ZI (CG (t:=t) (key:=key) (lim:=lim) hn hm hh)
 exact h.1
theorem JQ{t n me hd key lim:Int}(hn:1≤n∧n≤1000)(hm:0≤me∧me≤1000)(hh:0≤hd∧hd≤3):MG 0 (xV t n me hd key lim):=by
 have h:=ZI (CG (t:=t) (key:=key) (lim:=lim) hn hm hh)
 exact h.2
theorem LD(t n key nx:Int)(st:STS):(O9 t n key nx st).run (fun r=>r.2=st):=⟨⟨rfl,rfl,rfl⟩,rfl⟩
theorem PA(t n key nx:Int)(st:STS):EU t n key nx st:=ZN (LD t n key nx st)
theorem TI(t n key nx:Int)(st:STS):(pT t n key nx st).2=st:=ZI (LD t n key nx st)
structure stW (b:Int) (st:STS):Prop where
 m:0≤st.me∧st.me≤1000
 r:eP st.R
 ln:(st.R.length:Int)≤b
theorem pY{b c:Int}{st:STS}(h:stW b st)(hbc:b≤c):stW c st:=⟨h.m,h.r,Int.le_trans h.ln hbc⟩
theorem PN{b:Int}{st:STS}{k:Int}{x:FNS}(h:stW b st)(hq:MG (b - st.R.length+1) x):stW (b+1) {me:=st.me,sp:=k,R:=st.R++x.ul} :=
 ⟨h.m,HY h.r hq.ul,by have:=hq.ln;simp only [List.length_append];omega⟩
theorem A6{b:Int}{st:STS}{k a:Int}(h:stW b st)(ha:0≤a∧a≤1000):stW (b+1) {me:=st.me,sp:=k,R:=st.R++ [a] } :=
 ⟨h.m,uV h.r ha,by have:=h.ln;simp only [List.length_append,List.length_singleton];omega⟩
theorem T7{b:Int}{st:STS}(h:stW b st)(k:Int):stW (b+1) {me:=st.me,sp:=k,R:=st.R} :=⟨h.m,h.r,by have:=h.ln;show(st.R.length:Int)≤_;omega⟩
structure SI (t b:Int) (st:STS) (x:FTS):Prop where
 h:x.at'=0∨x.at'=1∨x.at'=2∨x.at'=3
 fn:x.at'=0→R4 t x.fn∧MG (b - st.R.length) x.fn
 cl:x.at'=1→RA t x.cl
 ps:0≤x.p.pops∧x.p.pops≤1000
structure VC (t b:Int) (s:MS) (o:FtO):Prop where
 a:Act1 s o.s
 st:stW (b+1) o.st
 w:o.d=false→SI t (b+1) o.st o.x
theorem QD{t n b:Int}{x:FTS}{st:STS}{s:MS}(hb:w7 t n s)(hx:SI t b st x)(hst:stW b st)(hbb:b≤900000):(J1 t n x st s).run (VC t b s):=by
 have hb':=hb
 obtain⟨ht,hn,⟨c0,c1⟩,hw⟩:=hb
 obtain⟨n0,n1⟩:=hn
 obtain⟨t0,t1⟩:=ht
 obtain⟨h,hfn,hcl,hps⟩:=hx
 have hR0:=hst.ln
 have hst1:stW (b+1) st:=pY hst (by omega)
 have hnn:1≤n∧n≤1000:=⟨n0,n1⟩
 have b0:0≤b:=by omega
 unfold J1
 refine ZE (fun h0=>?_) (fun h0=>ZE (fun h1=>?_) (fun h1=>ZE (fun h2=>?_) (fun h2=>ZE (fun h3=>?_) (fun h3=>?_))))
 ·obtain⟨hfw,hfq⟩:=hfn (EC h0)
  have hF:=R6 hb' hfw hfq (by omega)
  have hFo:=R5 hb' hfw hfq (by omega)
  have hA:=hF.a
  have hQ:=hF.q
  have hQl:=hQ.ln
  have hS:stW (b+1) {me:=st.me,sp:=st.sp,R:=st.R++(fnF t n x.fn s).x.ul } :=PN hst hQ
  have hcu:=hQ.cu
  unfold pE
  (repeat' (with_reducible first | exact trivial | rfl | assumption | refine Y9 ?_ ?_ | refine Tr.run_ite (fun _=>?_) (fun _=>?_) | refine ZA ?_ | refine And.intro ?_ ?_))
  all_goals first
   | exact b9
   | exact LB _ _ _ _ _ _ _ hcu
   | exact HL _
   | exact C2 _ _ _ _ _ _ _ _ _
   | exact jA _ _ _
   | exact PA _ _ _ _ _
   | (simp only [List.length_append];done)
   | (refine⟨by first | assumption | exact b9,?_,fun hd=>?_⟩
      ·first
        | assumption
        | (dsimp only;rw [TI];assumption)
      ·first
        | exact Bool.noConfusion hd
        | (refine⟨by dsimp only;decide,?_,?_,?_⟩
           ·first | (exact nE') | (intro _;exact⟨hF.w (by assumption),pA hQ (by dsimp only;omega)⟩)
           ·first | (exact nE') | (intro _;dsimp only;with_reducible exact IU _ _ _)
           ·first | exact hps | exact HP _ _ _ _ _ _ _ hcu))
 ·have hc:=hcl (EC h1)
  have hC:=B4 hb' hc
  have hCo:=IV hb' hc
  have hA:=hC.a
  unfold z9
  (repeat' (with_reducible first | exact trivial | rfl | assumption | refine Y9 ?_ ?_ | refine Tr.run_ite (fun _=>?_) (fun _=>?_) | refine ZA ?_ | refine And.intro ?_ ?_))
  all_goals first
   | exact b9
   | exact xW hnn hst.m (c9 _ _)
   | (refine⟨by assumption,by assumption,fun hd=>?_⟩
      first
       | exact Bool.noConfusion hd
       | (refine⟨by dsimp only;decide,?_,?_,hps⟩
          ·first | (exact nE') | (intro _;exact⟨JR (t:=t) (n:=n) hnn hst.m (c9 _ _),pA (JQ (t:=t) (n:=n) hnn hst.m (c9 _ _)) (by dsimp only;omega)⟩)
          ·first | (exact nE') | (intro _;exact hC.w (by assumption))))
 ·have hP:=TP (st:=st) hb' (show UN t x.pr from⟨trivial⟩)
  have hPo:=TO (st:=st) hb' (show UN t x.pr from⟨trivial⟩)
  have hA:=hP.a
  have hPs:stW (b+1) (prF t n x.pr st s).st :=by rw [hP.st];exact hst1
  unfold pF
  (repeat' (with_reducible first | exact trivial | rfl | assumption | refine Y9 ?_ ?_ | refine Tr.run_ite (fun _=>?_) (fun _=>?_) | refine ZA ?_ | refine And.intro ?_ ?_))
  all_goals first
   | exact b9
   | (refine⟨by assumption,by assumption,fun hd=>?_⟩
      first
       | exact Bool.noConfusion hd
       | exact⟨by dsimp only;decide,fun e=>absurd e (by dsimp only;decide),fun e=>absurd e (by dsimp only;decide),hps⟩)
 ·have hW:=HN (FTS.p x).1 (FTS.p x).2 (FTS.p x).3 (FTS.p x).4 (FTS.p x).5 (FTS.p x).6 (FTS.p x).7 (FTS.p x).8 (FTS.p x).9
  have hWo:=HO (FTS.p x).1 (FTS.p x).2 (FTS.p x).3 (FTS.p x).4 (FTS.p x).5 (FTS.p x).6 (FTS.p x).7 (FTS.p x).8 (FTS.p x).9
  have hS1:stW (b+1) {me:=st.me,sp:=0,R:=st.R++ [(FTS.p x).9] } :=A6 hst hps
  have hS2:stW (b+1) {me:=st.me,sp:=st.sp,R:=st.R++ [(FTS.p x).9] } :=A6 hst hps
  have hS3:stW (b+1) {me:=st.me,sp:=0,R:=st.R} :=T7 hst 0
  unfold uA
  (repeat' (with_reducible first | exact trivial | rfl | assumption | refine Y9 ?_ ?_ | refine Tr.run_ite (fun _=>?_) (fun _=>?_) | refine ZA ?_ | refine And.intro ?_ ?_))
  all_goals first
   | exact b9
   | exact xW hnn hst.m (c9 _ _)
   | (simp only [List.length_append,List.length_singleton];done)
   | (refine⟨by exact b9,by assumption,fun hd=>?_⟩
      first
       | exact Bool.noConfusion hd
       | (refine⟨by dsimp only;decide,?_,?_,hps⟩
          ·first | (exact nE') | (intro _;exact⟨JR (t:=t) (n:=n) hnn hst.m (c9 _ _),pA (JQ (t:=t) (n:=n) hnn hst.m (c9 _ _)) (by dsimp only;omega)⟩)
          · (exact nE')))
 ·simp only [bJ,beq_eq_false_iff_ne]at h0 h1 h2 h3
  rcases h with e | e | e | e<;>contradiction
theorem J3{t n b:Int}{x:FTS}{st:STS}{s:MS}(hb:w7 t n s)(hx:SI t b st x)(hst:stW b st)(hbb:b≤900000):ftOk t n x st s:=ZN (QD hb hx hst hbb)
theorem SL{t n b:Int}{x:FTS}{st:STS}{s:MS}(hb:w7 t n s)(hx:SI t b st x)(hst:stW b st)(hbb:b≤900000):VC t b s (ftF t n x st s):=ZI (QD hb hx hst hbb)
theorem CJ{t n b sh kd ky most:Int}{st:STS}(hn:1≤n∧n≤1000)(hst:stW b st):(JZ t n sh kd ky most st).run (fun r=>SI t b st r.1∧r.2=st):=by
 have hR0:=hst.ln
 unfold JZ
 (repeat' (with_reducible first | exact trivial | rfl | assumption | refine Y9 ?_ ?_ | refine Tr.run_ite (fun _=>?_) (fun _=>?_) | refine ZA ?_ | refine And.intro ?_ ?_))
 all_goals first
  | exact b9
  | exact xW hn hst.m (c9 _ _)
  | exact⟨by dsimp only;decide,fun _=>⟨JR (t:=t) (n:=n) hn hst.m (c9 _ _),pA (JQ (t:=t) (n:=n) hn hst.m (c9 _ _)) (by omega)⟩,fun e=>absurd e (by dsimp only;decide),⟨(by decide:(0:Int)≤0),(by decide:(0:Int)≤1000)⟩⟩
theorem iN(s:MS)(a:Int):Act1 s (s.loadd a):=⟨rfl,rfl,id,rfl,rfl⟩
theorem vH(s:MS)(a o x:Int):Act1 s (s.cased a o (WU x)):=DH s _ _ _ _ _ _ _ _ (C8 x)
theorem vG(s:MS)(a x:Int):Act1 s (s.added a x):=xA s _ _ _ _ _ _ _ (C8 _)
theorem uU{m:List (Int×Int)}{l:List Int}(h:eP l):eP (cB m l):=fun r hr=>h r (List.mem_filter.1 hr).1
theorem A3{m:List (Int×Int)}{l:List Int}(h:eP l):eP (aS m l):=fun r hr=>h r (List.mem_filter.1 hr).1
theorem KJ(m:List (Int×Int))(l:List Int):(cB m l).length ≤l.length:=List.length_filter_le _ _
theorem LV{l:List Int}(h:eP l){j:Nat}(hj:j<l.length): -1000000≤List.getD l (j+Int.toNat 0*1) 0∧List.getD l (j+Int.toNat 0*1) 0≤1000000:=by
 have e:j+Int.toNat 0*1=j:=by simp
 rw [e,gD',gE' hj]
 have:=h _ (List.getElem_mem hj)
 show _≤l[j]∧l[j]≤_
 omega
theorem AO{n a:Int}(hn:1≤n)(ha:1≤a):1≤cF n a∧cF n a≤n:=by
 unfold cF
 rw [Int.tmod_eq_emod_of_nonneg (by omega)]
 have:=Int.emod_nonneg a (show n≠0 by omega)
 have:=Int.emod_lt_of_pos a (show 0<n by omega)
 omega
theorem DK{t n me:Int}(hn:1≤n):1≤at0 t n me∧at0 t n me≤n:=by
 unfold at0
 cases h:bC n (aL t n me)with
 | true=>exact iZ.1 h
 | false=>exact⟨(by decide:(1:Int)≤1),hn⟩
def U4(t n b:Int)(e:ENS):Prop:=match e.ph with
 | 0=>True
 | 1=>okAl n e.x
 | 2=>True
 | 3=>(eP e.y.N∧(e.y.N.length:Int)≤b)∧0≤e.y.i∧e.y.i<2*t
 | 4=>2*t≤e.y.i∧1≤e.y.l∧e.y.gs.length=e.y.j+e.y.l∧eP e.y.gs∧eP e.y.ks∧(e.y.ks.length:Int)≤b
 | _=>False
structure RI (t n b:Int) (s:MS) (o:EO):Prop where
 a:Act1 s o.s
 st:stW (b+1) o.st
 w:o.d=false→U4 t n (b+1) o.e
theorem JE{t n b:Int}{e:ENS}{st:STS}{s:MS}(hb:w7 t n s)(hx:U4 t n b e)(hst:stW b st)(hbb:b≤900000):okE t n e st s:=by
 obtain⟨ht,hn,hc,hw⟩:=hb
 have hl:=hst.ln
 refine⟨ht,hn,⟨hc.1,by omega⟩,hst.m,by omega,?_⟩
 match e,hx with
 | ⟨0,sh,dn,x,y⟩,hx=>trivial
 | ⟨1,sh,dn,x,y⟩,hx=>exact hx
 | ⟨2,sh,dn,x,y⟩,hx=>trivial
 | ⟨3,sh,dn,x,y⟩,hx=>
   obtain⟨⟨h1,h2⟩,h3⟩:=hx
   exact⟨by dsimp only at h2⊢;omega,h3⟩
 | ⟨4,sh,dn,x,y⟩,hx=>
   obtain⟨a1,a2,a3,a4,a5⟩:=hx
   exact⟨a1,a2,a3,LV a4 (by omega)⟩
theorem DR{t n b:Int}{e:ENS}{st:STS}{x:AL}{s s0:MS}(ha:Act1 s0 s)(hst:stW b st)(hg:x.got=0)(hx:1≤x.at'∧x.at'≤n)(hl0:0≤x.left+1)(hl:x.left≤1000):RI t n b s0 (zN e st x s):=by
 have hl1:=hst.ln
 unfold zN
 split
 ·exact⟨ha,⟨hst.m,hst.r,by dsimp only;omega⟩,fun _=>trivial⟩
 ·rename_i h
  rw [bV,dF']at h
  exact⟨ha,pY hst (by omega),fun _=>⟨hg,hx,by show(0:Int)≤x.left;omega,hl⟩⟩
theorem vU{t n b:Int}{e:ENS}{st:STS}{x:AL}{s:MS}(hn:1≤n)(hst:stW b st)(hx:okAl n x):RI t n b s (jM n e st x s):=by
 obtain⟨hg,ha,hl⟩:=hx
 have hl1:=hst.ln
 unfold jM
 split
 ·split
  ·exact⟨vH _ _ _ _,⟨hst.m,hst.r,by dsimp only;omega⟩,fun h=>Bool.noConfusion h⟩
  ·exact DR (vH _ _ _ _) hst rfl (AO hn ha.1) (by dsimp only;omega) (by dsimp only;omega)
 ·split
  ·exact DR (iN _ _) hst rfl (AO hn ha.1) (by dsimp only;omega) (by dsimp only;omega)
  ·exact⟨iN _ _,pY hst (by omega),fun _=>⟨rfl,ha,hl⟩⟩
theorem RN{t n b:Int}{e:ENS}{st:STS}{s:MS}(hb:w7 t n s)(hx:U4 t n b e)(hst:stW b st):RI t n b s (enF t n e st s):=by
 obtain⟨ht,hn,hc,hw⟩:=hb
 have hl1:=hst.ln
 have hst1:stW (b+1) st:=pY hst (by omega)
 match e,hx with
 | ⟨0,sh,dn,x,y⟩,hx=>
   unfold enF
   dsimp only
   cases hc:ieq st.sp 0 with
   | true=>exact vU hn.1 hst ⟨rfl,DK hn.1,by dsimp only;omega⟩
   | false=>exact⟨iN _ _,hst1,fun h=>Bool.noConfusion h⟩
 | ⟨1,sh,dn,x,y⟩,hx=>exact vU hn.1 hst hx
 | ⟨2,sh,dn,x,y⟩,hx=>
   exact⟨iN _ _,hst1,fun _=>⟨⟨hst.r,by show(st.R.length:Int)≤_;omega⟩,(by decide:(0:Int)≤1),by show(1:Int)<_;omega⟩⟩
 | ⟨3,sh,dn,x,y⟩,hx=>
   obtain⟨⟨hN,hNl⟩,hi0,hi1⟩:=hx
   dsimp only at hN hNl hi0 hi1
   have hk:=KJ (aR y.m n y.i s) y.N
   unfold enF
   dsimp only
   generalize hsm:aR y.m n y.i s=sm at hk⊢
   cases h1:ieq (y.i+1) (2*t)with
   | false=>
     have h1:=KC h1
     exact⟨iN _ _,hst1,fun _=>⟨⟨hN,by show((y.N).length :Int)≤_;omega⟩,by show 0≤y.i+1;omega,by show y.i+1<2*t;omega⟩⟩
   | true=>
     have h1:=EC h1
     cases h2:ieq ((aS sm y.N).length :Int) 0 with
     | true=>exact⟨iN _ _,⟨hst.m,uU hN,by show((cB sm y.N).length :Int)≤_;omega⟩,fun h=>Bool.noConfusion h⟩
     | false=>
       have h2:=KC h2
       exact⟨iN _ _,hst1,fun _=>⟨by show 2*t≤y.i+1;omega,by show 1≤(aS sm y.N).length;omega,by show(aS sm y.N).length =0+(aS sm y.N).length;omega,A3 hN,uU hN,by show((cB sm y.N).length :Int)≤_;omega⟩⟩
 | ⟨4,sh,dn,x,y⟩,hx=>
   obtain⟨a1,a2,a3,a4,a5,a6⟩:=hx
   dsimp only at a1 a2 a3 a4 a5 a6
   unfold enF
   dsimp only
   cases h1:ieq ((y.l - 1:Nat):Int) 0 with
   | true=>exact⟨vG _ _ _,⟨hst.m,a5,by show((y.ks).length :Int)≤_;omega⟩,fun _=>trivial⟩
   | false=>
     have h1:=KC h1
     exact⟨vG _ _ _,hst1,fun _=>⟨a1,by show 1≤y.l - 1;omega,by show(y.gs).length =y.j+1+(y.l - 1);omega,a4,a5,by show((y.ks).length :Int)≤_;omega⟩⟩
theorem OC{t n b:Int}(sh kd ky most:Int){st:STS}(hn:1≤n∧n≤1000)(hst:stW b st):pD t n sh kd ky most st:=ZN (CJ hn hst)
theorem VB{t n b:Int}(sh kd ky most:Int){st:STS}(hn:1≤n∧n≤1000)(hst:stW b st):SI t b st (ftNF t n sh kd ky most st).1:=(ZI (CJ (t:=t) hn hst)).1
theorem SD{t n b:Int}(sh kd ky most:Int){st:STS}(hn:1≤n∧n≤1000)(hst:stW b st):(ftNF t n sh kd ky most st).2=st:=(ZI (CJ (t:=t) hn hst)).2
inductive lH {σ:Type} (F:σ→Bool×σ):Nat→σ→σ→Prop where
 | nil (a:σ):lH F 0 a a
 | cons {k:Nat} {a b c:σ} (h:F a=(false,b)) (t:lH F k b c):lH F (k+1) a c
theorem lH.trans{σ:Type}{F:σ→Bool×σ}{i j:Nat}{a b c:σ}(h:lH F i a b)(g:lH F j b c):lH F (j+i) a c:=by
 induction h with
 | nil a=>exact g
 | cons h t ih=>exact lH.cons h (ih g)
theorem lH.one{σ:Type}{F:σ→Bool×σ}{a b:σ}(h:F a=(false,b)):lH F 1 a b:=lH.cons h (lH.nil _)
theorem lH.lift{σ τ:Type}{F:σ→Bool×σ}{G:τ→Bool×τ}(e:σ→τ)(he: ∀a b,F a=(false,b)→G (e a)=(false,e b)){k:Nat}{a b:σ}(h:lH F k a b):lH G k (e a) (e b):=by
 induction h with
 | nil a=>exact lH.nil _
 | cons h t ih=>exact lH.cons (he _ _ h) ih
def lJ{σ:Type}(F:σ→Bool×σ)(k:Nat)(a z:σ):Prop:= ∃j b,k=j+1∧lH F j a b∧F b=(true,z)
theorem lJ.of{σ:Type}{F:σ→Bool×σ}{k j:Nat}{a b z:σ}(h:lH F k a b)(g:lJ F j b z):lJ F (j+k) a z:=by
 obtain⟨i,c,rfl,h1,h2⟩:=g
 exact⟨i+k,c,by omega,h.trans h1,h2⟩
theorem lJ.one{σ:Type}{F:σ→Bool×σ}{a z:σ}(h:F a=(true,z)):lJ F 1 a z:=⟨0,a,rfl,lH.nil _,h⟩
theorem lJ.cons{σ:Type}{F:σ→Bool×σ}{j:Nat}{a b z:σ}(h:F a=(false,b))(g:lJ F j b z):lJ F (j+1) a z:=lJ.of (lH.one h) g
abbrev nxW(x:Int):Int:=aB x 10 9
abbrev kyW(x:Int):Int:=aB x 0 10
abbrev mkW(x:Int):Bool:=ieq (aB x 19 1) 1
abbrev clW'(x:Int):Int:=aB x 20 5
abbrev UP(x:Int):Int:=aB x 25 18
structure okF (k n c v:Int):Prop where
 k:0≤k∧k<1024
 n:0≤n∧n<512
 c:0≤c∧c<32
 v:0≤v∧v<262144
theorem tM{k n c v:Int}{m:Bool}(h:okF k n c v):aB (aV k n m c v) 0 10=k:=by
 obtain⟨h1,h2,h3,h4⟩:=h
 unfold aB aV bitI
 cases m<;>simp only [Int.reduceToNat,Int.reducePow,cond_true,cond_false]<;>omega
theorem rS{k n c v:Int}{m:Bool}(h:okF k n c v):aB (aV k n m c v) 10 9=n:=by
 obtain⟨h1,h2,h3,h4⟩:=h
 unfold aB aV bitI
 cases m<;>simp only [Int.reduceToNat,Int.reducePow,cond_true,cond_false]<;>omega
theorem nQ{k n c v:Int}{m:Bool}(h:okF k n c v):ieq (aB (aV k n m c v) 19 1) 1=m:=by
 obtain⟨h1,h2,h3,h4⟩:=h
 unfold aB aV bitI
 cases m<;>simp only [Int.reduceToNat,Int.reducePow,cond_true,cond_false,bJ,beq_iff_eq,beq_eq_false_iff_ne]<;>omega
theorem oT{k n c v:Int}{m:Bool}(h:okF k n c v):aB (aV k n m c v) 20 5=c:=by
 obtain⟨h1,h2,h3,h4⟩:=h
 unfold aB aV bitI
 cases m<;>simp only [Int.reduceToNat,Int.reducePow,cond_true,cond_false]<;>omega
theorem DZ(x a w:Int):aM (aB x a w) w=true:=dX.2 kP
theorem pO(v:Int):0≤aN v∧aN v<262144:=by unfold aN;omega
theorem qK(v:Int):aM (aN v) 18=true:=dX.2 (pO v)
theorem NB(x y z v:Int)(hv:0≤v∧v<262144):okF (aB x 0 10) (aB y 10 9) (aB z 20 5) v:=by
 refine⟨?_,?_,?_,hv⟩
 ·have:=kP (x:=x) (a:=0) (w:=10);simpa using this
 ·have:=kP (x:=y) (a:=10) (w:=9);simpa using this
 ·have:=kP (x:=z) (a:=20) (w:=5);simpa using this
theorem kX{k n c v:Int}{m:Bool}(h:okF k n c v):0≤aV k n m c v∧aV k n m c v≤18446744073709551615:=by
 obtain⟨h1,h2,h3,h4⟩:=h
 unfold aV bitI
 cases m<;>simp only [cond_true,cond_false]<;>omega
theorem uN{xs:List Int}{a b v:Int}(h:0≤a∧a<xs.length):aA (aO xs a v) b=if b=a then v else aA xs b:=by
 rw [s6 h]
 unfold aA
 rw [List.length_set]
 by_cases e:b=a
 ·subst e
  rw [if_pos rfl,if_pos h,gD',List.getElem?_set_self (by omega)]
  rfl
 ·rw [if_neg e]
  by_cases hb:0≤b∧b<xs.length
  ·rw [if_pos hb,if_pos hb,gD',List.getElem?_set_ne (by omega),←gD']
  ·rw [if_neg hb,if_neg hb]
theorem eJ{xs:List Int}{a v:Int}(h:0≤a∧a<xs.length):aA (aO xs a v) a=v:=by rw [uN h,if_pos rfl]
theorem cX{xs:List Int}{a b v:Int}(h:b≠a):aA (aO xs a v) b=aA xs b:=by
 by_cases ha:0≤a∧a<xs.length
 ·rw [uN ha,if_neg h]
 ·rw [mI ha]
theorem CL{xs:List Int}{a:Int}(h:0≤a∧a<xs.length):bR xs a=true:=jZ.2 h
theorem iI{xs:List Int}{a x:Int}(h:0≤a∧a<xs.length)(hx:aA xs a=x):aZ xs a x=true:=by
 unfold aZ;rw [CL h,hx,bN];rfl
def zW(t n:Int)(p:FNS×MS):Bool×(FNS×MS):=((fnF t n p.1 p.2).d,((fnF t n p.1 p.2).x,(fnF t n p.1 p.2).s))
theorem JV{t n:Int}{x:FNS}{s:MS}(h:x.at'=0)(hm:mkW (aA s.xs x.pred)=false):fnF t n x s=⟨ieq (nxW (aA s.xs x.pred)) 0,{x with pw:=aA s.xs x.pred,curr:=nxW (aA s.xs x.pred),cw:=0,at':=1,cl:=bF},s.loadd x.pred⟩:=by
 unfold fnF D3
 rw [h]
 show(tW t n x s).val =_
 unfold tW
 simp only [Tr.val,hm,cond_false]
 rfl
theorem JT{t n:Int}{x:FNS}{s:MS}(h:x.at'=1):fnF t n x s=⟨false,{x with at':=2,cl:=bF},s.stored (2*n+5+2*x.me+1) (WU x.curr)⟩:=by
 unfold fnF D3
 rw [h]
 show(v6 t n x s).val =_
 rfl
theorem JS{t n:Int}{x:FNS}{s:MS}(h:x.at'=2)(he:aA s.xs x.pred=x.pw):fnF t n x s=⟨false,{x with at':=3,cl:=bF},s.loadd x.pred⟩:=by
 unfold fnF D3
 rw [h]
 show(tX t n x s).val =_
 unfold tX
 simp only [Tr.val,he,bN,Bool.not_true,cond_false]
 simp only [←he]
 rfl
theorem JU{t n:Int}{x:FNS}{s:MS}(h:x.at'=3)(hm:mkW (aA s.xs x.curr)=false)(hk:x.key≤kyW (aA s.xs x.curr)):fnF t n x s=⟨true,{x with cw:=aA s.xs x.curr,cl:=bF},s.loadd x.curr⟩:=by
 unfold fnF D3
 rw [h]
 show(l1 t n x s).val =_
 unfold l1
 have hk':ile x.10 (aB (aA s.xs x.3) 0 10)=true:=by rw [bV];exact decide_eq_true hk
 simp only [Tr.val,hm,hk',Bool.not_false,cond_true]
 simp only [←h]
 rfl
theorem N3{t n:Int}{x:FNS}{s:MS}(h:x.at'=3)(hm:mkW (aA s.xs x.curr)=false)(hk:kyW (aA s.xs x.curr)<x.key):fnF t n x s=⟨false,{x with cw:=aA s.xs x.curr,at':=6,cl:=bF},s.loadd x.curr⟩:=by
 unfold fnF D3
 rw [h]
 show(l1 t n x s).val =_
 unfold l1
 have hk':ile x.10 (aB (aA s.xs x.3) 0 10)=false:=by rw [bV];exact decide_eq_false (by have:aB (aA s.xs x.curr) 0 10<x.key:=hk;show¬x.key≤_;omega)
 simp only [Tr.val,hm,hk',Bool.not_false,cond_true,cond_false]
 rfl
theorem N4{t n:Int}{x:FNS}{s:MS}(h:x.at'=3)(hm:mkW (aA s.xs x.curr)=true)(hc:clW' (aA s.xs x.curr)=0)(hp:clW' x.pw=0):fnF t n x s=⟨false,{x with cw:=aA s.xs x.curr,at':=5,cl:=bF},s.loadd x.curr⟩:=by
 unfold fnF D3
 rw [h]
 show(l1 t n x s).val =_
 unfold l1
 have hc':ieq (aB (aA s.xs x.3) 20 5) 0=true:=by rw [show aB (aA s.xs x.3) 20 5=0 from hc];exact bN 0
 have hp':ieq (aB x.2 20 5) 0=true:=by rw [show aB x.2 20 5=0 from hp];exact bN 0
 simp only [Tr.val,hm,hc',hp',Bool.not_true,cond_false]
 cases h2:ile x.10 (aB (aA s.xs x.3) 0 10)<;>rfl
theorem N5{t n:Int}{x:FNS}{s:MS}(h:x.at'=6)(hn:n≤1000)(hm:0≤x.moved∧x.moved+1≤n):fnF t n x s=⟨false,{x with pred:=x.curr,at':=0,moved:=x.moved+1,cl:=bF},s.stored (2*n+5+2*x.me+0) (WU x.curr)⟩:=by
 unfold fnF D3
 rw [h]
 show(tZ t n x s).val =_
 unfold tZ
 have hw:W (x.13+1)=x.13+1:=cE ⟨by have:0≤x.13:=hm.1;omega,by have:x.13+1≤n:=hm.2;omega⟩
 have hk':ile (x.13+1) n=true:=by rw [bV];exact decide_eq_true hm.2
 simp only [Tr.val,hw,hk',cond_true]
 rfl
def lnkW(pw cw:Int):Int:=aV (kyW pw) (nxW cw) (mkW pw) (clW' pw) (aN (UP pw))
theorem O1(pw cw:Int):(bif bif aM (aB pw 0 10) 10 then bif aM (aB cw 10 9) 9 then bif aM (aB pw 20 5) 5 then aM (aN (aB pw 25 18)) 18 else false else false else false then aV (aB pw 0 10) (aB cw 10 9) (ieq (aB pw 19 1) 1) (aB pw 20 5) (aN (aB pw 25 18))else 0)=lnkW pw cw:=by
 simp only [DZ,qK,cond_true]
 rfl
theorem CU(pw cw:Int):okF (kyW pw) (nxW cw) (clW' pw) (aN (UP pw)):=NB _ _ _ _ (pO _)
theorem GI{t n:Int}{x:FNS}{s:MS}(h:x.at'=5)(hn:n≤1000)(hm:0≤x.moved∧x.moved+1≤n)(hb:0≤x.pred∧x.pred<s.xs.length)(he:aA s.xs x.pred=x.pw)(hk:mkW x.pw=false):fnF t n x s=⟨ieq (nxW x.cw) 0,{x with pw:=lnkW x.pw x.cw,curr:=nxW x.cw,cw:=0,ul:=x.ul++ [x.curr],at':=1,moved:=x.moved+1,cl:=bF},s.cased x.pred x.pw (lnkW x.pw x.cw)⟩:=by
 unfold fnF D3
 rw [h]
 show(tY t n x s).val =_
 unfold tY
 have hc:=iI hb he
 have hw:W (x.13+1)=x.13+1:=cE ⟨by have:0≤x.13:=hm.1;omega,by have:x.13+1≤n:=hm.2;omega⟩
 have hk':ile (x.13+1) n=true:=by rw [bV];exact decide_eq_true hm.2
 have hm2:ieq (aB (lnkW x.2 x.4) 19 1) 1=false:=(nQ (CU x.pw x.cw)).trans hk
 have hn2:aB (lnkW x.2 x.4) 10 9=aB x.4 10 9:=rS (CU x.pw x.cw)
 have hi:bR s.3 x.1=true:=CL hb
 have hc2:aZ s.3 x.1 x.2=true:=hc
 simp only [Tr.val,O1,hc2,Bool.not_true,hw,hk',hm2,hn2,hi,cond_true,cond_false]
 unfold MS.cased MS.did
 simp only [hc,CL hb,cond_true]
structure Nd where
 a:Int
 k:Int
 m:Bool
def ch(n:Int)(xs:List Int):Int→List Nd→Prop
 | a,[]=>nxW (aA xs a)=0
 | a,b::L=>nxW (aA xs a)=b.a∧(1≤b.a∧b.a≤n)∧kyW (aA xs b.a)=b.k∧mkW (aA xs b.a)=b.m∧clW' (aA xs b.a)=0∧ch n xs b.a L
theorem iQ{n:Int}{xs ys:List Int} : ∀ {L:List Nd} {a:Int},ch n xs a L→(∀b,b∈a::L.map Nd.a→aA ys b=aA xs b)→ch n ys a L
 | [],a,h,e=>by
   have h:nxW (aA xs a)=0:=h
   show nxW (aA ys a)=0
   rw [e a (List.mem_cons_self ..)];exact h
 | b::L,a,h,e=>by
   obtain⟨h1,h2,h3,h4,h5,h6⟩:=h
   have eb:=e b.a (by simp)
   refine⟨by rw [e a (by simp)];exact h1,h2,by rw [eb];exact h3,by rw [eb];exact h4,by rw [eb];exact h5,iQ h6 (fun c hc=>e c ?_)⟩
   rw [List.map_cons]
   exact List.mem_cons_of_mem _ hc
def sc(k:Int):List Nd→List Nd×List Nd×List Nd
 | []=>([],[],[])
 | b::L=>bif b.m then((sc k L).1,b::(sc k L).2.1,(sc k L).2.2)else(if k≤b.k then([],[],b::L)else(b::(sc k L).1,(sc k L).2.1,(sc k L).2.2))
def hdN:List Nd→Int
 | []=>0
 | b::_=>b.a
def hdWd(xs:List Int):List Nd→Int
 | []=>0
 | b::_=>aA xs b.a
theorem B2{n:Int}{xs:List Int} : ∀ {L:List Nd} {a:Int},ch n xs a L→ ∀b∈L,1≤b.a∧b.a≤n
 | b::L,a,h,c,hc=>by
   rcases List.mem_cons.1 hc with e | e
   ·rw [e];exact h.2.1
   ·exact B2 h.2.2.2.2.2 c e
theorem IT{n:Int}{xs:List Int} : ∀ {L:List Nd} {a:Int},ch n xs a L→nxW (aA xs a)=hdN L
 | [],a,h=>h
 | b::L,a,h=>h.1
theorem QE{n:Int}{xs:List Int}{a:Int}{L:List Nd}(h:ch n xs a L):ieq (hdN L) 0=L.isEmpty:=by
 cases L with
 | nil=>rfl
 | cons b L=>
   have:=h.2.1.1
   show ieq b.a 0=false
   rw [bJ,beq_eq_false_iff_ne];omega
structure FC (t n p:Int) (L:List Nd) (x:FNS) (s:MS):Prop where
 ht:1≤t∧t≤1000
 hn:1≤n∧n≤1000
 len:(s.xs.length:Int)=2*n+5*t+6
 me:0≤x.me∧x.me<t
 hp:1≤p∧p≤n+4
 mp:mkW (aA s.xs p)=false
 cp:clW' (aA s.xs p)=0
 ch:ch n s.xs p L
 nd:(p::L.map Nd.a).Nodup
 mv:0≤x.moved∧x.moved+L.length≤n
structure H4 (n p:Int) (L:List Nd) (x:FNS) (s:MS) (z:FNS) (s':MS) (j:Nat):Prop where
 ch:ch n s'.xs p ((sc x.key L).1++(sc x.key L).2.2)
 pred:z.pred=((sc x.key L).1.map Nd.a).getLastD p
 pw:z.pw=aA s'.xs z.pred
 curr:z.curr=hdN (sc x.key L).2.2
 cw:z.cw=hdWd s'.xs (sc x.key L).2.2
 ul:z.ul=x.ul++(sc x.key L).2.1.map Nd.a
 tries:z.tries=x.tries
 ab:z.ab=x.ab
 me:z.me=x.me
 same: ∀a,a≠2*n+5+2*x.me→a≠2*n+5+2*x.me+1→a∉p::(sc x.key L).1.map Nd.a→aA s'.xs a=aA s.xs a
 p3:kyW (aA s'.xs p)=kyW (aA s.xs p)∧mkW (aA s'.xs p)=mkW (aA s.xs p)∧clW' (aA s'.xs p)=clW' (aA s.xs p)
 t:s'.t=s.t
 n:s'.n=s.n
 c:s'.c=s.c+j
 len:s'.xs.length=s.xs.length
 okw:okW s.xs→okW s'.xs
theorem l0{t n:Int}{x:FNS}{s:MS}{d:Bool}{x':FNS}{s':MS}(h:fnF t n x s=⟨d,x',s'⟩):zW t n (x,s)=(d,(x',s')):=by
 unfold zW;rw [h]
theorem lT{s:MS}{a v w:Int}(h:aZ s.xs a v=true):(s.cased a v w).xs =aO s.xs a w:=by
 unfold MS.cased MS.did;rw [h];rfl
theorem nI{k:Int}{b:Nd}{L:List Nd}(hm:b.m=false)(hk:k≤b.k):sc k (b::L)=([],[],b::L):=by
 show(bif b.m then _ else _)=_;rw [hm];exact if_pos hk
theorem nG{k:Int}{b:Nd}{L:List Nd}(hm:b.m=false)(hk:b.k<k):sc k (b::L)=(b::(sc k L).1,(sc k L).2.1,(sc k L).2.2):=by
 show(bif b.m then _ else _)=_;rw [hm];exact if_neg (by omega)
theorem nH{k:Int}{b:Nd}{L:List Nd}(hm:b.m=true):sc k (b::L)=((sc k L).1,b::(sc k L).2.1,(sc k L).2.2):=by
 show(bif b.m then _ else _)=_;rw [hm];rfl
theorem yI(k:Int): ∀L:List Nd,((sc k L).1++(sc k L).2.2).Sublist L
 | []=>List.Sublist.slnil
 | b::L=>by
   cases hm:b.m with
   | true=>rw [nH hm];exact List.Sublist.cons _ (yI k L)
   | false=>
     by_cases hk:k≤b.k
     ·rw [nI hm hk];exact List.Sublist.refl _
     ·rw [nG hm (by omega)];exact List.Sublist.cons₂ _ (yI k L)
theorem H4.nil{n p:Int}{x:FNS}{s:MS}(h2:x.pred=p)(h3:x.pw=aA s.xs p)(h4:x.curr=0)(h5:x.cw=0)(hz:nxW (aA s.xs p)=0):H4 n p [] x s x s 0 where
 ch:=hz
 pred:=h2
 pw:=by rw [h2];exact h3
 curr:=h4
 cw:=h5
 ul:=by simp [sc]
 tries:=rfl
 ab:=rfl
 me:=rfl
 same:=fun _ _ _ _=>rfl
 p3:=⟨rfl,rfl,rfl⟩
 t:=rfl
 n:=rfl
 c:=by simp
 len:=rfl
 okw:=id
theorem H4.pre{n p:Int}{L:List Nd}{x x1:FNS}{s s1:MS}{z:FNS}{s':MS}{j:Nat}(h:H4 n p L x1 s1 z s' j)(hx:s1.xs=s.xs)(hc:s1.c=s.c+1)(ht:s1.t=s.t)(hn:s1.n=s.n)
 (k:x1.key=x.key) (u:x1.ul=x.ul) (tr:x1.tries=x.tries) (ab:x1.ab=x.ab) (me:x1.me=x.me):H4 n p L x s z s' (j+1) where
 ch:=by have:=h.ch;rw [k]at this;exact this
 pred:=by have:=h.pred;rw [k]at this;exact this
 pw:=h.pw
 curr:=by have:=h.curr;rw [k]at this;exact this
 cw:=by have:=h.cw;rw [k]at this;exact this
 ul:=by have:=h.ul;rw [k,u]at this;exact this
 tries:=h.tries.trans tr
 ab:=h.ab.trans ab
 me:=h.me.trans me
 same:=by have:=h.same;rw [k,me,hx]at this;exact this
 p3:=by have:=h.p3;rw [hx]at this;exact this
 t:=h.t.trans ht
 n:=h.n.trans hn
 c:=by rw [h.c,hc];omega
 len:=by rw [h.len,hx]
 okw:=by rw [←hx];exact h.okw
def GS(t n:Int)(L:List Nd):Prop:= ∀(p:Int) (x:FNS) (s:MS),x.at'=1→x.pred=p→x.pw=aA s.xs p→x.curr=hdN L→x.cw=0→L≠ []→FC t n p L x s→
    ∃j z s',(∀lim,lJ (zW t n) j ({x with limit:=lim},s) ({z with limit:=lim},s'))∧H4 n p L x s z s' j∧j≤5*L.length
def VS(t n:Int)(L:List Nd):Prop:= ∀(p:Int) (x:FNS) (s:MS),x.at'=0→x.pred=p→FC t n p L x s→
    ∃j z s',(∀lim,lJ (zW t n) j ({x with limit:=lim},s) ({z with limit:=lim},s'))∧H4 n p L x s z s' j∧j≤5*L.length+1
theorem aAj{t n:Int}{L:List Nd}(hg:GS t n L):VS t n L:=by
 intro p x s h1 h2 hc
 subst h2
 have hv: ∀lim,zW t n ({x with limit:=lim},s)=(L.isEmpty,({x with pw:=aA s.xs x.pred,curr:=hdN L,cw:=0,at':=1,cl:=bF,limit:=lim},s.loadd x.pred)):=by
  intro lim
  have:=l0 (JV (t:=t) (n:=n) (x:= {x with limit:=lim}) (s:=s) h1 hc.mp)
  rw [this]
  have e:=IT hc.ch
  simp only [e,QE hc.ch]
 cases L with
 | nil=>exact⟨1,{x with pw:=aA s.xs x.pred,curr:=0,cw:=0,at':=1,cl:=bF},s.loadd x.pred,fun lim=>lJ.one (hv lim),(H4.nil (x:= {x with pw:=aA s.xs x.pred,curr:=0,cw:=0,at':=1,cl:=bF}) (s:=s.loadd x.pred) rfl rfl rfl rfl hc.ch).pre rfl rfl rfl rfl rfl rfl rfl rfl rfl,by simp⟩
 | cons b L=>
   obtain⟨j,z,s',e,f,hl⟩:=hg x.pred {x with pw:=aA s.xs x.pred,curr:=hdN (b::L),cw:=0,at':=1,cl:=bF} (s.loadd x.pred) rfl rfl rfl rfl rfl (by simp) ⟨hc.ht,hc.hn,hc.len,hc.me,hc.hp,hc.mp,hc.cp,hc.ch,hc.nd,hc.mv⟩
   exact⟨j+1,z,s',fun lim=>lJ.cons (hv lim) (e lim),f.pre rfl rfl rfl rfl rfl rfl rfl rfl rfl,by omega⟩
theorem kV{L M:List Nd}(h:L.Sublist M){a:Int}(ha:a∈L.map Nd.a):a∈M.map Nd.a:=(h.map Nd.a).subset ha
theorem yG(k:Int)(L:List Nd):(sc k L).1.Sublist L:=(List.sublist_append_left _ _).trans (yI k L)
theorem RT{t n:Int} : ∀L:List Nd,GS t n L:=by
 intro L
 induction L with
 | nil=>intro p x s _ _ _ _ _ h;exact absurd rfl h
 | cons b L ih=>
   intro p x s h1 h2 h3 h4 h0 _ hc
   subst h2
   obtain⟨ht,hn,len,me,hp,mp,cp,hch,nd,mv⟩:=hc
   obtain⟨c1,c2,c3,c4,c5,c6⟩:=hch
   have h4:x.curr=b.a:=h4
   have hb:b.a≠x.pred:=by
    intro e;rw [List.map_cons,List.nodup_cons]at nd;exact nd.1 (by rw [e];exact List.mem_cons_self ..)
   have nd':(b.a::L.map Nd.a).Nodup :=by rw [List.map_cons,List.nodup_cons]at nd;exact nd.2
   have hpL:x.pred∉L.map Nd.a:=by
    intro e;rw [List.map_cons,List.nodup_cons]at nd;exact nd.1 (List.mem_cons_of_mem _ e)
   have hbL:b.a∉L.map Nd.a:=(List.nodup_cons.1 nd').1
   have hLr:=B2 c6
   have hLs: ∀a,a∈L.map Nd.a→1≤a∧a≤n:=by
    intro a ha
    obtain⟨c,hc,rfl⟩:=List.mem_map.1 ha
    exact hLr c hc
   have mv2:x.moved+1≤n:=by have:=mv.2;simp only [List.length_cons]at this;omega
   let q1:=2*n+5+2*x.me+1
   have hq1:q1=2*n+5+2*x.me+1:=rfl
   let s1:=s.stored q1 (WU x.curr)
   have e1: ∀lim,zW t n ({x with limit:=lim},s)=(false,({x with at':=2,cl:=bF,limit:=lim},s1)):=fun lim=>l0 (JT (x:= {x with limit:=lim}) h1)
   have x1: ∀a,a≠q1→aA s1.xs a=aA s.xs a:=fun a ha=>cX ha
   have e2: ∀lim,zW t n ({x with at':=2,cl:=bF,limit:=lim},s1)=(false,({x with at':=3,cl:=bF,limit:=lim},s1.loadd x.pred)):=fun lim=>
    l0 (JS (x:= {x with at':=2,cl:=bF,limit:=lim}) rfl ((x1 x.pred (by omega)).trans h3.symm))
   let s2:=s1.loadd x.pred
   have x2: ∀a,a≠q1→aA s2.xs a=aA s.xs a:=x1
   have hcw:aA s2.xs x.curr=aA s.xs b.a:=by rw [h4];exact x2 _ (by omega)
   let s3:=s2.loadd x.curr
   have x3: ∀a,a≠q1→aA s3.xs a=aA s.xs a:=x1
   have l3:s3.xs.length=s.xs.length:=bZ _ _ _
   have hw:0≤WU x.curr∧WU x.curr≤18446744073709551615:=BL _
   have w3:okW s.xs→okW s3.xs:=fun h=>eU h hw
   have start: ∀ {k:Nat} {z:FNS×MS} (lim:Int),lJ (zW t n) k ({x with at':=3,cl:=bF,limit:=lim},s2) z→lJ (zW t n) (k+3 - 1) ({x with limit:=lim},s) z:=by
    intro k z lim h
    have:=lJ.cons (e1 lim) (lJ.cons (e2 lim) h)
    exact this
   cases hm:b.m with
   | false=>
     have hm':mkW (aA s2.xs x.curr)=false:=by rw [hcw,c4];exact hm
     by_cases hk:x.key≤b.k
     ·
      have e3: ∀lim,zW t n ({x with at':=3,cl:=bF,limit:=lim},s2)=(true,({x with at':=3,cl:=bF,limit:=lim,cw:=aA s2.xs x.curr},s3)):=fun lim=>
       l0 (JU (x:= {x with at':=3,cl:=bF,limit:=lim}) rfl hm' (by show x.key≤kyW (aA s2.xs x.curr);rw [hcw,c3];exact hk))
      refine⟨3,{x with at':=3,cl:=bF,cw:=aA s2.xs x.curr},s3,fun lim=>start lim (lJ.one (e3 lim)),?_,by simp only [List.length_cons];omega⟩
      have es:sc x.key (b::L)=([],[],b::L):=nI hm hk
      refine {ch:=?_,pred:=by simp only [es];rfl,pw:=?_,curr:=by simp only [es];exact h4,cw:=?_,ul:=by simp only [es];simp,tries:=rfl,ab:=rfl,me:=rfl,same:=?_,p3:=?_,t:=rfl,n:=rfl,c:=?_,len:=l3,okw:=w3}
      ·simp only [es]
       refine iQ (xs:=s.xs) ⟨c1,c2,c3,c4,c5,c6⟩ (fun a ha=>x3 a ?_)
       have ha:a∈x.pred::b.a::L.map Nd.a:=ha
       rcases List.mem_cons.1 ha with e | e
       ·omega
       ·rcases List.mem_cons.1 e with e | e
        ·omega
        ·have:=hLs a e;omega
      ·exact h3.trans (x3 _ (by omega)).symm
      ·simp only [es]
       show aA s2.xs x.curr=aA s3.xs b.a
       rw [h4];rfl
      ·intro a _ ha _;exact x3 a ha
      ·rw [x3 _ (by omega)];exact⟨rfl,rfl,rfl⟩
      ·show s.c+1+1+1=s.c+((3:Nat):Int);omega
     ·
      have hk2:b.k<x.key:=by omega
      have e3: ∀lim,zW t n ({x with at':=3,cl:=bF,limit:=lim},s2)=(false,({x with at':=6,cl:=bF,limit:=lim,cw:=aA s2.xs x.curr},s3)):=fun lim=>
       l0 (N3 (x:= {x with at':=3,cl:=bF,limit:=lim}) rfl hm' (by show kyW (aA s2.xs x.curr)<x.key;rw [hcw,c3];exact hk2))
      let q0:=2*n+5+2*x.me+0
      have hq0:q0=2*n+5+2*x.me:=by show 2*n+5+2*x.me+0=_;omega
      let s4:=s3.stored q0 (WU x.curr)
      have e4: ∀lim,zW t n ({x with at':=6,cl:=bF,limit:=lim,cw:=aA s2.xs x.curr},s3)=(false,({x with at':=0,cl:=bF,limit:=lim,cw:=aA s2.xs x.curr,pred:=x.curr,moved:=x.moved+1},s4)):=fun lim=>
       l0 (N5 (x:= {x with at':=6,cl:=bF,limit:=lim,cw:=aA s2.xs x.curr}) rfl hn.2 ⟨mv.1,mv2⟩)
      have x4: ∀a,a≠q1→a≠q0→aA s4.xs a=aA s.xs a:=fun a h1 h0=>(cX h0).trans (x3 a h1)
      have l4:s4.xs.length=s.xs.length:=(bZ _ _ _).trans l3
      have fc:FC t n b.a L {x with at':=0,cl:=bF,cw:=aA s2.xs x.curr,pred:=x.curr,moved:=x.moved+1} s4:=by
       refine⟨ht,hn,by rw [l4];exact len,me,by omega,?_,?_,?_,nd',?_⟩
       ·rw [x4 _ (by omega) (by omega),c4];exact hm
       ·rw [x4 _ (by omega) (by omega)];exact c5
       ·refine iQ c6 (fun a ha=>x4 a ?_ ?_)
        all_goals
         rcases List.mem_cons.1 ha with e | e
         ·omega
         ·have:=hLs a e;omega
       ·have:=mv.2
        simp only [List.length_cons]at this
        exact⟨by show 0≤x.moved+1;omega,by show x.moved+1+L.length≤n;omega⟩
      obtain⟨j,z,s',e,f,hl⟩:=aAj ih b.a {x with at':=0,cl:=bF,cw:=aA s2.xs x.curr,pred:=x.curr,moved:=x.moved+1} s4 rfl h4 fc
      have es:sc x.key (b::L)=(b::(sc x.key L).1,(sc x.key L).2.1,(sc x.key L).2.2):=nG hm hk2
      have hA: ∀a,a∈(sc x.key L).1.map Nd.a→a∈L.map Nd.a:=fun a=>kV (yG _ _)
      have hpz:aA s'.xs x.pred=aA s.xs x.pred:=by
       rw [f.same x.pred (by show x.pred≠2*n+5+2*x.me;omega) (by show x.pred≠2*n+5+2*x.me+1;omega) ?_,x4 _ (by omega) (by omega)]
       intro hh
       rcases List.mem_cons.1 hh with e | e
       ·exact hb e.symm
       ·exact hpL (hA _ e)
      refine⟨j+4,z,s',fun lim=>?_,?_,by simp only [List.length_cons];omega⟩
      ·have:=start lim (lJ.cons (e3 lim) (lJ.cons (e4 lim) (e lim)))
       exact this
      ·refine {ch:=?_,pred:=?_,pw:=f.pw,curr:=by simp only [es];exact f.curr,cw:=by simp only [es];exact f.cw,ul:=by simp only [es];exact f.ul,tries:=f.tries,ab:=f.ab,me:=f.me,same:=?_,p3:=by rw [hpz];exact⟨rfl,rfl,rfl⟩,t:=f.t,n:=f.n,c:=?_,len:=f.len.trans l4,okw:=fun h=>f.okw (eU (w3 h) hw) }
       ·simp only [es]
        refine⟨by rw [hpz];exact c1,c2,?_,?_,?_,f.ch⟩
        ·rw [f.p3.1,x4 _ (by omega) (by omega)];exact c3
        ·rw [f.p3.2.1,x4 _ (by omega) (by omega)];exact c4
        ·rw [f.p3.2.2,x4 _ (by omega) (by omega)];exact c5
       ·simp only [es,List.map_cons]
        rw [f.pred,List.getLastD_cons]
       ·intro a h0 h1 ha
        simp only [es,List.map_cons]at ha
        rw [f.same a h0 h1 (fun hh=>ha (List.mem_cons_of_mem _ hh)),x4 a h1 (by omega)]
       ·rw [f.c];show s.c+1+1+1+1+(j:Int)=s.c+((j+4:Nat):Int);omega
   | true=>
     have hm':mkW (aA s2.xs x.curr)=true:=by rw [hcw,c4];exact hm
     have e3: ∀lim,zW t n ({x with at':=3,cl:=bF,limit:=lim},s2)=(false,({x with at':=5,cl:=bF,limit:=lim,cw:=aA s2.xs x.curr},s3)):=fun lim=>
      l0 (N4 (x:= {x with at':=3,cl:=bF,limit:=lim}) rfl hm' (by show clW' (aA s2.xs x.curr)=0;rw [hcw];exact c5) (by show clW' x.pw=0;rw [h3];exact cp))
     have hpw3:aA s3.xs x.pred=x.pw:=(x3 _ (by omega)).trans h3.symm
     have hin:0≤x.pred∧x.pred<s3.xs.length:=by rw [l3];omega
     let w:=lnkW x.pw (aA s2.xs x.curr)
     let s4:=s3.cased x.pred x.pw w
     have hcas:=iI hin hpw3
     have s4x:s4.xs=aO s3.xs x.pred w:=lT hcas
     have hnx:nxW (aA s2.xs x.curr)=hdN L:=by rw [hcw];exact IT c6
     have e4: ∀lim,zW t n ({x with at':=5,cl:=bF,limit:=lim,cw:=aA s2.xs x.curr},s3)=(L.isEmpty,({x with pw:=w,curr:=hdN L,cw:=0,ul:=x.ul++ [x.curr],at':=1,moved:=x.moved+1,cl:=bF,limit:=lim},s4)):=by
      intro lim
      have:=l0 (GI (t:=t) (x:= {x with at':=5,cl:=bF,limit:=lim,cw:=aA s2.xs x.curr}) (s:=s3) rfl hn.2 ⟨mv.1,mv2⟩ hin hpw3 (by show mkW x.pw=false;rw [h3];exact mp))
      rw [this]
      simp only [hnx,QE c6]
      rfl
     have x4p:aA s4.xs x.pred=w:=by rw [s4x,eJ hin]
     have x4: ∀a,a≠q1→a≠x.pred→aA s4.xs a=aA s.xs a:=fun a h1 h0=>by rw [s4x,cX h0];exact x3 a h1
     have l4:s4.xs.length=s.xs.length:=by rw [s4x,bZ];exact l3
     have hwf:=CU x.pw (aA s2.xs x.curr)
     have wk:kyW w=kyW (aA s.xs x.pred):=(tM hwf).trans (by rw [h3])
     have wn:nxW w=nxW (aA s2.xs x.curr):=rS hwf
     have wm:mkW w=mkW (aA s.xs x.pred):=(nQ hwf).trans (by rw [h3])
     have wc:clW' w=clW' (aA s.xs x.pred):=(oT hwf).trans (by rw [h3])
     have w4:okW s.xs→okW s4.xs:=fun h=>by rw [s4x];exact eU (w3 h) (kX hwf)
     have hch4:ch n s4.xs x.pred L:=by
      cases L with
      | nil=>show nxW (aA s4.xs x.pred)=0;rw [x4p,wn];exact hnx
      | cons b2 L2=>
        obtain⟨d1,d2,d3,d4,d5,d6⟩:=c6
        have hb2:b2.a≠x.pred:=by intro e;exact hpL (by rw [←e];simp)
        refine⟨by rw [x4p,wn];exact hnx,d2,?_,?_,?_,iQ d6 (fun a ha=>x4 a ?_ ?_)⟩
        ·rw [x4 _ (by omega) hb2];exact d3
        ·rw [x4 _ (by omega) hb2];exact d4
        ·rw [x4 _ (by omega) hb2];exact d5
        ·have:=hLs a (by rw [List.map_cons];exact ha);omega
        ·intro e;rw [e]at ha;exact hpL (by rw [List.map_cons];exact ha)
     have es:sc x.key (b::L)=((sc x.key L).1,b::(sc x.key L).2.1,(sc x.key L).2.2):=nH hm
     let x4':FNS:= {x with pw:=w,curr:=hdN L,cw:=0,ul:=x.ul++ [x.curr],at':=1,moved:=x.moved+1,cl:=bF}
     have rest: ∃j z s',(∀lim,lJ (zW t n) (j+1) ({x with at':=5,cl:=bF,limit:=lim,cw:=aA s2.xs x.curr},s3) ({z with limit:=lim},s'))∧H4 n x.pred L x4' s4 z s' j∧j≤5*L.length:=by
      cases L with
      | nil=>exact⟨0,x4',s4,fun lim=>lJ.one (e4 lim),H4.nil rfl x4p.symm rfl rfl hch4,by simp⟩
      | cons b2 L2=>
        obtain⟨j,z,s',e,f,hl⟩:=ih x.pred x4' s4 rfl rfl x4p.symm rfl rfl (by simp) ⟨ht,hn,by rw [l4];exact len,me,hp,by rw [x4p,wm];exact mp,by rw [x4p,wc];exact cp,hch4,List.nodup_cons.2 ⟨hpL,(List.nodup_cons.1 nd').2⟩,⟨by show 0≤x.moved+1;omega,by have:=mv.2;simp only [List.length_cons]at this⊢;show x.moved+1+((L2.length+1:Nat):Int)≤n;omega⟩⟩
        exact⟨j,z,s',fun lim=>lJ.cons (e4 lim) (e lim),f,hl⟩
     obtain⟨j,z,s',e,f,hl⟩:=rest
     refine⟨j+4,z,s',fun lim=>?_,?_,by simp only [List.length_cons];omega⟩
     ·have:=start lim (lJ.cons (e3 lim) (e lim))
      exact this
     ·refine {ch:=by simp only [es];exact f.ch,pred:=by simp only [es];exact f.pred,pw:=f.pw,curr:=by simp only [es];exact f.curr,cw:=by simp only [es];exact f.cw,ul:=?_,tries:=f.tries,ab:=f.ab,me:=f.me,same:=?_,p3:=?_,t:=f.t,n:=f.n,c:=?_,len:=f.len.trans l4,okw:=fun h=>f.okw (w4 h) }
      ·simp only [es]
       rw [f.ul]
       show x.ul++ [x.curr]++_=_
       rw [h4,List.append_assoc];rfl
      ·intro a h0 h1 ha
       simp only [es]at ha
       rw [f.same a h0 h1 ha,x4 a h1 (fun e=>ha (by rw [e];exact List.mem_cons_self ..))]
      ·have:=f.p3
       rw [x4p]at this
       exact⟨this.1.trans wk,this.2.1.trans wm,this.2.2.trans wc⟩
      ·rw [f.c];show s.c+1+1+1+1+(j:Int)=s.c+((j+4:Nat):Int);omega
theorem RU{t n:Int}(L:List Nd):VS t n L:=aAj (RT L)
end Go.Sh
