import Derived.Test.YtedeloeobocpiaaGreatZShM
set_option linter.all false
set_option maxHeartbeats 8000000
namespace Go.Sh
open Go Go.Proofs
variable [Con]
noncomputable def EV7:pZ Ob Tryz.prog:= {EV6 with row:=aAV Tryz.prog EV6.row,rowOk:=VF EV6.rowOk}
def cP(xs:List Int)(n:Int):Nat→List (Int×Int)
 | 0=>[]
 | h+1=>fT (keyF xs n h) (cP xs n h)
structure aCW (xs:List Int) (n:Int) (x:Nat×List (Int×Int)):Prop where
 h0:x.1≤4
 eq:x.2=cP xs n x.1
structure aCX (xs:List Int) (n h:Int) (x:Nat×List (Int×Int)):Prop where
 h0:0≤h∧h<4
 hi:x.1≤(keyF xs n h).length
 eq:x.2=fT ((keyF xs n h).take x.1) (cP xs n h.toNat)
structure aCY (x:Nat):Prop where
 k0:x≤1024
structure aCZ (k:Int) (m:List (Int×Int)) (x:Nat×Nat):Prop where
 k0:0≤k∧k<1024
 eq:x.1+x.2=((mget m k).getD 0).toNat
def RW(t n:Int)(s:MS):Hint Ob:= {X:=Nat×List (Int×Int),st:=fun x=>([.ptr 0 0,.O,.O,.O,.ptr 2 0,.O,.O,.map 3,.int .i64 (x.1:Int)]++List.replicate 45 .O,[bA 1 s,bB s,some (.cells [.int .i64 t,.int .i64 n]),some (.imap .i64 (some .i64) x.2)]),ok:=aCW s.xs n,mu:=fun x=>4 - x.1,keep:=[0,4,7,8] }
def HI2(t n:Int)(s:MS)(h:Int):Hint Ob:= {X:=Nat×List (Int×Int),st:=fun x=>([.ptr 0 0,.O,.O,.O,.ptr 2 0,.O,.O,.map 3,.int .i64 h]++List.replicate 18 .O ++ [.slice 4 0 (keyF s.xs n h).length 1,.int .i64 ((keyF s.xs n h).length :Int),.int .i64 (x.1:Int)]++List.replicate 24 .O,[bA 1 s,bB s,some (.cells [.int .i64 t,.int .i64 n]),some (.imap .i64 (some .i64) x.2),some (.ints (some .i64) (keyF s.xs n h))]),ok:=aCX s.xs n h,mu:=fun x=>(keyF s.xs n h).length - x.1,keep:=[0,4,7,8,27,28,29] }
def RR(s:MS)(m:List (Int×Int)):Hint Ob:= {X:=Nat,st:=fun x=>([.ptr 0 0,.O,.O,.O,.O,.O,.O,.map 2,.O,.O,.O,.slice 3 0 (eF m x).length 1,.int .i64 (x:Int)]++List.replicate 41 .O,[bA 1 s,bB s,some (.imap .i64 (some .i64) m),some (.ints (some .i64) (eF m x))]),ok:=aCY,mu:=fun x=>1024 - x,keep:=[0,7,11,12],casts:=[(.slot 11,.ints (some .i64))] }
def HI4(s:MS)(m:List (Int×Int))(k:Int):Hint Ob:= {X:=Nat×Nat,st:=fun x=>([.ptr 0 0,.O,.O,.O,.O,.O,.O,.map 2,.O,.O,.O,.slice 3 0 (eF m k.toNat++List.replicate x.1 k).length 1,.int .i64 k,.int .i64 (x.2:Int)]++List.replicate 40 .O,[bA 1 s,bB s,some (.imap .i64 (some .i64) m),some (.ints (some .i64) (eF m k.toNat++List.replicate x.1 k))]),ok:=aCZ k m,mu:=fun x=>x.2,keep:=[0,7,11,12,13],casts:=[(.slot 11,.ints (some .i64))] }
def aDL(t n:Int)(s:MS):FuncId→Nat→Option (rU Ob):=fun _ k=>if k=5 then some (.states (RW t n s))else if k=8 then some (.statesAt 8 (HI2 t n s))else if k=14 then some (.states (RR s (cP s.xs n 4)))else if k=17 then some (.statesAt 12 (HI4 s (cP s.xs n 4)))else none
def IV(t n sh:Int)(s:MS)(K:AVal→aD Ob→Prop):Prop:=bif ilt 2 sh then(lE' s.3∧((0:Int)≤n∧n≤(100000:Int))∧(-1000000:Int)≤(0:Int)∧(0:Int)≤(1000000:Int))∧K (.slice 2 0 (List.length (keyF s.3 n 0)) 1) [some (.cells [.int .i64 s.1,.int .i64 s.2,.slice 1 0 (List.length s.3) 1,.int .i64 s.4,.int .i64 s.5,.int .i64 s.6,.int .u64 s.7,.int .u64 s.8,.bool s.9]),some (.ints (some .u64) s.3),some (.ints (some .i64) (keyF s.3 n 0))]else okSt (RW t n s) (Hint.ok (RW t n s)) [.ptr 0 0,.O,.O,.O,.ptr 2 0,.O,.O,.map 3,.int .i64 0,.O,.O,.O,.O,.O,.O,.O,.O,.O,.O,.O,.O,.O,.O,.O,.O,.O,.O,.O,.O,.O,.O,.O,.O,.O,.O,.O,.O,.O,.O,.O,.O,.O,.O,.O,.O,.O,.O,.O,.O,.O,.O,.O,.O,.O] [some (.cells [.int .i64 s.1,.int .i64 s.2,.slice 1 0 (List.length s.3) 1,.int .i64 s.4,.int .i64 s.5,.int .i64 s.6,.int .u64 s.7,.int .u64 s.8,.bool s.9]),some (.ints (some .u64) s.3),some (.cells [.int .i64 t,.int .i64 n]),some (.imap .i64 (some .i64) [])]∧ ∀(x:(Nat×List (Int×Int))),aCW s.3 n x→bif ilt (↑x.1:Int) 4 then(lE' s.3∧((0:Int)≤n∧n≤(100000:Int))∧(-1000000:Int)≤(↑x.1:Int)∧(↑x.1:Int)≤(1000000:Int))∧okSt (HI2 t n s (↑(Prod.fst x):Int)) (Hint.ok (HI2 t n s (↑(Prod.fst x):Int))) [.ptr 0 0,.O,.O,.O,.ptr 2 0,.O,.O,.map 3,.int .i64 (↑x.1:Int),.O,.O,.O,.O,.O,.O,.O,.O,.O,.O,.O,.O,.O,.O,.O,.O,.O,.O,.slice 4 0 (List.length (keyF s.3 n (↑x.1:Int))) 1,.int .i64 (↑(List.length (keyF s.3 n (↑x.1:Int))):Int),.int .i64 0,.O,.O,.O,.O,.O,.O,.O,.O,.O,.O,.O,.O,.O,.O,.O,.O,.O,.O,.O,.O,.O,.O,.O,.O] [some (.cells [.int .i64 s.1,.int .i64 s.2,.slice 1 0 (List.length s.3) 1,.int .i64 s.4,.int .i64 s.5,.int .i64 s.6,.int .u64 s.7,.int .u64 s.8,.bool s.9]),some (.ints (some .u64) s.3),some (.cells [.int .i64 t,.int .i64 n]),some (.imap .i64 (some .i64) x.2),some (.ints (some .i64) (keyF s.3 n (↑x.1:Int)))]∧ ∀(x_1:Hint.X (HI2 t n s (↑(Prod.fst x):Int))),aCX s.3 n (↑x.1:Int) x_1→bif ilt (↑x_1.1:Int) (↑(List.length (keyF s.3 n (↑x.1:Int))):Int)then((0:Int)≤(↑x_1.1:Int)∧(↑x_1.1:Int)<(↑(List.length (keyF s.3 n (↑x.1:Int))):Int))∧0+Int.toNat (↑x_1.1:Int)*(1:Nat)<List.length (keyF s.3 n (↑x.1:Int))∧okSt (HI2 t n s (↑(Prod.fst x):Int)) (fun x'=>Hint.ok (HI2 t n s (↑(Prod.fst x):Int)) x'∧Hint.mu (HI2 t n s (↑(Prod.fst x):Int)) x'<Hint.mu (HI2 t n s (↑(Prod.fst x):Int)) x_1) [.ptr 0 0,.O,.O,.O,.ptr 2 0,.O,.O,.map 3,.int .i64 (↑x.1:Int),.O,.O,.O,.O,.O,.O,.O,.O,.O,.O,.O,.O,.O,.O,.O,.O,.O,.O,.slice 4 0 (List.length (keyF s.3 n (↑x.1:Int))) 1,.int .i64 (↑(List.length (keyF s.3 n (↑x.1:Int))):Int),.int .i64 (W ((↑x_1.1:Int)+1)),.O,.O,.O,.O,.O,.O,.O,.O,.O,.O,.O,.O,.O,.O,.O,.O,.O,.O,.O,.O,.O,.O,.O,.O] [some (.cells [.int .i64 s.1,.int .i64 s.2,.slice 1 0 (List.length s.3) 1,.int .i64 s.4,.int .i64 s.5,.int .i64 s.6,.int .u64 s.7,.int .u64 s.8,.bool s.9]),some (.ints (some .u64) s.3),some (.cells [.int .i64 t,.int .i64 n]),some (.imap .i64 (some .i64) (dG x_1.2 (List.getD (keyF s.3 n (↑x.1:Int)) (0+Int.toNat (↑x_1.1:Int)*1) 0) (W (Option.getD (mget (Prod.snd x_1) (List.getD (keyF s.3 n (↑x.1:Int)) (0+Int.toNat (↑x_1.1:Int)*1) 0)) 0+1)))),some (.ints (some .i64) (keyF s.3 n (↑x.1:Int)))]else okSt (RW t n s) (fun x'=>Hint.ok (RW t n s) x'∧Hint.mu (RW t n s) x'<Hint.mu (RW t n s) x) [.ptr 0 0,.O,.O,.O,.ptr 2 0,.O,.O,.map 3,.int .i64 (W ((↑x.1:Int)+1)),.O,.O,.O,.O,.O,.O,.O,.O,.O,.O,.O,.O,.O,.O,.O,.O,.O,.O,.O,.O,.O,.O,.O,.O,.O,.O,.O,.O,.O,.O,.O,.O,.O,.O,.O,.O,.O,.O,.O,.O,.O,.O,.O,.O,.O] [some (.cells [.int .i64 s.1,.int .i64 s.2,.slice 1 0 (List.length s.3) 1,.int .i64 s.4,.int .i64 s.5,.int .i64 s.6,.int .u64 s.7,.int .u64 s.8,.bool s.9]),some (.ints (some .u64) s.3),some (.cells [.int .i64 t,.int .i64 n]),some (.imap .i64 (some .i64) x_1.2)]else okSt (RR s (cP (MS.xs s) n 4)) (Hint.ok (RR s (cP (MS.xs s) n 4))) [.ptr 0 0,.O,.O,.O,.O,.O,.O,.map 2,.O,.O,.O,.slice 3 0 0 1,.int .i64 0,.O,.O,.O,.O,.O,.O,.O,.O,.O,.O,.O,.O,.O,.O,.O,.O,.O,.O,.O,.O,.O,.O,.O,.O,.O,.O,.O,.O,.O,.O,.O,.O,.O,.O,.O,.O,.O,.O,.O,.O,.O] [some (.cells [.int .i64 s.1,.int .i64 s.2,.slice 1 0 (List.length s.3) 1,.int .i64 s.4,.int .i64 s.5,.int .i64 s.6,.int .u64 s.7,.int .u64 s.8,.bool s.9]),some (.ints (some .u64) s.3),some (.imap .i64 (some .i64) x.2),some (.ints (some .i64) [])]∧ ∀(x:Nat),aCY x→bif ile (↑x:Int) 1023 then okSt (HI4 s (cP (MS.xs s) n 4) (↑x:Int)) (Hint.ok (HI4 s (cP (MS.xs s) n 4) (↑x:Int))) [.ptr 0 0,.O,.O,.O,.O,.O,.O,.map 2,.O,.O,.O,.slice 3 0 (List.length (eF (cP s.3 n 4) x)) 1,.int .i64 (↑x:Int),.int .i64 (Option.getD (mget (cP (MS.xs s) n 4) (↑x:Int)) 0),.O,.O,.O,.O,.O,.O,.O,.O,.O,.O,.O,.O,.O,.O,.O,.O,.O,.O,.O,.O,.O,.O,.O,.O,.O,.O,.O,.O,.O,.O,.O,.O,.O,.O,.O,.O,.O,.O,.O,.O] [some (.cells [.int .i64 s.1,.int .i64 s.2,.slice 1 0 (List.length s.3) 1,.int .i64 s.4,.int .i64 s.5,.int .i64 s.6,.int .u64 s.7,.int .u64 s.8,.bool s.9]),some (.ints (some .u64) s.3),some (.imap .i64 (some .i64) (cP s.3 n 4)),some (.ints (some .i64) (eF (cP s.3 n 4) x))]∧ ∀(x_1:Hint.X (HI4 s (cP (MS.xs s) n 4) (↑x:Int))),aCZ (↑x:Int) (cP s.3 n 4) x_1→bif ilt 0 (↑x_1.2:Int)then(0=0∧lE' (eF (cP s.3 n 4) (Int.toNat (↑x:Int))++List.replicate x_1.1 (↑x:Int))∧1=1∧List.length (eF (cP s.3 n 4) (Int.toNat (↑x:Int))++List.replicate x_1.1 (↑x:Int))+(1:Nat)≤(4294967296:Nat))∧okSt (HI4 s (cP (MS.xs s) n 4) (↑x:Int)) (fun x'=>Hint.ok (HI4 s (cP (MS.xs s) n 4) (↑x:Int)) x'∧Hint.mu (HI4 s (cP (MS.xs s) n 4) (↑x:Int)) x'<Hint.mu (HI4 s (cP (MS.xs s) n 4) (↑x:Int)) x_1) [.ptr 0 0,.O,.O,.O,.O,.O,.O,.map 2,.O,.O,.O,.slice 3 0 (List.length (eF (cP s.3 n 4) (Int.toNat (↑x:Int))++List.replicate x_1.1 (↑x:Int))+1) 1,.int .i64 (↑x:Int),.int .i64 (W ((↑x_1.2:Int) - 1)),.O,.O,.O,.O,.O,.O,.O,.O,.O,.O,.O,.O,.O,.O,.O,.O,.O,.O,.O,.O,.O,.O,.O,.O,.O,.O,.O,.O,.O,.O,.O,.O,.O,.O,.O,.O,.O,.O,.O,.O] [some (.cells [.int .i64 s.1,.int .i64 s.2,.slice 1 0 (List.length s.3) 1,.int .i64 s.4,.int .i64 s.5,.int .i64 s.6,.int .u64 s.7,.int .u64 s.8,.bool s.9]),some (.ints (some .u64) s.3),some (.imap .i64 (some .i64) (cP s.3 n 4)),some (.ints (some .i64) (eF (cP s.3 n 4) (Int.toNat (↑x:Int))++List.replicate x_1.1 (↑x:Int)++ [(↑x:Int)]))]else okSt (RR s (cP (MS.xs s) n 4)) (fun x'=>Hint.ok (RR s (cP (MS.xs s) n 4)) x'∧Hint.mu (RR s (cP (MS.xs s) n 4)) x'<Hint.mu (RR s (cP (MS.xs s) n 4)) x) [.ptr 0 0,.O,.O,.O,.O,.O,.O,.map 2,.O,.O,.O,.slice 3 0 (List.length (eF (cP s.3 n 4) (Int.toNat (↑x:Int))++List.replicate x_1.1 (↑x:Int))) 1,.int .i64 (W ((↑x:Int)+1)),.O,.O,.O,.O,.O,.O,.O,.O,.O,.O,.O,.O,.O,.O,.O,.O,.O,.O,.O,.O,.O,.O,.O,.O,.O,.O,.O,.O,.O,.O,.O,.O,.O,.O,.O,.O,.O,.O,.O,.O,.O] [some (.cells [.int .i64 s.1,.int .i64 s.2,.slice 1 0 (List.length s.3) 1,.int .i64 s.4,.int .i64 s.5,.int .i64 s.6,.int .u64 s.7,.int .u64 s.8,.bool s.9]),some (.ints (some .u64) s.3),some (.imap .i64 (some .i64) (cP s.3 n 4)),some (.ints (some .i64) (eF (cP s.3 n 4) (Int.toNat (↑x:Int))++List.replicate x_1.1 (↑x:Int)))]else K (.slice 2 0 (List.length (eF (cP s.3 n 4) x)) 1) [some (.cells [.int .i64 s.1,.int .i64 s.2,.slice 1 0 (List.length s.3) 1,.int .i64 s.4,.int .i64 s.5,.int .i64 s.6,.int .u64 s.7,.int .u64 s.8,.bool s.9]),some (.ints (some .u64) s.3),some (.ints (some .i64) (eF (cP s.3 n 4) x))]
theorem LQ(t n sh:Int)(s:MS)(K:AVal→aD Ob→Prop)(h:IV t n sh s K):cT' 34 [.ptr 0 0,.agg [.int .i64 t,.int .i64 n],.int .i64 sh] [bA 1 s,bB s] K:=by
 refine aEl (aE (E:=EV7) Tryz.checked.mixed (L:=(aDL t n s)) (n:=10) (aN (by kernel_rfl) h))
theorem DO(xs:List Int)(n:Int): ∀(k:Nat) (a:Int) (out:List Int),(sO xs n k a out).length ≤out.length+k
 | 0,a,out=>Nat.le_refl _
 | k+1,a,out=>by
   show(bif bR n a then bif !hasB out a then sO xs n k (aA (aB xs a) 10 9) (out++ [a])else out else out:List Int).length ≤_
   cases bR n a with
   | false=>rw [cond_false];omega
   | true=>
     cases hasB out a with
     | true=>simp only [cond_true,Bool.not_true,cond_false];omega
     | false=>
       simp only [cond_true,Bool.not_false]
       have:=DO xs n k (aA (aB xs a) 10 9) (out++ [a])
       rw [List.length_append]at this
       simp at this;omega
theorem DH(xs:List Int)(n h:Int)(hn:0≤n∧n≤100000):(keyF xs n h).length ≤100001:=by
 have:=DO xs n (n.toNat+1) (aA (aB xs (n+1+h)) 10 9) []
 unfold keyF kyL ndF
 rw [List.length_map]
 refine Nat.le_trans (List.length_filter_le _ _) ?_
 simp only [List.length_nil]at this
 omega
def AW(B:Int)(m:List (Int×Int)):Prop:= ∀k,0≤(mget m k).getD 0∧(mget m k).getD 0≤B
theorem tE: ∀(ks:List Int) (m:List (Int×Int)) (B:Int),AW B m→B+ks.length≤1000000→AW (B+ks.length) (fT ks m)
 | [],m,B,h,_=>by
   intro k
   have:=h k
   show 0≤(mget m k).getD 0∧(mget m k).getD 0≤B+((0:Nat):Int)
   omega
 | a::ks,m,B,h,hb=>by
   simp only [List.length_cons]at hb
   have ha:=h a
   have hw:W ((mget m a).getD 0+1)=(mget m a).getD 0+1:=cJ (by omega)
   have:=tE ks (dG m a (W ((mget m a).getD 0+1))) (B+1) (by
    intro k
    rw [lP,hw]
    by_cases e:k=a
    ·rw [if_pos e];exact⟨by show 0≤(mget m a).getD 0+1;omega,by show(mget m a).getD 0+1≤_;omega⟩
    ·rw [if_neg e];have:=h k;omega) (by omega)
   have e:B+((a::ks).length :Int)=B+1+ks.length:=by simp only [List.length_cons];omega
   rw [e];exact this
theorem tF(xs:List Int)(n:Int)(hn:0≤n∧n≤100000): ∀h:Nat,h≤4→AW (100001*h) (cP xs n h)
 | 0,_=>fun k=>⟨Int.le_refl 0,Int.le_refl 0⟩
 | h+1,hh=>by
   have ih:=tF xs n hn h (by omega)
   have hk:=DH xs n h hn
   have:=tE (keyF xs n h) _ _ ih (by omega)
   intro k
   have:=this k
   exact⟨this.1,by have:=this.2;show(mget (fT (keyF xs n h) (cP xs n h)) k).getD 0≤_;omega⟩
theorem yN(m:List (Int×Int))(h:AW 400004 m): ∀k,(eF m k).length ≤400004*k
 | 0=>Nat.le_refl 0
 | k+1=>by
   have ih:=yN m h k
   have:=h k
   show(eF m k++List.replicate ((mget m (k:Int)).getD 0).toNat (k:Int)).length ≤_
   rw [List.length_append,List.length_replicate]
   omega
theorem aAR(t n sh:Int)(s:MS)(K:AVal→aD Ob→Prop)(hn:0≤n∧n≤100000)(hK:K (.slice 2 0 (dJ s.xs n sh).length 1) [bA 1 s,bB s,some (.ints (some .i64) (dJ s.xs n sh))]):IV t n sh s K:=by
 unfold IV
 unfold dJ at hK
 refine aM (fun a=>?_) (fun a=>?_)
 ·rw [a]at hK
  exact⟨⟨rfl,hn,by decide,by decide⟩,hK⟩
 ·rw [a]at hK
  have hsm:=tF s.xs n hn 4 (Nat.le_refl _)
  refine⟨aS (H:=RW t n s) (0,[]) rfl ⟨Nat.zero_le _,rfl⟩,?_⟩
  rintro⟨h,m⟩ ⟨h0,heq⟩
  dsimp only at h0 heq⊢
  refine nR (fun e=>?_) (fun e=>?_)
  ·refine⟨⟨rfl,hn,by omega,by omega⟩,aS (H:=HI2 t n s h) (0,m) rfl ⟨⟨by omega,by omega⟩,Nat.zero_le _,by rw [heq];rfl⟩,?_⟩
   rintro⟨i,m2⟩ ⟨b0,bi,beq⟩
   dsimp only at b0 bi beq⊢
   refine nR (fun e2=>?_) (fun e2=>?_)
   ·have hi:i<(keyF s.xs n h).length :=by omega
    have hkl:=DH s.xs n h hn
    have e4:W ((i:Int)+1)=((i+1:Nat):Int):=(cJ (by omega)).trans rfl
    have e0:0+(i:Int).toNat *1=i:=by omega
    rw [e4,e0]
    refine⟨⟨by omega,by omega⟩,hi,aS (H:=HI2 t n s h) (i+1,dG m2 (keyF s.xs n h)[i] (W ((mget m2 (keyF s.xs n h)[i]).getD 0+1))) ?_ ⟨⟨b0,hi,?_⟩,by show(keyF s.xs n h).length - (i+1)<(keyF s.xs n h).length - i;omega⟩⟩
    ·have hg:List.getD (keyF s.xs n h) i 0=(keyF s.xs n h)[i]:=by rw [gD',gE' hi];rfl
     simp only [HI2,←hg]
     rfl
    ·have ht:(keyF s.xs n h).take (i+1)=(keyF s.xs n h).take i++ [(keyF s.xs n h)[i]]:=List.take_succ_eq_append_getElem hi
     rw [ht,show∀a b m,fT (a++b) m=fT b (fT a m)from fun a b=>by
      induction a with
      | nil=>intro m;rfl
      | cons x a ih=>intro m;exact ih _]
     rw [←beq];rfl
   ·have hi:i=(keyF s.xs n h).length :=by omega
    have e4:W ((h:Int)+1)=((h+1:Nat):Int):=(cJ (by omega)).trans rfl
    rw [e4]
    refine aS (H:=RW t n s) (h+1,m2) rfl ⟨⟨by show h+1≤4;omega,?_⟩,by show 4 - (h+1)<4 - h;omega⟩
    rw [hi,List.take_length]at beq
    exact beq
  ·have h4:h=4:=by omega
   subst h4
   subst heq
   refine⟨aS (H:=RR s (cP s.xs n 4)) (0:Nat) rfl ⟨Nat.zero_le _⟩,?_⟩
   rintro k ⟨k0⟩
   have hrl:=yN _ hsm
   refine tU (fun e3=>?_) (fun e3=>?_)
   ·have hc:=hsm k
    have hv:(mget (cP s.xs n 4) (k:Int)).getD 0=((((mget (cP s.xs n 4) (k:Int)).getD 0).toNat :Nat):Int):=by omega
    have hk4:W ((k:Int)+1)=((k+1:Nat):Int):=(cJ (by omega)).trans rfl
    rw [hv,hk4]
    generalize hcc:((mget (cP s.xs n 4) (k:Int)).getD 0).toNat =c at*
    refine⟨aS (H:=HI4 s (cP s.xs n 4) k) (0,c) (by simp only [HI4,List.replicate_zero,List.append_nil]<;>rfl) ⟨⟨by omega,by omega⟩,by show 0+c=_;rw [hcc];omega⟩,?_⟩
    rintro⟨j,l⟩ ⟨c0,ceq⟩
    dsimp only at c0 ceq⊢
    rw [hcc]at ceq
    have hr:=hrl k
    have hkt:((k:Nat):Int).toNat =k:=rfl
    refine nR (fun e5=>?_) (fun e5=>?_)
    ·obtain⟨l,rfl⟩: ∃y,l=y+1:=⟨l - 1,by omega⟩
     have e6:W (((l+1:Nat):Int) - 1)=(l:Int):=(cJ (by omega)).trans (by omega)
     rw [e6]
     refine⟨⟨rfl,rfl,rfl,by rw [List.length_append,List.length_replicate,hkt];omega⟩,aS (H:=HI4 s (cP s.xs n 4) k) (j+1,l) ?_ ⟨⟨c0,by show j+1+l=_;rw [hcc];omega⟩,Nat.lt_succ_self l⟩⟩
     have hrep:List.replicate (j+1) ((k:Nat):Int)=List.replicate j ((k:Nat):Int)++ [((k:Nat):Int)]:=List.replicate_succ'
     simp only [HI4,hrep,List.length_append,List.length_singleton,←List.append_assoc]
     rfl
    ·have hl:l=0:=by omega
     subst hl
     have hj:j=c:=by omega
     subst hj
     refine aS (H:=RR s (cP s.xs n 4)) (k+1:Nat) ?_ ⟨⟨by show k+1≤1024;omega⟩,by show 1024 - (k+1)<1024 - k;omega⟩
     have hrs:eF (cP s.xs n 4) (k+1)=eF (cP s.xs n 4) k++List.replicate j ((k:Nat):Int):=by
      show eF (cP s.xs n 4) k++List.replicate ((mget (cP s.xs n 4) (k:Int)).getD 0).toNat (k:Int)=_
      rw [hcc]
     simp only [RR,hrs]
     rfl
   ·have hk:k=1024:=by omega
    subst hk
    have he:cntM s.xs n=cP s.xs n 4:=rfl
    rw [he]at hK
    exact hK
def itmS:aH Ob:=fun args h=>match args,h with
 | [.ptr 0 0,.agg [.int .i64 t,.int .i64 n],.int .i64 sh],[e1,e2]=>(match cZ 1 [e1,e2]with
   | some (l,s)=>some (.pre (l=s.xs.length∧0≤n∧n≤100000) (.ret (.slice 2 0 (dJ s.xs n sh).length 1) [bA 1 s,bB s,some (.ints (some .i64) (dJ s.xs n sh))]))
   | none=>none)
 | _,_=>none
theorem aAQ:sT' 34 itmS:=by
 intro args h o ho K hK
 unfold itmS at ho
 split at ho
 case h_2=>cases ho
 rename_i t n sh e1 e2
 split at ho<;>cases ho
 rename_i l s hm
 obtain⟨⟨hl,h1⟩,hK⟩:=hK
 have hh:=bC hm hl
 cases hh
 exact LQ t n sh s K (aAR t n sh s K h1 hK)
noncomputable def EV8:=EV7.addS 34 itmS aAQ
def dqNSA:aH Ob:=fun args h=>match args,h with
 | [.ptr 0 0,.agg [.int .i64 sh,.int .i64 kd,.int .i64 ky],.int .i64 lim],[some (.abs (.store t n st) [])]=>some (.pre (B5 t n sh kd ky lim st) (.ret (.ptr 1 0) [some (.abs (.store t n (dqNF t n sh kd ky lim st).2) []),some (.abs (.doer t n (dqNF t n sh kd ky lim st).1) [0])]))
 | _,_=>none
theorem S0:sT' 56 dqNSA:=by
 intro args h o ho K hK
 unfold dqNSA at ho
 split at ho<;>cases ho
 rename_i sh kd ky lim t n st
 obtain⟨ok,hK⟩:=hK
 refine aC.pack (tb:=tbl) (aC.unpack (tb:=tbl) (Mc.store t n st) 0 0 (dI t n st) [] rfl rfl rfl rfl ?_)
 refine FR [.ptr 0 0,.agg [.int .i64 sh,.int .i64 kd,.int .i64 ky],.int .i64 lim] [stC 1 t n st,gZ st] _ rfl _ ⟨⟨rfl,ok⟩,⟨[0,2,1],[some (.abs (.store t n (dqNF t n sh kd ky lim st).2) []),some (.abs (.doer t n (dqNF t n sh kd ky lim st).1) [0])],.store t n (dqNF t n sh kd ky lim st).2,0,0,dI t n (dqNF t n sh kd ky lim st).2,[],by kernel_rfl,by kernel_rfl,rfl,rfl,hK⟩⟩
noncomputable def EV9:=EV8.addS 56 (aH.or dqNSA dqNS) (aEA S0 FR)
def B4(t n:Int):Nat→DOS→STS→MS→Prop
 | 0,_,_,_=>False
 | f+1,x,st,s=>dqOk t n x st s∧((dqF t n x st s).d =false→B4 t n f (dqF t n x st s).x (dqF t n x st s).st (dqF t n x st s).s)
def qD(t n:Int):Nat→DOS→STS→MS→Nat×DOS×STS×MS
 | 0,x,st,s=>(0,x,st,s)
 | f+1,x,st,s=>bif (dqF t n x st s).d then(1,(dqF t n x st s).x,(dqF t n x st s).st,(dqF t n x st s).s)else((qD t n f (dqF t n x st s).x (dqF t n x st s).st (dqF t n x st s).s).1+1,(qD t n f (dqF t n x st s).x (dqF t n x st s).st (dqF t n x st s).s).2)
def tB(t n lim:Int)(N:Nat)(r:List Int)(st:STS)(s:MS):Nat×DOS×STS×MS:=qD t n N (dqNF t n (r0 r) (r1 r) (r2 r) lim st).1 (dqNF t n (r0 r) (r1 r) (r2 r) lim st).2 s
def HP(t n lim:Int)(N:Nat)(r:List Int)(st:STS)(s:MS):Prop:=B5 t n (r0 r) (r1 r) (r2 r) lim st∧B4 t n N (dqNF t n (r0 r) (r1 r) (r2 r) lim st).1 (dqNF t n (r0 r) (r1 r) (r2 r) lim st).2 s
def uZ(x:DOS):List Int:=[x.code,bitI x.okk,x.val]
def alF(t n lim:Int)(N:Nat):List (List Int)→STS→MS→List (List Int)×Nat×STS×MS
 | [],st,s=>([],0,st,s)
 | r::T,st,s=>(uZ (tB t n lim N r st s).2.1::(alF t n lim N T (tB t n lim N r st s).2.2.1 (tB t n lim N r st s).2.2.2).1,(tB t n lim N r st s).1+(alF t n lim N T (tB t n lim N r st s).2.2.1 (tB t n lim N r st s).2.2.2).2.1,(alF t n lim N T (tB t n lim N r st s).2.2.1 (tB t n lim N r st s).2.2.2).2.2)
def alOk(t n lim:Int)(N:Nat):List (List Int)→STS→MS→Prop
 | [],_,_=>True
 | r::T,st,s=>HP t n lim N r st s∧alOk t n lim N T (tB t n lim N r st s).2.2.1 (tB t n lim N r st s).2.2.2
structure alA (t n lim:Int) (N:Nat) (T:List (List Int)) (st0:STS) (s0:MS) (x:Nat×List (List Int)×Nat×STS×MS):Prop where
 h1:x.1≤T.length
 hl:x.2.1.length=x.1
 hk:x.2.2.1≤N*x.1
 ok:alOk t n lim N (T.drop x.1) x.2.2.2.1 x.2.2.2.2
 eq:alF t n lim N T st0 s0=(x.2.1++(alF t n lim N (T.drop x.1) x.2.2.2.1 x.2.2.2.2).1,x.2.2.1+(alF t n lim N (T.drop x.1) x.2.2.2.1 x.2.2.2.2).2.1,(alF t n lim N (T.drop x.1) x.2.2.2.1 x.2.2.2.2).2.2)
structure alC (t n lim:Int) (N:Nat) (T:List (List Int)) (st0:STS) (s0:MS) (i:Int) (x:Nat×List (List Int)×Nat×Nat×STS×MS×DOS×STS×MS):Prop where
 i0:0≤i∧i<T.length
 a:alA t n lim N T st0 s0 (i.toNat,x.2.1,x.2.2.1,x.2.2.2.2.1,x.2.2.2.2.2.1)
 hj:x.2.2.2.1+x.1=N
 ok:B4 t n x.1 x.2.2.2.2.2.2.1 x.2.2.2.2.2.2.2.1 x.2.2.2.2.2.2.2.2
 eq:tB t n lim N (List.getD T i.toNat []) x.2.2.2.2.1 x.2.2.2.2.2.1=((qD t n x.1 x.2.2.2.2.2.2.1 x.2.2.2.2.2.2.2.1 x.2.2.2.2.2.2.2.2).1+x.2.2.2.1,(qD t n x.1 x.2.2.2.2.2.2.1 x.2.2.2.2.2.2.2.1 x.2.2.2.2.2.2.2.2).2)
def RQ(t n lim:Int)(N:Nat)(T:List (List Int))(st0:STS)(s0:MS):Hint Ob:= {X:=Nat×List (List Int)×Nat×STS×MS,st:=fun x=>([.ptr 0 0,.ptr 2 0,.int .i64 lim]++List.replicate 7 .O ++ [.tslice 4 0 x.2.1.length 3,.int .i64 (x.2.2.1:Int),.O,.O,.O,.tslice 3 0 T.length 3,.int .i64 (T.length:Int),.int .i64 (x.1:Int)]++List.replicate 25 .O,[bA 1 x.2.2.2.2,bB x.2.2.2.2,some (.abs (.store t n x.2.2.2.1) []),some (.tab KT T),some (.tab KR x.2.1)]),ok:=alA t n lim N T st0 s0,mu:=fun x=>T.length - x.1,keep:=[0,1,2,10,11,15,16,17],casts:=[(.slot 10,.tab KR)] }
def HAc(t n lim:Int)(N:Nat)(T:List (List Int))(st0:STS)(s0:MS)(i:Int):Hint Ob:= {X:=Nat×List (List Int)×Nat×Nat×STS×MS×DOS×STS×MS,st:=fun x=>([.ptr 0 0,.ptr 2 0,.int .i64 lim]++List.replicate 7 .O ++ [.tslice 4 0 x.2.1.length 3,.int .i64 (((x.2.2.1+x.2.2.2.1+1:Nat)):Int),.O,.O,.ptr 5 0,.tslice 3 0 T.length 3,.int .i64 (T.length:Int),.int .i64 i]++List.replicate 25 .O,[bA 1 x.2.2.2.2.2.2.2.2,bB x.2.2.2.2.2.2.2.2,some (.abs (.store t n x.2.2.2.2.2.2.2.1) []),some (.tab KT T),some (.tab KR x.2.1),some (.abs (.doer t n x.2.2.2.2.2.2.1) [2])]),ok:=alC t n lim N T st0 s0 i,mu:=fun x=>x.1,keep:=[0,1,2,10,11,14,15,16,17],casts:=[(.slot 10,.tab KR)] }
def aDw(t n lim:Int)(N:Nat)(T:List (List Int))(st0:STS)(s0:MS):FuncId→Nat→Option (rU Ob):=fun _ k=>if k=4 then some (.states (RQ t n lim N T st0 s0))else if k=8 then some (.statesAt 17 (HAc t n lim N T st0 s0))else none
def HQ(t n lim:Int)(N:Nat)(T:List (List Int))(st:STS)(s:MS)(K:AVal→aD Ob→Prop):Prop:=okSt (RQ t n lim N T st s) (Hint.ok (RQ t n lim N T st s)) [.ptr 0 0,.ptr 2 0,.int .i64 lim,.O,.O,.O,.O,.O,.O,.O,.tslice 4 0 0 3,.int .i64 0,.O,.O,.O,.tslice 3 0 (List.length T) 3,.int .i64 (↑(List.length T):Int),.int .i64 0,.O,.O,.O,.O,.O,.O,.O,.O,.O,.O,.O,.O,.O,.O,.O,.O,.O,.O,.O,.O,.O,.O,.O,.O,.O] [some (.cells [.int .i64 s.1,.int .i64 s.2,.slice 1 0 (List.length s.3) 1,.int .i64 s.4,.int .i64 s.5,.int .i64 s.6,.int .u64 s.7,.int .u64 s.8,.bool s.9]),some (.ints (some .u64) s.3),some (.abs (.store t n st) []),some (.tab [some .i64,some .i64,some .i64] T),some (.tab [some .i64,none,some .i64] [])]∧ ∀(x:(Nat×List (List Int)×Nat×STS×MS)),alA t n lim N T st s x→bif ilt (↑x.1:Int) (↑(List.length T):Int)then((0:Int)≤(↑x.1:Int)∧(↑x.1:Int)<(↑(List.length T):Int))∧0+Int.toNat (↑x.1:Int)<List.length T∧B5 t n (List.headD (List.getD T (0+Int.toNat (↑x.1:Int)) []) 0) (List.headD (List.tail (List.getD T (0+Int.toNat (↑x.1:Int)) [])) 0) (List.headD (List.tail (List.tail (List.getD T (0+Int.toNat (↑x.1:Int)) []))) 0) lim (Prod.snd (Prod.snd x).2).1∧okSt (HAc t n lim N T st s (↑(Prod.fst x):Int)) (Hint.ok (HAc t n lim N T st s (↑(Prod.fst x):Int))) [.ptr 0 0,.ptr 2 0,.int .i64 lim,.O,.O,.O,.O,.O,.O,.O,.tslice 4 0 (List.length (Prod.snd x).1) 3,.int .i64 (W ((↑(Prod.snd x.2).1:Int)+1)),.O,.O,.ptr 5 0,.tslice 3 0 (List.length T) 3,.int .i64 (↑(List.length T):Int),.int .i64 (↑x.1:Int),.O,.O,.O,.O,.O,.O,.O,.O,.O,.O,.O,.O,.O,.O,.O,.O,.O,.O,.O,.O,.O,.O,.O,.O,.O] [some (.cells [.int .i64 (Prod.snd (Prod.snd x.2).2).1,.int .i64 (Prod.snd (Prod.snd x.2).2).2,.slice 1 0 (List.length (Prod.snd (Prod.snd x.2).2).3) 1,.int .i64 (Prod.snd (Prod.snd x.2).2).4,.int .i64 (Prod.snd (Prod.snd x.2).2).5,.int .i64 (Prod.snd (Prod.snd x.2).2).6,.int .u64 (Prod.snd (Prod.snd x.2).2).7,.int .u64 (Prod.snd (Prod.snd x.2).2).8,.bool (Prod.snd (Prod.snd x.2).2).9]),some (.ints (some .u64) (Prod.snd (Prod.snd x.2).2).3),some (.abs (.store t n (dqNF t n (List.headD (List.getD T (0+Int.toNat (↑x.1:Int)) []) 0) (List.headD (List.tail (List.getD T (0+Int.toNat (↑x.1:Int)) [])) 0) (List.headD (List.tail (List.tail (List.getD T (0+Int.toNat (↑x.1:Int)) []))) 0) lim (Prod.snd (Prod.snd x).2).1).2) []),some (.tab [some .i64,some .i64,some .i64] T),some (.tab [some .i64,none,some .i64] (Prod.snd x).1),some (.abs (.doer t n (dqNF t n (List.headD (List.getD T (0+Int.toNat (↑x.1:Int)) []) 0) (List.headD (List.tail (List.getD T (0+Int.toNat (↑x.1:Int)) [])) 0) (List.headD (List.tail (List.tail (List.getD T (0+Int.toNat (↑x.1:Int)) []))) 0) lim (Prod.snd (Prod.snd x).2).1).1) [2])]∧ ∀(x_1:Hint.X (HAc t n lim N T st s (↑(Prod.fst x):Int))),alC t n lim N T st s (↑x.1:Int) x_1→((lE' (Prod.snd (Prod.snd (Prod.snd (Prod.snd x_1.2).2).2).2).3∧t=t∧n=n)∧dqOk t n (Prod.snd (Prod.snd (Prod.snd x_1.2).2).2).1 (Prod.snd (Prod.snd (Prod.snd (Prod.snd x_1).2).2).2).1 (Prod.snd (Prod.snd (Prod.snd x_1.2).2).2).2.2)∧bif (dqF t n (Prod.snd (Prod.snd (Prod.snd x_1.2).2).2).1 (Prod.snd (Prod.snd (Prod.snd (Prod.snd x_1).2).2).2).1 (Prod.snd (Prod.snd (Prod.snd x_1.2).2).2).2.2).1 then(0=0∧lE' (Prod.snd x_1).1∧List.length (Prod.snd x_1).1+(1:Nat)≤(4294967296:Nat))∧okSt (RQ t n lim N T st s) (fun x'=>Hint.ok (RQ t n lim N T st s) x'∧Hint.mu (RQ t n lim N T st s) x'<Hint.mu (RQ t n lim N T st s) x) [.ptr 0 0,.ptr 2 0,.int .i64 lim,.O,.O,.O,.O,.O,.O,.O,.tslice 4 0 (List.length (Prod.snd x_1).1+1) 3,.int .i64 (↑((Prod.snd x_1.2).1+(Prod.snd (Prod.snd x_1).2).1+1):Int),.O,.O,.O,.tslice 3 0 (List.length T) 3,.int .i64 (↑(List.length T):Int),.int .i64 (W ((↑x.1:Int)+1)),.O,.O,.O,.O,.O,.O,.O,.O,.O,.O,.O,.O,.O,.O,.O,.O,.O,.O,.O,.O,.O,.O,.O,.O,.O] [some (.cells [.int .i64 (DqO.s (dqF t n (Prod.snd (Prod.snd (Prod.snd x_1.2).2).2).1 (Prod.snd (Prod.snd (Prod.snd (Prod.snd x_1).2).2).2).1 (Prod.snd (Prod.snd (Prod.snd x_1.2).2).2).2.2)).1,.int .i64 (DqO.s (dqF t n (Prod.snd (Prod.snd (Prod.snd x_1.2).2).2).1 (Prod.snd (Prod.snd (Prod.snd (Prod.snd x_1).2).2).2).1 (Prod.snd (Prod.snd (Prod.snd x_1.2).2).2).2.2)).2,.slice 1 0 (List.length (DqO.s (dqF t n (Prod.snd (Prod.snd (Prod.snd x_1.2).2).2).1 (Prod.snd (Prod.snd (Prod.snd (Prod.snd x_1).2).2).2).1 (Prod.snd (Prod.snd (Prod.snd x_1.2).2).2).2.2)).3) 1,.int .i64 (DqO.s (dqF t n (Prod.snd (Prod.snd (Prod.snd x_1.2).2).2).1 (Prod.snd (Prod.snd (Prod.snd (Prod.snd x_1).2).2).2).1 (Prod.snd (Prod.snd (Prod.snd x_1.2).2).2).2.2)).4,.int .i64 (DqO.s (dqF t n (Prod.snd (Prod.snd (Prod.snd x_1.2).2).2).1 (Prod.snd (Prod.snd (Prod.snd (Prod.snd x_1).2).2).2).1 (Prod.snd (Prod.snd (Prod.snd x_1.2).2).2).2.2)).5,.int .i64 (DqO.s (dqF t n (Prod.snd (Prod.snd (Prod.snd x_1.2).2).2).1 (Prod.snd (Prod.snd (Prod.snd (Prod.snd x_1).2).2).2).1 (Prod.snd (Prod.snd (Prod.snd x_1.2).2).2).2.2)).6,.int .u64 (DqO.s (dqF t n (Prod.snd (Prod.snd (Prod.snd x_1.2).2).2).1 (Prod.snd (Prod.snd (Prod.snd (Prod.snd x_1).2).2).2).1 (Prod.snd (Prod.snd (Prod.snd x_1.2).2).2).2.2)).7,.int .u64 (DqO.s (dqF t n (Prod.snd (Prod.snd (Prod.snd x_1.2).2).2).1 (Prod.snd (Prod.snd (Prod.snd (Prod.snd x_1).2).2).2).1 (Prod.snd (Prod.snd (Prod.snd x_1.2).2).2).2.2)).8,.bool (DqO.s (dqF t n (Prod.snd (Prod.snd (Prod.snd x_1.2).2).2).1 (Prod.snd (Prod.snd (Prod.snd (Prod.snd x_1).2).2).2).1 (Prod.snd (Prod.snd (Prod.snd x_1.2).2).2).2.2)).9]),some (.ints (some .u64) (DqO.s (dqF t n (Prod.snd (Prod.snd (Prod.snd x_1.2).2).2).1 (Prod.snd (Prod.snd (Prod.snd (Prod.snd x_1).2).2).2).1 (Prod.snd (Prod.snd (Prod.snd x_1.2).2).2).2.2)).3),some (.abs (.store t n (dqF t n (Prod.snd (Prod.snd (Prod.snd x_1.2).2).2).1 (Prod.snd (Prod.snd (Prod.snd (Prod.snd x_1).2).2).2).1 (Prod.snd (Prod.snd (Prod.snd x_1.2).2).2).2.2).3) []),some (.tab [some .i64,some .i64,some .i64] T),some (.tab [some .i64,none,some .i64] ((Prod.snd x_1).1++ [[(DqO.x (dqF t n (Prod.snd (Prod.snd (Prod.snd x_1.2).2).2).1 (Prod.snd (Prod.snd (Prod.snd (Prod.snd x_1).2).2).2).1 (Prod.snd (Prod.snd (Prod.snd x_1.2).2).2).2.2)).1,bif (DqO.x (dqF t n (Prod.snd (Prod.snd (Prod.snd x_1.2).2).2).1 (Prod.snd (Prod.snd (Prod.snd (Prod.snd x_1).2).2).2).1 (Prod.snd (Prod.snd (Prod.snd x_1.2).2).2).2.2)).2 then 1 else 0,(DqO.x (dqF t n (Prod.snd (Prod.snd (Prod.snd x_1.2).2).2).1 (Prod.snd (Prod.snd (Prod.snd (Prod.snd x_1).2).2).2).1 (Prod.snd (Prod.snd (Prod.snd x_1.2).2).2).2.2)).3]]))]else okSt (HAc t n lim N T st s (↑(Prod.fst x):Int)) (fun x'=>Hint.ok (HAc t n lim N T st s (↑(Prod.fst x):Int)) x'∧Hint.mu (HAc t n lim N T st s (↑(Prod.fst x):Int)) x'<Hint.mu (HAc t n lim N T st s (↑(Prod.fst x):Int)) x_1) [.ptr 0 0,.ptr 2 0,.int .i64 lim,.O,.O,.O,.O,.O,.O,.O,.tslice 4 0 (List.length (Prod.snd x_1).1) 3,.int .i64 (W ((↑((Prod.snd x_1.2).1+(Prod.snd (Prod.snd x_1).2).1+1):Int)+1)),.O,.O,.ptr 5 0,.tslice 3 0 (List.length T) 3,.int .i64 (↑(List.length T):Int),.int .i64 (↑x.1:Int),.O,.O,.O,.O,.O,.O,.O,.O,.O,.O,.O,.O,.O,.O,.O,.O,.O,.O,.O,.O,.O,.O,.O,.O,.O] [some (.cells [.int .i64 (DqO.s (dqF t n (Prod.snd (Prod.snd (Prod.snd x_1.2).2).2).1 (Prod.snd (Prod.snd (Prod.snd (Prod.snd x_1).2).2).2).1 (Prod.snd (Prod.snd (Prod.snd x_1.2).2).2).2.2)).1,.int .i64 (DqO.s (dqF t n (Prod.snd (Prod.snd (Prod.snd x_1.2).2).2).1 (Prod.snd (Prod.snd (Prod.snd (Prod.snd x_1).2).2).2).1 (Prod.snd (Prod.snd (Prod.snd x_1.2).2).2).2.2)).2,.slice 1 0 (List.length (DqO.s (dqF t n (Prod.snd (Prod.snd (Prod.snd x_1.2).2).2).1 (Prod.snd (Prod.snd (Prod.snd (Prod.snd x_1).2).2).2).1 (Prod.snd (Prod.snd (Prod.snd x_1.2).2).2).2.2)).3) 1,.int .i64 (DqO.s (dqF t n (Prod.snd (Prod.snd (Prod.snd x_1.2).2).2).1 (Prod.snd (Prod.snd (Prod.snd (Prod.snd x_1).2).2).2).1 (Prod.snd (Prod.snd (Prod.snd x_1.2).2).2).2.2)).4,.int .i64 (DqO.s (dqF t n (Prod.snd (Prod.snd (Prod.snd x_1.2).2).2).1 (Prod.snd (Prod.snd (Prod.snd (Prod.snd x_1).2).2).2).1 (Prod.snd (Prod.snd (Prod.snd x_1.2).2).2).2.2)).5,.int .i64 (DqO.s (dqF t n (Prod.snd (Prod.snd (Prod.snd x_1.2).2).2).1 (Prod.snd (Prod.snd (Prod.snd (Prod.snd x_1).2).2).2).1 (Prod.snd (Prod.snd (Prod.snd x_1.2).2).2).2.2)).6,.int .u64 (DqO.s (dqF t n (Prod.snd (Prod.snd (Prod.snd x_1.2).2).2).1 (Prod.snd (Prod.snd (Prod.snd (Prod.snd x_1).2).2).2).1 (Prod.snd (Prod.snd (Prod.snd x_1.2).2).2).2.2)).7,.int .u64 (DqO.s (dqF t n (Prod.snd (Prod.snd (Prod.snd x_1.2).2).2).1 (Prod.snd (Prod.snd (Prod.snd (Prod.snd x_1).2).2).2).1 (Prod.snd (Prod.snd (Prod.snd x_1.2).2).2).2.2)).8,.bool (DqO.s (dqF t n (Prod.snd (Prod.snd (Prod.snd x_1.2).2).2).1 (Prod.snd (Prod.snd (Prod.snd (Prod.snd x_1).2).2).2).1 (Prod.snd (Prod.snd (Prod.snd x_1.2).2).2).2.2)).9]),some (.ints (some .u64) (DqO.s (dqF t n (Prod.snd (Prod.snd (Prod.snd x_1.2).2).2).1 (Prod.snd (Prod.snd (Prod.snd (Prod.snd x_1).2).2).2).1 (Prod.snd (Prod.snd (Prod.snd x_1.2).2).2).2.2)).3),some (.abs (.store t n (dqF t n (Prod.snd (Prod.snd (Prod.snd x_1.2).2).2).1 (Prod.snd (Prod.snd (Prod.snd (Prod.snd x_1).2).2).2).1 (Prod.snd (Prod.snd (Prod.snd x_1.2).2).2).2.2).3) []),some (.tab [some .i64,some .i64,some .i64] T),some (.tab [some .i64,none,some .i64] (Prod.snd x_1).1),some (.abs (.doer t n (dqF t n (Prod.snd (Prod.snd (Prod.snd x_1.2).2).2).1 (Prod.snd (Prod.snd (Prod.snd (Prod.snd x_1).2).2).2).1 (Prod.snd (Prod.snd (Prod.snd x_1.2).2).2).2.2).2) [2])]else K (.tup [.tslice 4 0 (List.length (Prod.snd x).1) 3,.int .i64 (↑(Prod.snd x.2).1:Int)]) [some (.cells [.int .i64 (Prod.snd (Prod.snd x.2).2).1,.int .i64 (Prod.snd (Prod.snd x.2).2).2,.slice 1 0 (List.length (Prod.snd (Prod.snd x.2).2).3) 1,.int .i64 (Prod.snd (Prod.snd x.2).2).4,.int .i64 (Prod.snd (Prod.snd x.2).2).5,.int .i64 (Prod.snd (Prod.snd x.2).2).6,.int .u64 (Prod.snd (Prod.snd x.2).2).7,.int .u64 (Prod.snd (Prod.snd x.2).2).8,.bool (Prod.snd (Prod.snd x.2).2).9]),some (.ints (some .u64) (Prod.snd (Prod.snd x.2).2).3),some (.abs (.store t n (Prod.snd (Prod.snd x).2).1) []),some (.tab [some .i64,some .i64,some .i64] T),some (.tab [some .i64,none,some .i64] (Prod.snd x).1)]
theorem JL(t n lim:Int)(N:Nat)(T:List (List Int))(st:STS)(s:MS)(K:AVal→aD Ob→Prop)(h:HQ t n lim N T st s K):cT' 55 [.ptr 0 0,.ptr 2 0,.int .i64 lim,.tslice 3 0 T.length 3] [bA 1 s,bB s,some (.abs (.store t n st) []),some (.tab KT T)] K:=by
 refine aEl (aE (E:=EV9) Tryz.checked.mixed (L:=(aDw t n lim N T st s)) (n:=10) (aN (by kernel_rfl) h))
theorem H4(t n:Int)(f:Nat)(x:DOS)(st:STS)(s:MS):qD t n (f+1) x st s=bif (dqF t n x st s).d then(1,(dqF t n x st s).x,(dqF t n x st s).st,(dqF t n x st s).s)else((qD t n f (dqF t n x st s).x (dqF t n x st s).st (dqF t n x st s).s).1+1,(qD t n f (dqF t n x st s).x (dqF t n x st s).st (dqF t n x st s).s).2):=rfl
theorem WY(t n lim:Int)(N:Nat)(r:List Int)(T:List (List Int))(st:STS)(s:MS):alF t n lim N (r::T) st s=(uZ (tB t n lim N r st s).2.1::(alF t n lim N T (tB t n lim N r st s).2.2.1 (tB t n lim N r st s).2.2.2).1,(tB t n lim N r st s).1+(alF t n lim N T (tB t n lim N r st s).2.2.1 (tB t n lim N r st s).2.2.2).2.1,(alF t n lim N T (tB t n lim N r st s).2.2.1 (tB t n lim N r st s).2.2.2).2.2):=rfl
theorem X6(t n lim:Int)(N:Nat)(T:List (List Int))(st:STS)(s:MS)(K:AVal→aD Ob→Prop)(hN:N≤1000000)(hT:T.length≤1000000)(ok:alOk t n lim N T st s)
 (hK:K (.tup [.tslice 4 0 (alF t n lim N T st s).1.length 3,.int .i64 ((alF t n lim N T st s).2.1:Int)]) [bA 1 (alF t n lim N T st s).2.2.2,bB (alF t n lim N T st s).2.2.2,some (.abs (.store t n (alF t n lim N T st s).2.2.1) []),some (.tab KT T),some (.tab KR (alF t n lim N T st s).1)]):HQ t n lim N T st s K:=by
 unfold HQ
 refine⟨aS (H:=RQ t n lim N T st s) (0,[],0,st,s) rfl ⟨Nat.zero_le _,rfl,Nat.zero_le _,ok,by simp⟩,?_⟩
 rintro⟨i,R,k,st1,s1⟩ ⟨h1,hl,hk,ok1,eq1⟩
 dsimp only at h1 hl hk ok1 eq1⊢
 have hti:((i:Nat):Int).toNat =i:=rfl
 refine nR (fun hi=>?_) (fun hi=>?_)
 ·have hi':i<T.length:=by omega
  have e0:0+Int.toNat ((i:Nat):Int)=i:=by omega
  have e4:W ((i:Int)+1)=((i+1:Nat):Int):=(cJ (by omega)).trans rfl
  have hki:N*i≤1000000*1000000:=Nat.mul_le_mul hN (by omega)
  have hdr:T.drop i=T[i]::T.drop (i+1):=List.drop_eq_getElem_cons hi'
  have hg:List.getD T i []=T[i]:=by rw [gD',gE' hi'];rfl
  have a0:alA t n lim N T st s (i,R,k,st1,s1):=⟨h1,hl,hk,ok1,eq1⟩
  have okr:=ok1
  rw [hdr]at okr
  have okr:HP t n lim N T[i] st1 s1∧_:=okr
  obtain⟨⟨okN,okF⟩,_⟩:=okr
  have w1:W ((k:Int)+1)=((k+0+1:Nat):Int):=(cJ (by omega)).trans rfl
  rw [e0,e4]
  refine⟨⟨by omega,by omega⟩,hi',by rw [hg];exact okN,aS (H:=HAc t n lim N T st s i) (N,R,k,0,st1,s1,(dqNF t n (r0 T[i]) (r1 T[i]) (r2 T[i]) lim st1).1,(dqNF t n (r0 T[i]) (r1 T[i]) (r2 T[i]) lim st1).2,s1) (by simp only [w1,hg,HAc]<;>rfl) ⟨⟨by omega,by omega⟩,a0,by simp,okF,by dsimp only;rw [hti,hg];simp only [Nat.add_zero]<;>rfl⟩,?_⟩
  rintro⟨f,R2,k2,j,sa,ma,y,sb,mb⟩ ⟨i0,a,hj,okf,eqf⟩
  dsimp only at a hj okf eqf⊢
  cases f with
  | zero=>exact okf.elim
  | succ f=>
    have okf:dqOk t n y sb mb∧((dqF t n y sb mb).d =false→B4 t n f (dqF t n y sb mb).x (dqF t n y sb mb).st (dqF t n y sb mb).s):=okf
    rw [hti]at a eqf
    rw [hg]at eqf
    obtain⟨g1,gl,gk,gok,geq⟩:=a
    dsimp only at g1 gl gk gok geq
    rw [hdr,WY]at geq
    rw [hdr]at gok
    have gok:HP t n lim N T[i] sa ma∧alOk t n lim N (T.drop (i+1)) (tB t n lim N T[i] sa ma).2.2.1 (tB t n lim N T[i] sa ma).2.2.2:=gok
    refine⟨⟨⟨rfl,rfl,rfl⟩,okf.1⟩,aM (fun hd=>?_) (fun hd=>?_)⟩
    ·have hd:(dqF t n y sb mb).d =true:=hd
     rw [H4,hd,cond_true]at eqf
     rw [eqf]at geq gok
     dsimp only at geq gok
     have hNi:N*(i+1)=N*i+N:=Nat.mul_succ N i
     refine⟨⟨rfl,rfl,by omega⟩,aS (H:=RQ t n lim N T st s) (i+1,R2++ [uZ (dqF t n y sb mb).x],k2+j+1,(dqF t n y sb mb).st,(dqF t n y sb mb).s) ?_ ⟨⟨hi',by show(R2++ [uZ _]).length =i+1;rw [List.length_append,gl];rfl,by show k2+j+1≤N*(i+1);omega,gok.2,?_⟩,by show T.length - (i+1)<T.length - i;omega⟩⟩
     ·simp only [RQ,List.length_append,List.length_singleton]
      rfl
     ·rw [geq]
      simp only [List.append_assoc,List.singleton_append,pI',true_and,and_true]
      omega
    ·have hd:(dqF t n y sb mb).d =false:=hd
     rw [H4,hd,cond_false]at eqf
     have w2:W (((k2+j+1:Nat):Int)+1)=((k2+(j+1)+1:Nat):Int):=(cJ (by omega)).trans (by omega)
     rw [w2]
     exact aS (H:=HAc t n lim N T st s i) (f,R2,k2,j+1,sa,ma,(dqF t n y sb mb).x,(dqF t n y sb mb).st,(dqF t n y sb mb).s) rfl ⟨⟨i0,⟨g1,gl,gk,by dsimp only;rw [hti,hdr];exact gok,by dsimp only;rw [hti,hdr,WY];exact geq⟩,by show j+1+f=N;omega,okf.2 hd,by dsimp only;rw [hti,hg,eqf];simp only [pI',and_true];omega⟩,by show f<f+1;omega⟩
 ·have hi':T.length=i:=by omega
  rw [show T.drop i=[]from List.drop_eq_nil_of_le (by omega)]at eq1
  have eq1:alF t n lim N T st s=(R++ [],k+0,st1,s1):=eq1
  rw [List.append_nil,Nat.add_zero]at eq1
  rw [eq1]at hK
  exact hK
def pW(t n lim:Int)(T:List (List Int))(st:STS)(s:MS):List (List Int)×Nat×STS×MS:=alF t n lim 100000 T st s
def BF(t n lim:Int)(T:List (List Int))(st:STS)(s:MS):Prop:=alOk t n lim 100000 T st s
noncomputable def aloS:aH Ob:=fun args h=>match args,h with
 | [.ptr 0 0,.ptr 2 0,.int .i64 lim,.tslice 3 0 l 3],[e1,e2,some (.abs (.store t n st) []),some (.tab [some .i64,some .i64,some .i64] T)]=>(match cZ 1 [e1,e2]with
   | some (l2,s)=>some (.pre ((l2=s.xs.length∧l=T.length)∧T.length≤1000000∧BF t n lim T st s) (.ret (.tup [.tslice 4 0 (pW t n lim T st s).1.length 3,.int .i64 ((pW t n lim T st s).2.1:Int)]) [bA 1 (pW t n lim T st s).2.2.2,bB (pW t n lim T st s).2.2.2,some (.abs (.store t n (pW t n lim T st s).2.2.1) []),some (.tab [some .i64,some .i64,some .i64] T),some (.tab [some .i64,none,some .i64] (pW t n lim T st s).1)]))
   | none=>none)
 | _,_=>none
theorem NM:sT' 55 aloS:=by
 intro args h o ho K hK
 unfold aloS at ho
 split at ho
 case h_2=>cases ho
 rename_i lim l e1 e2 t n st T
 split at ho<;>cases ho
 rename_i l2 s hm
 obtain⟨⟨⟨hl2,rfl⟩,hT,ok⟩,hK⟩:=hK
 have hh:=bC hm hl2
 cases hh
 exact JL t n lim 100000 T st s K (X6 t n lim 100000 T st s K (by decide) hT ok hK)
noncomputable def EW0:=EV9.addS 55 (aH.or aloS (mV [(.slot 3,.tab [some .i64,some .i64,some .i64])] aloS)) (aEA NM (mW NM))
def zA(K:AVal→aD Ob→Prop):Prop:=True∧bif !fP 2 3 then K (.bool false) []else(((0:Int)≤(2:Int)∧(2:Int)≤(100000:Int))∧(0:Int)≤(3:Int)∧(3:Int)≤(100000:Int))∧((((0:Int)≤(2:Int)∧(2:Int)≤(100000:Int))∧(0:Int)≤(3:Int)∧(3:Int)≤(100000:Int))∧True)∧((0:Int)≤(2:Int)*3+5*2+6∧2*3+5*2+(6:Int)=(2:Int)*3+5*2+6∧2*3+5*2+(6:Int)≤(4294967296:Int))∧True∧((22=22∧1=1)∧List.length [[1,3,1]]≤(1000000:Nat)∧BF 2 3 0 [[1,3,1]] {me:=1,sp:=0,R:=[] } {t:=2,n:=3,xs:=List.replicate (Int.toNat (2*3+5*2+6)) 0,c:=0,k:=0,a:=0,o:=0,w:=0,ok:=false})∧True∧((lE' (Prod.snd (Prod.snd (pW 2 3 0 [[1,3,1]] {me:=1,sp:=0,R:=[] } {t:=2,n:=3,xs:=List.replicate (Int.toNat (2*3+5*2+6)) 0,c:=0,k:=0,a:=0,o:=0,w:=0,ok:=false})).2).3∧1=1)∧List.length [[1,1,1]]≤(1000000:Nat)∧BF 2 3 0 [[1,1,1]] {me:=0,sp:=0,R:=[] } (Prod.snd (pW 2 3 0 [[1,3,1]] {me:=1,sp:=0,R:=[] } {t:=2,n:=3,xs:=List.replicate (Int.toNat (2*3+5*2+6)) 0,c:=0,k:=0,a:=0,o:=0,w:=0,ok:=false})).2.2)∧bif ieq (↑(Prod.snd (pW 2 3 0 [[1,3,1]] {me:=1,sp:=0,R:=[] } {t:=2,n:=3,xs:=List.replicate (Int.toNat (2*3+5*2+6)) 0,c:=0,k:=0,a:=0,o:=0,w:=0,ok:=false})).1:Int) 5 then bif ieq (↑(List.length (pW 2 3 0 [[1,3,1]] {me:=1,sp:=0,R:=[] } {t:=2,n:=3,xs:=List.replicate (Int.toNat (2*3+5*2+6)) 0,c:=0,k:=0,a:=0,o:=0,w:=0,ok:=false}).1):Int) 1 then((0:Int)≤(0:Int)∧(0:Int)<(↑(List.length (pW 2 3 0 [[1,3,1]] {me:=1,sp:=0,R:=[] } {t:=2,n:=3,xs:=List.replicate (Int.toNat (2*3+5*2+6)) 0,c:=0,k:=0,a:=0,o:=0,w:=0,ok:=false}).1):Int))∧0+Int.toNat (0:Int)<List.length (pW 2 3 0 [[1,3,1]] {me:=1,sp:=0,R:=[] } {t:=2,n:=3,xs:=List.replicate (Int.toNat (2*3+5*2+6)) 0,c:=0,k:=0,a:=0,o:=0,w:=0,ok:=false}).1∧bif bif ieq (List.headD (List.getD (pW 2 3 0 [[1,3,1]] {me:=1,sp:=0,R:=[] } {t:=2,n:=3,xs:=List.replicate (Int.toNat (2*3+5*2+6)) 0,c:=0,k:=0,a:=0,o:=0,w:=0,ok:=false}).1 (0+Int.toNat 0) []) 0) 0 then bif !!ieq (List.headD (List.tail (List.getD (pW 2 3 0 [[1,3,1]] {me:=1,sp:=0,R:=[] } {t:=2,n:=3,xs:=List.replicate (Int.toNat (2*3+5*2+6)) 0,c:=0,k:=0,a:=0,o:=0,w:=0,ok:=false}).1 (0+Int.toNat 0) [])) 0) 0 then bif ieq (List.headD (List.tail (List.tail (List.getD (pW 2 3 0 [[1,3,1]] {me:=1,sp:=0,R:=[] } {t:=2,n:=3,xs:=List.replicate (Int.toNat (2*3+5*2+6)) 0,c:=0,k:=0,a:=0,o:=0,w:=0,ok:=false}).1 (0+Int.toNat 0) []))) 0) 0 then true else false else false else false then bif ieq (↑(List.length (pW 2 3 0 [[1,1,1]] {me:=0,sp:=0,R:=[] } (Prod.snd (pW 2 3 0 [[1,3,1]] {me:=1,sp:=0,R:=[] } {t:=2,n:=3,xs:=List.replicate (Int.toNat (2*3+5*2+6)) 0,c:=0,k:=0,a:=0,o:=0,w:=0,ok:=false})).2.2).1):Int) 1 then((0:Int)≤(0:Int)∧(0:Int)<(↑(List.length (pW 2 3 0 [[1,1,1]] {me:=0,sp:=0,R:=[] } (Prod.snd (pW 2 3 0 [[1,3,1]] {me:=1,sp:=0,R:=[] } {t:=2,n:=3,xs:=List.replicate (Int.toNat (2*3+5*2+6)) 0,c:=0,k:=0,a:=0,o:=0,w:=0,ok:=false})).2.2).1):Int))∧0+Int.toNat (0:Int)<List.length (pW 2 3 0 [[1,1,1]] {me:=0,sp:=0,R:=[] } (Prod.snd (pW 2 3 0 [[1,3,1]] {me:=1,sp:=0,R:=[] } {t:=2,n:=3,xs:=List.replicate (Int.toNat (2*3+5*2+6)) 0,c:=0,k:=0,a:=0,o:=0,w:=0,ok:=false})).2.2).1∧K (.bool (bif ieq (List.headD (List.getD (pW 2 3 0 [[1,1,1]] {me:=0,sp:=0,R:=[] } (Prod.snd (pW 2 3 0 [[1,3,1]] {me:=1,sp:=0,R:=[] } {t:=2,n:=3,xs:=List.replicate (Int.toNat (2*3+5*2+6)) 0,c:=0,k:=0,a:=0,o:=0,w:=0,ok:=false})).2.2).1 (0+Int.toNat 0) []) 0) 0 then bif bif !ieq (List.headD (List.tail (List.getD (pW 2 3 0 [[1,1,1]] {me:=0,sp:=0,R:=[] } (Prod.snd (pW 2 3 0 [[1,3,1]] {me:=1,sp:=0,R:=[] } {t:=2,n:=3,xs:=List.replicate (Int.toNat (2*3+5*2+6)) 0,c:=0,k:=0,a:=0,o:=0,w:=0,ok:=false})).2.2).1 (0+Int.toNat 0) [])) 0) 0 then true else false then bif ieq (List.headD (List.tail (List.tail (List.getD (pW 2 3 0 [[1,1,1]] {me:=0,sp:=0,R:=[] } (Prod.snd (pW 2 3 0 [[1,3,1]] {me:=1,sp:=0,R:=[] } {t:=2,n:=3,xs:=List.replicate (Int.toNat (2*3+5*2+6)) 0,c:=0,k:=0,a:=0,o:=0,w:=0,ok:=false})).2.2).1 (0+Int.toNat 0) []))) 0) 0 then true else false else false else false)) []else K (.bool false) []else K (.bool false) []else K (.bool false) []else K (.bool false) []
theorem FJ(K:AVal→aD Ob→Prop)(h:zA K):cT' 53 [] [] K:=by
 refine aEl (cM' (E:=EW0) (by kernel_rfl) h)
set_option maxRecDepth 100000 in
theorem SA(K:AVal→aD Ob→Prop)(hK:K (.bool true) []):zA K:=by
 unfold zA
 with_unfolding_all repeat' (first | exact hK | trivial | decide | apply And.intro | apply okE.mk | apply okAl.mk | (intro h;exact absurd h (by decide)) | intro _)
def aw19S:aH Ob:=fun args h=>match args,h with
 | [],[]=>some (.pre True (.ret (.bool true) ([])))
 | _,_=>none
theorem R9:sT' 53 aw19S:=by
 intro args h o ho K hK
 unfold aw19S at ho
 split at ho
 case h_2=>cases ho
 simp only [sI']at ho;subst ho
 obtain⟨_,hK⟩:=hK
 exact FJ K (SA K hK)
noncomputable def EW1:=EW0.addS 53 aw19S R9
def RY(k:Int)(m:Nat)(f g:Nat→Int):Hint Ob:= {X:=Nat,st:=fun x=>([.int .i64 k,.O,.O,.O,.O,.O,.O,.view m 2 (fun i=>[.int .i64 (f i),.int .i64 (g i)]),.int .i64 (m:Int),.int .i64 (x:Int)]++List.replicate 8 .O,[]),ok:=fun x=>x≤m∧ ∀j,j<x→aZ k (f j) (g j)=true,mu:=fun x=>m - x,keep:=[0,7,8,9] }
def QX(k:Int)(m:Nat)(f g:Nat→Int)(K:AVal→aD Ob→Prop):Prop:=okSt (RY k m f g) (Hint.ok (RY k m f g)) [.int .i64 k,.O,.O,.O,.O,.O,.O,.view m 2 fun i=>[.int .i64 (f i),.int .i64 (g i)],.int .i64 (↑m:Int),.int .i64 0,.O,.O,.O,.O,.O,.O,.O,.O] []∧ ∀(x:Nat),(x≤m∧ ∀(j:Nat),j<x→aZ k (f j) (g j)=true)→bif ilt (↑x:Int) (↑m:Int)then((0:Int)≤(↑x:Int)∧(↑x:Int)<(↑m:Int))∧True∧bif !aZ k (f (Int.toNat (↑x:Int))) (g (Int.toNat (↑x:Int)))then K (.bool false) []else okSt (RY k m f g) (fun x'=>Hint.ok (RY k m f g) x'∧Hint.mu (RY k m f g) x'<Hint.mu (RY k m f g) x) [.int .i64 k,.O,.O,.O,.O,.O,.O,.view m 2 fun i=>[.int .i64 (f i),.int .i64 (g i)],.int .i64 (↑m:Int),.int .i64 (W ((↑x:Int)+1)),.O,.O,.O,.O,.O,.O,.O,.O] []else K (.bool true) []
theorem MO(k:Int)(m:Nat)(f g:Nat→Int)(K:AVal→aD Ob→Prop)(h:QX k m f g K):cT' 54 [.int .i64 k,.view m 2 (fun i=>[.int .i64 (f i),.int .i64 (g i)])] [] K:=by
 refine aEl (aE (E:=EW1) Tryz.checked.mixed (L:=(fun _ _=>some (.states (RY k m f g)))) (n:=10) (aN (by kernel_rfl) h))
def RX(xs ys:List Int)(off k:Nat):Hint Ob:= {X:=Nat,st:=fun i=>([.slice 0 0 xs.length 1,.slice 1 off k 1,.O,.O,.O,.int .i64 (i:Int)]++List.replicate 20 .O,[some (.ints (some .i64) xs),some (.ints (some .i64) ys)]),ok:=okI xs (ys.drop off),mu:=fun i=>xs.length - i,keep:=[0,1,5] }
def PM(xs ys:List Int)(off k:Nat)(K:AVal→aD Ob→Prop):Prop:=bif !ieq (↑(List.length xs):Int) (↑k:Int)then K (.bool false) [some (.ints (some .i64) xs),some (.ints (some .i64) ys)]else okSt (RX xs ys off k) (Hint.ok (RX xs ys off k)) [.slice 0 0 (List.length xs) 1,.slice 1 off k 1,.O,.O,.O,.int .i64 0,.O,.O,.O,.O,.O,.O,.O,.O,.O,.O,.O,.O,.O,.O,.O,.O,.O,.O,.O,.O] [some (.ints (some .i64) xs),some (.ints (some .i64) ys)]∧ ∀(x:Nat),okI xs (List.drop off ys) x→bif ilt (↑x:Int) (↑(List.length xs):Int)then((0:Int)≤(↑x:Int)∧(↑x:Int)<(↑(List.length xs):Int))∧0+Int.toNat (↑x:Int)*(1:Nat)<List.length xs∧((0:Int)≤(↑x:Int)∧(↑x:Int)<(↑k:Int))∧off+Int.toNat (↑x:Int)*(1:Nat)<List.length ys∧bif !ieq (List.getD xs (0+Int.toNat (↑x:Int)*1) 0) (List.getD ys (off+Int.toNat (↑x:Int)*1) 0)then K (.bool false) [some (.ints (some .i64) xs),some (.ints (some .i64) ys)]else okSt (RX xs ys off k) (fun x'=>Hint.ok (RX xs ys off k) x'∧Hint.mu (RX xs ys off k) x'<Hint.mu (RX xs ys off k) x) [.slice 0 0 (List.length xs) 1,.slice 1 off k 1,.O,.O,.O,.int .i64 (W ((↑x:Int)+1)),.O,.O,.O,.O,.O,.O,.O,.O,.O,.O,.O,.O,.O,.O,.O,.O,.O,.O,.O,.O] [some (.ints (some .i64) xs),some (.ints (some .i64) ys)]else K (.bool true) [some (.ints (some .i64) xs),some (.ints (some .i64) ys)]
theorem LP(xs ys:List Int)(off k:Nat)(K:AVal→aD Ob→Prop)(h:PM xs ys off k K):cT' 33 [.slice 0 0 xs.length 1,.slice 1 off k 1] [some (.ints (some .i64) xs),some (.ints (some .i64) ys)] K:=by
 refine aEl (aE (E:=EW1) Tryz.checked.mixed (L:=(fun _ _=>some (.states (RX xs ys off k)))) (n:=10) (aN (by kernel_rfl) h))
def uT(sh t m:Int)(ys:List Int)(off k:Nat):Hint Ob:= {X:=Nat×MS,st:=fun x=>([.int .i64 sh,.O,.O,.slice 0 off k 1,.O,.O,.O,.O,.O,.ptr 1 0,.ptr 2 0,.ptr 3 0,.O,.int .i64 (x.1:Int)]++List.replicate 79 .O,[some (.ints (some .i64) ys),some (.cells [.int .i64 0,.int .i64 0]),some (.cells [.int .i64 t,.int .i64 (IntKind.wrap .i64 ((k:Int)+m))]),bA 4 x.2,bB x.2]),ok:=oN sh t (IntKind.wrap .i64 ((k:Int)+m)) (ys.drop off),mu:=fun x=>4 - x.1,keep:=[0,3,9,10,11,13] }
def HFio(sh t m:Int)(ys:List Int)(off k:Nat)(h:Int):Hint Ob:= {X:=Nat×Int×Int×Int×MS,st:=fun x=>([.int .i64 sh,.O,.O,.slice 0 off k 1,.O,.O,.O,.O,.O,.ptr 1 0,.ptr 2 0,.ptr 3 0,.O,.int .i64 h,.int .i64 x.2.1,.ptr 5 0]++List.replicate 28 .O ++ [.slice 0 off k 1,.int .i64 (k:Int),.int .i64 (x.1:Int)]++List.replicate 46 .O,[some (.ints (some .i64) ys),some (.cells [.int .i64 0,.int .i64 0]),some (.cells [.int .i64 t,.int .i64 (IntKind.wrap .i64 ((k:Int)+m))]),bA 4 x.2.2.2.2,bB x.2.2.2.2,some (.cells [.int .i64 x.2.2.1,.int .i64 0,.bool false,.int .i64 0,.int .i64 x.2.2.2.1])]),ok:=uI sh t (IntKind.wrap .i64 ((k:Int)+m)) (ys.drop off) h,mu:=fun x=>k - x.1,keep:=[0,3,9,10,11,13,14,15,44,45,46] }
def Z5(sh t m:Int)(ys:List Int)(off k:Nat):FuncId→Nat→Option (rU Ob):=fun _ q=>if q=6 then some (.states (uT sh t m ys off k))else if q=10 then some (.statesAt 13 (HFio sh t m ys off k))else some (.rounds 12)
def II(sh t m:Int)(ys:List Int)(off k:Nat)(K:AVal→aD Ob→Prop):Prop:=True∧bif !fP t (W ((↑k:Int)+m))then K (.tup [.raw (Value.pointer none),.agg [.int .i64 t,.int .i64 (W ((↑k:Int)+m))]]) [some (.ints (some .i64) ys)]else(((0:Int)≤t∧t≤(100000:Int))∧(0:Int)≤W ((↑k:Int)+m)∧W ((↑k:Int)+m)≤(100000:Int))∧bif ilt (2*W ((↑k:Int)+m)+5*t+6) (↑0:Int)then K (.tup [.raw (Value.pointer none),.agg [.int .i64 t,.int .i64 (W ((↑k:Int)+m))]]) [some (.ints (some .i64) ys)]else((((0:Int)≤t∧t≤(100000:Int))∧(0:Int)≤W ((↑k:Int)+m)∧W ((↑k:Int)+m)≤(100000:Int))∧True)∧((0:Int)≤(2:Int)*W ((↑k:Int)+m)+5*t+6∧2*W ((↑k:Int)+m)+5*t+(6:Int)=(2:Int)*W ((↑k:Int)+m)+5*t+6∧2*W ((↑k:Int)+m)+5*t+(6:Int)≤(4294967296:Int))∧okSt (uT sh t m ys off k) (Hint.ok (uT sh t m ys off k)) [.int .i64 sh,.O,.O,.slice 0 off k 1,.O,.O,.O,.O,.O,.ptr 1 0,.ptr 2 0,.ptr 3 0,.O,.int .i64 0,.O,.O,.O,.O,.O,.O,.O,.O,.O,.O,.O,.O,.O,.O,.O,.O,.O,.O,.O,.O,.O,.O,.O,.O,.O,.O,.O,.O,.O,.O,.O,.O,.O,.O,.O,.O,.O,.O,.O,.O,.O,.O,.O,.O,.O,.O,.O,.O,.O,.O,.O,.O,.O,.O,.O,.O,.O,.O,.O,.O,.O,.O,.O,.O,.O,.O,.O,.O,.O,.O,.O,.O,.O,.O,.O,.O,.O,.O,.O] [some (.ints (some .i64) ys),some (.cells [.int .i64 0,.int .i64 0]),some (.cells [.int .i64 t,.int .i64 (W ((↑k:Int)+m))]),some (.cells [.int .i64 t,.int .i64 (W ((↑k:Int)+m)),.slice 4 0 (Int.toNat (2*W ((↑k:Int)+m)+5*t+6)) 1,.int .i64 0,.int .i64 0,.int .i64 0,.int .u64 0,.int .u64 0,.bool false]),some (.ints (some .u64) (List.replicate (Int.toNat (2*W ((↑k:Int)+m)+5*t+6)) 0))]∧ ∀(x:(Nat×MS)),oN sh t (W ((↑k:Int)+m)) (List.drop off ys) x→bif ilt (↑x.1:Int) 4 then(((0:Int)≤W ((↑k:Int)+m)∧W ((↑k:Int)+m)≤(100000:Int))∧(-1000000:Int)≤(↑x.1:Int)∧(↑x.1:Int)≤(1000000:Int))∧okSt (HFio sh t m ys off k (↑(Prod.fst x):Int)) (Hint.ok (HFio sh t m ys off k (↑(Prod.fst x):Int))) [.int .i64 sh,.O,.O,.slice 0 off k 1,.O,.O,.O,.O,.O,.ptr 1 0,.ptr 2 0,.ptr 3 0,.O,.int .i64 (↑x.1:Int),.int .i64 (W ((↑k:Int)+m)+1+(↑x.1:Int)),.ptr 5 0,.O,.O,.O,.O,.O,.O,.O,.O,.O,.O,.O,.O,.O,.O,.O,.O,.O,.O,.O,.O,.O,.O,.O,.O,.O,.O,.O,.O,.slice 0 off k 1,.int .i64 (↑k:Int),.int .i64 0,.O,.O,.O,.O,.O,.O,.O,.O,.O,.O,.O,.O,.O,.O,.O,.O,.O,.O,.O,.O,.O,.O,.O,.O,.O,.O,.O,.O,.O,.O,.O,.O,.O,.O,.O,.O,.O,.O,.O,.O,.O,.O,.O,.O,.O,.O] [some (.ints (some .i64) ys),some (.cells [.int .i64 0,.int .i64 0]),some (.cells [.int .i64 t,.int .i64 (W ((↑k:Int)+m))]),some (.cells [.int .i64 (Prod.snd x).1,.int .i64 (Prod.snd x).2,.slice 4 0 (List.length (Prod.snd x).3) 1,.int .i64 (Prod.snd x).4,.int .i64 (Prod.snd x).5,.int .i64 (Prod.snd x).6,.int .u64 (Prod.snd x).7,.int .u64 (Prod.snd x).8,.bool (Prod.snd x).9]),some (.ints (some .u64) (Prod.snd x).3),some (.cells [.int .i64 0,.int .i64 0,.bool false,.int .i64 0,.int .i64 0])]∧ ∀(x_1:Hint.X (HFio sh t m ys off k (↑(Prod.fst x):Int))),uI sh t (W ((↑k:Int)+m)) (List.drop off ys) (↑x.1:Int) x_1→bif ilt (↑x_1.1:Int) (↑k:Int)then((0:Int)≤(↑x_1.1:Int)∧(↑x_1.1:Int)<(↑k:Int))∧off+Int.toNat (↑x_1.1:Int)*(1:Nat)<List.length ys∧bif ieq sh 2 then(4:Int)≠(0:Int)∧bif !ieq (Int.tmod (List.getD ys (off+Int.toNat (↑x_1.1:Int)*1) 0) 4) (↑x.1:Int)then okSt (HFio sh t m ys off k (↑(Prod.fst x):Int)) (fun x'=>Hint.ok (HFio sh t m ys off k (↑(Prod.fst x):Int)) x'∧Hint.mu (HFio sh t m ys off k (↑(Prod.fst x):Int)) x'<Hint.mu (HFio sh t m ys off k (↑(Prod.fst x):Int)) x_1) [.int .i64 sh,.O,.O,.slice 0 off k 1,.O,.O,.O,.O,.O,.ptr 1 0,.ptr 2 0,.ptr 3 0,.O,.int .i64 (↑x.1:Int),.int .i64 (Prod.snd x_1).1,.ptr 5 0,.O,.O,.O,.O,.O,.O,.O,.O,.O,.O,.O,.O,.O,.O,.O,.O,.O,.O,.O,.O,.O,.O,.O,.O,.O,.O,.O,.O,.slice 0 off k 1,.int .i64 (↑k:Int),.int .i64 (W ((↑x_1.1:Int)+1)),.O,.O,.O,.O,.O,.O,.O,.O,.O,.O,.O,.O,.O,.O,.O,.O,.O,.O,.O,.O,.O,.O,.O,.O,.O,.O,.O,.O,.O,.O,.O,.O,.O,.O,.O,.O,.O,.O,.O,.O,.O,.O,.O,.O,.O,.O] [some (.ints (some .i64) ys),some (.cells [.int .i64 0,.int .i64 0]),some (.cells [.int .i64 t,.int .i64 (W ((↑k:Int)+m))]),some (.cells [.int .i64 (Prod.snd (Prod.snd x_1.2).2).1,.int .i64 (Prod.snd (Prod.snd x_1.2).2).2,.slice 4 0 (List.length (Prod.snd (Prod.snd x_1.2).2).3) 1,.int .i64 (Prod.snd (Prod.snd x_1.2).2).4,.int .i64 (Prod.snd (Prod.snd x_1.2).2).5,.int .i64 (Prod.snd (Prod.snd x_1.2).2).6,.int .u64 (Prod.snd (Prod.snd x_1.2).2).7,.int .u64 (Prod.snd (Prod.snd x_1.2).2).8,.bool (Prod.snd (Prod.snd x_1.2).2).9]),some (.ints (some .u64) (Prod.snd (Prod.snd x_1.2).2).3),some (.cells [.int .i64 (Prod.snd x_1.2).1,.int .i64 0,.bool false,.int .i64 0,.int .i64 (Prod.snd (Prod.snd x_1).2).1])]else bif !ieq sh 2 then bif ilt 0 (↑x.1:Int)then okSt (HFio sh t m ys off k (↑(Prod.fst x):Int)) (fun x'=>Hint.ok (HFio sh t m ys off k (↑(Prod.fst x):Int)) x'∧Hint.mu (HFio sh t m ys off k (↑(Prod.fst x):Int)) x'<Hint.mu (HFio sh t m ys off k (↑(Prod.fst x):Int)) x_1) [.int .i64 sh,.O,.O,.slice 0 off k 1,.O,.O,.O,.O,.O,.ptr 1 0,.ptr 2 0,.ptr 3 0,.O,.int .i64 (↑x.1:Int),.int .i64 (Prod.snd x_1).1,.ptr 5 0,.O,.O,.O,.O,.O,.O,.O,.O,.O,.O,.O,.O,.O,.O,.O,.O,.O,.O,.O,.O,.O,.O,.O,.O,.O,.O,.O,.O,.slice 0 off k 1,.int .i64 (↑k:Int),.int .i64 (W ((↑x_1.1:Int)+1)),.O,.O,.O,.O,.O,.O,.O,.O,.O,.O,.O,.O,.O,.O,.O,.O,.O,.O,.O,.O,.O,.O,.O,.O,.O,.O,.O,.O,.O,.O,.O,.O,.O,.O,.O,.O,.O,.O,.O,.O,.O,.O,.O,.O,.O,.O] [some (.ints (some .i64) ys),some (.cells [.int .i64 0,.int .i64 0]),some (.cells [.int .i64 t,.int .i64 (W ((↑k:Int)+m))]),some (.cells [.int .i64 (Prod.snd (Prod.snd x_1.2).2).1,.int .i64 (Prod.snd (Prod.snd x_1.2).2).2,.slice 4 0 (List.length (Prod.snd (Prod.snd x_1.2).2).3) 1,.int .i64 (Prod.snd (Prod.snd x_1.2).2).4,.int .i64 (Prod.snd (Prod.snd x_1.2).2).5,.int .i64 (Prod.snd (Prod.snd x_1.2).2).6,.int .u64 (Prod.snd (Prod.snd x_1.2).2).7,.int .u64 (Prod.snd (Prod.snd x_1.2).2).8,.bool (Prod.snd (Prod.snd x_1.2).2).9]),some (.ints (some .u64) (Prod.snd (Prod.snd x_1.2).2).3),some (.cells [.int .i64 (Prod.snd x_1.2).1,.int .i64 0,.bool false,.int .i64 0,.int .i64 (Prod.snd (Prod.snd x_1).2).1])]else(((0:Int)≤(Prod.snd x_1.2).1∧(Prod.snd x_1.2).1<(1024:Int))∧((0:Int)≤W ((↑x_1.1:Int)+1)∧W ((↑x_1.1:Int)+1)<(512:Int))∧((0:Int)≤(0:Int)∧(0:Int)<(32:Int))∧(0:Int)≤(Prod.snd (Prod.snd x_1).2).1∧(Prod.snd (Prod.snd x_1).2).1<(262144:Int))∧(lE' (Prod.snd (Prod.snd x_1.2).2).3∧(0:Int)≤(Prod.snd (Prod.snd x_1.2).2).4∧(Prod.snd (Prod.snd x_1.2).2).4≤(4611686018427387904:Int))∧(((0:Int)≤t∧t≤(100000:Int))∧((0:Int)≤W ((↑k:Int)+m)∧W ((↑k:Int)+m)≤(100000:Int))∧(-1099511627776:Int)≤W ((↑x_1.1:Int)+1)∧W ((↑x_1.1:Int)+1)≤(1099511627776:Int))∧(lE' (aK (Prod.snd (Prod.snd x_1.2).2).3 (Prod.snd x_1).1 (a7 (Prod.snd x_1.2).1 (W ((↑x_1.1:Int)+1)) false 0 (Prod.snd (Prod.snd x_1).2).1))∧(0:Int)≤(Prod.snd (Prod.snd x_1.2).2).4+1∧(Prod.snd (Prod.snd x_1.2).2).4+(1:Int)≤(4611686018427387904:Int))∧okSt (HFio sh t m ys off k (↑(Prod.fst x):Int)) (fun x'=>Hint.ok (HFio sh t m ys off k (↑(Prod.fst x):Int)) x'∧Hint.mu (HFio sh t m ys off k (↑(Prod.fst x):Int)) x'<Hint.mu (HFio sh t m ys off k (↑(Prod.fst x):Int)) x_1) [.int .i64 sh,.O,.O,.slice 0 off k 1,.O,.O,.O,.O,.O,.ptr 1 0,.ptr 2 0,.ptr 3 0,.O,.int .i64 (↑x.1:Int),.int .i64 (W ((↑x_1.1:Int)+1)),.ptr 5 0,.O,.O,.O,.O,.O,.O,.O,.O,.O,.O,.O,.O,.O,.O,.O,.O,.O,.O,.O,.O,.O,.O,.O,.O,.O,.O,.O,.O,.slice 0 off k 1,.int .i64 (↑k:Int),.int .i64 (W ((↑x_1.1:Int)+1)),.O,.O,.O,.O,.O,.O,.O,.O,.O,.O,.O,.O,.O,.O,.O,.O,.O,.O,.O,.O,.O,.O,.O,.O,.O,.O,.O,.O,.O,.O,.O,.O,.O,.O,.O,.O,.O,.O,.O,.O,.O,.O,.O,.O,.O,.O] [some (.ints (some .i64) ys),some (.cells [.int .i64 0,.int .i64 0]),some (.cells [.int .i64 t,.int .i64 (W ((↑k:Int)+m))]),some (.cells [.int .i64 (Prod.snd (Prod.snd x_1.2).2).1,.int .i64 (Prod.snd (Prod.snd x_1.2).2).2,.slice 4 0 (List.length (aK (aK (Prod.snd (Prod.snd x_1.2).2).3 (Prod.snd x_1).1 (a7 (Prod.snd x_1.2).1 (W ((↑x_1.1:Int)+1)) false 0 (Prod.snd (Prod.snd x_1).2).1)) (W ((↑k:Int)+m)+4+W ((↑x_1.1:Int)+1)) 1)) 1,.int .i64 ((Prod.snd (Prod.snd x_1.2).2).4+1+1),.int .i64 2,.int .i64 (W ((↑k:Int)+m)+4+W ((↑x_1.1:Int)+1)),.int .u64 (aB (aK (Prod.snd (Prod.snd x_1.2).2).3 (Prod.snd x_1).1 (a7 (Prod.snd x_1.2).1 (W ((↑x_1.1:Int)+1)) false 0 (Prod.snd (Prod.snd x_1).2).1)) (W ((↑k:Int)+m)+4+W ((↑x_1.1:Int)+1))),.int .u64 (bif bK (aK (Prod.snd (Prod.snd x_1.2).2).3 (Prod.snd x_1).1 (a7 (Prod.snd x_1.2).1 (W ((↑x_1.1:Int)+1)) false 0 (Prod.snd (Prod.snd x_1).2).1)) (W ((↑k:Int)+m)+4+W ((↑x_1.1:Int)+1))then 1 else 0),.bool (bK (aK (Prod.snd (Prod.snd x_1.2).2).3 (Prod.snd x_1).1 (a7 (Prod.snd x_1.2).1 (W ((↑x_1.1:Int)+1)) false 0 (Prod.snd (Prod.snd x_1).2).1)) (W ((↑k:Int)+m)+4+W ((↑x_1.1:Int)+1)))]),some (.ints (some .u64) (aK (aK (Prod.snd (Prod.snd x_1.2).2).3 (Prod.snd x_1).1 (a7 (Prod.snd x_1.2).1 (W ((↑x_1.1:Int)+1)) false 0 (Prod.snd (Prod.snd x_1).2).1)) (W ((↑k:Int)+m)+4+W ((↑x_1.1:Int)+1)) 1)),some (.cells [.int .i64 (List.getD ys (off+Int.toNat (↑x_1.1:Int)*1) 0),.int .i64 0,.bool false,.int .i64 0,.int .i64 3])]else(((0:Int)≤(Prod.snd x_1.2).1∧(Prod.snd x_1.2).1<(1024:Int))∧((0:Int)≤W ((↑x_1.1:Int)+1)∧W ((↑x_1.1:Int)+1)<(512:Int))∧((0:Int)≤(0:Int)∧(0:Int)<(32:Int))∧(0:Int)≤(Prod.snd (Prod.snd x_1).2).1∧(Prod.snd (Prod.snd x_1).2).1<(262144:Int))∧(lE' (Prod.snd (Prod.snd x_1.2).2).3∧(0:Int)≤(Prod.snd (Prod.snd x_1.2).2).4∧(Prod.snd (Prod.snd x_1.2).2).4≤(4611686018427387904:Int))∧(((0:Int)≤t∧t≤(100000:Int))∧((0:Int)≤W ((↑k:Int)+m)∧W ((↑k:Int)+m)≤(100000:Int))∧(-1099511627776:Int)≤W ((↑x_1.1:Int)+1)∧W ((↑x_1.1:Int)+1)≤(1099511627776:Int))∧(lE' (aK (Prod.snd (Prod.snd x_1.2).2).3 (Prod.snd x_1).1 (a7 (Prod.snd x_1.2).1 (W ((↑x_1.1:Int)+1)) false 0 (Prod.snd (Prod.snd x_1).2).1))∧(0:Int)≤(Prod.snd (Prod.snd x_1.2).2).4+1∧(Prod.snd (Prod.snd x_1.2).2).4+(1:Int)≤(4611686018427387904:Int))∧okSt (HFio sh t m ys off k (↑(Prod.fst x):Int)) (fun x'=>Hint.ok (HFio sh t m ys off k (↑(Prod.fst x):Int)) x'∧Hint.mu (HFio sh t m ys off k (↑(Prod.fst x):Int)) x'<Hint.mu (HFio sh t m ys off k (↑(Prod.fst x):Int)) x_1) [.int .i64 sh,.O,.O,.slice 0 off k 1,.O,.O,.O,.O,.O,.ptr 1 0,.ptr 2 0,.ptr 3 0,.O,.int .i64 (↑x.1:Int),.int .i64 (W ((↑x_1.1:Int)+1)),.ptr 5 0,.O,.O,.O,.O,.O,.O,.O,.O,.O,.O,.O,.O,.O,.O,.O,.O,.O,.O,.O,.O,.O,.O,.O,.O,.O,.O,.O,.O,.slice 0 off k 1,.int .i64 (↑k:Int),.int .i64 (W ((↑x_1.1:Int)+1)),.O,.O,.O,.O,.O,.O,.O,.O,.O,.O,.O,.O,.O,.O,.O,.O,.O,.O,.O,.O,.O,.O,.O,.O,.O,.O,.O,.O,.O,.O,.O,.O,.O,.O,.O,.O,.O,.O,.O,.O,.O,.O,.O,.O,.O,.O] [some (.ints (some .i64) ys),some (.cells [.int .i64 0,.int .i64 0]),some (.cells [.int .i64 t,.int .i64 (W ((↑k:Int)+m))]),some (.cells [.int .i64 (Prod.snd (Prod.snd x_1.2).2).1,.int .i64 (Prod.snd (Prod.snd x_1.2).2).2,.slice 4 0 (List.length (aK (aK (Prod.snd (Prod.snd x_1.2).2).3 (Prod.snd x_1).1 (a7 (Prod.snd x_1.2).1 (W ((↑x_1.1:Int)+1)) false 0 (Prod.snd (Prod.snd x_1).2).1)) (W ((↑k:Int)+m)+4+W ((↑x_1.1:Int)+1)) 1)) 1,.int .i64 ((Prod.snd (Prod.snd x_1.2).2).4+1+1),.int .i64 2,.int .i64 (W ((↑k:Int)+m)+4+W ((↑x_1.1:Int)+1)),.int .u64 (aB (aK (Prod.snd (Prod.snd x_1.2).2).3 (Prod.snd x_1).1 (a7 (Prod.snd x_1.2).1 (W ((↑x_1.1:Int)+1)) false 0 (Prod.snd (Prod.snd x_1).2).1)) (W ((↑k:Int)+m)+4+W ((↑x_1.1:Int)+1))),.int .u64 (bif bK (aK (Prod.snd (Prod.snd x_1.2).2).3 (Prod.snd x_1).1 (a7 (Prod.snd x_1.2).1 (W ((↑x_1.1:Int)+1)) false 0 (Prod.snd (Prod.snd x_1).2).1)) (W ((↑k:Int)+m)+4+W ((↑x_1.1:Int)+1))then 1 else 0),.bool (bK (aK (Prod.snd (Prod.snd x_1.2).2).3 (Prod.snd x_1).1 (a7 (Prod.snd x_1.2).1 (W ((↑x_1.1:Int)+1)) false 0 (Prod.snd (Prod.snd x_1).2).1)) (W ((↑k:Int)+m)+4+W ((↑x_1.1:Int)+1)))]),some (.ints (some .u64) (aK (aK (Prod.snd (Prod.snd x_1.2).2).3 (Prod.snd x_1).1 (a7 (Prod.snd x_1.2).1 (W ((↑x_1.1:Int)+1)) false 0 (Prod.snd (Prod.snd x_1).2).1)) (W ((↑k:Int)+m)+4+W ((↑x_1.1:Int)+1)) 1)),some (.cells [.int .i64 (List.getD ys (off+Int.toNat (↑x_1.1:Int)*1) 0),.int .i64 0,.bool false,.int .i64 0,.int .i64 3])]else bif !ieq sh 2 then bif ilt 0 (↑x.1:Int)then okSt (HFio sh t m ys off k (↑(Prod.fst x):Int)) (fun x'=>Hint.ok (HFio sh t m ys off k (↑(Prod.fst x):Int)) x'∧Hint.mu (HFio sh t m ys off k (↑(Prod.fst x):Int)) x'<Hint.mu (HFio sh t m ys off k (↑(Prod.fst x):Int)) x_1) [.int .i64 sh,.O,.O,.slice 0 off k 1,.O,.O,.O,.O,.O,.ptr 1 0,.ptr 2 0,.ptr 3 0,.O,.int .i64 (↑x.1:Int),.int .i64 (Prod.snd x_1).1,.ptr 5 0,.O,.O,.O,.O,.O,.O,.O,.O,.O,.O,.O,.O,.O,.O,.O,.O,.O,.O,.O,.O,.O,.O,.O,.O,.O,.O,.O,.O,.slice 0 off k 1,.int .i64 (↑k:Int),.int .i64 (W ((↑x_1.1:Int)+1)),.O,.O,.O,.O,.O,.O,.O,.O,.O,.O,.O,.O,.O,.O,.O,.O,.O,.O,.O,.O,.O,.O,.O,.O,.O,.O,.O,.O,.O,.O,.O,.O,.O,.O,.O,.O,.O,.O,.O,.O,.O,.O,.O,.O,.O,.O] [some (.ints (some .i64) ys),some (.cells [.int .i64 0,.int .i64 0]),some (.cells [.int .i64 t,.int .i64 (W ((↑k:Int)+m))]),some (.cells [.int .i64 (Prod.snd (Prod.snd x_1.2).2).1,.int .i64 (Prod.snd (Prod.snd x_1.2).2).2,.slice 4 0 (List.length (Prod.snd (Prod.snd x_1.2).2).3) 1,.int .i64 (Prod.snd (Prod.snd x_1.2).2).4,.int .i64 (Prod.snd (Prod.snd x_1.2).2).5,.int .i64 (Prod.snd (Prod.snd x_1.2).2).6,.int .u64 (Prod.snd (Prod.snd x_1.2).2).7,.int .u64 (Prod.snd (Prod.snd x_1.2).2).8,.bool (Prod.snd (Prod.snd x_1.2).2).9]),some (.ints (some .u64) (Prod.snd (Prod.snd x_1.2).2).3),some (.cells [.int .i64 (Prod.snd x_1.2).1,.int .i64 0,.bool false,.int .i64 0,.int .i64 (Prod.snd (Prod.snd x_1).2).1])]else(((0:Int)≤(Prod.snd x_1.2).1∧(Prod.snd x_1.2).1<(1024:Int))∧((0:Int)≤W ((↑x_1.1:Int)+1)∧W ((↑x_1.1:Int)+1)<(512:Int))∧((0:Int)≤(0:Int)∧(0:Int)<(32:Int))∧(0:Int)≤(Prod.snd (Prod.snd x_1).2).1∧(Prod.snd (Prod.snd x_1).2).1<(262144:Int))∧(lE' (Prod.snd (Prod.snd x_1.2).2).3∧(0:Int)≤(Prod.snd (Prod.snd x_1.2).2).4∧(Prod.snd (Prod.snd x_1.2).2).4≤(4611686018427387904:Int))∧(((0:Int)≤t∧t≤(100000:Int))∧((0:Int)≤W ((↑k:Int)+m)∧W ((↑k:Int)+m)≤(100000:Int))∧(-1099511627776:Int)≤W ((↑x_1.1:Int)+1)∧W ((↑x_1.1:Int)+1)≤(1099511627776:Int))∧(lE' (aK (Prod.snd (Prod.snd x_1.2).2).3 (Prod.snd x_1).1 (a7 (Prod.snd x_1.2).1 (W ((↑x_1.1:Int)+1)) false 0 (Prod.snd (Prod.snd x_1).2).1))∧(0:Int)≤(Prod.snd (Prod.snd x_1.2).2).4+1∧(Prod.snd (Prod.snd x_1.2).2).4+(1:Int)≤(4611686018427387904:Int))∧okSt (HFio sh t m ys off k (↑(Prod.fst x):Int)) (fun x'=>Hint.ok (HFio sh t m ys off k (↑(Prod.fst x):Int)) x'∧Hint.mu (HFio sh t m ys off k (↑(Prod.fst x):Int)) x'<Hint.mu (HFio sh t m ys off k (↑(Prod.fst x):Int)) x_1) [.int .i64 sh,.O,.O,.slice 0 off k 1,.O,.O,.O,.O,.O,.ptr 1 0,.ptr 2 0,.ptr 3 0,.O,.int .i64 (↑x.1:Int),.int .i64 (W ((↑x_1.1:Int)+1)),.ptr 5 0,.O,.O,.O,.O,.O,.O,.O,.O,.O,.O,.O,.O,.O,.O,.O,.O,.O,.O,.O,.O,.O,.O,.O,.O,.O,.O,.O,.O,.slice 0 off k 1,.int .i64 (↑k:Int),.int .i64 (W ((↑x_1.1:Int)+1)),.O,.O,.O,.O,.O,.O,.O,.O,.O,.O,.O,.O,.O,.O,.O,.O,.O,.O,.O,.O,.O,.O,.O,.O,.O,.O,.O,.O,.O,.O,.O,.O,.O,.O,.O,.O,.O,.O,.O,.O,.O,.O,.O,.O,.O,.O] [some (.ints (some .i64) ys),some (.cells [.int .i64 0,.int .i64 0]),some (.cells [.int .i64 t,.int .i64 (W ((↑k:Int)+m))]),some (.cells [.int .i64 (Prod.snd (Prod.snd x_1.2).2).1,.int .i64 (Prod.snd (Prod.snd x_1.2).2).2,.slice 4 0 (List.length (aK (aK (Prod.snd (Prod.snd x_1.2).2).3 (Prod.snd x_1).1 (a7 (Prod.snd x_1.2).1 (W ((↑x_1.1:Int)+1)) false 0 (Prod.snd (Prod.snd x_1).2).1)) (W ((↑k:Int)+m)+4+W ((↑x_1.1:Int)+1)) 1)) 1,.int .i64 ((Prod.snd (Prod.snd x_1.2).2).4+1+1),.int .i64 2,.int .i64 (W ((↑k:Int)+m)+4+W ((↑x_1.1:Int)+1)),.int .u64 (aB (aK (Prod.snd (Prod.snd x_1.2).2).3 (Prod.snd x_1).1 (a7 (Prod.snd x_1.2).1 (W ((↑x_1.1:Int)+1)) false 0 (Prod.snd (Prod.snd x_1).2).1)) (W ((↑k:Int)+m)+4+W ((↑x_1.1:Int)+1))),.int .u64 (bif bK (aK (Prod.snd (Prod.snd x_1.2).2).3 (Prod.snd x_1).1 (a7 (Prod.snd x_1.2).1 (W ((↑x_1.1:Int)+1)) false 0 (Prod.snd (Prod.snd x_1).2).1)) (W ((↑k:Int)+m)+4+W ((↑x_1.1:Int)+1))then 1 else 0),.bool (bK (aK (Prod.snd (Prod.snd x_1.2).2).3 (Prod.snd x_1).1 (a7 (Prod.snd x_1.2).1 (W ((↑x_1.1:Int)+1)) false 0 (Prod.snd (Prod.snd x_1).2).1)) (W ((↑k:Int)+m)+4+W ((↑x_1.1:Int)+1)))]),some (.ints (some .u64) (aK (aK (Prod.snd (Prod.snd x_1.2).2).3 (Prod.snd x_1).1 (a7 (Prod.snd x_1.2).1 (W ((↑x_1.1:Int)+1)) false 0 (Prod.snd (Prod.snd x_1).2).1)) (W ((↑k:Int)+m)+4+W ((↑x_1.1:Int)+1)) 1)),some (.cells [.int .i64 (List.getD ys (off+Int.toNat (↑x_1.1:Int)*1) 0),.int .i64 0,.bool false,.int .i64 0,.int .i64 3])]else(((0:Int)≤(Prod.snd x_1.2).1∧(Prod.snd x_1.2).1<(1024:Int))∧((0:Int)≤W ((↑x_1.1:Int)+1)∧W ((↑x_1.1:Int)+1)<(512:Int))∧((0:Int)≤(0:Int)∧(0:Int)<(32:Int))∧(0:Int)≤(Prod.snd (Prod.snd x_1).2).1∧(Prod.snd (Prod.snd x_1).2).1<(262144:Int))∧(lE' (Prod.snd (Prod.snd x_1.2).2).3∧(0:Int)≤(Prod.snd (Prod.snd x_1.2).2).4∧(Prod.snd (Prod.snd x_1.2).2).4≤(4611686018427387904:Int))∧(((0:Int)≤t∧t≤(100000:Int))∧((0:Int)≤W ((↑k:Int)+m)∧W ((↑k:Int)+m)≤(100000:Int))∧(-1099511627776:Int)≤W ((↑x_1.1:Int)+1)∧W ((↑x_1.1:Int)+1)≤(1099511627776:Int))∧(lE' (aK (Prod.snd (Prod.snd x_1.2).2).3 (Prod.snd x_1).1 (a7 (Prod.snd x_1.2).1 (W ((↑x_1.1:Int)+1)) false 0 (Prod.snd (Prod.snd x_1).2).1))∧(0:Int)≤(Prod.snd (Prod.snd x_1.2).2).4+1∧(Prod.snd (Prod.snd x_1.2).2).4+(1:Int)≤(4611686018427387904:Int))∧okSt (HFio sh t m ys off k (↑(Prod.fst x):Int)) (fun x'=>Hint.ok (HFio sh t m ys off k (↑(Prod.fst x):Int)) x'∧Hint.mu (HFio sh t m ys off k (↑(Prod.fst x):Int)) x'<Hint.mu (HFio sh t m ys off k (↑(Prod.fst x):Int)) x_1) [.int .i64 sh,.O,.O,.slice 0 off k 1,.O,.O,.O,.O,.O,.ptr 1 0,.ptr 2 0,.ptr 3 0,.O,.int .i64 (↑x.1:Int),.int .i64 (W ((↑x_1.1:Int)+1)),.ptr 5 0,.O,.O,.O,.O,.O,.O,.O,.O,.O,.O,.O,.O,.O,.O,.O,.O,.O,.O,.O,.O,.O,.O,.O,.O,.O,.O,.O,.O,.slice 0 off k 1,.int .i64 (↑k:Int),.int .i64 (W ((↑x_1.1:Int)+1)),.O,.O,.O,.O,.O,.O,.O,.O,.O,.O,.O,.O,.O,.O,.O,.O,.O,.O,.O,.O,.O,.O,.O,.O,.O,.O,.O,.O,.O,.O,.O,.O,.O,.O,.O,.O,.O,.O,.O,.O,.O,.O,.O,.O,.O,.O] [some (.ints (some .i64) ys),some (.cells [.int .i64 0,.int .i64 0]),some (.cells [.int .i64 t,.int .i64 (W ((↑k:Int)+m))]),some (.cells [.int .i64 (Prod.snd (Prod.snd x_1.2).2).1,.int .i64 (Prod.snd (Prod.snd x_1.2).2).2,.slice 4 0 (List.length (aK (aK (Prod.snd (Prod.snd x_1.2).2).3 (Prod.snd x_1).1 (a7 (Prod.snd x_1.2).1 (W ((↑x_1.1:Int)+1)) false 0 (Prod.snd (Prod.snd x_1).2).1)) (W ((↑k:Int)+m)+4+W ((↑x_1.1:Int)+1)) 1)) 1,.int .i64 ((Prod.snd (Prod.snd x_1.2).2).4+1+1),.int .i64 2,.int .i64 (W ((↑k:Int)+m)+4+W ((↑x_1.1:Int)+1)),.int .u64 (aB (aK (Prod.snd (Prod.snd x_1.2).2).3 (Prod.snd x_1).1 (a7 (Prod.snd x_1.2).1 (W ((↑x_1.1:Int)+1)) false 0 (Prod.snd (Prod.snd x_1).2).1)) (W ((↑k:Int)+m)+4+W ((↑x_1.1:Int)+1))),.int .u64 (bif bK (aK (Prod.snd (Prod.snd x_1.2).2).3 (Prod.snd x_1).1 (a7 (Prod.snd x_1.2).1 (W ((↑x_1.1:Int)+1)) false 0 (Prod.snd (Prod.snd x_1).2).1)) (W ((↑k:Int)+m)+4+W ((↑x_1.1:Int)+1))then 1 else 0),.bool (bK (aK (Prod.snd (Prod.snd x_1.2).2).3 (Prod.snd x_1).1 (a7 (Prod.snd x_1.2).1 (W ((↑x_1.1:Int)+1)) false 0 (Prod.snd (Prod.snd x_1).2).1)) (W ((↑k:Int)+m)+4+W ((↑x_1.1:Int)+1)))]),some (.ints (some .u64) (aK (aK (Prod.snd (Prod.snd x_1.2).2).3 (Prod.snd x_1).1 (a7 (Prod.snd x_1.2).1 (W ((↑x_1.1:Int)+1)) false 0 (Prod.snd (Prod.snd x_1).2).1)) (W ((↑k:Int)+m)+4+W ((↑x_1.1:Int)+1)) 1)),some (.cells [.int .i64 (List.getD ys (off+Int.toNat (↑x_1.1:Int)*1) 0),.int .i64 0,.bool false,.int .i64 0,.int .i64 3])]else(((0:Int)≤(Prod.snd x_1.2).1∧(Prod.snd x_1.2).1<(1024:Int))∧((0:Int)≤(0:Int)∧(0:Int)<(512:Int))∧((0:Int)≤(0:Int)∧(0:Int)<(32:Int))∧(0:Int)≤(Prod.snd (Prod.snd x_1).2).1∧(Prod.snd (Prod.snd x_1).2).1<(262144:Int))∧(lE' (Prod.snd (Prod.snd x_1.2).2).3∧(0:Int)≤(Prod.snd (Prod.snd x_1.2).2).4∧(Prod.snd (Prod.snd x_1.2).2).4≤(4611686018427387904:Int))∧okSt (uT sh t m ys off k) (fun x'=>Hint.ok (uT sh t m ys off k) x'∧Hint.mu (uT sh t m ys off k) x'<Hint.mu (uT sh t m ys off k) x) [.int .i64 sh,.O,.O,.slice 0 off k 1,.O,.O,.O,.O,.O,.ptr 1 0,.ptr 2 0,.ptr 3 0,.O,.int .i64 (W ((↑x.1:Int)+1)),.O,.O,.O,.O,.O,.O,.O,.O,.O,.O,.O,.O,.O,.O,.O,.O,.O,.O,.O,.O,.O,.O,.O,.O,.O,.O,.O,.O,.O,.O,.O,.O,.O,.O,.O,.O,.O,.O,.O,.O,.O,.O,.O,.O,.O,.O,.O,.O,.O,.O,.O,.O,.O,.O,.O,.O,.O,.O,.O,.O,.O,.O,.O,.O,.O,.O,.O,.O,.O,.O,.O,.O,.O,.O,.O,.O,.O,.O,.O] [some (.ints (some .i64) ys),some (.cells [.int .i64 0,.int .i64 0]),some (.cells [.int .i64 t,.int .i64 (W ((↑k:Int)+m))]),some (.cells [.int .i64 (Prod.snd (Prod.snd x_1.2).2).1,.int .i64 (Prod.snd (Prod.snd x_1.2).2).2,.slice 4 0 (List.length (aK (Prod.snd (Prod.snd x_1.2).2).3 (Prod.snd x_1).1 (a7 (Prod.snd x_1.2).1 0 false 0 (Prod.snd (Prod.snd x_1).2).1))) 1,.int .i64 ((Prod.snd (Prod.snd x_1.2).2).4+1),.int .i64 2,.int .i64 (Prod.snd x_1).1,.int .u64 (aB (Prod.snd (Prod.snd x_1.2).2).3 (Prod.snd x_1).1),.int .u64 (bif bK (Prod.snd (Prod.snd x_1.2).2).3 (Prod.snd x_1).1 then a7 (Prod.snd x_1.2).1 0 false 0 (Prod.snd (Prod.snd x_1).2).1 else 0),.bool (bK (Prod.snd (Prod.snd x_1.2).2).3 (Prod.snd x_1).1)]),some (.ints (some .u64) (aK (Prod.snd (Prod.snd x_1.2).2).3 (Prod.snd x_1).1 (a7 (Prod.snd x_1.2).1 0 false 0 (Prod.snd (Prod.snd x_1).2).1)))]else K (.tup [.ptr 1 0,.agg [.int .i64 t,.int .i64 (W ((↑k:Int)+m))]]) [some (.ints (some .i64) ys),some (.cells [.int .i64 (Prod.snd x).1,.int .i64 (Prod.snd x).2,.slice 2 0 (List.length (Prod.snd x).3) 1,.int .i64 (Prod.snd x).4,.int .i64 (Prod.snd x).5,.int .i64 (Prod.snd x).6,.int .u64 (Prod.snd x).7,.int .u64 (Prod.snd x).8,.bool (Prod.snd x).9]),some (.ints (some .u64) (Prod.snd x).3)]
theorem KS(sh t m:Int)(ys:List Int)(off k:Nat)(K:AVal→aD Ob→Prop)(h:II sh t m ys off k K):cT' 15 [.int .i64 sh,.int .i64 t,.int .i64 m,.slice 0 off k 1] [some (.ints (some .i64) ys)] K:=by
 refine aEl (aE (E:=EW1) Tryz.checked.mixed (L:=(Z5 sh t m ys off k)) (n:=10) (aN (by kernel_rfl) h))
theorem aBm(k:Int)(m:Nat)(f g:Nat→Int)(K:AVal→aD Ob→Prop)(hm:m≤4611686018427387904)(hK:K (.bool (kV k m f g)) []):QX k m f g K:=by
 refine⟨aS (H:=RY k m f g) (0:Nat) rfl ⟨Nat.zero_le _,fun j hj=>by omega⟩,?_⟩
 rintro x ⟨hx,hj⟩
 refine aM (fun e=>?_) (fun e=>?_)
 ·rw [bP,dT']at e
  refine⟨⟨by omega,by omega⟩,trivial,aM (fun e2=>?_) (fun e2=>?_)⟩
  ·have hf:kV k m f g=false:=by
    cases h:kV k m f g with
    | false=>rfl
    | true=>
      have:=pT.1 h x (by omega)
      rw [Int.toNat_natCast]at e2
      rw [this]at e2;cases e2
   rw [hf]at hK;exact hK
  ·have e4:W ((x:Int)+1)=((x+1:Nat):Int):=by rw [W,cJ (by omega)];rfl
   refine aS (H:=RY k m f g) (x+1:Nat) (by simp only [e4]<;>rfl) ⟨⟨by show x+1≤m;omega,?_⟩,by show m - (x+1)<m - x;omega⟩
   intro j hj2
   by_cases hjx:j=x
   ·subst hjx
    rw [Int.toNat_natCast]at e2
    simpa using e2
   ·exact hj j (by omega)
 ·rw [bP,dF']at e
  have ht:kV k m f g=true:=pT.2 fun j hj3=>hj j (by omega)
  rw [ht]at hK;exact hK
def ritS:aH Ob:=fun args h=>match args,h with
 | [.int .i64 k,.view m 2 row],[]=>some (.pre (m≤4611686018427387904∧dS row) (.ret (.bool (kV k m (rK row) (rY row))) []))
 | _,_=>none
theorem aBl:sT' 54 ritS:=by
 intro args h o ho K hK
 unfold ritS at ho
 split at ho<;>cases ho
 rename_i k m row
 obtain⟨⟨hm,⟨hr⟩⟩,hK⟩:=hK
 have hK:K (.bool (kV k m (rK row) (rY row))) []:=hK
 rw [hr]
 exact MO k m (rK row) (rY row) K (aBm k m (rK row) (rY row) K hm hK)
theorem zN{ys:List Int}{off k i:Nat}(ho:off+k=ys.length)(hi:i<k):ys.getD (off+(i:Int).toNat *1) 0=(ys.drop off)[i]'(by rw [List.length_drop];omega):=by
 have e:off+(i:Int).toNat *1=off+i:=by omega
 rw [e,List.getElem_drop,gD',gE' (by omega)];rfl
theorem aAP(xs ys:List Int)(off k:Nat)(K:AVal→aD Ob→Prop)(ho:off+k=ys.length)(hp:xs.length≤4294967296)(hK:K (.bool (lV xs (ys.drop off))) [some (.ints (some .i64) xs),some (.ints (some .i64) ys)]):PM xs ys off k K:=by
 have hd:(ys.drop off).length =k:=by rw [List.length_drop];omega
 have hS:lV xs (ys.drop off)=decide (xs=ys.drop off):=rfl
 refine aM (fun e=>?_) (fun e=>⟨aS (H:=RX xs ys off k) (0:Nat) rfl ⟨Nat.zero_le _,?_,rfl⟩,?_⟩)
 ·rw [bN]at e
  have:xs≠ys.drop off:=by intro h;rw [h,hd]at e;simp at e
  rw [hS,decide_eq_false this]at hK;exact hK
 ·rw [bN]at e;simp at e;omega
 ·rintro i ⟨h1,h2,h3⟩
  refine aM (fun e1=>?_) (fun e1=>?_)
  ·rw [bP,dT']at e1
   have hi:i<xs.length:=by omega
   have hj:i<(ys.drop off).length :=by omega
   have e2:0+(i:Int).toNat *1=i:=by omega
   rw [e2,zN ho (show i<k by omega)]
   refine⟨by omega,hi,by omega,by omega,aM (fun e3=>?_) (fun e3=>?_)⟩
   ·rw [bN]at e3
    have:xs≠ys.drop off:=by
     intro h
     have:xs.getD i 0=(ys.drop off)[i]:=by rw [gD',gE' hi];simp only [h]<;>rfl
     rw [this]at e3;simp at e3
    rw [hS,decide_eq_false this]at hK;exact hK
   ·rw [bN]at e3
    have e3:xs.getD i 0=(ys.drop off)[i]:=by simpa using e3
    have e4:IntKind.wrap .i64 ((i:Int)+1)=((i+1:Nat):Int):=by rw [cJ (by omega)];rfl
    refine aS (H:=RX xs ys off k) (i+1:Nat) (by simp only [W,e4]<;>rfl) ⟨⟨hi,h2,?_⟩,by show xs.length - (i+1)<xs.length - i;omega⟩
    rw [gD',gE' hi]at e3
    rw [List.take_succ_eq_append_getElem hi,List.take_succ_eq_append_getElem hj,h3]
    have e5:xs[i]=(ys.drop off)[i]:=by simpa using e3
    rw [e5]
  ·rw [bP,dF']at e1
   have:xs=ys.drop off:=by
    rw [List.take_of_length_le (by omega),List.take_of_length_le (by omega)]at h3;exact h3
   rw [hS,decide_eq_true this]at hK;exact hK
def iofS:aH Ob:=fun args h=>match args,h with
 | [.slice 0 0 n 1,.slice 1 off k 1],[some (.ints (some .i64) xs),some (.ints (some .i64) ys)]=>some (.pre ((n=xs.length∧off+k=ys.length)∧n≤4294967296) (.ret (.bool (lV xs (ys.drop off))) [some (.ints (some .i64) xs),some (.ints (some .i64) ys)]))
 | _,_=>none
theorem aAO:sT' 33 iofS:=by
 intro args h o ho K hK
 unfold iofS at ho
 split at ho<;>cases ho
 rename_i n off k xs ys
 obtain⟨⟨⟨rfl,hf⟩,hp⟩,hK⟩:=hK
 exact LP xs ys off k K (aAP xs ys off k K hf hp hK)
theorem Z7(sh t m:Int)(ys:List Int)(off k:Nat)(K:AVal→aD Ob→Prop)(ho:off+k=ys.length)(hm:0≤m∧m≤100)(hl:k≤100)(hr:fP t ((k:Int)+m)=true)(hk: ∀q∈ys.drop off,0≤q∧q<1024)
 (hK:K (.tup [.ptr 1 0,.agg [.int .i64 t,.int .i64 ((k:Int)+m)]]) [some (.ints (some .i64) ys),bA 2 (fO sh ((k:Int)+m) (ys.drop off) 4 0 (memN t ((k:Int)+m))),bB (fO sh ((k:Int)+m) (ys.drop off) 4 0 (memN t ((k:Int)+m)))]):II sh t m ys off k K:=by
 have hd:(ys.drop off).length =k:=by rw [List.length_drop];omega
 unfold II
 have hr2:=kD.1 hr
 have hn:W ((k:Int)+m)=k+m:=cJ (by omega)
 have hr':fP t (W ((k:Int)+m))=true:=by rw [hn];exact hr
 have hz:(2*W ((k:Int)+m)+5*t+6).toNat =(2*((k:Int)+m)+5*t+6).toNat :=by rw [hn]
 rw [hr']
 refine⟨trivial,aM (fun e=>by cases e) (fun _=>⟨⟨by omega,by omega,by omega⟩,aM (fun e=>?_) (fun _=>⟨⟨⟨by omega,by omega,by omega⟩,trivial⟩,⟨by omega,rfl,by omega⟩,?_,?_⟩)⟩)⟩
 ·rw [bP,dT']at e;omega
 ·refine aS (H:=uT sh t m ys off k) ((0:Nat),memN t (W ((k:Int)+m))) ?_ ⟨Nat.zero_le _,⟨Int.le_refl 0,by show(0:Int)≤_;omega⟩,rfl⟩
  simp only [uT,bA,bB,memN,List.length_replicate]
  rfl
 ·rintro⟨h,s⟩ ⟨h4,hc,heq⟩
  simp only at h4 hc heq
  refine aM (fun e1=>?_) (fun e1=>?_)
  ·rw [bP,dT']at e1
   refine⟨⟨by omega,by omega,by omega⟩,aS (H:=HFio sh t m ys off k (h:Int)) ((0:Nat),(W ((k:Int)+m)+1+h,((0:Int),((0:Int),s)))) rfl ⟨by omega,Nat.zero_le _,⟨Int.le_refl 0,by show(0:Int)<1024;omega⟩,⟨Int.le_refl 0,by show(0:Int)<262144;omega⟩,⟨hc.1,by show s.c≤1000*(h:Int)+3*((0:Nat):Int);omega⟩,?_⟩,?_⟩
   ·rw [heq,vI _ _ _ _ (by omega)];rfl
   ·rintro⟨i,a,ky,vr,s1⟩ ⟨g4,gi,gk,gv,gc,geq⟩
    simp only at g4 gi gk gv gc geq
    have gc2:s1.c≤1000*(h:Int)+3*i:=gc.2
    have gc1:0≤s1.c:=gc.1
    have gh:(h:Int)<4:=g4.2
    have hskip: ∀(hi:i<k),dQ sh h (ys.getD (off+(i:Int).toNat *1) 0)=true→okSt (HFio sh t m ys off k h) (fun x'=>Hint.ok (HFio sh t m ys off k h) x'∧Hint.mu (HFio sh t m ys off k h) x'<Hint.mu (HFio sh t m ys off k h) (i,a,ky,vr,s1)) ((HFio sh t m ys off k h).st ((i+1:Nat),a,ky,vr,s1)).1 ((HFio sh t m ys off k h).st ((i+1:Nat),a,ky,vr,s1)).2:=by
     intro hi hs
     refine aS (H:=HFio sh t m ys off k h) ((i+1:Nat),a,ky,vr,s1) rfl ⟨⟨g4,(by show i+1≤(ys.drop off).length;omega),gk,gv,⟨gc.1,by show s1.c≤1000*(h:Int)+3*((i+1:Nat):Int);omega⟩,?_⟩,by show k - (i+1)<k - i;omega⟩
     rw [zN ho hi]at hs
     rw [geq,List.drop_eq_getElem_cons (show i<(ys.drop off).length by omega),tK _ _ _ _ _ _ _ _ _ _ hs];rfl
    have hput: ∀(hi:i<k),dQ sh h (ys.getD (off+(i:Int).toNat *1) 0)=false→okSt (HFio sh t m ys off k h) (fun x'=>Hint.ok (HFio sh t m ys off k h) x'∧Hint.mu (HFio sh t m ys off k h) x'<Hint.mu (HFio sh t m ys off k h) (i,a,ky,vr,s1)) ((HFio sh t m ys off k h).st ((i+1:Nat),((i+1:Nat):Int),(ys.getD (off+(i:Int).toNat *1) 0,(3:Int),((s1.stored a (a7 ky ((i:Int)+1) false 0 vr)).stored (W ((k:Int)+m)+4+((i:Int)+1)) 1)))).1 ((HFio sh t m ys off k h).st ((i+1:Nat),((i+1:Nat):Int),(ys.getD (off+(i:Int).toNat *1) 0,(3:Int),((s1.stored a (a7 ky ((i:Int)+1) false 0 vr)).stored (W ((k:Int)+m)+4+((i:Int)+1)) 1)))).2:=by
     intro hi hs
     rw [zN ho hi]at hs⊢
     refine aS (H:=HFio sh t m ys off k h) _ rfl ⟨⟨g4,(by show i+1≤(ys.drop off).length;omega),hk _ (List.getElem_mem _),⟨by show(0:Int)≤3;omega,by show(3:Int)<262144;omega⟩,⟨?_,?_⟩,?_⟩,by show k - (i+1)<k - i;omega⟩
     ·show 0≤s1.c+1+1;omega
     ·show s1.c+1+1≤1000*(h:Int)+3*((i+1:Nat):Int);omega
     ·rw [geq,List.drop_eq_getElem_cons (show i<(ys.drop off).length by omega),tL _ _ _ _ _ _ _ _ _ _ hs];rfl
    have e4:i<k→W ((i:Int)+1)=((i+1:Nat):Int):=fun hi=>(cJ (by omega)).trans rfl
    have e4':W ((h:Int)+1)=((h+1:Nat):Int):=(cJ (by have:(h:Int)<4:=g4.2;omega)).trans rfl
    refine aM (fun e2=>?_) (fun e2=>?_)
    ·rw [bP,dT']at e2
     have hi:i<k:=by omega
     have e4:=e4 hi
     have e0:off+(i:Int).toNat *1<ys.length:=by omega
     refine⟨⟨by omega,by omega⟩,e0,?_⟩
     have hput:=hput hi
     have hskip:=hskip hi
     unfold dQ at hput hskip
     simp only [e4]at hput hskip⊢
     refine aM (fun e5=>?_) (fun e5=>?_)
     ·rw [e5]at hput hskip
      refine⟨by decide,aM (fun e6=>?_) (fun e6=>?_)⟩
      ·exact hskip e6
      ·rw [e5]
       refine aM (fun e7=>by cases e7) (fun _=>?_)
       refine⟨⟨gk,⟨by omega,by omega⟩,⟨by decide,by decide⟩,gv⟩,⟨trivial,gc.1,by omega⟩,⟨⟨by omega,by omega⟩,⟨by omega,by omega⟩,by omega,by omega⟩,⟨trivial,by omega,by omega⟩,?_⟩
       exact hput e6
     ·rw [e5]at hput hskip
      rw [e5]
      refine aM (fun _=>aM (fun e6=>?_) (fun e6=>?_)) (fun e7=>by cases e7)
      ·exact hskip e6
      ·refine⟨⟨gk,⟨by omega,by omega⟩,⟨by decide,by decide⟩,gv⟩,⟨trivial,gc.1,by omega⟩,⟨⟨by omega,by omega⟩,⟨by omega,by omega⟩,by omega,by omega⟩,⟨trivial,by omega,by omega⟩,?_⟩
       exact hput e6
    ·rw [bP,dF']at e2
     have hi:i=k:=by omega
     refine⟨⟨gk,⟨by decide,by decide⟩,⟨by decide,by decide⟩,gv⟩,⟨rfl,gc1,by show s1.c≤4611686018427387904;omega⟩,aS (H:=uT sh t m ys off k) ((h+1:Nat),s1.stored a (a7 ky 0 false 0 vr)) ?_ ⟨⟨by show h+1≤4;omega,⟨by show 0≤s1.c+1;omega,by show s1.c+1≤1000*((h+1:Nat):Int);omega⟩,?_⟩,by show 4 - (h+1)<4 - h;omega⟩⟩
     ·simp only [uT,←e4']
      rfl
     ·rw [geq,show(ys.drop off).drop i=[]from List.drop_eq_nil_of_le (by omega)]
      have e9:(3 - (h:Int)).toNat =4 - (h+1):=by omega
      rw [e9];rfl
  ·rw [bP,dF']at e1
   have e5:h=4:=by omega
   subst e5
   have heq':fO sh (W ((k:Int)+m)) (ys.drop off) 4 0 (memN t (W ((k:Int)+m)))=s:=heq
   rw [hn]at heq'
   rw [heq']at hK
   rw [hn]
   exact hK
def fillSo:aH Ob:=fun args h=>match args,h with
 | [.int .i64 sh,.int .i64 t,.int .i64 m,.slice 0 off k 1],[some (.ints (some .i64) ys)]=>some (.pre (off+k=ys.length∧vH t m (ys.drop off)) (.ret (.tup [.ptr 1 0,.agg [.int .i64 t,.int .i64 (k+m)]]) [some (.ints (some .i64) ys),bA 2 (eM sh t (k+m) (ys.drop off)),bB (eM sh t (k+m) (ys.drop off))]))
 | _,_=>none
theorem OS:sT' 15 fillSo:=by
 intro args h o ho K hK
 unfold fillSo at ho
 split at ho<;>cases ho
 rename_i sh t m off k ys
 obtain⟨⟨hf,ok⟩,hK⟩:=hK
 have hd:(ys.drop off).length =k:=by rw [List.length_drop];omega
 exact KS sh t m ys off k K (Z7 sh t m ys off k K hf ok.hm (by rw [←hd];exact ok.hl) (by rw [←hd];exact ok.hr) ok.hk hK)
noncomputable def EW2:=((EW1.addS 54 ritS aBl).addS 33 iofS aAO).addS 15 (aH.or fillSo fillSb) (aEA OS CS)
def kS(sh:Int):Int:=IntKind.wrap .i64 (1+Int.tmod (IntKind.wrap .i64 sh) 4)
def nA(m:Nat):Nat:=Int.toNat (IntKind.wrap .i64 ((m:Int) - 1))
def iR(sh:Int)(m:Nat)(f g:Nat→Int):List Int:=bH (kS sh) f g (nA m)
def iD(sh:Int)(m:Nat)(f g:Nat→Int):List Int:=List.drop (eJ (kS sh) f g (nA m)) (fH (kS sh) f g (nA m))
def nN(sh:Int)(m:Nat)(f g:Nat→Int):Int:=((iR sh m f g).length :Int)+1
def sM(sh:Int)(m:Nat)(f g:Nat→Int):MS:=(eM (kS sh) 2 (nN sh m f g) (iD sh m f g)).stored (nN sh m f g+4+nN sh m f g) 1
def aR(sh:Int)(m:Nat)(f g:Nat→Int)(lim:Int):List (List Int)×Nat×STS×MS:=pW 2 (nN sh m f g) (Int.tmod (IntKind.wrap .i64 lim) 50) [[kS sh,f (nA m),g (nA m)]] ⟨1,0,[]⟩ (sM sh m f g)
def JF(sh:Int)(m:Nat)(f g:Nat→Int)(lim:Int)(K:AVal→aD Ob→Prop):Prop:=True∧(4:Int)≠(0:Int)∧bif ieq (↑m:Int) 0 then K (.bool true) []else bif ilt 13 (↑m:Int)then K (.bool true) []else(m≤(4611686018427387904:Nat)∧dS fun i=>[.int .i64 (f i),.int .i64 (g i)])∧bif !kV (kS sh) m f g then K (.bool true) []else((0:Int)≤W ((↑m:Int) - 1)∧nA m≤m)∧((0:Int)≤W ((↑m:Int) - 1)∧W ((↑m:Int) - 1)<(↑m:Int))∧(nA m≤(1000000:Nat)∧dS fun i=>[.int .i64 (f i),.int .i64 (g i)])∧(eJ (kS sh) f g (nA m)+List.length (iR sh m f g)=List.length (fH (kS sh) f g (nA m))∧vH 2 1 (iD sh m f g))∧(((0:Int)≤(2:Int)∧(2:Int)≤(100000:Int))∧((0:Int)≤nN sh m f g∧(↑(List.length (iR sh m f g)):Int)+(1:Int)≤(100000:Int))∧(-1099511627776:Int)≤nN sh m f g∧(↑(List.length (iR sh m f g)):Int)+(1:Int)≤(1099511627776:Int))∧(lE' (eM (kS sh) 2 (nN sh m f g) (iD sh m f g)).3∧(0:Int)≤(eM (kS sh) 2 (nN sh m f g) (iD sh m f g)).4∧(eM (kS sh) 2 (nN sh m f g) (iD sh m f g)).4≤(4611686018427387904:Int))∧(True∧True)∧(50:Int)≠(0:Int)∧(((List.length (sM sh m f g).xs =List.length (sM sh m f g).xs ∧1=1)∧List.length [[kS sh,f (nA m),g (nA m)]]≤(1000000:Nat)∧BF 2 (nN sh m f g) (Int.tmod (W lim) 50) [[kS sh,f (nA m),g (nA m)]] {me:=1,sp:=0,R:=[] } (sM sh m f g))∧True)∧bif !ieq (↑(List.length (aR sh m f g lim).1):Int) 1 then K (.bool false) []else bif ieq (f (nA m)) 1 then((0:Int)≤(0:Int)∧(0:Int)<(↑(List.length (aR sh m f g lim).1):Int))∧0+Int.toNat (0:Int)<List.length (aR sh m f g lim).1∧bif bif ieq (List.headD (List.getD (aR sh m f g lim).1 (0+Int.toNat 0) []) 0) 4 then bif !!ieq (List.headD (List.tail (List.getD (aR sh m f g lim).1 (0+Int.toNat 0) [])) 0) 0 then bif ieq (List.headD (List.tail (List.tail (List.getD (aR sh m f g lim).1 (0+Int.toNat 0) []))) 0) 0 then true else false else false else false then(lE' (Prod.snd (Prod.snd (aR sh m f g lim)).2).3∧(0:Int)≤nN sh m f g∧(↑(List.length (iR sh m f g)):Int)+(1:Int)≤(100000:Int))∧((lE' (dJ (Prod.snd (Prod.snd (aR sh m f g lim)).2).3 (nN sh m f g) (kS sh))∧eJ (kS sh) f g (nA m)+List.length (iR sh m f g)=List.length (fH (kS sh) f g (nA m)))∧List.length (dJ (Prod.snd (Prod.snd (aR sh m f g lim)).2).3 (nN sh m f g) (kS sh))≤(4294967296:Nat))∧K (.bool (lV (dJ (Prod.snd (Prod.snd (aR sh m f g lim)).2).3 (nN sh m f g) (kS sh)) (iD sh m f g))) []else K (.bool false) []else bif ieq (f (nA m)) 4 then((0:Int)≤(0:Int)∧(0:Int)<(↑(List.length (aR sh m f g lim).1):Int))∧0+Int.toNat (0:Int)<List.length (aR sh m f g lim).1∧bif bif ieq (List.headD (List.getD (aR sh m f g lim).1 (0+Int.toNat 0) []) 0) 4 then bif !!ieq (List.headD (List.tail (List.getD (aR sh m f g lim).1 (0+Int.toNat 0) [])) 0) 0 then bif ieq (List.headD (List.tail (List.tail (List.getD (aR sh m f g lim).1 (0+Int.toNat 0) []))) 0) 0 then true else false else false else false then(lE' (Prod.snd (Prod.snd (aR sh m f g lim)).2).3∧(0:Int)≤nN sh m f g∧(↑(List.length (iR sh m f g)):Int)+(1:Int)≤(100000:Int))∧((lE' (dJ (Prod.snd (Prod.snd (aR sh m f g lim)).2).3 (nN sh m f g) (kS sh))∧eJ (kS sh) f g (nA m)+List.length (iR sh m f g)=List.length (fH (kS sh) f g (nA m)))∧List.length (dJ (Prod.snd (Prod.snd (aR sh m f g lim)).2).3 (nN sh m f g) (kS sh))≤(4294967296:Nat))∧K (.bool (lV (dJ (Prod.snd (Prod.snd (aR sh m f g lim)).2).3 (nN sh m f g) (kS sh)) (iD sh m f g))) []else K (.bool false) []else((0:Int)≤(0:Int)∧(0:Int)<(↑(List.length (aR sh m f g lim).1):Int))∧0+Int.toNat (0:Int)<List.length (aR sh m f g lim).1∧((nA m≤(1000000:Nat)∧dS fun i=>[.int .i64 (f i),.int .i64 (g i)])∧True)∧bif bif ieq (List.headD (List.getD (aR sh m f g lim).1 (0+Int.toNat 0) []) 0) 0 then bif bif !ieq (List.headD (List.tail (List.getD (aR sh m f g lim).1 (0+Int.toNat 0) [])) 0) 0 then resB (kS sh) f g (nA m) (f (nA m)) (g (nA m))else !resB (kS sh) f g (nA m) (f (nA m)) (g (nA m))then bif ieq (List.headD (List.tail (List.tail (List.getD (aR sh m f g lim).1 (0+Int.toNat 0) []))) 0) (resV (kS sh) f g (nA m) (f (nA m)) (g (nA m)))then true else false else false else false then((lE' (Prod.snd (Prod.snd (aR sh m f g lim)).2).3∧(0:Int)≤nN sh m f g∧(↑(List.length (iR sh m f g)):Int)+(1:Int)≤(100000:Int))∧True)∧((m≤(1000000:Nat)∧dS fun i=>[.int .i64 (f i),.int .i64 (g i)])∧True)∧(((lE' (dJ (Prod.snd (Prod.snd (aR sh m f g lim)).2).3 (nN sh m f g) (kS sh))∧eJ (kS sh) f g m+List.length (bH (kS sh) f g m)=List.length (fH (kS sh) f g m))∧List.length (dJ (Prod.snd (Prod.snd (aR sh m f g lim)).2).3 (nN sh m f g) (kS sh))≤(4294967296:Nat))∧True)∧K (.bool (lV (dJ (Prod.snd (Prod.snd (aR sh m f g lim)).2).3 (nN sh m f g) (kS sh)) (List.drop (eJ (kS sh) f g m) (fH (kS sh) f g m)))) []else K (.bool false) []
theorem MR(sh:Int)(m:Nat)(f g:Nat→Int)(lim:Int)(K:AVal→aD Ob→Prop)(h:JF sh m f g lim K):cT' 10 [.int .u8 sh,.view m 2 (fun i=>[.int .i64 (f i),.int .i64 (g i)]),.int .u8 lim] [] K:=by
 refine aEl (cM' (E:=EW2) (by kernel_rfl) h)
theorem aEy{X:Type}{K:X→Prop} : ∀ {t:Tr X},t.run K→t.ok
 | .ret x,k=>trivial
 | .ite b l r,k=>by cases b with
   | true=>exact aEy (t:=l) k
   | false=>exact aEy (t:=r) k
 | .pre p t,k=>⟨k.1,aEy (t:=t) k.2⟩
theorem aEv{X:Type}{K:X→Prop} : ∀ {t:Tr X},t.run K→K t.val
 | .ret x,k=>k
 | .ite b l r,k=>by cases b with
   | true=>exact aEv (t:=l) k
   | false=>exact aEv (t:=r) k
 | .pre p t,k=>aEv (t:=t) k.2
theorem Tr.run_ite{X:Type}{K:X→Prop}{b:Bool}{l r:Tr X}(h1:b=true→l.run K)(h2:b=false→r.run K):(Tr.ite b l r).run K:=aM h1 h2
theorem aEn{X:Type}{K:X→Prop}{b:Bool}{l r:Tr X}(h1:b=true→l.run K)(h2:b=false→r.run K):(bif b then l else r).run K:=by
 cases b with
 | true=>exact h1 rfl
 | false=>exact h2 rfl
theorem aEo{X:Type}{K:X→Prop}{p:Prop}{t:Tr X}(h1:p)(h2:t.run K):(Tr.pre p t).run K:=⟨h1,h2⟩
theorem aEp{X:Type}{K:X→Prop}{x:X}(h:K x):(Tr.ret x).run K:=h
theorem nE'{P Q:Prop}(h:¬P:=by dsimp only;decide):P→Q:=fun e=>absurd e h
structure rngU (x:Int):Prop where
 h0:0≤x
 h1:x≤18446744073709551615
theorem D6:rngU 0:=⟨by decide,by decide⟩
theorem HB(x:Int):rngU (WU x):=⟨(rV x).1,(rV x).2⟩
theorem QZ{xs:List Int}(h:okW xs)(a:Int):rngU (aB xs a):=⟨(jR h a).1,(jR h a).2⟩
theorem AP{b:Bool}{x y:Int}(h1:b=true→rngU x)(h2:rngU y):rngU (bif b then x else y):=by
 cases b with
 | true=>exact h1 rfl
 | false=>exact h2
theorem kO{n w:Int}(h:aG n w=true):0≤n∧n<2^w.toNat:=by
 unfold aG at h;simp only [Bool.and_eq_true,cD,bP,dT']at h;exact h
theorem NU(b:Bool):0≤bitI b∧bitI b≤1:=by cases b<;>decide
theorem QY{a b c d e f:Int}{m:Bool} :rngU (bif dOk a b c d e f then cR a b c d m e f else 0):=by
 refine AP (fun h=>?_) D6;unfold dOk at h;simp only [Bool.and_eq_true]at h;obtain⟨h1,h2,h3,h4,h5,h6⟩:=h;have h1:=kO h1;have h2:=kO h2;have h3:=kO h3;have h4:=kO h4;have h5:=kO h5;have h6:=kO h6;have hb:=NU m;simp only [Int.reduceToNat,Int.reducePow]at h1 h2 h3 h4 h5 h6;unfold cR;exact⟨by omega,by omega⟩
theorem V6{a b c v:Int}{m:Bool} :rngU (bif bif aG a 10 then bif aG b 9 then bif aG c 5 then aG v 18 else false else false else false then a7 a b m c v else 0):=by
 refine AP (fun h=>?_) D6;cases h1:aG a 10 with
 | false=>rw [h1]at h;cases h
 | true=>
   cases h2:aG b 9 with
   | false=>rw [h1,h2]at h;cases h
   | true=>
     cases h3:aG c 5 with
     | false=>rw [h1,h2,h3]at h;cases h
     | true=>
       rw [h1,h2,h3]at h;have h:=kO (show aG v 18=true from h)
       have h1:=kO h1;have h2:=kO h2;have h3:=kO h3;have hb:=NU m;simp only [Int.reduceToNat,Int.reducePow]at h h1 h2 h3;unfold a7;exact⟨by omega,by omega⟩
structure Act1 (s s':MS):Prop where
 c:s'.c=s.c+1
 len:s'.xs.length=s.xs.length
 w:okW s.xs→okW s'.xs
 t:s'.t=s.t
 n:s'.n=s.n
theorem BE(s:MS)(k a o w:Int)(ok:Bool):Act1 s ⟨s.t,s.n,s.xs,s.c+1,k,a,o,w,ok⟩:=⟨rfl,rfl,id,rfl,rfl⟩
theorem y6(s:MS)(b v k a o w:Int)(ok:Bool)(h:rngU v):Act1 s ⟨s.t,s.n,aK s.xs b v,s.c+1,k,a,o,w,ok⟩:=⟨rfl,b9 _ _ _,fun hw=>eB hw ⟨h.h0,h.h1⟩,rfl,rfl⟩
theorem HM(s:MS)(q:Bool)(b v k a o w:Int)(ok:Bool)(h:rngU v):Act1 s ⟨s.t,s.n,bif q then aK s.xs b v else s.xs,s.c+1,k,a,o,w,ok⟩:=by
 cases q with
 | true=>exact y6 s b v k a o w ok h
 | false=>exact BE s k a o w ok
theorem SU(x a:Int)(w:Int):0≤aA x a w∧aA x a w<2^w.toNat:=l9
structure kZ (t n:Int) (s:MS):Prop where
 ht:1≤t∧t≤1000
 hn:1≤n∧n≤1000
 hc:0≤s.c∧s.c≤900000
 hw:okW s.xs
theorem nX{P:Prop}(h:P:=by(with_reducible first | exact D6 | exact HB _ | exact QY | exact V6 | assumption)):P:=h
theorem BZ{P:Prop}(h:P:=by(simp only [aA,Int.reduceToNat,Int.reducePow];omega)):P:=h
theorem aX{P:Prop}(h:P:=by(first
 | with_reducible exact trivial
 | with_reducible rfl
 | with_reducible assumption
 | with_reducible exact BE _ _ _ _ _ _
 | ((with_reducible refine y6 _ _ _ _ _ _ _ _ ?_);exact nX)
 | ((with_reducible refine HM _ _ _ _ _ _ _ _ _ ?_);exact nX)
 | omega
 | exact BZ
 | decide)):P:=h
theorem wT{P:Prop}(h:P:=by first | exact nX | (exact QZ (by assumption) _)):P:=h
theorem dH{P:Prop}(h:P:=by(dsimp only;first | omega | (constructor<;>omega) | exact BZ)):P:=h
structure W3 (t:Int) (x:CLS):Prop where
 h:x.at'=0∨x.at'=1∨x.at'=2∨x.at'=3
structure aB7 (t:Int) (s:MS) (o:ClO):Prop where
 a:Act1 s o.s
 w:o.d=false→W3 t o.x
theorem W4{t n:Int}{x:CLS}{s:MS}(hb:kZ t n s)(hx:W3 t x):(clT t n x s).run (aB7 t s):=by
 obtain⟨⟨t0,t1⟩,⟨n0,n1⟩,⟨c0,c1⟩,hw⟩:=hb;obtain⟨h⟩:=hx;unfold clT;refine aEn (fun h0=>?_) (fun h0=>aEn (fun h1=>?_) (fun h1=>aEn (fun h2=>?_) (fun h2=>aEn (fun h3=>?_) (fun h3=>?_))))
 ·unfold BV
  (repeat' (with_reducible first | exact trivial | rfl | assumption | refine aEo ?_ ?_ | refine Tr.run_ite (fun _=>?_) (fun _=>?_) | refine aEp ?_ | refine And.intro ?_ ?_))
  all_goals first | exact aX | (refine⟨by exact aX,fun hd=>?_⟩;first | (exact Bool.noConfusion hd) | exact⟨by dsimp only;decide⟩)
 ·unfold BW
  (repeat' (with_reducible first | exact trivial | rfl | assumption | refine aEo ?_ ?_ | refine Tr.run_ite (fun _=>?_) (fun _=>?_) | refine aEp ?_ | refine And.intro ?_ ?_))
  all_goals first | exact aX | (refine⟨by exact aX,fun hd=>?_⟩;first | (exact Bool.noConfusion hd) | exact⟨by dsimp only;decide⟩)
 ·unfold BX
  (repeat' (with_reducible first | exact trivial | rfl | assumption | refine aEo ?_ ?_ | refine Tr.run_ite (fun _=>?_) (fun _=>?_) | refine aEp ?_ | refine And.intro ?_ ?_))
  all_goals first | exact aX | (refine⟨by exact aX,fun hd=>?_⟩;first | (exact Bool.noConfusion hd) | exact⟨by dsimp only;decide⟩)
 ·unfold BY
  (repeat' (with_reducible first | exact trivial | rfl | assumption | refine aEo ?_ ?_ | refine Tr.run_ite (fun _=>?_) (fun _=>?_) | refine aEp ?_ | refine And.intro ?_ ?_))
  all_goals first | exact aX | (refine⟨by exact aX,fun hd=>?_⟩;first | (exact Bool.noConfusion hd) | exact⟨by dsimp only;decide⟩)
 ·simp only [bN,beq_eq_false_iff_ne]at h0 h1 h2 h3;rcases h with e | e | e | e<;>contradiction
theorem FO{t n:Int}{x:CLS}{s:MS}(hb:kZ t n s)(hx:W3 t x):NY t n x s:=aEy (W4 hb hx)
theorem zE{t n:Int}{x:CLS}{s:MS}(hb:kZ t n s)(hx:W3 t x):aB7 t s (dN t n x s):=aEv (W4 hb hx)
structure hdW (t:Int) (x:HDS):Prop where
 h:0≤x.at'∧x.at'≤1000
 u: -1≤x.u∧x.u≤1000
structure aCE (t:Int) (s:MS) (o:HdO):Prop where
 a:Act1 s o.s
 w:o.d=false→hdW t o.x
 p: -1≤o.x.u∧o.x.u≤1000
theorem XH{t n:Int}{x:HDS}{s:MS}(hb:kZ t n s)(hx:hdW t x):(hdT t n x s).run (aCE t s):=by
 obtain⟨⟨t0,t1⟩,⟨n0,n1⟩,⟨c0,c1⟩,hw⟩:=hb;obtain⟨⟨h0,h1⟩,⟨u0,u1⟩⟩:=hx;have hW:W (x.at'+1)=x.at'+1:=cJ ⟨by omega,by omega⟩
 unfold hdT;unfold PA;rw [hW]
 (repeat' (with_reducible first | exact trivial | rfl | assumption | refine aEo ?_ ?_ | refine Tr.run_ite (fun _=>?_) (fun _=>?_) | refine aEp ?_ | refine And.intro ?_ ?_))
 all_goals first | exact aX | (refine⟨by exact aX,fun hd=>by first | (exact Bool.noConfusion hd) | (refine⟨?_,?_⟩<;>dsimp only at hd⊢ <;>first | omega | (simp only [cD,dF']at hd;omega)),?_⟩;exact dH)
theorem aAy{t n:Int}{x:HDS}{s:MS}(hb:kZ t n s)(hx:hdW t x):aAu t n x s:=aEy (XH hb hx)
theorem aAz{t n:Int}{x:HDS}{s:MS}(hb:kZ t n s)(hx:hdW t x):aCE t s (hdF t n x s):=aEv (XH hb hx)
structure drW (t:Int) (x:DRS):Prop where
 h:0≤x.th∧x.th≤1000
 u:0≤x.at'∧x.at'≤2
structure aCp (t:Int) (s:MS) (o:DrO):Prop where
 a:Act1 s o.s
 w:o.d=false→drW t o.x
theorem W9{t n:Int}{x:DRS}{s:MS}(hb:kZ t n s)(hx:drW t x):(W8 t n x s).run (aCp t s):=by
 obtain⟨⟨t0,t1⟩,⟨n0,n1⟩,⟨c0,c1⟩,hw⟩:=hb;obtain⟨⟨h0,h1⟩,⟨u0,u1⟩⟩:=hx;have hW:W (x.at'+1)=x.at'+1:=cJ ⟨by omega,by omega⟩
 unfold W8;unfold KB;rw [hW]
 (repeat' (with_reducible first | exact trivial | rfl | assumption | refine aEo ?_ ?_ | refine Tr.run_ite (fun _=>?_) (fun _=>?_) | refine aEp ?_ | refine And.intro ?_ ?_))
 all_goals first | exact aX | (refine⟨by exact aX,fun hd=>?_⟩;first | (exact Bool.noConfusion hd) | (refine⟨?_,?_⟩<;>dsimp only at hd⊢ <;>first | omega | (simp only [cD,dF']at hd;omega)))
theorem ZK{t n:Int}{x:DRS}{s:MS}(hb:kZ t n s)(hx:drW t x):ZH t n x s:=aEy (W9 hb hx)
theorem ZL{t n:Int}{x:DRS}{s:MS}(hb:kZ t n s)(hx:drW t x):aCp t s (drF t n x s):=aEv (W9 hb hx)
structure anW (t:Int) (x:ANS):Prop where
 h:x.at'=0∨x.at'=1∨x.at'=2∨x.at'=3∨x.at'=4
 m:0≤x.me∧x.me≤1000
 b:rngU x.bits
 q:rngU x.no
structure aB0 (t:Int) (s:MS) (o:AnO):Prop where
 a:Act1 s o.s
 w:o.d=false→anW t o.x
theorem WZ{t n:Int}{x:ANS}{s:MS}(hb:kZ t n s)(hx:anW t x):(anT t n x s).run (aB0 t s):=by
 obtain⟨⟨t0,t1⟩,⟨n0,n1⟩,⟨c0,c1⟩,hw⟩:=hb;obtain⟨h,⟨m0,m1⟩,b,q⟩:=hx;unfold anT;refine aEn (fun h0=>?_) (fun h0=>aEn (fun h1=>?_) (fun h1=>aEn (fun h2=>?_) (fun h2=>aEn (fun h3=>?_) (fun h3=>aEn (fun h4=>?_) (fun h4=>?_)))))
 ·unfold BJ
  (repeat' (with_reducible first | exact trivial | rfl | assumption | refine aEo ?_ ?_ | refine Tr.run_ite (fun _=>?_) (fun _=>?_) | refine aEp ?_ | refine And.intro ?_ ?_))
  all_goals first | exact aX | (refine⟨by exact aX,fun hd=>?_⟩;first | (exact Bool.noConfusion hd) | exact⟨by dsimp only;decide,⟨m0,m1⟩,by assumption,by exact wT⟩)
 ·unfold BK
  (repeat' (with_reducible first | exact trivial | rfl | assumption | refine aEo ?_ ?_ | refine Tr.run_ite (fun _=>?_) (fun _=>?_) | refine aEp ?_ | refine And.intro ?_ ?_))
  all_goals first | exact aX | (refine⟨by exact aX,fun hd=>?_⟩;first | (exact Bool.noConfusion hd) | exact⟨by dsimp only;decide,⟨m0,m1⟩,by assumption,by exact wT⟩)
 ·unfold BL
  (repeat' (with_reducible first | exact trivial | rfl | assumption | refine aEo ?_ ?_ | refine Tr.run_ite (fun _=>?_) (fun _=>?_) | refine aEp ?_ | refine And.intro ?_ ?_))
  all_goals first | exact aX | (refine⟨by exact aX,fun hd=>?_⟩;first | (exact Bool.noConfusion hd) | exact⟨by dsimp only;decide,⟨m0,m1⟩,by assumption,by exact wT⟩)
 ·unfold BM
  (repeat' (with_reducible first | exact trivial | rfl | assumption | refine aEo ?_ ?_ | refine Tr.run_ite (fun _=>?_) (fun _=>?_) | refine aEp ?_ | refine And.intro ?_ ?_))
  all_goals first | exact aX | (refine⟨by exact aX,fun hd=>?_⟩;first | (exact Bool.noConfusion hd) | exact⟨by dsimp only;decide,⟨m0,m1⟩,by assumption,by exact wT⟩)
 ·unfold BN
  (repeat' (with_reducible first | exact trivial | rfl | assumption | refine aEo ?_ ?_ | refine Tr.run_ite (fun _=>?_) (fun _=>?_) | refine aEp ?_ | refine And.intro ?_ ?_))
  all_goals first | exact aX | (refine⟨by exact aX,fun hd=>?_⟩;first | (exact Bool.noConfusion hd) | exact⟨by dsimp only;decide,⟨m0,m1⟩,by assumption,by exact wT⟩)
 ·simp only [bN,beq_eq_false_iff_ne]at h0 h1 h2 h3 h4;rcases h with e | e | e | e | e<;>contradiction
theorem YE{t n:Int}{x:ANS}{s:MS}(hb:kZ t n s)(hx:anW t x):YC t n x s:=aEy (WZ hb hx)
theorem YF{t n:Int}{x:ANS}{s:MS}(hb:kZ t n s)(hx:anW t x):aB0 t s (oX t n x s):=aEv (WZ hb hx)
structure awW (t:Int) (x:AWS):Prop where
 m:0≤x.me∧x.me≤1000
structure aB4 (t:Int) (s:MS) (o:AwO):Prop where
 a:Act1 s o.s
 w:o.d=false→awW t o.x
theorem W2{t n:Int}{x:AWS}{s:MS}(hb:kZ t n s)(hx:awW t x):(awT t n x s).run (aB4 t s):=by
 obtain⟨⟨t0,t1⟩,⟨n0,n1⟩,⟨c0,c1⟩,hw⟩:=hb;obtain⟨⟨m0,m1⟩⟩:=hx;unfold awT;unfold SF
 (repeat' (with_reducible first | exact trivial | rfl | assumption | refine aEo ?_ ?_ | refine Tr.run_ite (fun _=>?_) (fun _=>?_) | refine aEp ?_ | refine And.intro ?_ ?_))
 all_goals first | exact aX | (refine⟨by exact aX,fun hd=>?_⟩;first | (exact Bool.noConfusion hd) | exact⟨⟨m0,m1⟩⟩)
theorem YN{t n:Int}{x:AWS}{s:MS}(hb:kZ t n s)(hx:awW t x):YK t n x s:=aEy (W2 hb hx)
theorem YO{t n:Int}{x:AWS}{s:MS}(hb:kZ t n s)(hx:awW t x):aB4 t s (gE t n x s):=aEv (W2 hb hx)
structure exW (t:Int) (x:EXS):Prop where
 h:x.at'=0∨x.at'=1∨x.at'=2∨x.at'=3∨x.at'=4∨x.at'=5∨x.at'=6∨x.at'=7∨x.at'=8∨x.at'=9
 m:0≤x.u∧x.u≤1000
 po:0≤x.popped∧x.popped≤1000
structure aCv (t:Int) (s:MS) (o:ExO):Prop where
 a:Act1 s o.s
 w:o.d=false→exW t o.x
 p:0≤o.x.popped∧o.x.popped≤1000
theorem XA{t n:Int}{x:EXS}{s:MS}(hb:kZ t n s)(hx:exW t x):(exT t n x s).run (aCv t s):=by
 obtain⟨⟨t0,t1⟩,⟨n0,n1⟩,⟨c0,c1⟩,hw⟩:=hb;obtain⟨h,⟨m0,m1⟩,⟨p0,p1⟩⟩:=hx;unfold exT;refine aEn (fun h0=>?_) (fun h0=>aEn (fun h1=>?_) (fun h1=>aEn (fun h2=>?_) (fun h2=>aEn (fun h3=>?_) (fun h3=>aEn (fun h4=>?_) (fun h4=>aEn (fun h5=>?_) (fun h5=>aEn (fun h6=>?_) (fun h6=>aEn (fun h7=>?_) (fun h7=>aEn (fun h8=>?_) (fun h8=>aEn (fun h9=>?_) (fun h9=>?_))))))))))
 ·unfold CG
  (repeat' (with_reducible first | exact trivial | rfl | assumption | refine aEo ?_ ?_ | refine Tr.run_ite (fun _=>?_) (fun _=>?_) | refine aEp ?_ | refine And.intro ?_ ?_))
  all_goals first | exact aX | (refine⟨by exact aX,fun hd=>by first | (exact Bool.noConfusion hd) | exact⟨by dsimp only;decide,⟨m0,m1⟩,by exact dH⟩,?_⟩;exact dH)
 ·unfold CH
  (repeat' (with_reducible first | exact trivial | rfl | assumption | refine aEo ?_ ?_ | refine Tr.run_ite (fun _=>?_) (fun _=>?_) | refine aEp ?_ | refine And.intro ?_ ?_))
  all_goals first | exact aX | (refine⟨by exact aX,fun hd=>by first | (exact Bool.noConfusion hd) | exact⟨by dsimp only;decide,⟨m0,m1⟩,by exact dH⟩,?_⟩;exact dH)
 ·unfold CI
  (repeat' (with_reducible first | exact trivial | rfl | assumption | refine aEo ?_ ?_ | refine Tr.run_ite (fun _=>?_) (fun _=>?_) | refine aEp ?_ | refine And.intro ?_ ?_))
  all_goals first | exact aX | (refine⟨by exact aX,fun hd=>by first | (exact Bool.noConfusion hd) | exact⟨by dsimp only;decide,⟨m0,m1⟩,by exact dH⟩,?_⟩;exact dH)
 ·unfold CJ
  (repeat' (with_reducible first | exact trivial | rfl | assumption | refine aEo ?_ ?_ | refine Tr.run_ite (fun _=>?_) (fun _=>?_) | refine aEp ?_ | refine And.intro ?_ ?_))
  all_goals first | exact aX | (refine⟨by exact aX,fun hd=>by first | (exact Bool.noConfusion hd) | exact⟨by dsimp only;decide,⟨m0,m1⟩,by exact dH⟩,?_⟩;exact dH)
 ·unfold CK
  (repeat' (with_reducible first | exact trivial | rfl | assumption | refine aEo ?_ ?_ | refine Tr.run_ite (fun _=>?_) (fun _=>?_) | refine aEp ?_ | refine And.intro ?_ ?_))
  all_goals first | exact aX | (refine⟨by exact aX,fun hd=>by first | (exact Bool.noConfusion hd) | exact⟨by dsimp only;decide,⟨m0,m1⟩,by exact dH⟩,?_⟩;exact dH)
 ·unfold CL
  (repeat' (with_reducible first | exact trivial | rfl | assumption | refine aEo ?_ ?_ | refine Tr.run_ite (fun _=>?_) (fun _=>?_) | refine aEp ?_ | refine And.intro ?_ ?_))
  all_goals first | exact aX | (refine⟨by exact aX,fun hd=>by first | (exact Bool.noConfusion hd) | exact⟨by dsimp only;decide,⟨m0,m1⟩,by exact dH⟩,?_⟩;exact dH)
 ·unfold CM
  (repeat' (with_reducible first | exact trivial | rfl | assumption | refine aEo ?_ ?_ | refine Tr.run_ite (fun _=>?_) (fun _=>?_) | refine aEp ?_ | refine And.intro ?_ ?_))
  all_goals first | exact aX | (refine⟨by exact aX,fun hd=>by first | (exact Bool.noConfusion hd) | exact⟨by dsimp only;decide,⟨m0,m1⟩,by exact dH⟩,?_⟩;exact dH)
 ·unfold CN
  (repeat' (with_reducible first | exact trivial | rfl | assumption | refine aEo ?_ ?_ | refine Tr.run_ite (fun _=>?_) (fun _=>?_) | refine aEp ?_ | refine And.intro ?_ ?_))
  all_goals first | exact aX | (refine⟨by exact aX,fun hd=>by first | (exact Bool.noConfusion hd) | exact⟨by dsimp only;decide,⟨m0,m1⟩,by exact dH⟩,?_⟩;exact dH)
 ·unfold CO
  (repeat' (with_reducible first | exact trivial | rfl | assumption | refine aEo ?_ ?_ | refine Tr.run_ite (fun _=>?_) (fun _=>?_) | refine aEp ?_ | refine And.intro ?_ ?_))
  all_goals first | exact aX | (refine⟨by exact aX,fun hd=>by first | (exact Bool.noConfusion hd) | exact⟨by dsimp only;decide,⟨m0,m1⟩,by exact dH⟩,?_⟩;exact dH)
 ·unfold CP
  (repeat' (with_reducible first | exact trivial | rfl | assumption | refine aEo ?_ ?_ | refine Tr.run_ite (fun _=>?_) (fun _=>?_) | refine aEp ?_ | refine And.intro ?_ ?_))
  all_goals first | exact aX | (refine⟨by exact aX,fun hd=>by first | (exact Bool.noConfusion hd) | exact⟨by dsimp only;decide,⟨m0,m1⟩,by exact dH⟩,?_⟩;exact dH)
 ·simp only [bN,beq_eq_false_iff_ne]at h0 h1 h2 h3 h4 h5 h6 h7 h8 h9;rcases h with e | e | e | e | e | e | e | e | e | e<;>contradiction
theorem Z0{t n:Int}{x:EXS}{s:MS}(hb:kZ t n s)(hx:exW t x):ZY t n x s:=aEy (XA hb hx)
theorem Z1{t n:Int}{x:EXS}{s:MS}(hb:kZ t n s)(hx:exW t x):aCv t s (lF t n x s):=aEv (XA hb hx)
structure XR (t:Int) (x:PRS):Prop where
 h:True
structure aC6 (t:Int) (s:MS) (st:STS) (o:PrO):Prop where
 a:Act1 s o.s
 w:o.d=false→XR t o.x
 st:o.st=st
theorem XS{t n:Int}{x:PRS}{st:STS}{s:MS}(hb:kZ t n s)(hx:XR t x):(XQ t n x st s).run (aC6 t s st):=by
 obtain⟨⟨t0,t1⟩,⟨n0,n1⟩,⟨c0,c1⟩,hw⟩:=hb;obtain⟨h⟩:=hx;unfold XQ;unfold MH
 (repeat' (with_reducible first | exact trivial | rfl | assumption | refine aEo ?_ ?_ | refine Tr.run_ite (fun _=>?_) (fun _=>?_) | refine aEp ?_ | refine And.intro ?_ ?_))
 all_goals first | exact aX | (refine⟨by exact aX,fun hd=>?_,rfl⟩;first | (exact Bool.noConfusion hd) | exact⟨trivial⟩)
theorem QN{t n:Int}{x:PRS}{st:STS}{s:MS}(hb:kZ t n s)(hx:XR t x):QJ t n x st s:=aEy (XS hb hx)
theorem QO{t n:Int}{x:PRS}{st:STS}{s:MS}(hb:kZ t n s)(hx:XR t x):aC6 t s st (prF t n x st s):=aEv (XS hb hx)
theorem fV{a b:Int}(h:ieq a b=true):a=b:=by simpa [bN]using h
theorem x6{a b:Int}(h:ieq a b=false):a≠b:=by simpa [bN]using h
def eE(l:List Int):Prop:= ∀r∈l,0≤r∧r≤1000
theorem yR:eE []:=fun r h=>nomatch h
theorem wL{l:List Int}{a:Int}(h:eE l)(ha:0≤a∧a≤1000):eE (l++ [a]):=by
 intro r hr;rcases List.mem_append.1 hr with h1 | h1
 ·exact h r h1
 ·rw [List.mem_singleton.1 h1];exact ha
theorem MP{l m:List Int}(h:eE l)(hm:eE m):eE (l++m):=by
 intro r hr;rcases List.mem_append.1 hr with h1 | h1
 ·exact h r h1
 ·exact hm r h1
theorem iT(t n a:Int):p8 t n a:=⟨⟨rfl,rfl⟩,trivial⟩
theorem FN(t n a:Int):W3 t (zC t n a):=⟨.inl rfl⟩
theorem aDB(x a:Int):0≤aA x a 9∧aA x a 9≤1000:=by
 have:=SU x a 9;simp only [Int.reduceToNat,Int.reducePow]at this;omega
structure M7 (b:Int) (x:FNS):Prop where
 m:0≤x.me∧x.me≤1000
 cu:0≤x.curr∧x.curr≤1000
 ul:eE x.ul
 ln:(x.ul.length:Int)≤b
structure T6 (t:Int) (x:FNS):Prop where
 h:x.at'=0∨x.at'=1∨x.at'=2∨x.at'=3∨x.at'=4∨x.at'=5∨x.at'=6
 cl:x.at'=4→W3 t x.cl
structure aCy (t b:Int) (s:MS) (o:FnO):Prop where
 a:Act1 s o.s
 q:M7 (b+1) o.x
 w:o.d=false→T6 t o.x
theorem pK{P:Prop}(h:P:=by(refine⟨?_,⟨?_,?_,?_,?_⟩,fun hd=>?_⟩<;>first
 | exact aX
 | (exact(zE (by assumption) (by assumption)).a)
 | (constructor<;>assumption)
 | exact aDB _ _
 | (exact wL (by assumption) ⟨by assumption,by assumption⟩)
 | exact yR
 | (dsimp only;simp only [List.length_append,List.length_singleton,List.length_nil];omega)
 | exact Bool.noConfusion hd
 | exact⟨by dsimp only;decide,fun e=>absurd e (by dsimp only;decide)⟩
 | exact⟨by dsimp only;decide,fun e=>(zE (by assumption) (by assumption)).w (by assumption)⟩
 | exact⟨by dsimp only;decide,fun e=>by dsimp only;with_reducible exact FN _ _ _⟩)):P:=h
theorem XB{t n b:Int}{x:FNS}{s:MS}(hb:kZ t n s)(hx:T6 t x)(hq:M7 b x)(hbb:b≤900000):(IK t n x s).run (aCy t b s):=by
 have hb':=hb;obtain⟨⟨t0,t1⟩,⟨n0,n1⟩,⟨c0,c1⟩,hw⟩:=hb;obtain⟨h,hcl⟩:=hx;obtain⟨⟨m0,m1⟩,⟨q0,q1⟩,hul,hln⟩:=hq;have b0:0≤b:=by omega
 unfold IK;refine aEn (fun h0=>?_) (fun h0=>aEn (fun h1=>?_) (fun h1=>aEn (fun h2=>?_) (fun h2=>aEn (fun h3=>?_) (fun h3=>aEn (fun h4=>?_) (fun h4=>aEn (fun h5=>?_) (fun h5=>aEn (fun h6=>?_) (fun h6=>?_)))))))
 ·unfold vK
  (repeat' (with_reducible first | exact trivial | rfl | assumption | refine aEo ?_ ?_ | refine Tr.run_ite (fun _=>?_) (fun _=>?_) | refine aEp ?_ | refine And.intro ?_ ?_))
  all_goals first | exact aX | exact iT _ _ _ | (simp only [List.length_append,List.length_singleton];done) | exact pK
 ·unfold xZ
  (repeat' (with_reducible first | exact trivial | rfl | assumption | refine aEo ?_ ?_ | refine Tr.run_ite (fun _=>?_) (fun _=>?_) | refine aEp ?_ | refine And.intro ?_ ?_))
  all_goals first | exact aX | exact iT _ _ _ | (simp only [List.length_append,List.length_singleton];done) | exact pK
 ·unfold vL
  (repeat' (with_reducible first | exact trivial | rfl | assumption | refine aEo ?_ ?_ | refine Tr.run_ite (fun _=>?_) (fun _=>?_) | refine aEp ?_ | refine And.intro ?_ ?_))
  all_goals first | exact aX | exact iT _ _ _ | (simp only [List.length_append,List.length_singleton];done) | exact pK
 ·unfold nH
  (repeat' (with_reducible first | exact trivial | rfl | assumption | refine aEo ?_ ?_ | refine Tr.run_ite (fun _=>?_) (fun _=>?_) | refine aEp ?_ | refine And.intro ?_ ?_))
  all_goals first | exact aX | exact iT _ _ _ | (simp only [List.length_append,List.length_singleton];done) | exact pK
 ·unfold CX;have hcl4:=hcl (fV h4);have hclo:=FO hb' hcl4
  (repeat' (with_reducible first | exact trivial | rfl | assumption | refine aEo ?_ ?_ | refine Tr.run_ite (fun _=>?_) (fun _=>?_) | refine aEp ?_ | refine And.intro ?_ ?_))
  all_goals first | exact aX | exact iT _ _ _ | (simp only [List.length_append,List.length_singleton];done) | exact pK
 ·unfold vM
  (repeat' (with_reducible first | exact trivial | rfl | assumption | refine aEo ?_ ?_ | refine Tr.run_ite (fun _=>?_) (fun _=>?_) | refine aEp ?_ | refine And.intro ?_ ?_))
  all_goals first | exact aX | exact iT _ _ _ | (simp only [List.length_append,List.length_singleton];done) | exact pK
 ·unfold vN
  (repeat' (with_reducible first | exact trivial | rfl | assumption | refine aEo ?_ ?_ | refine Tr.run_ite (fun _=>?_) (fun _=>?_) | refine aEp ?_ | refine And.intro ?_ ?_))
  all_goals first | exact aX | exact iT _ _ _ | (simp only [List.length_append,List.length_singleton];done) | exact pK
 ·simp only [bN,beq_eq_false_iff_ne]at h0 h1 h2 h3 h4 h5 h6;rcases h with e | e | e | e | e | e | e<;>contradiction
theorem F3{t n b:Int}{x:FNS}{s:MS}(hb:kZ t n s)(hx:T6 t x)(hq:M7 b x)(hbb:b≤900000):KV t n x s:=aEy (XB hb hx hq hbb)
theorem F4{t n b:Int}{x:FNS}{s:MS}(hb:kZ t n s)(hx:T6 t x)(hq:M7 b x)(hbb:b≤900000):aCy t b s (fnF t n x s):=aEv (XB hb hx hq hbb)
theorem cS(sh ky:Int):0≤bY sh ky∧bY sh ky≤3:=by
 unfold bY;cases ieq sh 2 with
 | true=>exact⟨Int.emod_nonneg _ (by decide),by have:=Int.emod_lt_of_pos ky (b:=4) (by decide);show ky%4≤3;omega⟩
 | false=>exact⟨Int.le_refl 0,(by decide:(0:Int)≤3)⟩
theorem F2{t n me hd key lim:Int}(hn:1≤n∧n≤1000)(hm:0≤me∧me≤1000)(hh:0≤hd∧hd≤3):(OV t n me hd key lim).run (fun x=>T6 t x∧M7 0 x):=by
 obtain⟨n0,n1⟩:=hn;obtain⟨m0,m1⟩:=hm;obtain⟨e0,e1⟩:=hh;unfold OV
 (repeat' (with_reducible first | exact trivial | rfl | assumption | refine aEo ?_ ?_ | refine Tr.run_ite (fun _=>?_) (fun _=>?_) | refine aEp ?_ | refine And.intro ?_ ?_))
 all_goals first | exact aX | exact⟨by dsimp only;decide,fun e=>absurd e (by dsimp only;decide)⟩ | exact⟨⟨m0,m1⟩,⟨(by decide:(0:Int)≤0),(by decide:(0:Int)≤1000)⟩,yR,(by decide:((0:Nat):Int)≤0)⟩
theorem I3(sh kd ky pred pw cw sp:Int){curr:Int}(hc:0≤curr∧curr≤1000):(yJ sh kd ky pred pw curr cw sp).run (fun p=>0≤p.pops∧p.pops≤1000):=by
 obtain⟨c0,c1⟩:=hc;unfold yJ
 (repeat' (with_reducible first | exact trivial | rfl | assumption | refine aEo ?_ ?_ | refine Tr.run_ite (fun _=>?_) (fun _=>?_) | refine aEp ?_ | refine And.intro ?_ ?_))
 all_goals first | exact aX | (dsimp only;first | assumption | decide)
theorem DX(sh kd ky pred pw cw sp:Int){curr:Int}(hc:0≤curr∧curr≤1000):wE sh kd ky pred pw curr cw sp:=aEy (I3 sh kd ky pred pw cw sp hc)
theorem yK(sh kd ky pred pw cw sp:Int){curr:Int}(hc:0≤curr∧curr≤1000):0≤(aJ sh kd ky pred pw curr cw sp).pops ∧(aJ sh kd ky pred pw curr cw sp).pops ≤1000:=aEv (I3 sh kd ky pred pw cw sp hc)
theorem DW(a b c d e f g h i):(sT a b c d e f g h i).run rngU:=by
 unfold sT
 (repeat' (with_reducible first | exact trivial | rfl | assumption | refine aEo ?_ ?_ | refine Tr.run_ite (fun _=>?_) (fun _=>?_) | refine aEp ?_ | refine And.intro ?_ ?_))
 all_goals first | exact aX | exact nX
theorem MF(a b c d e f g h i):AJ a b c d e f g h i:=aEy (DW a b c d e f g h i)
theorem ME(a b c d e f g h i):rngU (dA a b c d e f g h i):=aEv (DW a b c d e f g h i)
theorem DV(a b c d e f g h i j):(wD a b c d e f g h i j).run (fun r=>rngU r.1):=by
 unfold wD
 (repeat' (with_reducible first | exact trivial | rfl | assumption | refine aEo ?_ ?_ | refine Tr.run_ite (fun _=>?_) (fun _=>?_) | refine aEp ?_ | refine And.intro ?_ ?_))
 all_goals first | exact aX | exact nX
theorem MB(a b c d e f g h i j):AI a b c d e f g h i j:=aEy (DV a b c d e f g h i j)
theorem MA(a b c d e f g h i j):rngU (fZ a b c d e f g h i j).1:=aEv (DV a b c d e f g h i j)
theorem DU(a b c d e f g h i):(sS a b c d e f g h i).run (fun _=>True):=by
 unfold sS
 (repeat' (with_reducible first | exact trivial | rfl | assumption | refine aEo ?_ ?_ | refine Tr.run_ite (fun _=>?_) (fun _=>?_) | refine aEp ?_ | refine And.intro ?_ ?_))
 all_goals exact aX
theorem yI(p:PLN):oR p.1 p.2 p.3 p.4 p.5 p.6 p.7 p.8 p.9:=aEy (DU _ _ _ _ _ _ _ _ _)
theorem wC(a b c d e f g h i):oR a b c d e f g h i:=aEy (DU _ _ _ _ _ _ _ _ _)
theorem hZ{b c:Int}{x:FNS}(h:M7 b x)(hbc:b≤c):M7 c x:=⟨h.m,h.cu,h.ul,Int.le_trans h.ln hbc⟩
theorem qO{t n me hd key lim:Int}(hn:1≤n∧n≤1000)(hm:0≤me∧me≤1000)(hh:0≤hd∧hd≤3):oZ t n me hd key lim:=aEy (F2 hn hm hh)
theorem CW{t n me hd key lim:Int}(hn:1≤n∧n≤1000)(hm:0≤me∧me≤1000)(hh:0≤hd∧hd≤3):T6 t (lH t n me hd key lim):=by
 have h:=aEv (F2 (t:=t) (key:=key) (lim:=lim) hn hm hh);exact h.1
theorem CV{t n me hd key lim:Int}(hn:1≤n∧n≤1000)(hm:0≤me∧me≤1000)(hh:0≤hd∧hd≤3):M7 0 (lH t n me hd key lim):=by
 have h:=aEv (F2 (t:=t) (key:=key) (lim:=lim) hn hm hh);exact h.2
theorem QI(t n key nx:Int)(st:STS):(VR t n key nx st).run (fun r=>r.2=st):=⟨⟨rfl,rfl,rfl⟩,rfl⟩
theorem I4(t n key nx:Int)(st:STS):DY t n key nx st:=aEy (QI t n key nx st)
theorem QH(t n key nx:Int)(st:STS):(lR t n key nx st).2=st:=aEv (QI t n key nx st)
structure stW (b:Int) (st:STS):Prop where
 m:0≤st.me∧st.me≤1000
 r:eE st.R
 ln:(st.R.length:Int)≤b
theorem jV{b c:Int}{st:STS}(h:stW b st)(hbc:b≤c):stW c st:=⟨h.m,h.r,Int.le_trans h.ln hbc⟩
theorem AX{b:Int}{st:STS}{k:Int}{x:FNS}(h:stW b st)(hq:M7 (b - st.R.length+1) x):stW (b+1) {me:=st.me,sp:=k,R:=st.R++x.ul} :=
 ⟨h.m,MP h.r hq.ul,by have:=hq.ln;simp only [List.length_append];omega⟩
theorem wM{b:Int}{st:STS}{k a:Int}(h:stW b st)(ha:0≤a∧a≤1000):stW (b+1) {me:=st.me,sp:=k,R:=st.R++ [a] } :=
 ⟨h.m,wL h.r ha,by have:=h.ln;simp only [List.length_append,List.length_singleton];omega⟩
theorem Q6{b:Int}{st:STS}(h:stW b st)(k:Int):stW (b+1) {me:=st.me,sp:=k,R:=st.R} :=⟨h.m,h.r,by have:=h.ln;show(st.R.length:Int)≤_;omega⟩
structure ftW (t b:Int) (st:STS) (x:FTS):Prop where
 h:x.at'=0∨x.at'=1∨x.at'=2∨x.at'=3
 fn:x.at'=0→T6 t x.fn∧M7 (b - st.R.length) x.fn
 cl:x.at'=1→W3 t x.cl
 ps:0≤x.p.pops∧x.p.pops≤1000
structure aCB (t b:Int) (s:MS) (o:FtO):Prop where
 a:Act1 s o.s
 st:stW (b+1) o.st
 w:o.d=false→ftW t (b+1) o.st o.x
theorem XE{t n b:Int}{x:FTS}{st:STS}{s:MS}(hb:kZ t n s)(hx:ftW t b st x)(hst:stW b st)(hbb:b≤900000):(O2 t n x st s).run (aCB t b s):=by
 have hb':=hb;obtain⟨ht,hn,⟨c0,c1⟩,hw⟩:=hb;obtain⟨n0,n1⟩:=hn;obtain⟨t0,t1⟩:=ht;obtain⟨h,hfn,hcl,hps⟩:=hx;have hR0:=hst.ln;have hst1:stW (b+1) st:=jV hst (by omega)
 have hnn:1≤n∧n≤1000:=⟨n0,n1⟩;have b0:0≤b:=by omega
 unfold O2;refine aEn (fun h0=>?_) (fun h0=>aEn (fun h1=>?_) (fun h1=>aEn (fun h2=>?_) (fun h2=>aEn (fun h3=>?_) (fun h3=>?_))))
 ·obtain⟨hfw,hfq⟩:=hfn (fV h0);have hF:=F4 hb' hfw hfq (by omega)
  have hFo:=F3 hb' hfw hfq (by omega)
  have hA:=hF.a;have hQ:=hF.q;have hQl:=hQ.ln;have hS:stW (b+1) {me:=st.me,sp:=st.sp,R:=st.R++(fnF t n x.fn s).x.ul } :=AX hst hQ;have hcu:=hQ.cu;unfold qQ
  (repeat' (with_reducible first | exact trivial | rfl | assumption | refine aEo ?_ ?_ | refine Tr.run_ite (fun _=>?_) (fun _=>?_) | refine aEp ?_ | refine And.intro ?_ ?_))
  all_goals first
   | exact aX
   | exact DX _ _ _ _ _ _ _ hcu
   | exact yI _
   | exact wC _ _ _ _ _ _ _ _ _
   | exact iT _ _ _
   | exact I4 _ _ _ _ _
   | (simp only [List.length_append];done)
   | (refine⟨by first | assumption | exact aX,?_,fun hd=>?_⟩
      ·first
        | assumption
        | (dsimp only;rw [QH];assumption)
      ·first
        | exact Bool.noConfusion hd
        | (refine⟨by dsimp only;decide,?_,?_,?_⟩
           ·first | (exact nE') | (intro _;exact⟨hF.w (by assumption),hZ hQ (by dsimp only;omega)⟩)
           ·first | (exact nE') | (intro _;dsimp only;with_reducible exact FN _ _ _)
           ·first | exact hps | exact yK _ _ _ _ _ _ _ hcu))
 ·have hc:=hcl (fV h1);have hC:=zE hb' hc;have hCo:=FO hb' hc;have hA:=hC.a;unfold C0
  (repeat' (with_reducible first | exact trivial | rfl | assumption | refine aEo ?_ ?_ | refine Tr.run_ite (fun _=>?_) (fun _=>?_) | refine aEp ?_ | refine And.intro ?_ ?_))
  all_goals first
   | exact aX
   | exact qO hnn hst.m (cS _ _)
   | (refine⟨by assumption,by assumption,fun hd=>?_⟩
      first
       | exact Bool.noConfusion hd
       | (refine⟨by dsimp only;decide,?_,?_,hps⟩
          ·first | (exact nE') | (intro _;exact⟨CW (t:=t) (n:=n) hnn hst.m (cS _ _),hZ (CV (t:=t) (n:=n) hnn hst.m (cS _ _)) (by dsimp only;omega)⟩)
          ·first | (exact nE') | (intro _;exact hC.w (by assumption))))
 ·have hP:=QO (st:=st) hb' (show XR t x.pr from⟨trivial⟩)
  have hPo:=QN (st:=st) hb' (show XR t x.pr from⟨trivial⟩)
  have hA:=hP.a;have hPs:stW (b+1) (prF t n x.pr st s).st :=by rw [hP.st];exact hst1
  unfold qR
  (repeat' (with_reducible first | exact trivial | rfl | assumption | refine aEo ?_ ?_ | refine Tr.run_ite (fun _=>?_) (fun _=>?_) | refine aEp ?_ | refine And.intro ?_ ?_))
  all_goals first
   | exact aX
   | (refine⟨by assumption,by assumption,fun hd=>?_⟩
      first
       | exact Bool.noConfusion hd
       | exact⟨by dsimp only;decide,fun e=>absurd e (by dsimp only;decide),fun e=>absurd e (by dsimp only;decide),hps⟩)
 ·have hW:=ME (FTS.p x).1 (FTS.p x).2 (FTS.p x).3 (FTS.p x).4 (FTS.p x).5 (FTS.p x).6 (FTS.p x).7 (FTS.p x).8 (FTS.p x).9;have hWo:=MF (FTS.p x).1 (FTS.p x).2 (FTS.p x).3 (FTS.p x).4 (FTS.p x).5 (FTS.p x).6 (FTS.p x).7 (FTS.p x).8 (FTS.p x).9;have hS1:stW (b+1) {me:=st.me,sp:=0,R:=st.R++ [(FTS.p x).9] } :=wM hst hps;have hS2:stW (b+1) {me:=st.me,sp:=st.sp,R:=st.R++ [(FTS.p x).9] } :=wM hst hps;have hS3:stW (b+1) {me:=st.me,sp:=0,R:=st.R} :=Q6 hst 0;unfold vO
  (repeat' (with_reducible first | exact trivial | rfl | assumption | refine aEo ?_ ?_ | refine Tr.run_ite (fun _=>?_) (fun _=>?_) | refine aEp ?_ | refine And.intro ?_ ?_))
  all_goals first
   | exact aX
   | exact qO hnn hst.m (cS _ _)
   | (simp only [List.length_append,List.length_singleton];done)
   | (refine⟨by exact aX,by assumption,fun hd=>?_⟩
      first
       | exact Bool.noConfusion hd
       | (refine⟨by dsimp only;decide,?_,?_,hps⟩
          ·first | (exact nE') | (intro _;exact⟨CW (t:=t) (n:=n) hnn hst.m (cS _ _),hZ (CV (t:=t) (n:=n) hnn hst.m (cS _ _)) (by dsimp only;omega)⟩)
          · (exact nE')))
 ·simp only [bN,beq_eq_false_iff_ne]at h0 h1 h2 h3;rcases h with e | e | e | e<;>contradiction
theorem aAn{t n b:Int}{x:FTS}{st:STS}{s:MS}(hb:kZ t n s)(hx:ftW t b st x)(hst:stW b st)(hbb:b≤900000):UG t n x st s:=aEy (XE hb hx hst hbb)
theorem aAo{t n b:Int}{x:FTS}{st:STS}{s:MS}(hb:kZ t n s)(hx:ftW t b st x)(hst:stW b st)(hbb:b≤900000):aCB t b s (ftF t n x st s):=aEv (XE hb hx hst hbb)
theorem F6{t n b sh kd ky most:Int}{st:STS}(hn:1≤n∧n≤1000)(hst:stW b st):(O1 t n sh kd ky most st).run (fun r=>ftW t b st r.1∧r.2=st):=by
 have hR0:=hst.ln;unfold O1
 (repeat' (with_reducible first | exact trivial | rfl | assumption | refine aEo ?_ ?_ | refine Tr.run_ite (fun _=>?_) (fun _=>?_) | refine aEp ?_ | refine And.intro ?_ ?_))
 all_goals first
  | exact aX
  | exact qO hn hst.m (cS _ _)
  | exact⟨by dsimp only;decide,fun _=>⟨CW (t:=t) (n:=n) hn hst.m (cS _ _),hZ (CV (t:=t) (n:=n) hn hst.m (cS _ _)) (by omega)⟩,fun e=>absurd e (by dsimp only;decide),⟨(by decide:(0:Int)≤0),(by decide:(0:Int)≤1000)⟩⟩
theorem eO(s:MS)(a:Int):Act1 s (s.loadd a):=⟨rfl,rfl,id,rfl,rfl⟩
theorem xG(s:MS)(a o x:Int):Act1 s (s.cased a o (WU x)):=HM s _ _ _ _ _ _ _ _ (HB x)
theorem oE(s:MS)(a x:Int):Act1 s (s.added a x):=y6 s _ _ _ _ _ _ _ (HB _)
theorem mI{m:List (Int×Int)}{l:List Int}(h:eE l):eE (cK m l):=fun r hr=>h r (List.mem_filter.1 hr).1
theorem tX{m:List (Int×Int)}{l:List Int}(h:eE l):eE (aW m l):=fun r hr=>h r (List.mem_filter.1 hr).1
theorem DG(m:List (Int×Int))(l:List Int):(cK m l).length ≤l.length:=List.length_filter_le _ _
theorem D9{l:List Int}(h:eE l){j:Nat}(hj:j<l.length): -1000000≤List.getD l (j+Int.toNat 0*1) 0∧List.getD l (j+Int.toNat 0*1) 0≤1000000:=by
 have e:j+Int.toNat 0*1=j:=by simp
 rw [e,gD',gE' hj];have:=h _ (List.getElem_mem hj);show _≤l[j]∧l[j]≤_;omega
theorem DP{n a:Int}(hn:1≤n)(ha:1≤a):1≤cO n a∧cO n a≤n:=by
 unfold cO;rw [Int.tmod_eq_emod_of_nonneg (by omega)]
 have:=Int.emod_nonneg a (show n≠0 by omega)
 have:=Int.emod_lt_of_pos a (show 0<n by omega)
 omega
theorem HR{t n me:Int}(hn:1≤n):1≤at0 t n me∧at0 t n me≤n:=by
 unfold at0;cases h:bR n (aP t n me)with
 | true=>exact pR.1 h
 | false=>exact⟨(by decide:(1:Int)≤1),hn⟩
def enI(t n b:Int)(e:ENS):Prop:=match e.ph with
 | 0=>True
 | 1=>okAl n e.x
 | 2=>True
 | 3=>(eE e.y.N∧(e.y.N.length:Int)≤b)∧0≤e.y.i∧e.y.i<2*t
 | 4=>2*t≤e.y.i∧1≤e.y.l∧e.y.gs.length=e.y.j+e.y.l∧eE e.y.gs∧eE e.y.ks∧(e.y.ks.length:Int)≤b
 | _=>False
structure ZO (t n b:Int) (s:MS) (o:EO):Prop where
 a:Act1 s o.s
 st:stW (b+1) o.st
 w:o.d=false→enI t n (b+1) o.e
theorem OJ{t n b:Int}{e:ENS}{st:STS}{s:MS}(hb:kZ t n s)(hx:enI t n b e)(hst:stW b st)(hbb:b≤900000):okE t n e st s:=by
 obtain⟨ht,hn,hc,hw⟩:=hb;have hl:=hst.ln;refine⟨ht,hn,⟨hc.1,by omega⟩,hst.m,by omega,?_⟩
 match e,hx with
 | ⟨0,sh,dn,x,y⟩,hx=>trivial
 | ⟨1,sh,dn,x,y⟩,hx=>exact hx
 | ⟨2,sh,dn,x,y⟩,hx=>trivial
 | ⟨3,sh,dn,x,y⟩,hx=>
   obtain⟨⟨h1,h2⟩,h3⟩:=hx;exact⟨by dsimp only at h2⊢;omega,h3⟩
 | ⟨4,sh,dn,x,y⟩,hx=>
   obtain⟨a1,a2,a3,a4,a5⟩:=hx;exact⟨a1,a2,a3,D9 a4 (by omega)⟩
theorem H8{t n b:Int}{e:ENS}{st:STS}{x:AL}{s s0:MS}(ha:Act1 s0 s)(hst:stW b st)(hg:x.got=0)(hx:1≤x.at'∧x.at'≤n)(hl0:0≤x.left+1)(hl:x.left≤1000):ZO t n b s0 (zO e st x s):=by
 have hl1:=hst.ln;unfold zO;split
 ·exact⟨ha,⟨hst.m,hst.r,by dsimp only;omega⟩,fun _=>trivial⟩
 ·rename_i h;rw [cD,dF']at h;exact⟨ha,jV hst (by omega),fun _=>⟨hg,hx,by show(0:Int)≤x.left;omega,hl⟩⟩
theorem xV{t n b:Int}{e:ENS}{st:STS}{x:AL}{s:MS}(hn:1≤n)(hst:stW b st)(hx:okAl n x):ZO t n b s (jH n e st x s):=by
 obtain⟨hg,ha,hl⟩:=hx;have hl1:=hst.ln;unfold jH;split
 ·split
  ·exact⟨xG _ _ _ _,⟨hst.m,hst.r,by dsimp only;omega⟩,fun h=>Bool.noConfusion h⟩
  ·exact H8 (xG _ _ _ _) hst rfl (DP hn ha.1) (by dsimp only;omega) (by dsimp only;omega)
 ·split
  ·exact H8 (eO _ _) hst rfl (DP hn ha.1) (by dsimp only;omega) (by dsimp only;omega)
  ·exact⟨eO _ _,jV hst (by omega),fun _=>⟨rfl,ha,hl⟩⟩
theorem OK{t n b:Int}{e:ENS}{st:STS}{s:MS}(hb:kZ t n s)(hx:enI t n b e)(hst:stW b st):ZO t n b s (enF t n e st s):=by
 obtain⟨ht,hn,hc,hw⟩:=hb;have hl1:=hst.ln;have hst1:stW (b+1) st:=jV hst (by omega)
 match e,hx with
 | ⟨0,sh,dn,x,y⟩,hx=>
   unfold enF;dsimp only;cases hc:ieq st.sp 0 with
   | true=>exact xV hn.1 hst ⟨rfl,HR hn.1,by dsimp only;omega⟩
   | false=>exact⟨eO _ _,hst1,fun h=>Bool.noConfusion h⟩
 | ⟨1,sh,dn,x,y⟩,hx=>exact xV hn.1 hst hx
 | ⟨2,sh,dn,x,y⟩,hx=>
   exact⟨eO _ _,hst1,fun _=>⟨⟨hst.r,by show(st.R.length:Int)≤_;omega⟩,(by decide:(0:Int)≤1),by show(1:Int)<_;omega⟩⟩
 | ⟨3,sh,dn,x,y⟩,hx=>
   obtain⟨⟨hN,hNl⟩,hi0,hi1⟩:=hx;dsimp only at hN hNl hi0 hi1;have hk:=DG (aV y.m n y.i s) y.N;unfold enF;dsimp only;generalize hsm:aV y.m n y.i s=sm at hk⊢;cases h1:ieq (y.i+1) (2*t)with
   | false=>
     have h1:=x6 h1;exact⟨eO _ _,hst1,fun _=>⟨⟨hN,by show((y.N).length :Int)≤_;omega⟩,by show 0≤y.i+1;omega,by show y.i+1<2*t;omega⟩⟩
   | true=>
     have h1:=fV h1;cases h2:ieq ((aW sm y.N).length :Int) 0 with
     | true=>exact⟨eO _ _,⟨hst.m,mI hN,by show((cK sm y.N).length :Int)≤_;omega⟩,fun h=>Bool.noConfusion h⟩
     | false=>
       have h2:=x6 h2;exact⟨eO _ _,hst1,fun _=>⟨by show 2*t≤y.i+1;omega,by show 1≤(aW sm y.N).length;omega,by show(aW sm y.N).length =0+(aW sm y.N).length;omega,tX hN,mI hN,by show((cK sm y.N).length :Int)≤_;omega⟩⟩
 | ⟨4,sh,dn,x,y⟩,hx=>
   obtain⟨a1,a2,a3,a4,a5,a6⟩:=hx;dsimp only at a1 a2 a3 a4 a5 a6;unfold enF;dsimp only;cases h1:ieq ((y.l - 1:Nat):Int) 0 with
   | true=>exact⟨oE _ _ _,⟨hst.m,a5,by show((y.ks).length :Int)≤_;omega⟩,fun _=>trivial⟩
   | false=>
     have h1:=x6 h1;exact⟨oE _ _ _,hst1,fun _=>⟨a1,by show 1≤y.l - 1;omega,by show(y.gs).length =y.j+1+(y.l - 1);omega,a4,a5,by show((y.ks).length :Int)≤_;omega⟩⟩
def WE(t n b:Int)(y:SWS):Prop:=match y.ph with
 | 0=>True
 | 1=>(eE y.N∧(y.N.length:Int)≤b)∧0≤y.i∧y.i<2*t
 | 2=>2*t≤y.i∧1≤y.l∧y.gs.length=y.j+y.l∧eE y.gs∧eE y.ks∧(y.ks.length:Int)≤b
 | _=>False
structure aDT (t n b:Int) (s:MS) (o:SO):Prop where
 a:Act1 s o.s
 st:stW (b+1) o.st
 w:o.d=false→WE t n (b+1) o.e
theorem aBA{t n b:Int}{e:SWS}{st:STS}{s:MS}(hb:kZ t n s)(hx:WE t n b e)(hst:stW b st)(hbb:b≤900000):rH t n e st s:=by
 obtain⟨ht,hn,hc,hw⟩:=hb;have hl:=hst.ln;refine⟨ht,hn,⟨hc.1,by omega⟩,by omega,?_⟩
 match e,hx with
 | ⟨0,N,m,i,ks,fs,gs,j,l⟩,hx=>trivial
 | ⟨1,N,m,i,ks,fs,gs,j,l⟩,hx=>
   obtain⟨⟨h1,h2⟩,h3⟩:=hx;exact⟨by dsimp only at h2⊢;omega,h3⟩
 | ⟨2,N,m,i,ks,fs,gs,j,l⟩,hx=>
   obtain⟨a1,a2,a3,a4,a5⟩:=hx;exact⟨a1,a2,a3,D9 a4 (by omega)⟩
theorem aBB{t n b:Int}{e:SWS}{st:STS}{s:MS}(hb:kZ t n s)(hx:WE t n b e)(hst:stW b st):aDT t n b s (swF t n e st s):=by
 obtain⟨ht,hn,hc,hw⟩:=hb;have hl1:=hst.ln;have hst1:stW (b+1) st:=jV hst (by omega)
 match e,hx with
 | ⟨0,N,m,i,ks,fs,gs,j,l⟩,hx=>
   exact⟨eO _ _,hst1,fun _=>⟨⟨hst.r,by show(st.R.length:Int)≤_;omega⟩,(by decide:(0:Int)≤1),by show(1:Int)<_;omega⟩⟩
 | ⟨1,N,m,i,ks,fs,gs,j,l⟩,hx=>
   obtain⟨⟨hN,hNl⟩,hi0,hi1⟩:=hx;dsimp only at hN hNl hi0 hi1;have hk:=DG (aV m n i s) N;unfold swF;dsimp only;generalize hsm:aV m n i s=sm at hk⊢;cases h1:ieq (i+1) (2*t)with
   | false=>
     have h1:=x6 h1;exact⟨eO _ _,hst1,fun _=>⟨⟨hN,by show((N).length :Int)≤_;omega⟩,by show 0≤i+1;omega,by show i+1<2*t;omega⟩⟩
   | true=>
     have h1:=fV h1;cases h2:ieq ((aW sm N).length :Int) 0 with
     | true=>exact⟨eO _ _,⟨hst.m,mI hN,by show((cK sm N).length :Int)≤_;omega⟩,fun h=>Bool.noConfusion h⟩
     | false=>
       have h2:=x6 h2;exact⟨eO _ _,hst1,fun _=>⟨by show 2*t≤i+1;omega,by show 1≤(aW sm N).length;omega,by show(aW sm N).length =0+(aW sm N).length;omega,tX hN,mI hN,by show((cK sm N).length :Int)≤_;omega⟩⟩
 | ⟨2,N,m,i,ks,fs,gs,j,l⟩,hx=>
   obtain⟨a1,a2,a3,a4,a5,a6⟩:=hx;dsimp only at a1 a2 a3 a4 a5 a6;unfold swF;dsimp only;cases h1:ieq ((l - 1:Nat):Int) 0 with
   | true=>exact⟨oE _ _ _,⟨hst.m,a5,by show((ks).length :Int)≤_;omega⟩,fun h=>Bool.noConfusion h⟩
   | false=>
     have h1:=x6 h1;exact⟨oE _ _ _,hst1,fun _=>⟨a1,by show 1≤l - 1;omega,by show(gs).length =j+1+(l - 1);omega,a4,a5,by show((ks).length :Int)≤_;omega⟩⟩
theorem TU(t n u sh kd ky att:Int):ON t n u sh kd ky att:=⟨⟨rfl,rfl⟩,trivial⟩
theorem aCu(t n:Int){u:Int}(sh kd ky att:Int)(hu:0≤u∧u≤1000):exW t (ZU t n u sh kd ky att):=⟨.inl rfl,hu,⟨(by decide:(0:Int)≤0),(by decide:(0:Int)≤1000)⟩⟩
structure hpW (t n b:Int) (st:STS) (x:HPS):Prop where
 h:x.at'=0∨x.at'=1∨x.at'=2∨x.at'=3∨x.at'=4∨x.at'=5∨x.at'=6∨x.at'=7∨x.at'=8∨x.at'=9
 u:0≤x.u∧x.u≤1000
 ex:x.at'=3→exW t x.ex
 en:x.at'=4→enI t n b x.en
 fn:x.at'=5→T6 t x.fn∧M7 (b - st.R.length) x.fn
 cl:x.at'=7→W3 t x.cl
 ps:0≤x.p.pops∧x.p.pops≤1000
structure aCH (t n b:Int) (s:MS) (o:HpO):Prop where
 a:Act1 s o.s
 st:stW (b+1) o.st
 w:o.d=false→hpW t n (b+1) o.st o.x
theorem P3:(0:Int)≤0∧(0:Int)≤1000:=⟨by decide,by decide⟩
theorem XJ{t n b:Int}{x:HPS}{st:STS}{s:MS}(hb:kZ t n s)(hx:hpW t n b st x)(hst:stW b st)(hbb:b≤900000):(hpT t n x st s).run (aCH t n b s):=by
 have hb':=hb;obtain⟨ht,hn,⟨c0,c1⟩,hw⟩:=hb;obtain⟨n0,n1⟩:=hn;obtain⟨t0,t1⟩:=ht;obtain⟨h,hu,hex,hen,hfn,hcl,hps⟩:=hx;have hR0:=hst.ln;have hst1:stW (b+1) st:=jV hst (by omega)
 have hnn:1≤n∧n≤1000:=⟨n0,n1⟩;have hme:=hst.m;obtain⟨u0,u1⟩:=hu;have b0:0≤b:=by omega
 obtain⟨k0,k1⟩:=jR hw (2*n+5+2*t+3*x.1+1);unfold hpT;refine aEn (fun h0=>?c0) (fun h0=>aEn (fun h1=>?c1) (fun h1=>aEn (fun h2=>?c2) (fun h2=>aEn (fun h3=>?c3) (fun h3=>aEn (fun h4=>?c4) (fun h4=>aEn (fun h5=>?c5) (fun h5=>aEn (fun h6=>?c6) (fun h6=>aEn (fun h7=>?c7) (fun h7=>aEn (fun h8=>?c8) (fun h8=>aEn (fun h9=>?c9) (fun h9=>?c10))))))))))
 case' c0=>unfold C4
 case' c1=>unfold C5
 case' c2=>unfold C6
 case' c3=>have he:=hex (fV h3);have hE:=Z1 hb' he;have hEo:=Z0 hb' he;have hA:=hE.a;have hS:stW (b+1) {me:=st.me,sp:=st.sp,R:=st.R++ [(ExO.x (lF t n x.11 s)).1] } :=wM hst hE.p;unfold C7
 case' c4=>have he:=hen (fV h4);have hE:=OK hb' he hst;have hEo:=OJ hb' he hst hbb;have hA:=hE.a;have hS:=hE.st;have hme:=hS.m;have hSl:=hS.ln;unfold C8
 case' c5=>obtain⟨hfw,hfq⟩:=hfn (fV h5);have hF:=F4 hb' hfw hfq (by omega);have hFo:=F3 hb' hfw hfq (by omega);have hA:=hF.a;have hQ:=hF.q;have hQl:=hQ.ln;have hS:stW (b+1) {me:=st.me,sp:=st.sp,R:=st.R++(fnF t n x.fn s).x.ul } :=AX hst hQ;have hcu:=hQ.cu;unfold C9
 case' c6=>unfold DA
 case' c7=>have hc:=hcl (fV h7);have hC:=zE hb' hc;have hCo:=FO hb' hc;have hA:=hC.a;unfold DB
 case' c8=>have hP:=QO (st:=st) hb' (show XR t x.pr from⟨trivial⟩);have hPo:=QN (st:=st) hb' (show XR t x.pr from⟨trivial⟩);have hA:=hP.a;have hPs:stW (b+1) (prF t n x.pr st s).st :=(by rw [hP.st];exact hst1);unfold DC
 case' c9=>have hD:=MA (HPS.p x).1 (HPS.p x).2 (HPS.p x).3 (HPS.p x).4 (HPS.p x).5 (HPS.p x).6 (HPS.p x).7 (HPS.p x).8 (HPS.p x).9 (aA x.6 0 12);have hDo:=MB (HPS.p x).1 (HPS.p x).2 (HPS.p x).3 (HPS.p x).4 (HPS.p x).5 (HPS.p x).6 (HPS.p x).7 (HPS.p x).8 (HPS.p x).9 (aA x.6 0 12);have hS3:stW (b+1) {me:=st.me,sp:=0,R:=st.R} :=Q6 hst 0;unfold DD
 case c10=>
  simp only [bN,beq_eq_false_iff_ne]at h0 h1 h2 h3 h4 h5 h6 h7 h8 h9;rcases h with e | e | e | e | e | e | e | e | e | e<;>contradiction
 all_goals (repeat' (with_reducible first | exact trivial | rfl | assumption | refine aEo ?_ ?_ | refine Tr.run_ite (fun _=>?_) (fun _=>?_) | refine aEp ?_ | refine And.intro ?_ ?_))
 all_goals first
  | exact aX
  | (simp only [List.length_append,List.length_singleton];done)
  | exact TU _ _ _ _ _ _ _
  | exact qO hnn hme (cS _ _)
  | exact DX _ _ _ _ _ _ _ hcu
  | exact yI _
  | exact wC _ _ _ _ _ _ _ _ _
  | exact iT _ _ _
  | exact I4 _ _ _ _ _
  | (simp only [List.length_append];done)
  | (refine⟨by first | assumption | exact aX,?_,fun hd=>?_⟩
     ·first
       | assumption
       | (dsimp only;rw [QH];assumption)
     ·first
       | exact Bool.noConfusion hd
       | (refine⟨by dsimp only;decide,⟨u0,u1⟩,?_,?_,?_,?_,?_⟩<;>first | (exact nE') | exact hps | exact P3 | (intro _;dsimp only;with_reducible exact aCu _ _ _ _ _ _ ⟨u0,u1⟩) | (intro _;exact trivial) | (intro _;exact⟨CW (t:=t) (n:=n) hnn hme (cS _ _),hZ (CV (t:=t) (n:=n) hnn hme (cS _ _)) (by dsimp only;omega)⟩) | (intro _;exact hE.w (by assumption)) | (intro _;exact⟨hF.w (by assumption),hZ hQ (by dsimp only;omega)⟩) | (intro _;dsimp only;with_reducible exact FN _ _ _) | exact yK _ _ _ _ _ _ _ hcu | (intro _;exact hC.w (by assumption))))
theorem PG{t n b:Int}{x:HPS}{st:STS}{s:MS}(hb:kZ t n s)(hx:hpW t n b st x)(hst:stW b st)(hbb:b≤900000):PF t n x st s:=aEy (XJ hb hx hst hbb)
theorem PH{t n b:Int}{x:HPS}{st:STS}{s:MS}(hb:kZ t n s)(hx:hpW t n b st x)(hst:stW b st)(hbb:b≤900000):aCH t n b s (dD t n x st s):=aEv (XJ hb hx hst hbb)
theorem aAC{t n b u no lim:Int}{st:STS}(hu:0≤u∧u≤1000):(LB t n u no lim st).run (fun r=>hpW t n b st r.1∧r.2=st):=by
 unfold LB
 (repeat' (with_reducible first | exact trivial | rfl | assumption | refine aEo ?_ ?_ | refine Tr.run_ite (fun _=>?_) (fun _=>?_) | refine aEp ?_ | refine And.intro ?_ ?_))
 all_goals first
  | exact aX
  | exact⟨by dsimp only;decide,hu,fun e=>absurd e (by dsimp only;decide),fun e=>absurd e (by dsimp only;decide),fun e=>absurd e (by dsimp only;decide),fun e=>absurd e (by dsimp only;decide),P3⟩
theorem V7{s k y:Int}(h:aZ s k y=true):rngU (tskV s k y):=by
 have h:=eD.1 h;unfold tskV;refine⟨?_,?_⟩<;>omega
theorem UV(t n:Int):O9 t n:=⟨⟨rfl,rfl⟩,trivial⟩
theorem aCD(t n:Int):hdW t (US t n):=⟨⟨(by decide:(0:Int)≤0),(by decide:(0:Int)≤1000)⟩,⟨(by decide:(-1:Int)≤ -1),(by decide:(-1:Int)≤1000)⟩⟩
theorem TF(t n u:Int):tH t n u:=⟨⟨rfl,rfl⟩,trivial⟩
theorem aCo(t n:Int){u:Int}(hu:0≤u∧u≤1000):drW t (mN t n u):=⟨hu,⟨(by decide:(0:Int)≤0),(by decide:(0:Int)≤2)⟩⟩
theorem SD(t n u:Int):NR t n u:=⟨⟨rfl,rfl⟩,trivial⟩
theorem aB3(t n:Int){u:Int}(hu:0≤u∧u≤1000):awW t (YG t n u):=⟨hu⟩
theorem R5(t n u sh kd ky:Int):NP t n u sh kd ky:=⟨trivial,⟨rfl,rfl⟩,trivial⟩
theorem aBZ(t n:Int){u:Int}(sh kd ky:Int)(hu:0≤u∧u≤1000):anW t (X8 t n u sh kd ky):=⟨.inl rfl,hu,AP V7 D6,D6⟩
theorem U1(t n u no lim:Int)(st:STS):C3 t n u no lim st:=by
 unfold C3 LB;exact⟨⟨⟨rfl,rfl,rfl⟩,by decide⟩,trivial⟩
theorem XI{t n b u no lim:Int}{st:STS}(hu:0≤u∧u≤1000):hpW t n b st (qT t n u no lim st).1:=(aEv (aAC (b:=b) hu)).1
theorem UF{t n b:Int}(sh kd ky most:Int){st:STS}(hn:1≤n∧n≤1000)(hst:stW b st):tR t n sh kd ky most st:=aEy (F6 hn hst)
theorem aCA{t n b:Int}(sh kd ky most:Int){st:STS}(hn:1≤n∧n≤1000)(hst:stW b st):ftW t b st (ftNF t n sh kd ky most st).1:=(aEv (F6 (t:=t) hn hst)).1
theorem zZ{t n b:Int}(sh kd ky most:Int){st:STS}(hn:1≤n∧n≤1000)(hst:stW b st):(ftNF t n sh kd ky most st).2=st:=(aEv (F6 (t:=t) hn hst)).2
structure dqW (t n b:Int) (st:STS) (x:DOS):Prop where
 h:x.at'=0∨x.at'=1∨x.at'=2∨x.at'=3∨x.at'=4∨x.at'=5∨x.at'=6∨x.at'=7∨x.at'=8∨x.at'=9
 hd:x.at'=0→hdW t x.hd
 hp:x.at'=1∨x.at'=5→hpW t n b st x.hp
 en:x.at'=2→enI t n b x.en
 ft:x.at'=3→ftW t b st x.ft
 an:x.at'=4→anW t x.an
 aw:x.at'=6→awW t x.aw
 fn:x.at'=7→T6 t x.fn∧M7 (b - st.R.length) x.fn
 dr:x.at'=8→drW t x.dr
 sw:x.at'=9→WE t n b x.sw
structure aCb (t n b:Int) (s:MS) (o:DqO):Prop where
 a:Act1 s o.s
 st:stW (b+1) o.st
 w:o.d=false→dqW t n (b+1) o.st o.x
theorem W7{t n b:Int}{x:DOS}{st:STS}{s:MS}(hb:kZ t n s)(hx:dqW t n b st x)(hst:stW b st)(hbb:b≤900000):(A8 t n x st s).run (aCb t n b s):=by
 have hb':=hb;obtain⟨ht,hn,⟨c0,c1⟩,hw⟩:=hb;obtain⟨n0,n1⟩:=hn;obtain⟨t0,t1⟩:=ht;obtain⟨h,xhd,xhp,xen,xft,xan,xaw,xfn,xdr,xsw⟩:=hx;have hR0:=hst.ln;have hst1:stW (b+1) st:=jV hst (by omega)
 have hnn:1≤n∧n≤1000:=⟨n0,n1⟩;have hme:=hst.m;have b0:0≤b:=by omega
 unfold A8;refine aEn (fun h0=>?c0) (fun h0=>aEn (fun h1=>?c1) (fun h1=>aEn (fun h2=>?c2) (fun h2=>aEn (fun h3=>?c3) (fun h3=>aEn (fun h4=>?c4) (fun h4=>aEn (fun h5=>?c5) (fun h5=>aEn (fun h6=>?c6) (fun h6=>aEn (fun h7=>?c7) (fun h7=>aEn (fun h8=>?c8) (fun h8=>aEn (fun h9=>?c9) (fun h9=>?c10))))))))))
 case' c0=>have hc:=xhd (fV h0);have hC:=aAz hb' hc;have hCo:=aAy hb' hc;have hA:=hC.a;have hS:=hst1;have hSl:=hS.ln;obtain⟨v0,v1⟩:=hC.p;unfold qE
 case' c1=>have hc:=xhp (.inl (fV h1));have hC:=PH hb' hc hst hbb;have hCo:=PG hb' hc hst hbb;have hA:=hC.a;have hS:=hC.st;have hme:=hS.m;have hSl:=hS.ln;unfold B6
 case' c2=>have hc:=xen (fV h2);have hC:=OK hb' hc hst;have hCo:=OJ hb' hc hst hbb;have hA:=hC.a;have hS:=hC.st;have hme:=hS.m;have hSl:=hS.ln;unfold qF
 case' c3=>have hc:=xft (fV h3);have hC:=aAo hb' hc hst hbb;have hCo:=aAn hb' hc hst hbb;have hA:=hC.a;have hS:=hC.st;have hme:=hS.m;have hSl:=hS.ln;unfold qG
 case' c4=>have hc:=xan (fV h4);have hC:=YF hb' hc;have hCo:=YE hb' hc;have hA:=hC.a;have hS:=hst1;have hSl:=hS.ln;unfold B7
 case' c5=>have hc:=xhp (.inr (fV h5));have hC:=PH hb' hc hst hbb;have hCo:=PG hb' hc hst hbb;have hA:=hC.a;have hS:=hC.st;have hme:=hS.m;have hSl:=hS.ln;unfold B8
 case' c6=>have hc:=xaw (fV h6);have hC:=YO hb' hc;have hCo:=YN hb' hc;have hA:=hC.a;have hS:=hst1;have hSl:=hS.ln;unfold B9
 case' c7=>obtain⟨hfw,hfq⟩:=xfn (fV h7);have hF:=F4 hb' hfw hfq (by omega);have hFo:=F3 hb' hfw hfq (by omega);have hA:=hF.a;have hQ:=hF.q;have hQl:=hQ.ln;have hS:stW (b+1) {me:=st.me,sp:=st.sp,R:=st.R++(fnF t n x.fn s).x.ul } :=AX hst hQ;unfold qH
 case' c8=>have hc:=xdr (fV h8);have hC:=ZL hb' hc;have hCo:=ZK hb' hc;have hA:=hC.a;have hS:=hst1;unfold qI
 case' c9=>have hc:=xsw (fV h9);have hC:=aBB hb' hc hst;have hCo:=aBA hb' hc hst hbb;have hA:=hC.a;have hS:=hC.st;unfold qJ
 case c10=>
  simp only [bN,beq_eq_false_iff_ne]at h0 h1 h2 h3 h4 h5 h6 h7 h8 h9;rcases h with e | e | e | e | e | e | e | e | e | e<;>contradiction
 all_goals (repeat' (with_reducible first | exact trivial | rfl | assumption | refine aEo ?_ ?_ | refine Tr.run_ite (fun _=>?_) (fun _=>?_) | refine aEp ?_ | refine And.intro ?_ ?_))
 all_goals first
  | exact aX
  | (intro _;decide)
  | assumption
  | exact TF _ _ _
  | exact SD _ _ _
  | exact R5 _ _ _ _ _ _
  | exact U1 _ _ _ _ _ _
  | exact qO hnn hme (cS _ _)
  | exact UF _ _ _ _ hnn hS
  | (simp only [List.length_append,List.length_singleton];done)
  | (refine⟨by first | assumption | exact aX,by first | assumption | (dsimp only;rw [zZ _ _ _ _ hnn hS];assumption),fun hd=>?_⟩
     first
      | exact Bool.noConfusion hd
      | (refine⟨by dsimp only;decide,?_,?_,?_,?_,?_,?_,?_,?_,?_⟩<;>first | (exact nE') | (intro _;exact hC.w (by assumption)) | (intro _;exact XI ⟨by first | omega | (simp_all [cD,bP];done) | (simp_all [cD,bP];omega),v1⟩) | (intro _;exact trivial) | (intro _;dsimp only;rw [zZ _ _ _ _ hnn hS];exact aCA _ _ _ _ hnn hS) | (intro _;dsimp only;with_reducible exact aB3 _ _ hme) | (intro _;dsimp only;with_reducible exact aCo _ _ hme) | (intro _;dsimp only;with_reducible exact aBZ _ _ _ _ _ hme) | (intro _;exact⟨CW (t:=t) (n:=n) hnn hme (cS _ _),hZ (CV (t:=t) (n:=n) hnn hme (cS _ _)) (by dsimp only;omega)⟩) | (intro _;exact XI hme) | (intro _;exact⟨hF.w (by assumption),hZ hQ (by dsimp only;omega)⟩)))
theorem OF{t n b:Int}{x:DOS}{st:STS}{s:MS}(hb:kZ t n s)(hx:dqW t n b st x)(hst:stW b st)(hbb:b≤900000):dqOk t n x st s:=aEy (W7 hb hx hst hbb)
theorem ZD{t n b:Int}{x:DOS}{st:STS}{s:MS}(hb:kZ t n s)(hx:dqW t n b st x)(hst:stW b st)(hbb:b≤900000):aCb t n b s (dqF t n x st s):=aEv (W7 hb hx hst hbb)
theorem OC{t n b:Int}(sh kd ky lim:Int)(st:STS):(OB t n sh kd ky lim st).run (fun r=>dqW t n b st r.1∧r.2=st):=by
 unfold OB
 (repeat' (with_reducible first | exact trivial | rfl | assumption | refine aEo ?_ ?_ | refine Tr.run_ite (fun _=>?_) (fun _=>?_) | refine aEp ?_ | refine And.intro ?_ ?_))
 all_goals first
  | exact aX
  | exact UV _ _
  | (intro _;decide)
  | (refine⟨by dsimp only;decide,fun _=>aCD t n,?_,?_,?_,?_,?_,?_,?_,?_⟩<;>(exact nE'))
inductive Go1 {σ:Type} (F:σ→Bool×σ):Nat→σ→σ→Prop where
 | nil (a:σ):Go1 F 0 a a
 | cons {k:Nat} {a b c:σ} (h:F a=(false,b)) (t:Go1 F k b c):Go1 F (k+1) a c
theorem Go1.trans{σ:Type}{F:σ→Bool×σ}{i j:Nat}{a b c:σ}(h:Go1 F i a b)(g:Go1 F j b c):Go1 F (j+i) a c:=by
 induction h with
 | nil a=>exact g
 | cons h t ih=>exact Go1.cons h (ih g)
theorem Go1.one{σ:Type}{F:σ→Bool×σ}{a b:σ}(h:F a=(false,b)):Go1 F 1 a b:=Go1.cons h (Go1.nil _)
theorem aE8{σ τ:Type}{F:σ→Bool×σ}{G:τ→Bool×τ}(e:σ→τ)(he: ∀a b,F a=(false,b)→G (e a)=(false,e b)){k:Nat}{a b:σ}(h:Go1 F k a b):Go1 G k (e a) (e b):=by
 induction h with
 | nil a=>exact Go1.nil _
 | cons h t ih=>exact Go1.cons (he _ _ h) ih
def End{σ:Type}(F:σ→Bool×σ)(k:Nat)(a z:σ):Prop:= ∃j b,k=j+1∧Go1 F j a b∧F b=(true,z)
theorem aET{σ:Type}{F:σ→Bool×σ}{k j:Nat}{a b z:σ}(h:Go1 F k a b)(g:End F j b z):End F (j+k) a z:=by
 obtain⟨i,c,rfl,h1,h2⟩:=g
 exact⟨i+k,c,by omega,h.trans h1,h2⟩
theorem End.one{σ:Type}{F:σ→Bool×σ}{a z:σ}(h:F a=(true,z)):End F 1 a z:=⟨0,a,rfl,Go1.nil _,h⟩
theorem End.cons{σ:Type}{F:σ→Bool×σ}{j:Nat}{a b z:σ}(h:F a=(false,b))(g:End F j b z):End F (j+1) a z:=aET (Go1.one h) g
abbrev nxW(x:Int):Int:=aA x 10 9
abbrev kyW(x:Int):Int:=aA x 0 10
abbrev mkW(x:Int):Bool:=ieq (aA x 19 1) 1
abbrev clW'(x:Int):Int:=aA x 20 5
abbrev vrW(x:Int):Int:=aA x 25 18
structure okF (k n c v:Int):Prop where
 k:0≤k∧k<1024
 n:0≤n∧n<512
 c:0≤c∧c<32
 v:0≤v∧v<262144
theorem vB{k n c v:Int}{m:Bool}(h:okF k n c v):aA (a7 k n m c v) 0 10=k:=by
 obtain⟨h1,h2,h3,h4⟩:=h
 unfold aA a7 bitI
 cases m<;>simp only [Int.reduceToNat,Int.reducePow,cond_true,cond_false]<;>omega
theorem tG{k n c v:Int}{m:Bool}(h:okF k n c v):aA (a7 k n m c v) 10 9=n:=by
 obtain⟨h1,h2,h3,h4⟩:=h
 unfold aA a7 bitI
 cases m<;>simp only [Int.reduceToNat,Int.reducePow,cond_true,cond_false]<;>omega
theorem oY{k n c v:Int}{m:Bool}(h:okF k n c v):ieq (aA (a7 k n m c v) 19 1) 1=m:=by
 obtain⟨h1,h2,h3,h4⟩:=h
 unfold aA a7 bitI
 cases m<;>simp only [Int.reduceToNat,Int.reducePow,cond_true,cond_false,bN,beq_iff_eq,beq_eq_false_iff_ne]<;>omega
theorem p9{k n c v:Int}{m:Bool}(h:okF k n c v):aA (a7 k n m c v) 20 5=c:=by
 obtain⟨h1,h2,h3,h4⟩:=h
 unfold aA a7 bitI
 cases m<;>simp only [Int.reduceToNat,Int.reducePow,cond_true,cond_false]<;>omega
theorem IJ(x a w:Int):aG (aA x a w) w=true:=eH.2 l9
theorem rE(v:Int):0≤aQ v∧aQ v<262144:=by unfold aQ;omega
theorem sE(v:Int):aG (aQ v) 18=true:=eH.2 (rE v)
theorem SS(x y z v:Int)(hv:0≤v∧v<262144):okF (aA x 0 10) (aA y 10 9) (aA z 20 5) v:=by
 refine⟨?_,?_,?_,hv⟩
 ·have:=l9 (x:=x) (a:=0) (w:=10);simpa using this
 ·have:=l9 (x:=y) (a:=10) (w:=9);simpa using this
 ·have:=l9 (x:=z) (a:=20) (w:=5);simpa using this
theorem mF{k n c v:Int}{m:Bool}(h:okF k n c v):0≤a7 k n m c v∧a7 k n m c v≤18446744073709551615:=by
 obtain⟨h1,h2,h3,h4⟩:=h
 unfold a7 bitI
 cases m<;>simp only [cond_true,cond_false]<;>omega
theorem wA{xs:List Int}{a b v:Int}(h:0≤a∧a<xs.length):aB (aK xs a v) b=if b=a then v else aB xs b:=by
 rw [uQ h]
 unfold aB
 rw [List.length_set]
 by_cases e:b=a
 ·subst e
  rw [if_pos rfl,if_pos h,gD',List.getElem?_set_self (by omega)]
  rfl
 ·rw [if_neg e]
  by_cases hb:0≤b∧b<xs.length
  ·rw [if_pos hb,if_pos hb,gD',List.getElem?_set_ne (by omega),←gD']
  ·rw [if_neg hb,if_neg hb]
theorem dP{xs:List Int}{a v:Int}(h:0≤a∧a<xs.length):aB (aK xs a v) a=v:=by rw [wA h,if_pos rfl]
theorem cI{xs:List Int}{a b v:Int}(h:b≠a):aB (aK xs a v) b=aB xs b:=by
 by_cases ha:0≤a∧a<xs.length
 ·rw [wA ha,if_neg h]
 ·rw [nW ha]
theorem F9{xs:List Int}{a:Int}(h:0≤a∧a<xs.length):bK xs a=true:=lJ.2 h
theorem i6{xs:List Int}{a x:Int}(h:0≤a∧a<xs.length)(hx:aB xs a=x):aT xs a x=true:=by
 unfold aT;rw [F9 h,hx,bZ];rfl
def A9(t n:Int)(p:FNS×MS):Bool×(FNS×MS):=((fnF t n p.1 p.2).d,((fnF t n p.1 p.2).x,(fnF t n p.1 p.2).s))
theorem OZ{t n:Int}{x:FNS}{s:MS}(h:x.at'=0)(hm:mkW (aB s.xs x.pred)=false):fnF t n x s=⟨ieq (nxW (aB s.xs x.pred)) 0,{x with pw:=aB s.xs x.pred,curr:=nxW (aB s.xs x.pred),cw:=0,at':=1,cl:=bE},s.loadd x.pred⟩:=by
 unfold fnF IK
 rw [h]
 show(vK t n x s).val =_
 unfold vK
 simp only [Tr.val,hm,cond_false]
 rfl
theorem OX{t n:Int}{x:FNS}{s:MS}(h:x.at'=1):fnF t n x s=⟨false,{x with at':=2,cl:=bE},s.stored (2*n+5+2*x.me+1) (WU x.curr)⟩:=by
 unfold fnF IK
 rw [h]
 show(xZ t n x s).val =_
 rfl
theorem OW{t n:Int}{x:FNS}{s:MS}(h:x.at'=2)(he:aB s.xs x.pred=x.pw):fnF t n x s=⟨false,{x with at':=3,cl:=bE},s.loadd x.pred⟩:=by
 unfold fnF IK
 rw [h]
 show(vL t n x s).val =_
 unfold vL
 simp only [Tr.val,he,bZ,Bool.not_true,cond_false]
 simp only [←he]
 rfl
theorem OY{t n:Int}{x:FNS}{s:MS}(h:x.at'=3)(hm:mkW (aB s.xs x.curr)=false)(hk:x.key≤kyW (aB s.xs x.curr)):fnF t n x s=⟨true,{x with cw:=aB s.xs x.curr,cl:=bE},s.loadd x.curr⟩:=by
 unfold fnF IK
 rw [h]
 show(nH t n x s).val =_
 unfold nH
 have hk':ile x.10 (aA (aB s.xs x.3) 0 10)=true:=by rw [cD];exact decide_eq_true hk
 simp only [Tr.val,hm,hk',Bool.not_false,cond_true]
 simp only [←h]
 rfl
theorem T7{t n:Int}{x:FNS}{s:MS}(h:x.at'=3)(hm:mkW (aB s.xs x.curr)=false)(hk:kyW (aB s.xs x.curr)<x.key):fnF t n x s=⟨false,{x with cw:=aB s.xs x.curr,at':=6,cl:=bE},s.loadd x.curr⟩:=by
 unfold fnF IK
 rw [h]
 show(nH t n x s).val =_
 unfold nH
 have hk':ile x.10 (aA (aB s.xs x.3) 0 10)=false:=by rw [cD];exact decide_eq_false (by have:aA (aB s.xs x.curr) 0 10<x.key:=hk;show¬x.key≤_;omega)
 simp only [Tr.val,hm,hk',Bool.not_false,cond_true,cond_false]
 rfl
theorem T8{t n:Int}{x:FNS}{s:MS}(h:x.at'=3)(hm:mkW (aB s.xs x.curr)=true)(hc:clW' (aB s.xs x.curr)=0)(hp:clW' x.pw=0):fnF t n x s=⟨false,{x with cw:=aB s.xs x.curr,at':=5,cl:=bE},s.loadd x.curr⟩:=by
 unfold fnF IK
 rw [h]
 show(nH t n x s).val =_
 unfold nH
 have hc':ieq (aA (aB s.xs x.3) 20 5) 0=true:=by rw [show aA (aB s.xs x.3) 20 5=0 from hc];exact bZ 0
 have hp':ieq (aA x.2 20 5) 0=true:=by rw [show aA x.2 20 5=0 from hp];exact bZ 0
 simp only [Tr.val,hm,hc',hp',Bool.not_true,cond_false]
 cases h2:ile x.10 (aA (aB s.xs x.3) 0 10)<;>rfl
theorem T9{t n:Int}{x:FNS}{s:MS}(h:x.at'=6)(hn:n≤1000)(hm:0≤x.moved∧x.moved+1≤n):fnF t n x s=⟨false,{x with pred:=x.curr,at':=0,moved:=x.moved+1,cl:=bE},s.stored (2*n+5+2*x.me+0) (WU x.curr)⟩:=by
 unfold fnF IK
 rw [h]
 show(vN t n x s).val =_
 unfold vN
 have hw:W (x.13+1)=x.13+1:=cJ ⟨by have:0≤x.13:=hm.1;omega,by have:x.13+1≤n:=hm.2;omega⟩
 have hk':ile (x.13+1) n=true:=by rw [cD];exact decide_eq_true hm.2
 simp only [Tr.val,hw,hk',cond_true]
 rfl
def lnkW(pw cw:Int):Int:=a7 (kyW pw) (nxW cw) (mkW pw) (clW' pw) (aQ (vrW pw))
theorem VH(pw cw:Int):(bif bif aG (aA pw 0 10) 10 then bif aG (aA cw 10 9) 9 then bif aG (aA pw 20 5) 5 then aG (aQ (aA pw 25 18)) 18 else false else false else false then a7 (aA pw 0 10) (aA cw 10 9) (ieq (aA pw 19 1) 1) (aA pw 20 5) (aQ (aA pw 25 18))else 0)=lnkW pw cw:=by
 simp only [IJ,sE,cond_true]
 rfl
theorem GN(pw cw:Int):okF (kyW pw) (nxW cw) (clW' pw) (aQ (vrW pw)):=SS _ _ _ _ (rE _)
theorem K4{t n:Int}{x:FNS}{s:MS}(h:x.at'=5)(hn:n≤1000)(hm:0≤x.moved∧x.moved+1≤n)(hb:0≤x.pred∧x.pred<s.xs.length)(he:aB s.xs x.pred=x.pw)(hk:mkW x.pw=false):fnF t n x s=⟨ieq (nxW x.cw) 0,{x with pw:=lnkW x.pw x.cw,curr:=nxW x.cw,cw:=0,ul:=x.ul++ [x.curr],at':=1,moved:=x.moved+1,cl:=bE},s.cased x.pred x.pw (lnkW x.pw x.cw)⟩:=by
 unfold fnF IK
 rw [h]
 show(vM t n x s).val =_
 unfold vM
 have hc:=i6 hb he
 have hw:W (x.13+1)=x.13+1:=cJ ⟨by have:0≤x.13:=hm.1;omega,by have:x.13+1≤n:=hm.2;omega⟩
 have hk':ile (x.13+1) n=true:=by rw [cD];exact decide_eq_true hm.2
 have hm2:ieq (aA (lnkW x.2 x.4) 19 1) 1=false:=(oY (GN x.pw x.cw)).trans hk
 have hn2:aA (lnkW x.2 x.4) 10 9=aA x.4 10 9:=tG (GN x.pw x.cw)
 have hi:bK s.3 x.1=true:=F9 hb
 have hc2:aT s.3 x.1 x.2=true:=hc
 simp only [Tr.val,VH,hc2,Bool.not_true,hw,hk',hm2,hn2,hi,cond_true,cond_false]
 unfold MS.cased MS.did
 simp only [hc,F9 hb,cond_true]
end Go.Sh
