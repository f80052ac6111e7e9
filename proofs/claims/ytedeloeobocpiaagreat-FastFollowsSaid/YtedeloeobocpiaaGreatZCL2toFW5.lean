import Derived.Test.YtedeloeobocpiaaGreatZFR1toCL1
set_option linter.all false
set_option maxHeartbeats 8000000
namespace Go.Sh
open Go Go.Proofs
variable [Con]
structure okAW (A:List (List Int)):Prop where
 h: ∀r∈A,0≤a2 r∧a2 r≤18446744073709551615
theorem okAW.row{A:List (List Int)}(h:okAW A)(s:TS):0≤a2 (tRow A s)∧a2 (tRow A s)≤18446744073709551615:=by
 unfold tRow
 rw [gD']
 cases e:A[0+s.i.toNat]? with
 | none=>exact⟨by decide,by decide⟩
 | some r=>exact h.h r (List.mem_of_getElem? e)
theorem okAW.got{A:List (List Int)}(h:okAW A)(s:TS)(k a:Int):0≤a2 (tGot A s k a)∧a2 (tGot A s k a)≤18446744073709551615:=by
 unfold tGot
 cases tHit A s k a with
 | true=>exact h.row s
 | false=>exact⟨Int.le_refl 0,(by decide:(0:Int)≤18446744073709551615)⟩
theorem oI(A:List (List Int))(s:TS)(k a:Int):s.i≤(aG A s k a).i ∧(aG A s k a).i ≤s.i+1:=by
 unfold aG
 cases (s.bad||s.out)
 ·cases ile (A.length:Int) s.i
  ·show s.i≤s.i+1∧s.i+1≤s.i+1;omega
  ·show s.i≤s.i∧s.i≤s.i+1;omega
 ·show s.i≤s.i∧s.i≤s.i+1;omega
theorem QX(A:List (List Int))(s:TS)(a x y:Int):s.i≤(tCas A s a x y).i ∧(tCas A s a x y).i ≤s.i+1:=oI A s 3 a
def MC(x:Int):Int:=bO (aA x 0 10) (aA x 10 9) (ieq (aA x 19 1) 1) 0 (Int.tmod (W (aA x 25 18+1)) 262144)
def AW(y:Int):Int:=eI (aA y 0 12%4096) (aA y 12 9%512) (aA y 21 18%262144) (aA y 39 9%512) (ieq (aA y 48 1) 1) (3%8) (aA y 52 10%1024)
def tclA(t n x:Int):Int:=2*n+5+2*t+3*W (aA x 20 5 - 1)+2
def tclP(A:List (List Int))(s2:TS)(da a x y:Int):TS:=bif !bif s2.bad then true else s2.out then bif ieq (aA y 49 3) 2 then bif ieq (aA y 12 9) a then bif ieq (aA y 21 18) (aA x 25 18)then tCas A s2 da y (AW y)else s2 else s2 else s2 else s2
def MF(A:List (List Int))(t n:Int)(s1:TS)(a x:Int):TS:=bif bif s1.bad then true else s1.out then s1 else bif ieq (aA x 20 5) 0 then s1 else bif ilt t (aA x 20 5)then s1 else tCas A (tclP A (aG A s1 1 (tclA t n x)) (tclA t n x) a x (a2 (tGot A s1 1 (tclA t n x)))) a x (MC x)
def pE(A:List (List Int))(t n:Int)(s:TS)(a:Int):TS:=MF A t n (aG A s 1 a) a (a2 (tGot A s 1 a))
theorem FF{A:List (List Int)}{t n a i:Int}{K:AVal→aB Ob→Prop}(hA:okAW A)(ht:0≤t∧t≤100000)(hn:0≤n∧n≤100000)(hi:0≤i∧i≤4000000000000000000)(hK:K (.tup []) (cN A (pE A t n ⟨i,false,false⟩ a))):B8 A t n a i K:=by
 unfold B8
 have b1:=oI A ⟨i,false,false⟩ 1 a
 have w1:=hA.got ⟨i,false,false⟩ 1 a
 unfold pE at hK
 generalize a2 (tGot A ⟨i,false,false⟩ 1 a)=x at*
 generalize aG A ⟨i,false,false⟩ 1 a=s1 at*
 have b1:i≤s1.i∧s1.i≤i+1:=b1
 refine⟨⟨rfl,by omega⟩,w1,trivial,?_⟩
 unfold MF at hK
 refine aF (fun e=>?_) (fun e1=>aF (fun e=>?_) (fun e2=>aF (fun e=>?_) (fun e3=>?_)))
 ·rw [e]at hK;exact hK
 ·rw [e1,e]at hK;exact hK
 ·rw [e1,e2,e]at hK;exact hK
 rw [e1,e2,e3]at hK
 have hK:K (.tup []) (cN A (tCas A (tclP A (aG A s1 1 (tclA t n x)) (tclA t n x) a x (a2 (tGot A s1 1 (tclA t n x)))) a x (MC x))):=hK
 have c1:0≤aA x 20 5∧aA x 20 5<32:=by have h:=cE (x:=x) (a:=20) (w:=5);rwa [show(2:Int)^(5:Int).toNat =32 from rfl]at h
 have c2:0≤aA x 0 10∧aA x 0 10<1024:=by have h:=cE (x:=x) (a:=0) (w:=10);rwa [show(2:Int)^(10:Int).toNat =1024 from rfl]at h
 have c3:0≤aA x 10 9∧aA x 10 9<512:=by have h:=cE (x:=x) (a:=10) (w:=9);rwa [show(2:Int)^(9:Int).toNat =512 from rfl]at h
 have c4:0≤aA x 25 18∧aA x 25 18<262144:=by have h:=cE (x:=x) (a:=25) (w:=18);rwa [show(2:Int)^(18:Int).toNat =262144 from rfl]at h
 have hW:W (aA x 20 5 - 1)=aA x 20 5 - 1:=cO (by omega)
 have hV:W (aA x 25 18+1)=aA x 25 18+1:=cO (by omega)
 have m1:0≤Int.tmod (W (aA x 25 18+1)) 262144:=Int.tmod_nonneg _ (by omega)
 have m2:Int.tmod (W (aA x 25 18+1)) 262144<262144:=Int.tmod_lt_of_pos _ (by omega)
 have hda:2*n+5+2*t+3*W (aA x 20 5 - 1)+2=tclA t n x:=rfl
 rw [hda]
 have b2:=oI A s1 1 (tclA t n x)
 have w2:=hA.got s1 1 (tclA t n x)
 generalize a2 (tGot A s1 1 (tclA t n x))=y at*
 generalize aG A s1 1 (tclA t n x)=s2 at*
 have d1:0≤aA y 0 12∧aA y 0 12<4096:=by have h:=cE (x:=y) (a:=0) (w:=12);rwa [show(2:Int)^(12:Int).toNat =4096 from rfl]at h
 have d2:0≤aA y 12 9∧aA y 12 9<512:=by have h:=cE (x:=y) (a:=12) (w:=9);rwa [show(2:Int)^(9:Int).toNat =512 from rfl]at h
 have d3:0≤aA y 21 18∧aA y 21 18<262144:=by have h:=cE (x:=y) (a:=21) (w:=18);rwa [show(2:Int)^(18:Int).toNat =262144 from rfl]at h
 have d4:0≤aA y 39 9∧aA y 39 9<512:=by have h:=cE (x:=y) (a:=39) (w:=9);rwa [show(2:Int)^(9:Int).toNat =512 from rfl]at h
 have d5:0≤aA y 52 10∧aA y 52 10<1024:=by have h:=cE (x:=y) (a:=52) (w:=10);rwa [show(2:Int)^(10:Int).toNat =1024 from rfl]at h
 have b3:=QX A s2 (tclA t n x) y (AW y)
 unfold tclP at hK
 refine⟨⟨ht,hn,by omega⟩,⟨rfl,by omega⟩,w2,trivial,?_⟩
 refine aF (fun f1=>aF (fun f2=>aF (fun f3=>aF (fun f4=>?_) (fun f4=>?_)) (fun f3=>?_)) (fun f2=>?_)) (fun f1=>?_)
 ·rw [f1,f2,f3,f4]at hK
  exact⟨⟨ht,hn,by omega⟩,⟨by omega,by omega,by omega,by omega,by decide,by omega⟩,⟨⟨rfl,by omega⟩,trivial⟩,by decide,⟨by omega,by omega,by decide,m1,m2⟩,⟨rfl,by show 0≤(tCas A s2 (tclA t n x) y (AW y)).i ∧(tCas A s2 (tclA t n x) y (AW y)).i ≤_;omega⟩,hK⟩
 ·rw [f1,f2,f3,f4]at hK
  exact⟨by decide,⟨by omega,by omega,by decide,m1,m2⟩,⟨rfl,by omega⟩,hK⟩
 ·rw [f1,f2,f3]at hK
  exact⟨by decide,⟨by omega,by omega,by decide,m1,m2⟩,⟨rfl,by omega⟩,hK⟩
 ·rw [f1,f2]at hK
  exact⟨by decide,⟨by omega,by omega,by decide,m1,m2⟩,⟨rfl,by omega⟩,hK⟩
 ·rw [f1]at hK
  exact⟨by decide,⟨by omega,by omega,by decide,m1,m2⟩,⟨rfl,by omega⟩,hK⟩
def tloadN:aL Ob:=fun args h=>match args,eD h with
 | [.ptr 0 0,.int .i64 a],some (l,s,A)=>some (.pre (l=A.length∧okAW A∧(0≤s.i∧s.i≤4000000000000000000)) (.all (Int×TS) (fun p=>p=(a2 (tGot A s 1 a),aG A s 1 a)) fun p=>.ret (.int .u64 p.1) (cN A p.2)))
 | _,_=>none
theorem D6:aL.ok E16a.I Tryz.prog 74 tloadN:=by
 intro args h o ho K hK
 unfold tloadN at ho
 split at ho<;>cases ho
 rename_i a l s A hm
 obtain⟨⟨hl,hA,hi⟩,hK⟩:=hK
 refine yI [.ptr 0 0,.int .i64 a] h (.pre (l=A.length∧(0≤s.i∧s.i≤4611686018427387904)) (.ret (.int .u64 (a2 (tGot A s 1 a))) (cN A (aG A s 1 a)))) ?_ K ⟨⟨hl,by omega⟩,hK _ rfl⟩
 unfold tloadS
 simp only [hm]
def tstoreN:aL Ob:=fun args h=>match args,eD h with
 | [.ptr 0 0,.int .i64 a,.int .u64 x],some (l,s,A)=>some (.pre (l=A.length∧(0≤s.i∧s.i≤4000000000000000000)) (.all TS (fun p=>p=dH A s a x) fun p=>.ret (.tup []) (cN A p)))
 | _,_=>none
theorem AY:aL.ok E16a.I Tryz.prog 137 tstoreN:=by
 intro args h o ho K hK
 unfold tstoreN at ho
 split at ho<;>cases ho
 rename_i a x l s A hm
 obtain⟨⟨hl,hi⟩,hK⟩:=hK
 refine uI [.ptr 0 0,.int .i64 a,.int .u64 x] h (.pre (l=A.length∧(0≤s.i∧s.i≤4611686018427387904)) (.ret (.tup []) (cN A (dH A s a x)))) ?_ K ⟨⟨hl,by omega⟩,hK _ rfl⟩
 unfold tstoreS
 simp only [hm]
def tcasN:aL Ob:=fun args h=>match args,eD h with
 | [.ptr 0 0,.int .i64 a,.int .u64 x,.int .u64 y],some (l,s,A)=>some (.pre (l=A.length∧(0≤s.i∧s.i≤4000000000000000000)) (.all (Bool×TS) (fun p=>p=(a4 (tGot A s 3 a),tCas A s a x y)) fun p=>.ret (.bool p.1) (cN A p.2)))
 | _,_=>none
theorem IU:aL.ok E16a.I Tryz.prog 82 tcasN:=by
 intro args h o ho K hK
 unfold tcasN at ho
 split at ho<;>cases ho
 rename_i a x y l s A hm
 obtain⟨⟨hl,hi⟩,hK⟩:=hK
 refine vO [.ptr 0 0,.int .i64 a,.int .u64 x,.int .u64 y] h (.pre (l=A.length∧(0≤s.i∧s.i≤4611686018427387904)) (.ret (.bool (a4 (tGot A s 3 a))) (cN A (tCas A s a x y)))) ?_ K ⟨⟨hl,by omega⟩,hK _ rfl⟩
 unfold tcasS
 simp only [hm]
def clrN:aL Ob:=fun args h=>match args,eD h with
 | [.ptr 0 0,.agg [.int .i64 t,.int .i64 n],.int .i64 a],some (l,s,A)=>some (.pre (l=A.length∧okAW A∧(0≤t∧t≤100000)∧(0≤n∧n≤100000)∧(0≤s.i∧s.i≤4000000000000000000)∧s.bad=false∧s.out=false) (.all TS (fun p=>p=pE A t n s a) fun p=>.ret (.tup []) (cN A p)))
 | _,_=>none
theorem JM:aL.ok E24.I Tryz.prog 80 clrN:=by
 intro args h o ho K hK
 unfold clrN at ho
 split at ho<;>cases ho
 rename_i t n a l s A hm
 obtain⟨⟨hl,hA,ht,hn,hi,hb,hu⟩,hK⟩:=hK
 have hh:=d9 hm hl
 subst hh
 obtain⟨i,bad,out⟩:=s
 have hb:bad=false:=hb
 have hu:out=false:=hu
 subst hb hu
 exact wI A t n a i K (FF hA ht hn hi (hK _ rfl))
noncomputable def ETP:=(((E24.addS 74 (cU KA tloadN) (cD D6)).addS 137 (cU KA tstoreN) (cD AY)).addS 82 (cU KA tcasN) (cD IU)).addS 80 (cU KA clrN) (cD JM)
def nH(k:Nat)(l:List AVal):List AVal:=List.replicate k .O ++l
structure FNX where
 s:TS
 pred:Int
 pw:Int
 curr:Int
 cw:Int
 tries:Int
 R:List Int
 moves:Int
 loaded:Bool
def dQ(A:List (List Int))(t n me head key lim:Int)(ok:FNX→Prop)(mu:FNX→Nat):Hint Ob:= {X:=FNX,st:=fun x=>([.ptr 0 0,.O,.int .i64 me,.int .i64 head,.int .i64 key,.int .i64 lim,.O,.ptr 2 0,.O,.O,.O,.O,.ptr 3 0,.ptr 4 0,.int .i64 x.moves,.bool x.loaded]++List.replicate 198 .O,cN A x.s++ [some (.cells [.int .i64 t,.int .i64 n]),some (.cells [.int .i64 0,.int .u64 0,.int .i64 0,.int .u64 0,.int .i64 0,.raw (.slice none 0 0),.bool false]),some (.cells [.int .i64 x.pred,.int .u64 x.pw,.int .i64 x.curr,.int .u64 x.cw,.int .i64 x.tries,.slice 5 0 x.R.length 1,.bool false]),some (.ints (some .i64) x.R)]),ok:=ok,mu:=mu,keep:=[0,2,3,4,5,7,12,13,14,15],casts:=[(.cell 4 5,.ints (some .i64)),(.cell 5 5,.ints (some .i64)),(.cell 6 5,.ints (some .i64))] }
def VD:=((.ptr 3 0)::(.ptr 4 0)::(.int .i64 0)::(.bool false)::nH 198 ([]))
def VF(x:FNX):=((.ptr 3 0)::(.ptr 4 0)::(.int .i64 x.8)::(.bool false)::nH 198 ([]))
def VG(x:FNX):=((.ptr 3 0)::(.ptr 4 0)::(.int .i64 (W (x.8+1)))::(.bool true)::nH 198 ([]))
def VH(x:FNX):=((.ptr 3 0)::(.ptr 4 0)::(.int .i64 (W (x.8+1)))::(.bool false)::nH 198 ([]))
def Q5(me:Int)(head:Int)(key:Int)(lim:Int):=((.ptr 0 0):: .O ::(.int .i64 me)::(.int .i64 head)::(.int .i64 key)::(.int .i64 lim):: .O ::(.ptr 2 0)::nH 4 VD)
def TL(me:Int)(head:Int)(key:Int)(lim:Int)(x:FNX):=((.ptr 0 0):: .O ::(.int .i64 me)::(.int .i64 head)::(.int .i64 key)::(.int .i64 lim):: .O ::(.ptr 2 0)::nH 4 (VF x))
def UI(me:Int)(head:Int)(key:Int)(lim:Int)(x:FNX):=((.ptr 0 0):: .O ::(.int .i64 me)::(.int .i64 head)::(.int .i64 key)::(.int .i64 lim):: .O ::(.ptr 2 0)::nH 4 (VG x))
def RN(me:Int)(head:Int)(key:Int)(lim:Int)(x:FNX):=((.ptr 0 0):: .O ::(.int .i64 me)::(.int .i64 head)::(.int .i64 key)::(.int .i64 lim):: .O ::(.ptr 2 0)::nH 4 (VH x))
def G3(A:List (List Int))(t n me head key lim:Int)(ok:FNX→Prop)(mu:FNX→Nat)(K:AVal→aB Ob→Prop)(x:FNX)(pw:Int)(s:TS):Prop:=((0:Int)≤pw∧pw≤(18446744073709551615:Int))∧(((0:Int)≤t∧t≤(100000:Int))∧((0:Int)≤n∧n≤(100000:Int))∧((-1099511627776:Int)≤me∧me≤(1099511627776:Int))∧(-1099511627776:Int)≤(1:Int)∧(1:Int)≤(1099511627776:Int))∧(lE' A∧(0:Int)≤s.1∧s.1≤(4000000000000000000:Int))∧ ∀(x_2:TS),x_2=dH A s (2*n+5+2*me+1) (WU (aA pw 10 9))→(lE' A∧okAW A∧(0:Int)≤x_2.1∧x_2.1≤(4000000000000000000:Int))∧ ∀(x_3:Int×TS),x_3=(a2 (tGot A x_2 1 x.2),aG A x_2 1 x.2)→True∧bif bif (Prod.snd x_3).2 then true else(Prod.snd x_3).3 then K (.agg [.int .i64 x.2,.int .u64 pw,.int .i64 (aA pw 10 9),.int .u64 0,.int .i64 x.6,.slice 2 0 (List.length x.7) 1,.bool false]) [some (.cells [.tslice 1 0 (List.length A) 5,.int .i64 (Prod.snd x_3).1,.bool (Prod.snd x_3).2,.bool (Prod.snd x_3).3]),some (.tab [some .i64,some .i64,some .u64,some .u64,none] A),some (.ints (some .i64) x.7)]else bif !ieq x_3.1 pw then bif ilt lim (W (x.6+1))then K (.agg [.int .i64 0,.int .u64 0,.int .i64 0,.int .u64 0,.int .i64 (W (x.6+1)),.slice 2 0 (List.length x.7) 1,.bool true]) [some (.cells [.tslice 1 0 (List.length A) 5,.int .i64 (Prod.snd x_3).1,.bool (Prod.snd x_3).2,.bool (Prod.snd x_3).3]),some (.tab [some .i64,some .i64,some .u64,some .u64,none] A),some (.ints (some .i64) x.7)]else((0:Int)≤x_3.1∧x_3.1≤(18446744073709551615:Int))∧bif ieq (aA x_3.1 19 1) 1 then cP (dQ A t n me head key lim ok mu) (fun x'=>Hint.ok (dQ A t n me head key lim ok mu) x'∧Hint.mu (dQ A t n me head key lim ok mu) x'<Hint.mu (dQ A t n me head key lim ok mu) x) (Q5 me head key lim) [some (.cells [.tslice 1 0 (List.length A) 5,.int .i64 (Prod.snd x_3).1,.bool (Prod.snd x_3).2,.bool (Prod.snd x_3).3]),some (.tab [some .i64,some .i64,some .u64,some .u64,none] A),some (.cells [.int .i64 t,.int .i64 n]),some (.cells [.int .i64 0,.int .u64 0,.int .i64 0,.int .u64 0,.int .i64 0,.raw (Value.slice none 0 0),.bool false]),some (.cells [.int .i64 (W (W (n+1)+head)),.int .u64 x_3.1,.int .i64 (aA pw 10 9),.int .u64 0,.int .i64 (W (x.6+1)),.slice 5 0 (List.length x.7) 1,.bool false]),some (.ints (some .i64) x.7)]else cP (dQ A t n me head key lim ok mu) (fun x'=>Hint.ok (dQ A t n me head key lim ok mu) x'∧Hint.mu (dQ A t n me head key lim ok mu) x'<Hint.mu (dQ A t n me head key lim ok mu) x) ((.ptr 0 0):: .O ::(.int .i64 me)::(.int .i64 head)::(.int .i64 key)::(.int .i64 lim):: .O ::(.ptr 2 0)::nH 4 ((.ptr 3 0)::(.ptr 4 0)::(.int .i64 x.8)::(.bool true)::nH 198 ([]))) [some (.cells [.tslice 1 0 (List.length A) 5,.int .i64 (Prod.snd x_3).1,.bool (Prod.snd x_3).2,.bool (Prod.snd x_3).3]),some (.tab [some .i64,some .i64,some .u64,some .u64,none] A),some (.cells [.int .i64 t,.int .i64 n]),some (.cells [.int .i64 0,.int .u64 0,.int .i64 0,.int .u64 0,.int .i64 0,.raw (Value.slice none 0 0),.bool false]),some (.cells [.int .i64 x.2,.int .u64 x_3.1,.int .i64 (aA pw 10 9),.int .u64 0,.int .i64 (W (x.6+1)),.slice 5 0 (List.length x.7) 1,.bool false]),some (.ints (some .i64) x.7)]else(lE' A∧okAW A∧(0:Int)≤(Prod.snd x_3).1∧(Prod.snd x_3).1≤(4000000000000000000:Int))∧ ∀(x_4:Int×TS),x_4=(a2 (tGot A x_3.2 1 (aA pw 10 9)),aG A x_3.2 1 (aA pw 10 9))→True∧bif bif (Prod.snd x_4).2 then true else(Prod.snd x_4).3 then K (.agg [.int .i64 x.2,.int .u64 pw,.int .i64 (aA pw 10 9),.int .u64 x_4.1,.int .i64 x.6,.slice 2 0 (List.length x.7) 1,.bool false]) [some (.cells [.tslice 1 0 (List.length A) 5,.int .i64 (Prod.snd x_4).1,.bool (Prod.snd x_4).2,.bool (Prod.snd x_4).3]),some (.tab [some .i64,some .i64,some .u64,some .u64,none] A),some (.ints (some .i64) x.7)]else((0:Int)≤pw∧pw≤(18446744073709551615:Int))∧((0:Int)≤x_4.1∧x_4.1≤(18446744073709551615:Int))∧bif !ieq (aA x_4.1 19 1) 1 then bif ile key (aA x_4.1 0 10)then K (.agg [.int .i64 x.2,.int .u64 pw,.int .i64 (aA pw 10 9),.int .u64 x_4.1,.int .i64 x.6,.slice 2 0 (List.length x.7) 1,.bool false]) [some (.cells [.tslice 1 0 (List.length A) 5,.int .i64 (Prod.snd x_4).1,.bool (Prod.snd x_4).2,.bool (Prod.snd x_4).3]),some (.tab [some .i64,some .i64,some .u64,some .u64,none] A),some (.ints (some .i64) x.7)]else(((0:Int)≤t∧t≤(100000:Int))∧((0:Int)≤n∧n≤(100000:Int))∧((-1099511627776:Int)≤me∧me≤(1099511627776:Int))∧(-1099511627776:Int)≤(0:Int)∧(0:Int)≤(1099511627776:Int))∧(lE' A∧(0:Int)≤(Prod.snd x_4).1∧(Prod.snd x_4).1≤(4000000000000000000:Int))∧ ∀(x_5:TS),x_5=dH A x_4.2 (2*n+5+2*me+0) (WU (aA pw 10 9))→bif ilt n (W (x.8+1))then bif ilt lim (W (x.6+1))then K (.agg [.int .i64 0,.int .u64 0,.int .i64 0,.int .u64 0,.int .i64 (W (x.6+1)),.slice 2 0 (List.length x.7) 1,.bool true]) [some (.cells [.tslice 1 0 (List.length A) 5,.int .i64 x_5.1,.bool x_5.2,.bool x_5.3]),some (.tab [some .i64,some .i64,some .u64,some .u64,none] A),some (.ints (some .i64) x.7)]else bif ilt n (W (x.8+1))then cP (dQ A t n me head key lim ok mu) (fun x'=>Hint.ok (dQ A t n me head key lim ok mu) x'∧Hint.mu (dQ A t n me head key lim ok mu) x'<Hint.mu (dQ A t n me head key lim ok mu) x) (Q5 me head key lim) [some (.cells [.tslice 1 0 (List.length A) 5,.int .i64 x_5.1,.bool x_5.2,.bool x_5.3]),some (.tab [some .i64,some .i64,some .u64,some .u64,none] A),some (.cells [.int .i64 t,.int .i64 n]),some (.cells [.int .i64 0,.int .u64 0,.int .i64 0,.int .u64 0,.int .i64 0,.raw (Value.slice none 0 0),.bool false]),some (.cells [.int .i64 (W (W (n+1)+head)),.int .u64 pw,.int .i64 (aA pw 10 9),.int .u64 x_4.1,.int .i64 (W (x.6+1)),.slice 5 0 (List.length x.7) 1,.bool false]),some (.ints (some .i64) x.7)]else cP (dQ A t n me head key lim ok mu) (fun x'=>Hint.ok (dQ A t n me head key lim ok mu) x'∧Hint.mu (dQ A t n me head key lim ok mu) x'<Hint.mu (dQ A t n me head key lim ok mu) x) (RN me head key lim x) [some (.cells [.tslice 1 0 (List.length A) 5,.int .i64 x_5.1,.bool x_5.2,.bool x_5.3]),some (.tab [some .i64,some .i64,some .u64,some .u64,none] A),some (.cells [.int .i64 t,.int .i64 n]),some (.cells [.int .i64 0,.int .u64 0,.int .i64 0,.int .u64 0,.int .i64 0,.raw (Value.slice none 0 0),.bool false]),some (.cells [.int .i64 (aA pw 10 9),.int .u64 pw,.int .i64 (aA pw 10 9),.int .u64 x_4.1,.int .i64 (W (x.6+1)),.slice 5 0 (List.length x.7) 1,.bool false]),some (.ints (some .i64) x.7)]else bif ilt n (W (x.8+1))then cP (dQ A t n me head key lim ok mu) (fun x'=>Hint.ok (dQ A t n me head key lim ok mu) x'∧Hint.mu (dQ A t n me head key lim ok mu) x'<Hint.mu (dQ A t n me head key lim ok mu) x) (Q5 me head key lim) [some (.cells [.tslice 1 0 (List.length A) 5,.int .i64 x_5.1,.bool x_5.2,.bool x_5.3]),some (.tab [some .i64,some .i64,some .u64,some .u64,none] A),some (.cells [.int .i64 t,.int .i64 n]),some (.cells [.int .i64 0,.int .u64 0,.int .i64 0,.int .u64 0,.int .i64 0,.raw (Value.slice none 0 0),.bool false]),some (.cells [.int .i64 (W (W (n+1)+head)),.int .u64 pw,.int .i64 (aA pw 10 9),.int .u64 x_4.1,.int .i64 x.6,.slice 5 0 (List.length x.7) 1,.bool false]),some (.ints (some .i64) x.7)]else cP (dQ A t n me head key lim ok mu) (fun x'=>Hint.ok (dQ A t n me head key lim ok mu) x'∧Hint.mu (dQ A t n me head key lim ok mu) x'<Hint.mu (dQ A t n me head key lim ok mu) x) (RN me head key lim x) [some (.cells [.tslice 1 0 (List.length A) 5,.int .i64 x_5.1,.bool x_5.2,.bool x_5.3]),some (.tab [some .i64,some .i64,some .u64,some .u64,none] A),some (.cells [.int .i64 t,.int .i64 n]),some (.cells [.int .i64 0,.int .u64 0,.int .i64 0,.int .u64 0,.int .i64 0,.raw (Value.slice none 0 0),.bool false]),some (.cells [.int .i64 (aA pw 10 9),.int .u64 pw,.int .i64 (aA pw 10 9),.int .u64 x_4.1,.int .i64 x.6,.slice 5 0 (List.length x.7) 1,.bool false]),some (.ints (some .i64) x.7)]else bif !ieq (aA x_4.1 20 5) 0 then(lE' A∧okAW A∧((0:Int)≤t∧t≤(100000:Int))∧((0:Int)≤n∧n≤(100000:Int))∧((0:Int)≤(Prod.snd x_4).1∧(Prod.snd x_4).1≤(4000000000000000000:Int))∧(Prod.snd x_4).2=false∧(Prod.snd x_4).3=false)∧ ∀(x_5:TS),x_5=pE A t n x_4.2 (aA pw 10 9)→bif ilt lim (W (x.6+1))then K (.agg [.int .i64 0,.int .u64 0,.int .i64 0,.int .u64 0,.int .i64 (W (x.6+1)),.slice 2 0 (List.length x.7) 1,.bool true]) [some (.cells [.tslice 1 0 (List.length A) 5,.int .i64 x_5.1,.bool x_5.2,.bool x_5.3]),some (.tab [some .i64,some .i64,some .u64,some .u64,none] A),some (.ints (some .i64) x.7)]else cP (dQ A t n me head key lim ok mu) (fun x'=>Hint.ok (dQ A t n me head key lim ok mu) x'∧Hint.mu (dQ A t n me head key lim ok mu) x'<Hint.mu (dQ A t n me head key lim ok mu) x) (TL me head key lim x) [some (.cells [.tslice 1 0 (List.length A) 5,.int .i64 x_5.1,.bool x_5.2,.bool x_5.3]),some (.tab [some .i64,some .i64,some .u64,some .u64,none] A),some (.cells [.int .i64 t,.int .i64 n]),some (.cells [.int .i64 0,.int .u64 0,.int .i64 0,.int .u64 0,.int .i64 0,.raw (Value.slice none 0 0),.bool false]),some (.cells [.int .i64 x.2,.int .u64 pw,.int .i64 (aA pw 10 9),.int .u64 x_4.1,.int .i64 (W (x.6+1)),.slice 5 0 (List.length x.7) 1,.bool false]),some (.ints (some .i64) x.7)]else bif !ieq (aA pw 20 5) 0 then(lE' A∧okAW A∧((0:Int)≤t∧t≤(100000:Int))∧((0:Int)≤n∧n≤(100000:Int))∧((0:Int)≤(Prod.snd x_4).1∧(Prod.snd x_4).1≤(4000000000000000000:Int))∧(Prod.snd x_4).2=false∧(Prod.snd x_4).3=false)∧ ∀(x_5:TS),x_5=pE A t n x_4.2 x.2→bif ilt lim (W (x.6+1))then K (.agg [.int .i64 0,.int .u64 0,.int .i64 0,.int .u64 0,.int .i64 (W (x.6+1)),.slice 2 0 (List.length x.7) 1,.bool true]) [some (.cells [.tslice 1 0 (List.length A) 5,.int .i64 x_5.1,.bool x_5.2,.bool x_5.3]),some (.tab [some .i64,some .i64,some .u64,some .u64,none] A),some (.ints (some .i64) x.7)]else cP (dQ A t n me head key lim ok mu) (fun x'=>Hint.ok (dQ A t n me head key lim ok mu) x'∧Hint.mu (dQ A t n me head key lim ok mu) x'<Hint.mu (dQ A t n me head key lim ok mu) x) (TL me head key lim x) [some (.cells [.tslice 1 0 (List.length A) 5,.int .i64 x_5.1,.bool x_5.2,.bool x_5.3]),some (.tab [some .i64,some .i64,some .u64,some .u64,none] A),some (.cells [.int .i64 t,.int .i64 n]),some (.cells [.int .i64 0,.int .u64 0,.int .i64 0,.int .u64 0,.int .i64 0,.raw (Value.slice none 0 0),.bool false]),some (.cells [.int .i64 x.2,.int .u64 pw,.int .i64 (aA pw 10 9),.int .u64 x_4.1,.int .i64 (W (x.6+1)),.slice 5 0 (List.length x.7) 1,.bool false]),some (.ints (some .i64) x.7)]else(262144:Int)≠(0:Int)∧(((0:Int)≤aA pw 0 10∧aA pw 0 (10:Int)<(1024:Int))∧((0:Int)≤aA x_4.1 10 9∧aA x_4.1 10 (9:Int)<(512:Int))∧((0:Int)≤aA pw 20 5∧aA pw 20 (5:Int)<(32:Int))∧(0:Int)≤Int.tmod (W (aA pw 25 18+1)) 262144∧Int.tmod (W (aA pw 25 18+1)) (262144:Int)<(262144:Int))∧(lE' A∧(0:Int)≤(Prod.snd x_4).1∧(Prod.snd x_4).1≤(4000000000000000000:Int))∧ ∀(x_52:Bool×TS),x_52=(a4 (tGot A x_4.2 3 x.2),tCas A x_4.2 x.2 pw (bO (aA pw 0 10) (aA x_4.1 10 9) (ieq (aA pw 19 1) 1) (aA pw 20 5) (Int.tmod (W (aA pw 25 18+1)) 262144)))→bif x_52.1 then(0=0∧lE' x.7∧1=1∧List.length x.7+(1:Nat)≤(4294967296:Nat))∧(((0:Int)≤aA pw 0 10∧aA pw 0 (10:Int)<(1024:Int))∧((0:Int)≤aA x_4.1 10 9∧aA x_4.1 10 (9:Int)<(512:Int))∧((0:Int)≤aA pw 20 5∧aA pw 20 (5:Int)<(32:Int))∧(0:Int)≤Int.tmod (W (aA pw 25 18+1)) 262144∧Int.tmod (W (aA pw 25 18+1)) (262144:Int)<(262144:Int))∧bif ilt n (W (x.8+1))then bif ilt lim (W (x.6+1))then K (.agg [.int .i64 0,.int .u64 0,.int .i64 0,.int .u64 0,.int .i64 (W (x.6+1)),.slice 2 0 (List.length x.7+1) 1,.bool true]) [some (.cells [.tslice 1 0 (List.length A) 5,.int .i64 (Prod.snd x_52).1,.bool (Prod.snd x_52).2,.bool (Prod.snd x_52).3]),some (.tab [some .i64,some .i64,some .u64,some .u64,none] A),some (.ints (some .i64) (x.7++ [aA pw 10 9]))]else bif ilt n (W (x.8+1))then cP (dQ A t n me head key lim ok mu) (fun x'=>Hint.ok (dQ A t n me head key lim ok mu) x'∧Hint.mu (dQ A t n me head key lim ok mu) x'<Hint.mu (dQ A t n me head key lim ok mu) x) (Q5 me head key lim) [some (.cells [.tslice 1 0 (List.length A) 5,.int .i64 (Prod.snd x_52).1,.bool (Prod.snd x_52).2,.bool (Prod.snd x_52).3]),some (.tab [some .i64,some .i64,some .u64,some .u64,none] A),some (.cells [.int .i64 t,.int .i64 n]),some (.cells [.int .i64 0,.int .u64 0,.int .i64 0,.int .u64 0,.int .i64 0,.raw (Value.slice none 0 0),.bool false]),some (.cells [.int .i64 (W (W (n+1)+head)),.int .u64 (bO (aA pw 0 10) (aA x_4.1 10 9) (ieq (aA pw 19 1) 1) (aA pw 20 5) (Int.tmod (W (aA pw 25 18+1)) 262144)),.int .i64 (aA pw 10 9),.int .u64 x_4.1,.int .i64 (W (x.6+1)),.slice 5 0 (List.length x.7+1) 1,.bool false]),some (.ints (some .i64) (x.7++ [aA pw 10 9]))]else cP (dQ A t n me head key lim ok mu) (fun x'=>Hint.ok (dQ A t n me head key lim ok mu) x'∧Hint.mu (dQ A t n me head key lim ok mu) x'<Hint.mu (dQ A t n me head key lim ok mu) x) (UI me head key lim x) [some (.cells [.tslice 1 0 (List.length A) 5,.int .i64 (Prod.snd x_52).1,.bool (Prod.snd x_52).2,.bool (Prod.snd x_52).3]),some (.tab [some .i64,some .i64,some .u64,some .u64,none] A),some (.cells [.int .i64 t,.int .i64 n]),some (.cells [.int .i64 0,.int .u64 0,.int .i64 0,.int .u64 0,.int .i64 0,.raw (Value.slice none 0 0),.bool false]),some (.cells [.int .i64 x.2,.int .u64 (bO (aA pw 0 10) (aA x_4.1 10 9) (ieq (aA pw 19 1) 1) (aA pw 20 5) (Int.tmod (W (aA pw 25 18+1)) 262144)),.int .i64 (aA pw 10 9),.int .u64 x_4.1,.int .i64 (W (x.6+1)),.slice 5 0 (List.length x.7+1) 1,.bool false]),some (.ints (some .i64) (x.7++ [aA pw 10 9]))]else bif ilt n (W (x.8+1))then cP (dQ A t n me head key lim ok mu) (fun x'=>Hint.ok (dQ A t n me head key lim ok mu) x'∧Hint.mu (dQ A t n me head key lim ok mu) x'<Hint.mu (dQ A t n me head key lim ok mu) x) (Q5 me head key lim) [some (.cells [.tslice 1 0 (List.length A) 5,.int .i64 (Prod.snd x_52).1,.bool (Prod.snd x_52).2,.bool (Prod.snd x_52).3]),some (.tab [some .i64,some .i64,some .u64,some .u64,none] A),some (.cells [.int .i64 t,.int .i64 n]),some (.cells [.int .i64 0,.int .u64 0,.int .i64 0,.int .u64 0,.int .i64 0,.raw (Value.slice none 0 0),.bool false]),some (.cells [.int .i64 (W (W (n+1)+head)),.int .u64 (bO (aA pw 0 10) (aA x_4.1 10 9) (ieq (aA pw 19 1) 1) (aA pw 20 5) (Int.tmod (W (aA pw 25 18+1)) 262144)),.int .i64 (aA pw 10 9),.int .u64 x_4.1,.int .i64 x.6,.slice 5 0 (List.length x.7+1) 1,.bool false]),some (.ints (some .i64) (x.7++ [aA pw 10 9]))]else cP (dQ A t n me head key lim ok mu) (fun x'=>Hint.ok (dQ A t n me head key lim ok mu) x'∧Hint.mu (dQ A t n me head key lim ok mu) x'<Hint.mu (dQ A t n me head key lim ok mu) x) (UI me head key lim x) [some (.cells [.tslice 1 0 (List.length A) 5,.int .i64 (Prod.snd x_52).1,.bool (Prod.snd x_52).2,.bool (Prod.snd x_52).3]),some (.tab [some .i64,some .i64,some .u64,some .u64,none] A),some (.cells [.int .i64 t,.int .i64 n]),some (.cells [.int .i64 0,.int .u64 0,.int .i64 0,.int .u64 0,.int .i64 0,.raw (Value.slice none 0 0),.bool false]),some (.cells [.int .i64 x.2,.int .u64 (bO (aA pw 0 10) (aA x_4.1 10 9) (ieq (aA pw 19 1) 1) (aA pw 20 5) (Int.tmod (W (aA pw 25 18+1)) 262144)),.int .i64 (aA pw 10 9),.int .u64 x_4.1,.int .i64 x.6,.slice 5 0 (List.length x.7+1) 1,.bool false]),some (.ints (some .i64) (x.7++ [aA pw 10 9]))]else bif ilt lim (W (x.6+1))then K (.agg [.int .i64 0,.int .u64 0,.int .i64 0,.int .u64 0,.int .i64 (W (x.6+1)),.slice 2 0 (List.length x.7) 1,.bool true]) [some (.cells [.tslice 1 0 (List.length A) 5,.int .i64 (Prod.snd x_52).1,.bool (Prod.snd x_52).2,.bool (Prod.snd x_52).3]),some (.tab [some .i64,some .i64,some .u64,some .u64,none] A),some (.ints (some .i64) x.7)]else cP (dQ A t n me head key lim ok mu) (fun x'=>Hint.ok (dQ A t n me head key lim ok mu) x'∧Hint.mu (dQ A t n me head key lim ok mu) x'<Hint.mu (dQ A t n me head key lim ok mu) x) (TL me head key lim x) [some (.cells [.tslice 1 0 (List.length A) 5,.int .i64 (Prod.snd x_52).1,.bool (Prod.snd x_52).2,.bool (Prod.snd x_52).3]),some (.tab [some .i64,some .i64,some .u64,some .u64,none] A),some (.cells [.int .i64 t,.int .i64 n]),some (.cells [.int .i64 0,.int .u64 0,.int .i64 0,.int .u64 0,.int .i64 0,.raw (Value.slice none 0 0),.bool false]),some (.cells [.int .i64 x.2,.int .u64 pw,.int .i64 (aA pw 10 9),.int .u64 x_4.1,.int .i64 (W (x.6+1)),.slice 5 0 (List.length x.7) 1,.bool false]),some (.ints (some .i64) x.7)]
def fnVC(A:List (List Int))(t n me head key lim i:Int)(ok:FNX→Prop)(mu:FNX→Nat)(K:AVal→aB Ob→Prop):Prop:=cP (dQ A t n me head key lim ok mu) (Hint.ok (dQ A t n me head key lim ok mu)) (Q5 me head key lim) [some (.cells [.tslice 1 0 (List.length A) 5,.int .i64 i,.bool false,.bool false]),some (.tab [some .i64,some .i64,some .u64,some .u64,none] A),some (.cells [.int .i64 t,.int .i64 n]),some (.cells [.int .i64 0,.int .u64 0,.int .i64 0,.int .u64 0,.int .i64 0,.raw (Value.slice none 0 0),.bool false]),some (.cells [.int .i64 (W (W (n+1)+head)),.int .u64 0,.int .i64 0,.int .u64 0,.int .i64 0,.slice 5 0 0 1,.bool false]),some (.ints (some .i64) [])]∧ ∀(x:FNX),ok x→True∧bif !bif x.1.2 then true else x.1.3 then bif !x.9 then(lE' A∧okAW A∧(0:Int)≤x.1.1∧x.1.1≤(4000000000000000000:Int))∧ ∀(x_1:Int×TS),x_1=(a2 (tGot A x.1 1 x.2),aG A x.1 1 x.2)→((0:Int)≤x_1.1∧x_1.1≤(18446744073709551615:Int))∧bif ieq (aA x_1.1 19 1) 1 then bif ilt lim (W (x.6+1))then K (.agg [.int .i64 0,.int .u64 0,.int .i64 0,.int .u64 0,.int .i64 (W (x.6+1)),.slice 2 0 (List.length x.7) 1,.bool true]) [some (.cells [.tslice 1 0 (List.length A) 5,.int .i64 x_1.2.1,.bool x_1.2.2,.bool x_1.2.3]),some (.tab [some .i64,some .i64,some .u64,some .u64,none] A),some (.ints (some .i64) x.7)]else cP (dQ A t n me head key lim ok mu) (fun x'=>Hint.ok (dQ A t n me head key lim ok mu) x'∧Hint.mu (dQ A t n me head key lim ok mu) x'<Hint.mu (dQ A t n me head key lim ok mu) x) ((.ptr 0 0):: .O ::(.int .i64 me)::(.int .i64 head)::(.int .i64 key)::(.int .i64 lim):: .O ::(.ptr 2 0)::nH 4 ((.ptr 3 0)::(.ptr 4 0)::(.int .i64 0)::(.bool x.9)::nH 198 ([]))) [some (.cells [.tslice 1 0 (List.length A) 5,.int .i64 x_1.2.1,.bool x_1.2.2,.bool x_1.2.3]),some (.tab [some .i64,some .i64,some .u64,some .u64,none] A),some (.cells [.int .i64 t,.int .i64 n]),some (.cells [.int .i64 0,.int .u64 0,.int .i64 0,.int .u64 0,.int .i64 0,.raw (Value.slice none 0 0),.bool false]),some (.cells [.int .i64 (W (W (n+1)+head)),.int .u64 x_1.1,.int .i64 0,.int .u64 0,.int .i64 (W (x.6+1)),.slice 5 0 (List.length x.7) 1,.bool false]),some (.ints (some .i64) x.7)]else True∧bif bif x_1.2.2 then true else x_1.2.3 then K (.agg [.int .i64 x.2,.int .u64 x_1.1,.int .i64 0,.int .u64 0,.int .i64 x.6,.slice 2 0 (List.length x.7) 1,.bool false]) [some (.cells [.tslice 1 0 (List.length A) 5,.int .i64 x_1.2.1,.bool x_1.2.2,.bool x_1.2.3]),some (.tab [some .i64,some .i64,some .u64,some .u64,none] A),some (.ints (some .i64) x.7)]else((0:Int)≤x_1.1∧x_1.1≤(18446744073709551615:Int))∧bif ieq (aA x_1.1 10 9) 0 then K (.agg [.int .i64 x.2,.int .u64 x_1.1,.int .i64 0,.int .u64 0,.int .i64 x.6,.slice 2 0 (List.length x.7) 1,.bool false]) [some (.cells [.tslice 1 0 (List.length A) 5,.int .i64 x_1.2.1,.bool x_1.2.2,.bool x_1.2.3]),some (.tab [some .i64,some .i64,some .u64,some .u64,none] A),some (.ints (some .i64) x.7)]else G3 A t n me head key lim ok mu K x x_1.1 x_1.2 else True∧bif bif x.1.2 then true else x.1.3 then K (.agg [.int .i64 x.2,.int .u64 x.3,.int .i64 0,.int .u64 0,.int .i64 x.6,.slice 2 0 (List.length x.7) 1,.bool false]) [some (.cells [.tslice 1 0 (List.length A) 5,.int .i64 x.1.1,.bool x.1.2,.bool x.1.3]),some (.tab [some .i64,some .i64,some .u64,some .u64,none] A),some (.ints (some .i64) x.7)]else((0:Int)≤x.3∧x.3≤(18446744073709551615:Int))∧bif ieq (aA x.3 10 9) 0 then K (.agg [.int .i64 x.2,.int .u64 x.3,.int .i64 0,.int .u64 0,.int .i64 x.6,.slice 2 0 (List.length x.7) 1,.bool false]) [some (.cells [.tslice 1 0 (List.length A) 5,.int .i64 x.1.1,.bool x.1.2,.bool x.1.3]),some (.tab [some .i64,some .i64,some .u64,some .u64,none] A),some (.ints (some .i64) x.7)]else G3 A t n me head key lim ok mu K x x.3 x.1 else K (.agg [.int .i64 x.2,.int .u64 x.3,.int .i64 x.4,.int .u64 x.5,.int .i64 x.6,.slice 2 0 (List.length x.7) 1,.bool false]) [some (.cells [.tslice 1 0 (List.length A) 5,.int .i64 x.1.1,.bool x.1.2,.bool x.1.3]),some (.tab [some .i64,some .i64,some .u64,some .u64,none] A),some (.ints (some .i64) x.7)]
theorem zQ(A:List (List Int))(t n me head key lim i:Int)(ok:FNX→Prop)(mu:FNX→Nat)(K:AVal→aB Ob→Prop)(hK:fnVC A t n me head key lim i ok mu K):cT' 77 [.ptr 0 0,.agg [.int .i64 t,.int .i64 n],.int .i64 me,.int .i64 head,.int .i64 key,.int .i64 lim] (UQ A i) K:=by
 refine VV (aE (E:=ETP) Tryz.checked.mixed (L:=fun _ _=>some (.states (dQ A t n me head key lim ok mu))) (n:=10) (aR (by kernel_rfl) hK))
def fnT1(x:FNS):Int:=W (x.tries+1)
def u5(x:FNS)(a:Int):FNS:= {x with pred:=0,pw:=0,curr:=0,cw:=0,tries:=fnT1 x,ab:=true,at':=a,cl:=a9}
def wY(x:FNS):FNS:= {x with pred:=x.frm,tries:=fnT1 x,ab:=false,at':=0,moved:=0,cl:=a9}
def O3(x:FNS)(w:Int):FNS:= {x with pw:=w,curr:=nxW w,cw:=0,at':=1,cl:=a9}
theorem pU{t n:Int}{x:FNS}{s:MS}(h:x.at'=0)(hm:mkW (aD s.xs x.pred)=true)(hl:ilt x.limit (fnT1 x)=true):fnF t n x s=⟨true,u5 x 0,s.loadd x.pred⟩:=by
 unfold fnF mZ
 rw [h]
 show(lE t n x s).val =_
 unfold lE
 have hl':ilt x.11 (W (x.5+1))=true:=hl
 simp only [Tr.val,hm,hl',cond_true]
 rfl
theorem pV{t n:Int}{x:FNS}{s:MS}(h:x.at'=0)(hm:mkW (aD s.xs x.pred)=true)(hl:ilt x.limit (fnT1 x)=false):fnF t n x s=⟨false,wY x,s.loadd x.pred⟩:=by
 unfold fnF mZ
 rw [h]
 show(lE t n x s).val =_
 unfold lE
 have hl':ilt x.11 (W (x.5+1))=false:=hl
 simp only [Tr.val,hm,hl',cond_true,cond_false]
 rfl
theorem pR{t n:Int}{x:FNS}{s:MS}(h:x.at'=2)(he:ieq (aD s.xs x.pred) x.pw=false)(hl:ilt x.limit (fnT1 x)=true):fnF t n x s=⟨true,u5 x 2,s.loadd x.pred⟩:=by
 unfold fnF mZ
 rw [h]
 show(jO t n x s).val =_
 unfold jO
 have hl':ilt x.11 (W (x.5+1))=true:=hl
 simp only [Tr.val,he,hl',Bool.not_false,cond_true]
 rfl
theorem pS{t n:Int}{x:FNS}{s:MS}(h:x.at'=2)(he:ieq (aD s.xs x.pred) x.pw=false)(hm:mkW (aD s.xs x.pred)=true)(hl:ilt x.limit (fnT1 x)=false):fnF t n x s=⟨false,wY x,s.loadd x.pred⟩:=by
 unfold fnF mZ
 rw [h]
 show(jO t n x s).val =_
 unfold jO
 have hl':ilt x.11 (W (x.5+1))=false:=hl
 simp only [Tr.val,he,hm,hl',Bool.not_false,cond_true,cond_false]
 rfl
theorem pT{t n:Int}{x:FNS}{s:MS}(h:x.at'=2)(he:ieq (aD s.xs x.pred) x.pw=false)(hm:mkW (aD s.xs x.pred)=false)(hl:ilt x.limit (fnT1 x)=false):fnF t n x s=⟨ieq (nxW (aD s.xs x.pred)) 0,O3 {x with tries:=fnT1 x,ab:=false} (aD s.xs x.pred),s.loadd x.pred⟩:=by
 unfold fnF mZ
 rw [h]
 show(jO t n x s).val =_
 unfold jO
 have hl':ilt x.11 (W (x.5+1))=false:=hl
 simp only [Tr.val,he,hm,hl',Bool.not_false,cond_true,cond_false]
 rfl
theorem GG{t n:Int}{x:FNS}{s:MS}(h:x.at'=3)(hm:mkW (aD s.xs x.curr)=true)(hc:ieq (clW' (aD s.xs x.curr)) 0=false):fnF t n x s=⟨false,{x with cw:=aD s.xs x.curr,at':=4,cl:=clNF t n x.curr},s.loadd x.curr⟩:=by
 unfold fnF mZ
 rw [h]
 show(iE t n x s).val =_
 unfold iE
 have hc':ieq (aA (aD s.xs x.3) 20 5) 0=false:=hc
 simp only [Tr.val,hm,hc',Bool.not_true,Bool.not_false,cond_false,cond_true]
 cases h2:ile x.10 (aA (aD s.xs x.3) 0 10)<;>rfl
theorem GI{t n:Int}{x:FNS}{s:MS}(h:x.at'=3)(hm:mkW (aD s.xs x.curr)=true)(hc:ieq (clW' (aD s.xs x.curr)) 0=true)(hp:ieq (clW' x.pw) 0=false):fnF t n x s=⟨false,{x with cw:=aD s.xs x.curr,at':=4,cl:=clNF t n x.pred},s.loadd x.curr⟩:=by
 unfold fnF mZ
 rw [h]
 show(iE t n x s).val =_
 unfold iE
 have hc':ieq (aA (aD s.xs x.3) 20 5) 0=true:=hc
 have hp':ieq (aA x.2 20 5) 0=false:=hp
 simp only [Tr.val,hm,hc',hp',Bool.not_true,Bool.not_false,cond_false,cond_true]
 cases h2:ile x.10 (aA (aD s.xs x.3) 0 10)<;>rfl
theorem rE{t n:Int}{x:FNS}{s:MS}(h:x.at'=4)(hd:(clF t n x.cl s).d =false):fnF t n x s=⟨false,{x with at':=4,cl:=(clF t n x.cl s).x },(clF t n x.cl s).s⟩:=by
 unfold fnF mZ
 rw [h]
 show(lF t n x s).val =_
 unfold lF
 have hd':(clF t n x.14 s).1=false:=hd
 simp only [Tr.val,hd',cond_false]
theorem rD{t n:Int}{x:FNS}{s:MS}(h:x.at'=4)(hd:(clF t n x.cl s).d =true)(hl:ilt x.limit (fnT1 x)=true):fnF t n x s=⟨true,u5 x 0,(clF t n x.cl s).s⟩:=by
 unfold fnF mZ
 rw [h]
 show(lF t n x s).val =_
 unfold lF
 have hd':(clF t n x.14 s).1=true:=hd
 have hl':ilt x.11 (W (x.5+1))=true:=hl
 simp only [Tr.val,hd',hl',cond_true]
 rfl
theorem xA{t n:Int}{x:FNS}{s:MS}(h:x.at'=4)(hd:(clF t n x.cl s).d =true)(hl:ilt x.limit (fnT1 x)=false):fnF t n x s=⟨false,{x with tries:=fnT1 x,ab:=false,at':=0,cl:=a9},(clF t n x.cl s).s⟩:=by
 unfold fnF mZ
 rw [h]
 show(lF t n x s).val =_
 unfold lF
 have hd':(clF t n x.14 s).1=true:=hd
 have hl':ilt x.11 (W (x.5+1))=false:=hl
 simp only [Tr.val,hd',hl',cond_true,cond_false]
 rfl
theorem xE{t n:Int}{x:FNS}{s:MS}(h:x.at'=5)(hc:aV s.xs x.pred x.pw=false)(hl:ilt x.limit (fnT1 x)=true):fnF t n x s=⟨true,u5 x 0,s.cased x.pred x.pw (lnkW x.pw x.cw)⟩:=by
 unfold fnF mZ
 rw [h]
 show(gD t n x s).val =_
 unfold gD
 have hl':ilt x.11 (W (x.5+1))=true:=hl
 have hc2:aV s.3 x.1 x.2=false:=hc
 simp only [Tr.val,nY,hc2,hl',Bool.not_false,cond_true,cond_false]
 unfold MS.cased MS.did
 simp only [hc,cond_false]
 rfl
theorem xF{t n:Int}{x:FNS}{s:MS}(h:x.at'=5)(hc:aV s.xs x.pred x.pw=false)(hl:ilt x.limit (fnT1 x)=false):fnF t n x s=⟨false,{x with tries:=fnT1 x,ab:=false,at':=0,cl:=a9},s.cased x.pred x.pw (lnkW x.pw x.cw)⟩:=by
 unfold fnF mZ
 rw [h]
 show(gD t n x s).val =_
 unfold gD
 have hl':ilt x.11 (W (x.5+1))=false:=hl
 have hc2:aV s.3 x.1 x.2=false:=hc
 simp only [Tr.val,nY,hc2,hl',Bool.not_false,cond_true,cond_false]
 unfold MS.cased MS.did
 simp only [hc,cond_false]
 rfl
theorem xG{t n:Int}{x:FNS}{s:MS}(h:x.at'=5)(hc:aV s.xs x.pred x.pw=true)(hk:ile (W (x.moved+1)) n=true)(hm:mkW x.pw=false):fnF t n x s=⟨ieq (nxW x.cw) 0,{x with pw:=lnkW x.pw x.cw,curr:=nxW x.cw,cw:=0,ul:=x.ul++ [x.curr],at':=1,moved:=W (x.moved+1),cl:=a9},s.cased x.pred x.pw (lnkW x.pw x.cw)⟩:=by
 unfold fnF mZ
 rw [h]
 show(gD t n x s).val =_
 unfold gD
 have hm2:ieq (aA (lnkW x.2 x.4) 19 1) 1=false:=(MR (rL x.pw x.cw)).trans hm
 have hn2:aA (lnkW x.2 x.4) 10 9=aA x.4 10 9:=MT (rL x.pw x.cw)
 have hc2:aV s.3 x.1 x.2=true:=hc
 have hk':ile (W (x.13+1)) n=true:=hk
 simp only [Tr.val,nY,hc2,Bool.not_true,hk',hm2,hn2,cond_true,cond_false]
 unfold MS.cased MS.did
 simp only [hc,cond_true]
theorem tM{t n:Int}{x:FNS}{s:MS}(h:x.at'=5)(hc:aV s.xs x.pred x.pw=true)(hk:ile (W (x.moved+1)) n=false)(hl:ilt x.limit (fnT1 x)=true):fnF t n x s=⟨true,{u5 x 5 with ul:=x.ul++ [x.curr],moved:=W (x.moved+1) },s.cased x.pred x.pw (lnkW x.pw x.cw)⟩:=by
 unfold fnF mZ
 rw [h]
 show(gD t n x s).val =_
 unfold gD
 have hc2:aV s.3 x.1 x.2=true:=hc
 have hk':ile (W (x.13+1)) n=false:=hk
 have hl':ilt x.11 (W (x.5+1))=true:=hl
 simp only [Tr.val,nY,hc2,Bool.not_true,hk',hl',cond_true,cond_false]
 unfold MS.cased MS.did
 simp only [hc,cond_true]
 rfl
theorem tN{t n:Int}{x:FNS}{s:MS}(h:x.at'=5)(hc:aV s.xs x.pred x.pw=true)(hk:ile (W (x.moved+1)) n=false)(hl:ilt x.limit (fnT1 x)=false):fnF t n x s=⟨false,{wY x with ul:=x.ul++ [x.curr] },s.cased x.pred x.pw (lnkW x.pw x.cw)⟩:=by
 unfold fnF mZ
 rw [h]
 show(gD t n x s).val =_
 unfold gD
 have hc2:aV s.3 x.1 x.2=true:=hc
 have hk':ile (W (x.13+1)) n=false:=hk
 have hl':ilt x.11 (W (x.5+1))=false:=hl
 simp only [Tr.val,nY,hc2,Bool.not_true,hk',hl',cond_true,cond_false]
 unfold MS.cased MS.did
 simp only [hc,cond_true]
 rfl
theorem MX{t n:Int}{x:FNS}{s:MS}(h:x.at'=6)(hk:ile (W (x.moved+1)) n=true):fnF t n x s=⟨false,{x with pred:=x.curr,at':=0,moved:=W (x.moved+1),cl:=a9},s.stored (2*n+5+2*x.me+0) (WU x.curr)⟩:=by
 unfold fnF mZ
 rw [h]
 show(lG t n x s).val =_
 unfold lG
 have hk':ile (W (x.13+1)) n=true:=hk
 simp only [Tr.val,hk',cond_true]
 rfl
theorem xB{t n:Int}{x:FNS}{s:MS}(h:x.at'=6)(hk:ile (W (x.moved+1)) n=false)(hl:ilt x.limit (fnT1 x)=true):fnF t n x s=⟨true,{u5 x 0 with moved:=W (x.moved+1) },s.stored (2*n+5+2*x.me+0) (WU x.curr)⟩:=by
 unfold fnF mZ
 rw [h]
 show(lG t n x s).val =_
 unfold lG
 have hk':ile (W (x.13+1)) n=false:=hk
 have hl':ilt x.11 (W (x.5+1))=true:=hl
 simp only [Tr.val,hk',hl',cond_true,cond_false]
 rfl
theorem xC{t n:Int}{x:FNS}{s:MS}(h:x.at'=6)(hk:ile (W (x.moved+1)) n=false)(hl:ilt x.limit (fnT1 x)=false):fnF t n x s=⟨false,wY x,s.stored (2*n+5+2*x.me+0) (WU x.curr)⟩:=by
 unfold fnF mZ
 rw [h]
 show(lG t n x s).val =_
 unfold lG
 have hk':ile (W (x.13+1)) n=false:=hk
 have hl':ilt x.11 (W (x.5+1))=false:=hl
 simp only [Tr.val,hk',hl',cond_true,cond_false]
 rfl
def clDa(t n w:Int):Int:=2*n+5+2*t+3*(aA w 20 5 - 1)+2
def clOp(a w f:Int):Bool:=hasB [2] (aA f 49 3)&&(ieq (aA f 12 9) a&&ieq (aA f 21 18) (aA w 25 18))
def clWn(f:Int):Int:=bif dOk (aA f 0 12) (aA f 12 9) (aA f 21 18) (aA f 39 9) 3 (aA f 52 10)then eI (aA f 0 12) (aA f 12 9) (aA f 21 18) (aA f 39 9) (ieq (aA f 48 1) 1) 3 (aA f 52 10)else 0
def clFr(w:Int):Int:=bO (kyW w) (nxW w) (mkW w) 0 (aM (UA w))
theorem FB(w:Int):(bif bif aK (aA w 0 10) 10 then bif aK (aA w 10 9) 9 then bif aK 0 5 then aK (aM (aA w 25 18)) 18 else false else false else false then bO (aA w 0 10) (aA w 10 9) (ieq (aA w 19 1) 1) 0 (aM (aA w 25 18))else 0)=clFr w:=by
 have h0:aK 0 5=true:=by decide
 simp only [BL,tK,h0,cond_true]
 rfl
theorem OB{t n:Int}{x:CLS}{s:MS}(h:x.at'=0):clF t n x s=⟨bif ilt (clW' (aD s.xs x.addr) - 1) 0 then true else ile t (clW' (aD s.xs x.addr) - 1),⟨x.addr,1,aD s.xs x.addr,x.found⟩,s.loadd x.addr⟩:=by
 unfold clF I4
 rw [h]
 show(qS t n x s).val =_
 unfold qS
 cases h1:ilt (clW' (aD s.xs x.addr) - 1) 0 with
 | true=>
   have h1':ilt (aA (aD s.3 x.1) 20 5 - 1) 0=true:=h1
   simp only [Tr.val,h1',cond_true]
   rfl
 | false=>
   have h1':ilt (aA (aD s.3 x.1) 20 5 - 1) 0=false:=h1
   simp only [Tr.val,h1',cond_false]
   rfl
theorem OC{t n:Int}{x:CLS}{s:MS}(h:x.at'=1):clF t n x s=⟨false,⟨x.addr,bif clOp x.addr x.word (aD s.xs (clDa t n x.word))then 2 else 3,x.word,aD s.xs (clDa t n x.word)⟩,s.loadd (clDa t n x.word)⟩:=by
 unfold clF I4
 rw [h]
 show(qT t n x s).val =_
 unfold qT clOp
 cases h1:hasB [2] (aA (aD s.xs (clDa t n x.word)) 49 3)with
 | false=>
   have h1':hasB [2] (aA (aD s.3 (2*n+5+2*t+3*(aA x.3 20 5 - 1)+2)) 49 3)=false:=h1
   simp only [Tr.val,h1',cond_false,Bool.false_and]
   rfl
 | true=>
   have h1':hasB [2] (aA (aD s.3 (2*n+5+2*t+3*(aA x.3 20 5 - 1)+2)) 49 3)=true:=h1
   cases h2:ieq (aA (aD s.xs (clDa t n x.word)) 12 9) x.addr with
   | false=>
     have h2':ieq (aA (aD s.3 (2*n+5+2*t+3*(aA x.3 20 5 - 1)+2)) 12 9) x.1=false:=h2
     simp only [Tr.val,h1',h2',cond_true,cond_false,Bool.true_and,Bool.false_and]
     rfl
   | true=>
     have h2':ieq (aA (aD s.3 (2*n+5+2*t+3*(aA x.3 20 5 - 1)+2)) 12 9) x.1=true:=h2
     cases h3:ieq (aA (aD s.xs (clDa t n x.word)) 21 18) (aA x.word 25 18)with
     | false=>
       have h3':ieq (aA (aD s.3 (2*n+5+2*t+3*(aA x.3 20 5 - 1)+2)) 21 18) (aA x.3 25 18)=false:=h3
       simp only [Tr.val,h1',h2',h3',cond_true,cond_false,Bool.true_and]
       rfl
     | true=>
       have h3':ieq (aA (aD s.3 (2*n+5+2*t+3*(aA x.3 20 5 - 1)+2)) 21 18) (aA x.3 25 18)=true:=h3
       simp only [Tr.val,h1',h2',h3',cond_true,cond_false,Bool.true_and]
       rfl
theorem OD{t n:Int}{x:CLS}{s:MS}(h:x.at'=2):clF t n x s=⟨false,⟨x.addr,3,x.word,x.found⟩,s.cased (clDa t n x.word) x.found (clWn x.found)⟩:=by
 unfold clF I4
 rw [h]
 show(qU t n x s).val =_
 unfold qU
 simp only [Tr.val]
 rfl
theorem OE{t n:Int}{x:CLS}{s:MS}(h:x.at'=3):clF t n x s=⟨true,⟨x.addr,3,x.word,x.found⟩,s.cased x.addr x.word (clFr x.word)⟩:=by
 unfold clF I4
 rw [h]
 show(qV t n x s).val =_
 unfold qV
 simp only [Tr.val,FB]
 rfl
theorem JG(t n a:Int):clNF t n a=⟨a,0,0,0⟩:=rfl
end Go.Sh
namespace Go.Sh
open Go Go.Proofs
variable [Con]
def rowM(s:MS):List Int:=[s.k,s.a,s.o,s.w,bif s.ok then 1 else 0]
theorem uO(σ:MS):a4 (rowM σ)=σ.ok:=by
 show(!ieq (bif σ.ok then 1 else 0) 0)=σ.ok
 cases σ.ok<;>decide
theorem qG{A:List (List Int)}{s:TS}{k a:Int}(h:s.out=true):aG A s k a=s∧tGot A s k a=[]:=by
 obtain⟨i,b,o⟩:=s
 have h:o=true:=h
 subst h
 refine⟨?_,?_⟩
 ·unfold aG;simp
 ·unfold tGot tHit;simp
theorem pG{A:List (List Int)}{k a:Int} :aG A ⟨(A.length:Nat),false,false⟩ k a=⟨(A.length:Nat),false,true⟩∧tGot A ⟨(A.length:Nat),false,false⟩ k a=[]:=by
 have e:ile ((A.length:Nat):Int) ((A.length:Nat):Int)=true:=by rw [bZ];exact decide_eq_true (Int.le_refl _)
 refine⟨?_,?_⟩
 ·unfold aG
  simp only [e,Bool.or_false,cond_false,cond_true]
 ·unfold tGot tHit
  simp only [e,Bool.not_true,Bool.not_false,Bool.false_and,Bool.and_false,cond_false]
theorem jE{A:List (List Int)}{m:Nat}{r:List Int}{k a:Int}(h:A[m]? =some r)(hk:a0 r=k)(ha:a1 r=a):aG A ⟨(m:Int),false,false⟩ k a=⟨((m+1:Nat):Int),false,false⟩∧tGot A ⟨(m:Int),false,false⟩ k a=r:=by
 have hm:m<A.length:=by
  rcases Nat.lt_or_ge m A.length with c | c
  ·exact c
  ·rw [List.getElem?_eq_none c]at h;cases h
 have e:ile ((A.length:Nat):Int) (m:Int)=false:=by rw [bZ];exact decide_eq_false (by omega)
 have er:tRow A ⟨(m:Int),false,false⟩=r:=by
  unfold tRow
  show A.getD (0+Int.toNat (m:Int)) []=r
  rw [gD',show 0+Int.toNat (m:Int)=m from by omega,h]
  rfl
 have hh:tHit A ⟨(m:Int),false,false⟩ k a=true:=by
  unfold tHit
  rw [er,hk,ha]
  simp only [e,cS,Bool.not_false,Bool.and_true]
 refine⟨?_,?_⟩
 ·unfold aG
  simp only [e,hh,Bool.or_false,cond_false,Bool.not_true]
  rfl
 ·unfold tGot
  rw [hh,er];rfl
theorem IZ{A:List (List Int)}{a x:Int} :dH A ⟨(A.length:Nat),false,false⟩ a x=⟨(A.length:Nat),false,true⟩:=by
 unfold dH
 rw [pG.1,pG.2]
 simp
theorem B9{A:List (List Int)}{s:TS}{a x:Int}(h:s.out=true):dH A s a x=s:=by
 unfold dH
 rw [(qG h).1]
 obtain⟨i,b,o⟩:=s
 have h:o=true:=h
 subst h
 simp
theorem IS{A:List (List Int)}{a x y:Int} :tCas A ⟨(A.length:Nat),false,false⟩ a x y=⟨(A.length:Nat),false,true⟩:=by
 unfold tCas
 rw [pG.1,pG.2]
 simp
theorem B7{A:List (List Int)}{s:TS}{a x y:Int}(h:s.out=true):tCas A s a x y=s:=by
 unfold tCas
 rw [(qG h).1]
 obtain⟨i,b,o⟩:=s
 have h:o=true:=h
 subst h
 simp
theorem I0{A:List (List Int)}{m:Nat}{σ:MS}{a v:Int}(h:A[m]? =some (rowM (σ.stored a v))):dH A ⟨(m:Int),false,false⟩ a v=⟨((m+1:Nat):Int),false,false⟩:=by
 unfold dH
 rw [(jE (k:=2) (a:=a) h rfl rfl).1,(jE (k:=2) (a:=a) h rfl rfl).2,uO]
 have e:a3 (rowM (σ.stored a v))=bif bW σ.xs a then v else 0:=rfl
 have e2:(σ.stored a v).ok =bW σ.xs a:=rfl
 rw [e,e2]
 cases bW σ.xs a
 ·rfl
 ·simp only [cond_true,cS,Bool.not_true,Bool.and_false,Bool.or_false]
theorem IT{A:List (List Int)}{m:Nat}{σ:MS}{a x y:Int}(h:A[m]? =some (rowM (σ.cased a x y))):tCas A ⟨(m:Int),false,false⟩ a x y=⟨((m+1:Nat):Int),false,false⟩:=by
 unfold tCas T6
 rw [(jE (k:=3) (a:=a) h rfl rfl).1,(jE (k:=3) (a:=a) h rfl rfl).2,uO]
 have e:a3 (rowM (σ.cased a x y))=bif bW σ.xs a then y else 0:=rfl
 have e2:(σ.cased a x y).ok =aV σ.xs a x:=rfl
 have e3:a2 (rowM (σ.cased a x y))=aD σ.xs a:=rfl
 rw [e,e2,e3]
 unfold aV
 cases h1:bW σ.xs a
 ·rw [fF (fun c=>by rw [jS.2 c]at h1;cases h1)];rfl
 ·simp only [cond_true,cS,Bool.true_and,Bool.not_true,Bool.false_or,beq_self_eq_true,Bool.and_false,Bool.or_false]
section
variable {t n:Int} {x:FNS} {s:MS}
theorem MY(h:x.at'=0):(fnF t n x s).s =s.loadd x.pred:=by
 cases hm:mkW (aD s.xs x.pred)with
 | false=>rw [nR h hm]
 | true=>
   cases hl:ilt x.limit (fnT1 x)with
   | true=>rw [pU h hm hl]
   | false=>rw [pV h hm hl]
theorem MZ(h:x.at'=2):(fnF t n x s).s =s.loadd x.pred:=by
 cases he:ieq (aD s.xs x.pred) x.pw with
 | true=>
   rw [bC,beq_iff_eq]at he
   rw [wZ h he]
 | false=>
   cases hl:ilt x.limit (fnT1 x)with
   | true=>rw [pR h he hl]
   | false=>
     cases hm:mkW (aD s.xs x.pred)with
     | true=>rw [pS h he hm hl]
     | false=>rw [pT h he hm hl]
theorem M7(h:x.at'=3):(fnF t n x s).s =s.loadd x.curr:=by
 cases hm:mkW (aD s.xs x.curr)with
 | false=>
   by_cases hk:x.key≤kyW (aD s.xs x.curr)
   ·rw [xD h hm hk]
   ·rw [BM h hm (by omega)]
 | true=>
   cases hc:ieq (clW' (aD s.xs x.curr)) 0 with
   | false=>rw [GG h hm hc]
   | true=>
     cases hp:ieq (clW' x.pw) 0 with
     | false=>rw [GI h hm hc hp]
     | true=>
       rw [bC,beq_iff_eq]at hc hp
       rw [BN h hm hc hp]
theorem NA(h:x.at'=4):(fnF t n x s).s =(clF t n x.cl s).s :=by
 cases hd:(clF t n x.cl s).d with
 | false=>rw [rE h hd]
 | true=>
   cases hl:ilt x.limit (fnT1 x)with
   | true=>rw [rD h hd hl]
   | false=>rw [xA h hd hl]
theorem RU(h:x.at'=5)(hm:mkW x.pw=false):(fnF t n x s).s =s.cased x.pred x.pw (lnkW x.pw x.cw):=by
 cases hc:aV s.xs x.pred x.pw with
 | false=>
   cases hl:ilt x.limit (fnT1 x)with
   | true=>rw [xE h hc hl]
   | false=>rw [xF h hc hl]
 | true=>
   cases hk:ile (W (x.moved+1)) n with
   | true=>rw [xG h hc hk hm]
   | false=>
     cases hl:ilt x.limit (fnT1 x)with
     | true=>rw [tM h hc hk hl]
     | false=>rw [tN h hc hk hl]
theorem NB(h:x.at'=6):(fnF t n x s).s =s.stored (2*n+5+2*x.me+0) (WU x.curr):=by
 cases hk:ile (W (x.moved+1)) n with
 | true=>rw [MX h hk]
 | false=>
   cases hl:ilt x.limit (fnT1 x)with
   | true=>rw [xB h hk hl]
   | false=>rw [xC h hk hl]
end
structure FnTr (t n:Int) (A:List (List Int)) (X:Nat→FNS) (S:Nat→MS) (i e:Nat):Prop where
 le:i≤e
 he:e≤A.length
 st: ∀m,i≤m→m<e→A[m]? =some (rowM (fnF t n (X m) (S m)).s)∧(fnF t n (X m) (S m)).d =false∧X (m+1)=(fnF t n (X m) (S m)).x
 fin:e<A.length→A[e]? =some (rowM (fnF t n (X e) (S e)).s)∧(fnF t n (X e) (S e)).d =true
def RelA(t n:Int)(A:List (List Int))(i:Nat)(x0:FNS)(s:TS)(P Q:FNS→Prop):Prop:=
 ∀X S e,FnTr t n A X S i e→X i=x0→
  (e=A.length∧s=⟨(A.length:Nat),false,true⟩)∨(∃m:Nat,i≤m∧m≤e∧s=⟨(m:Int),false,false⟩∧P (X m))∨(e<A.length∧s=⟨((e+1:Nat):Int),false,false⟩∧Q (fnF t n (X e) (S e)).x)
section
variable {t n:Int} {A:List (List Int)} {i:Nat} {x0:FNS} {s s':TS} {P P' Q Q':FNS→Prop}
theorem RelA.mono(h:RelA t n A i x0 s P Q)(hp: ∀y,P y→P' y)(hq: ∀y,Q y→Q' y):RelA t n A i x0 s P' Q':=by
 intro X S e tr h0
 rcases h X S e tr h0 with c | ⟨m,l1,l2,es,p⟩ | ⟨l,es,q⟩
 ·exact .inl c
 ·exact .inr (.inl ⟨m,l1,l2,es,hp _ p⟩)
 ·exact .inr (.inr ⟨l,es,hq _ q⟩)
theorem RelA.act(h:RelA t n A i x0 s P (fun _=>False))(hov:s.out=true→s'=s)(hend:s=⟨(A.length:Nat),false,false⟩→s'=⟨(A.length:Nat),false,true⟩)
 (hst: ∀(m:Nat) y σ,s=⟨(m:Int),false,false⟩→P y→A[m]? =some (rowM (fnF t n y σ).s)→s'=⟨((m+1:Nat):Int),false,false⟩∧((fnF t n y σ).d =false→P' (fnF t n y σ).x)∧((fnF t n y σ).d =true→Q' (fnF t n y σ).x)):RelA t n A i x0 s' P' Q':=by
 intro X S e tr h0
 rcases h X S e tr h0 with⟨c,es⟩ | ⟨m,l1,l2,es,p⟩ | ⟨_,_,q⟩
 ·refine .inl ⟨c,?_⟩
  rw [hov (by rw [es]),es]
 ·rcases Nat.lt_or_ge m e with c | c
  ·obtain⟨r,d,nx⟩:=tr.st m l1 c
   obtain⟨e1,g,_⟩:=hst m _ _ es p r
   exact .inr (.inl ⟨m+1,by omega,by omega,e1,by rw [nx];exact g d⟩)
  ·have em:m=e:=by omega
   subst em
   rcases Nat.lt_or_ge m A.length with c2 | c2
   ·obtain⟨r,d⟩:=tr.fin c2
    obtain⟨e1,_,g⟩:=hst m _ _ es p r
    exact .inr (.inr ⟨c2,e1,g d⟩)
   ·have em:m=A.length:=by have:=tr.he;omega
    exact .inl ⟨em,hend (by rw [es,em])⟩
 ·exact q.elim
theorem RelA.load{a:Int}(h:RelA t n A i x0 s P (fun _=>False))(hk: ∀y σ,P y→(fnF t n y σ).s =σ.loadd a)
 (hl: ∀y σ,P y→aD σ.xs a=a2 (tGot A s 1 a)→((fnF t n y σ).d =false→P' (fnF t n y σ).x)∧((fnF t n y σ).d =true→Q' (fnF t n y σ).x)):RelA t n A i x0 (aG A s 1 a) P' Q':=by
 refine h.act (fun c=>(qG c).1) (fun c=>by rw [c];exact pG.1) (fun m y σ es p r=>?_)
 rw [hk y σ p]at r
 refine⟨by rw [es];exact(jE r rfl rfl).1,?_⟩
 refine hl y σ p ?_
 rw [es,(jE (k:=1) (a:=a) r rfl rfl).2]
 rfl
theorem RelA.stor{a v:Int}(h:RelA t n A i x0 s P (fun _=>False))(hk: ∀y σ,P y→(fnF t n y σ).s =σ.stored a v)
 (hl: ∀y σ,P y→((fnF t n y σ).d =false→P' (fnF t n y σ).x)∧((fnF t n y σ).d =true→Q' (fnF t n y σ).x)):RelA t n A i x0 (dH A s a v) P' Q':=by
 refine h.act (fun c=>B9 c) (fun c=>by rw [c];exact IZ) (fun m y σ es p r=>?_)
 rw [hk y σ p]at r
 exact⟨by rw [es];exact I0 r,hl y σ p⟩
theorem RelA.cas{a o v:Int}(h:RelA t n A i x0 s P (fun _=>False))(hk: ∀y σ,P y→(fnF t n y σ).s =σ.cased a o v)
 (hl: ∀y σ,P y→aV σ.xs a o=a4 (tGot A s 3 a)→((fnF t n y σ).d =false→P' (fnF t n y σ).x)∧((fnF t n y σ).d =true→Q' (fnF t n y σ).x)):RelA t n A i x0 (tCas A s a o v) P' Q':=by
 refine h.act (fun c=>B7 c) (fun c=>by rw [c];exact IS) (fun m y σ es p r=>?_)
 rw [hk y σ p]at r
 refine⟨by rw [es];exact IT r,?_⟩
 refine hl y σ p ?_
 rw [es,(jE (k:=3) (a:=a) r rfl rfl).2,uO]
 rfl
end
end Go.Sh
namespace Go.Sh
open Go Go.Proofs
variable [Con]
def ovf(s:TS):Bool:=bif s.bad then true else s.out
theorem kJ{s:TS}(h:ovf s=false):s.bad=false∧s.out=false:=by
 obtain⟨i,b,o⟩:=s
 unfold ovf at h
 cases b<;>cases o<;>simp_all
structure Adv (A:List (List Int)) (k:Int) (s s':TS):Prop where
 lo:s.i≤s'.i
 hi:s.i≤A.length→s'.i≤A.length
 on:ovf s'=false→ovf s=false∧s.i+k≤s'.i
theorem XT{A:List (List Int)}(s:TS):Adv A 0 s s:=⟨Int.le_refl _,id,fun h=>⟨h,by omega⟩⟩
theorem Adv.trans{A:List (List Int)}{k j:Int}{a b c:TS}(h:Adv A k a b)(g:Adv A j b c):Adv A (k+j) a c:=by
 refine⟨by have:=h.lo;have:=g.lo;omega,fun q=>g.hi (h.hi q),fun q=>?_⟩
 obtain⟨q1,q2⟩:=g.on q
 obtain⟨q3,q4⟩:=h.on q1
 exact⟨q3,by omega⟩
theorem Adv.le{A:List (List Int)}{k j:Int}{a b:TS}(h:Adv A k a b)(q:j≤k):Adv A j a b:=⟨h.lo,h.hi,fun c=>⟨(h.on c).1,by have:=(h.on c).2;omega⟩⟩
theorem eH(A:List (List Int))(s:TS)(k a:Int):Adv A 1 s (aG A s k a):=by
 have b:=oI A s k a
 refine⟨b.1,fun q=>?_,fun q=>?_⟩
 ·unfold aG
  cases (s.bad||s.out)with
  | true=>exact q
  | false=>
    cases e:ile (A.length:Int) s.i with
    | true=>exact q
    | false=>
      rw [bZ,dF']at e
      show s.i+1≤_;omega
 ·clear b
  obtain⟨i,bd,o⟩:=s
  unfold aG at q⊢
  cases bd with
  | true=>cases q
  | false=>
    cases o with
    | true=>cases q
    | false=>
      cases e:ile (A.length:Int) i with
      | true=>
        have q:ovf (bif ile (A.length:Int) i then(⟨i,false,true⟩:TS)else⟨i+1,!tHit A ⟨i,false,false⟩ k a,false⟩)=false:=q
        rw [e]at q;cases q
      | false=>
        refine⟨rfl,?_⟩
        exact Int.le_refl _
theorem v8{A:List (List Int)}{s s' s'':TS}{k:Int}(h:Adv A k s s')(hi:s''.i=s'.i)(hb:s'.bad=true→s''.bad=true)(ho:s''.out=s'.out):Adv A k s s'':=by
 refine⟨by rw [hi];exact h.lo,by rw [hi];exact h.hi,fun q=>?_⟩
 rw [hi]
 apply h.on
 obtain⟨q1,q2⟩:=kJ q
 unfold ovf
 rw [ho]at q2
 rw [q2]
 cases e:s'.bad with
 | true=>rw [hb e]at q1;cases q1
 | false=>rfl
theorem kU(A:List (List Int))(s:TS)(a x:Int):Adv A 1 s (dH A s a x):=by
 refine v8 (eH A s 2 a) rfl (fun h=>?_) rfl
 unfold dH
 simp only [h,Bool.true_or]
theorem nK(A:List (List Int))(s:TS)(a x y:Int):Adv A 1 s (tCas A s a x y):=by
 refine v8 (eH A s 3 a) rfl (fun h=>?_) rfl
 unfold tCas
 simp only [h,Bool.true_or]
theorem JA(A:List (List Int))(s:TS)(da a x y:Int):Adv A 0 s (tclP A s da a x y):=by
 unfold tclP
 have h:=(nK A s da y (AW y)).le (show(0:Int)≤1 by decide)
 have r:=XT (A:=A) s
 cases (!bif s.bad then true else s.out)
 ·exact r
 cases ieq (aA y 49 3) 2
 ·exact r
 cases ieq (aA y 12 9) a
 ·exact r
 cases ieq (aA y 21 18) (aA x 25 18)
 ·exact r
 exact h
theorem yY(A:List (List Int))(t n:Int)(s:TS)(a:Int):Adv A 1 s (pE A t n s a):=by
 unfold pE MF
 have h:=eH A s 1 a
 generalize aG A s 1 a=s1 at*
 generalize a2 (tGot A s 1 a)=x at*
 cases (bif s1.bad then true else s1.out)
 ·cases ieq (aA x 20 5) 0
  ·cases ilt t (aA x 20 5)
   ·refine(h.trans ((eH A s1 1 (tclA t n x)).trans ((JA A _ _ _ _ _).trans (nK A _ _ _ _)))).le (by decide)
   ·exact h
  ·exact h
 ·exact h
section
variable {t n:Int} {A:List (List Int)} {i:Nat} {x0:FNS} {s s':TS} {P P' Q Q':FNS→Prop}
theorem RelA.over(h:RelA t n A i x0 s P Q)(ho:ovf s=true):RelA t n A i x0 s P' Q':=by
 intro X S e tr h0
 rcases h X S e tr h0 with c | ⟨m,l1,l2,es,p⟩ | ⟨l,es,q⟩
 ·exact .inl c
 ·rw [es]at ho;cases ho
 ·rw [es]at ho;cases ho
def clAt(z:FNS)(c:CLS)(y:FNS):Prop:=y= {z with at':=4,cl:=c}
def clOn(z:FNS)(y:FNS):Prop:=ilt z.limit (fnT1 z)=false∧y= {z with tries:=fnT1 z,ab:=false,at':=0,cl:=a9}
def zF(z:FNS)(y:FNS):Prop:=ilt z.limit (fnT1 z)=true∧y=u5 z 0
theorem l7{z:FNS}{c:CLS}{σ:MS}{d:Bool}{c':CLS}{σ':MS}(e:clF t n c σ=⟨d,c',σ'⟩){y:FNS}(h:clAt z c y){P' Q':FNS→Prop}(h1:d=false→P' {z with at':=4,cl:=c'})(h2:d=true→ilt z.limit (fnT1 z)=false→P' {z with tries:=fnT1 z,ab:=false,at':=0,cl:=a9})(h3:d=true→ilt z.limit (fnT1 z)=true→Q' (u5 z 0)):
 ((fnF t n y σ).d =false→P' (fnF t n y σ).x)∧((fnF t n y σ).d =true→Q' (fnF t n y σ).x):=by
 unfold clAt at h
 subst h
 have e4:({z with at':=4,cl:=c} :FNS).at' =4:=rfl
 cases d with
 | false=>
   have hd:(clF t n ({z with at':=4,cl:=c} :FNS).cl σ).d =false:=by show(clF t n c σ).d =false;rw [e]
   rw [rE e4 hd]
   refine⟨fun _=>?_,fun q=>by cases q⟩
   have:=h1 rfl
   show P' {z with at':=4,cl:=(clF t n c σ).x }
   rw [e];exact this
 | true=>
   have hd:(clF t n ({z with at':=4,cl:=c} :FNS).cl σ).d =true:=by show(clF t n c σ).d =true;rw [e]
   cases hl:ilt z.limit (fnT1 z)with
   | true=>
     rw [rD e4 hd hl]
     exact⟨fun q=>(by cases q),fun _=>h3 rfl hl⟩
   | false=>
     rw [xA e4 hd hl]
     exact⟨fun _=>h2 rfl hl,fun q=>by cases q⟩
theorem uV{z:FNS}{c:CLS}{σ:MS}{y:FNS}(h:clAt z c y):(fnF t n y σ).s =(clF t n c σ).s :=by
 unfold clAt at h
 subst h
 rw [NA rfl]
theorem PY(x:Int):0≤aA x 20 5∧aA x 20 5<32:=by have h:=cE (x:=x) (a:=20) (w:=5);rwa [show(2:Int)^(5:Int).toNat =32 from rfl]at h
theorem HS(x:Int):0≤aA x 25 18∧aA x 25 18<262144:=by have h:=cE (x:=x) (a:=25) (w:=18);rwa [show(2:Int)^(18:Int).toNat =262144 from rfl]at h
theorem MD(x:Int):MC x=clFr x:=by
 unfold MC clFr aM
 have h:=HS x
 have e1:W (aA x 25 18+1)=aA x 25 18+1:=cO (by omega)
 rw [e1,Int.tmod_eq_emod_of_nonneg (by omega)]
theorem MA(t n x:Int):tclA t n x=clDa t n x:=by
 unfold tclA clDa
 have h:=PY x
 have e1:W (aA x 20 5 - 1)=aA x 20 5 - 1:=cO (by omega)
 rw [e1]
theorem MB(y:Int):AW y=clWn y:=by
 unfold AW clWn
 have d1:0≤aA y 0 12∧aA y 0 12<4096:=by have h:=cE (x:=y) (a:=0) (w:=12);rwa [show(2:Int)^(12:Int).toNat =4096 from rfl]at h
 have d2:0≤aA y 12 9∧aA y 12 9<512:=by have h:=cE (x:=y) (a:=12) (w:=9);rwa [show(2:Int)^(9:Int).toNat =512 from rfl]at h
 have d3:0≤aA y 21 18∧aA y 21 18<262144:=by have h:=cE (x:=y) (a:=21) (w:=18);rwa [show(2:Int)^(18:Int).toNat =262144 from rfl]at h
 have d4:0≤aA y 39 9∧aA y 39 9<512:=by have h:=cE (x:=y) (a:=39) (w:=9);rwa [show(2:Int)^(9:Int).toNat =512 from rfl]at h
 have d5:0≤aA y 52 10∧aA y 52 10<1024:=by have h:=cE (x:=y) (a:=52) (w:=10);rwa [show(2:Int)^(10:Int).toNat =1024 from rfl]at h
 have e:dOk (aA y 0 12) (aA y 12 9) (aA y 21 18) (aA y 39 9) 3 (aA y 52 10)=true:=lA.2 (by omega)
 rw [e,Int.emod_eq_of_lt d1.1 d1.2,Int.emod_eq_of_lt d2.1 d2.2,Int.emod_eq_of_lt d3.1 d3.2,Int.emod_eq_of_lt d4.1 d4.2,Int.emod_eq_of_lt d5.1 d5.2]
 rfl
theorem NK(x:Int):hasB [2] x=ieq x 2:=by
 unfold hasB
 rw [bC]
 by_cases h:x=2
 ·subst h;decide
 ·rw [decide_eq_false (by simpa using h)]
  exact(beq_eq_false_iff_ne.2 h).symm
theorem RelA.clear{a:Int}{z:FNS}(h:RelA t n A i x0 s (clAt z (clNF t n a)) (fun _=>False)):RelA t n A i x0 (pE A t n s a) (clOn z) (zF z):=by
 unfold pE MF
 rw [JG]at h
 have h1:RelA t n A i x0 (aG A s 1 a) (fun y=>(aA (a2 (tGot A s 1 a)) 20 5≠0∧aA (a2 (tGot A s 1 a)) 20 5≤t∧clAt z ⟨a,1,a2 (tGot A s 1 a),0⟩ y)∨((aA (a2 (tGot A s 1 a)) 20 5=0∨t<aA (a2 (tGot A s 1 a)) 20 5)∧clOn z y)) (fun y=>(aA (a2 (tGot A s 1 a)) 20 5=0∨t<aA (a2 (tGot A s 1 a)) 20 5)∧zF z y):=by
  refine h.load (fun y σ p=>?_) (fun y σ p hv=>?_)
  ·rw [uV p,OB rfl]
  ·have hv:aD σ.xs a=a2 (tGot A s 1 a):=hv
   have e:=OB (t:=t) (n:=n) (x:=⟨a,0,0,0⟩) (s:=σ) rfl
   have e:clF t n ⟨a,0,0,0⟩ σ=⟨bif ilt (clW' (aD σ.xs a) - 1) 0 then true else ile t (clW' (aD σ.xs a) - 1),⟨a,1,aD σ.xs a,0⟩,σ.loadd a⟩:=e
   rw [hv]at e
   have c5:=PY (a2 (tGot A s 1 a))
   have hb:((bif ilt (clW' (a2 (tGot A s 1 a)) - 1) 0 then true else ile t (clW' (a2 (tGot A s 1 a)) - 1))=true)↔(aA (a2 (tGot A s 1 a)) 20 5=0∨t<aA (a2 (tGot A s 1 a)) 20 5):=by
    show((bif ilt (aA (a2 (tGot A s 1 a)) 20 5 - 1) 0 then true else ile t (aA (a2 (tGot A s 1 a)) 20 5 - 1))=true)↔_
    generalize aA (a2 (tGot A s 1 a)) 20 5=c at*
    rw [aX,bZ]
    by_cases q:c - 1<0
    ·rw [decide_eq_true q];simp only [cond_true,true_iff];omega
    ·rw [decide_eq_false q];simp only [cond_false,dT'];omega
   refine l7 (P':=(fun y=>(aA (a2 (tGot A s 1 a)) 20 5≠0∧aA (a2 (tGot A s 1 a)) 20 5≤t∧clAt z ⟨a,1,a2 (tGot A s 1 a),0⟩ y)∨((aA (a2 (tGot A s 1 a)) 20 5=0∨t<aA (a2 (tGot A s 1 a)) 20 5)∧clOn z y))) (Q':=(fun y=>(aA (a2 (tGot A s 1 a)) 20 5=0∨t<aA (a2 (tGot A s 1 a)) 20 5)∧zF z y)) e p (fun q=>.inl ?_) (fun q hl=>.inr ?_) (fun q hl=>?_)
   ·have hb': ¬_:=fun c=>by rw [hb.2 c]at q;cases q
    exact⟨by omega,by omega,rfl⟩
   ·exact⟨hb.1 q,hl,rfl⟩
   ·exact⟨hb.1 q,hl,rfl⟩
 have hw:=a2 (tGot A s 1 a)
 generalize a2 (tGot A s 1 a)=x at*
 generalize aG A s 1 a=s1 at*
 cases ho:(bif s1.bad then true else s1.out)with
 | true=>exact h1.over ho
 | false=>
   cases h0:ieq (aA x 20 5) 0 with
   | true=>
     rw [bC,beq_iff_eq]at h0
     refine h1.mono (fun y p=>?_) (fun y q=>q.2)
     rcases p with p | p
     ·exact(p.1 h0).elim
     ·exact p.2
   | false=>
     have h0':aA x 20 5≠0:=by rw [bC,beq_eq_false_iff_ne]at h0;exact h0
     cases ht:ilt t (aA x 20 5)with
     | true=>
       rw [aX,dT']at ht
       refine h1.mono (fun y p=>?_) (fun y q=>q.2)
       rcases p with p | p
       ·have:=p.2.1;omega
       ·exact p.2
     | false=>
       rw [aX,dF']at ht
       have h2:RelA t n A i x0 s1 (clAt z ⟨a,1,x,0⟩) (fun _=>False):=by
        refine h1.mono (fun y p=>?_) (fun y q=>?_)
        ·rcases p with p | p
         ·exact p.2.2
         ·have:=p.1;omega
        ·have:=q.1;omega
       rw [MA,MD]
       show RelA t n A i x0 (tCas A (tclP A (aG A s1 1 (clDa t n x)) (clDa t n x) a x (a2 (tGot A s1 1 (clDa t n x)))) a x (clFr x)) (clOn z) (zF z)
       have h3:RelA t n A i x0 (aG A s1 1 (clDa t n x)) (clAt z ⟨a,bif clOp a x (a2 (tGot A s1 1 (clDa t n x)))then 2 else 3,x,a2 (tGot A s1 1 (clDa t n x))⟩) (fun _=>False):=by
        refine h2.load (fun y σ p=>?_) (fun y σ p hv=>?_)
        ·rw [uV p,OC rfl]
        ·have e:=OC (t:=t) (n:=n) (x:=⟨a,1,x,0⟩) (s:=σ) rfl
         have hv:aD σ.xs (clDa t n x)=a2 (tGot A s1 1 (clDa t n x)):=hv
         have e:clF t n ⟨a,1,x,0⟩ σ=⟨false,⟨a,bif clOp a x (aD σ.xs (clDa t n x))then 2 else 3,x,aD σ.xs (clDa t n x)⟩,σ.loadd (clDa t n x)⟩:=e
         rw [hv]at e
         exact l7 (P':=clAt z _) (Q':=fun _=>False) e p (fun _=>rfl) (fun q=>by cases q) (fun q=>by cases q)
       generalize a2 (tGot A s1 1 (clDa t n x))=y0 at*
       generalize aG A s1 1 (clDa t n x)=s2 at*
       have h4:RelA t n A i x0 (tclP A s2 (clDa t n x) a x y0) (clAt z ⟨a,3,x,y0⟩) (fun _=>False):=by
        unfold tclP
        cases ho2:(!bif s2.bad then true else s2.out)with
        | false=>
          refine h3.over ?_
          show(bif s2.bad then true else s2.out)=true
          cases q:(bif s2.bad then true else s2.out)
          ·rw [q]at ho2;cases ho2
          ·rfl
        | true=>
          cases hop:clOp a x y0 with
          | true=>
            rw [hop]at h3
            have hop':=hop
            unfold clOp at hop'
            rw [NK]at hop'
            simp only [Bool.and_eq_true]at hop'
            rw [hop'.1,hop'.2.1,hop'.2.2]
            simp only [cond_true]
            rw [MB]
            refine h3.cas (fun y σ p=>?_) (fun y σ p _=>?_)
            ·rw [uV p,show(bif true then(2:Int)else 3)=2 from rfl,OD rfl]
            ·have e:=OD (t:=t) (n:=n) (x:=⟨a,2,x,y0⟩) (s:=σ) rfl
             exact l7 (P':=clAt z _) (Q':=fun _=>False) e p (fun _=>rfl) (fun q=>by cases q) (fun q=>by cases q)
          | false=>
            rw [hop]at h3
            have g:RelA t n A i x0 s2 (clAt z ⟨a,3,x,y0⟩) (fun _=>False):=h3
            unfold clOp at hop
            rw [NK]at hop
            cases q1:ieq (aA y0 49 3) 2 with
            | false=>exact g
            | true=>
              cases q2:ieq (aA y0 12 9) a with
              | false=>exact g
              | true=>
                cases q3:ieq (aA y0 21 18) (aA x 25 18)with
                | false=>exact g
                | true=>rw [q1,q2,q3]at hop;cases hop
       refine h4.cas (fun y σ p=>?_) (fun y σ p _=>?_)
       ·rw [uV p,OE rfl]
       ·have e:=OE (t:=t) (n:=n) (x:=⟨a,3,x,y0⟩) (s:=σ) rfl
        exact l7 (P':=clOn z) (Q':=zF z) e p (fun q=>by cases q) (fun _ hl=>⟨hl,rfl⟩) (fun _ hl=>⟨hl,rfl⟩)
end
end Go.Sh
namespace Go.Sh
open Go Go.Proofs
variable [Con]
structure FNR where
 s:TS
 pred:Int
 pw:Int
 curr:Int
 cw:Int
 tries:Int
 R:List Int
 ab:Bool
instance:Inhabited FNR:=⟨⟨⟨0,false,false⟩,0,0,0,0,0,[],false⟩⟩
def dP(me hd key lim pred pw curr cw tries:Int)(R:List Int)(moves at':Int):FNS:=⟨pred,pw,curr,cw,tries,R,false,me,hd,key,lim,at',moves,a9⟩
structure oW (r:FNR) (y:FNS):Prop where
 pred:y.pred=r.pred
 pw:y.pw=r.pw
 curr:y.curr=r.curr
 cw:y.cw=r.cw
 tries:y.tries=r.tries
 R:y.ul=r.R
 ab:y.ab=r.ab
structure dE (t n:Int) (A:List (List Int)) (i:Nat) (me hd key lim:Int) (r:FNR):Prop where
 rel:RelA t n A i (mE t n me hd key lim) r.s (fun _=>False) (oW r)
 lo:(i:Int)≤r.s.i
 hi:r.s.i≤A.length
 on:ovf r.s=false→(i:Int)+1≤r.s.i
 tr:0≤r.tries∧r.tries≤lim+1
 hR:(r.R.length:Int)≤r.s.i - i
 hpw:0≤r.pw∧r.pw≤18446744073709551615
 hcw:0≤r.cw∧r.cw≤18446744073709551615
 hab:r.ab=ilt lim r.tries
abbrev FdO:=FNX ⊕ FNR
section
variable (A:List (List Int)) (t n me hd key lim:Int)
def DA(x:FNX)(s:TS)(R:List Int):FdO:=.inr ⟨s,0,0,0,0,x.tries+1,R,true⟩
def gd7(x:FNX)(pw v4:Int)(v5:Bool)(s:TS):FdO:=
 bif v5 then(bif ilt n (x.moves+1)then(bif ilt lim (x.tries+1)then DA x s (x.R++ [aA pw 10 9])else .inl ⟨s,n+1+hd,lnkW pw v4,aA pw 10 9,v4,x.tries+1,x.R++ [aA pw 10 9],0,false⟩)else .inl ⟨s,x.pred,lnkW pw v4,aA pw 10 9,v4,x.tries,x.R++ [aA pw 10 9],W (x.moves+1),true⟩)
 else(bif ilt lim (x.tries+1)then DA x s x.R else .inl ⟨s,x.pred,pw,aA pw 10 9,v4,x.tries+1,x.R,x.moves,false⟩)
def gd6(x:FNX)(pw v4:Int)(s:TS):FdO:=bif ilt lim (x.tries+1)then DA x s x.R else .inl ⟨s,x.pred,pw,aA pw 10 9,v4,x.tries+1,x.R,x.moves,false⟩
def gd5(x:FNX)(pw v4:Int)(s:TS):FdO:=bif ilt n (x.moves+1)then(bif ilt lim (x.tries+1)then DA x s x.R else .inl ⟨s,n+1+hd,pw,aA pw 10 9,v4,x.tries+1,x.R,0,false⟩)else .inl ⟨s,aA pw 10 9,pw,aA pw 10 9,v4,x.tries,x.R,W (x.moves+1),false⟩
def gd4(x:FNX)(pw v4:Int)(s:TS):FdO:=
 bif ovf s then .inr ⟨s,x.pred,pw,aA pw 10 9,v4,x.tries,x.R,false⟩
 else bif mkW v4 then(bif ieq (clW' v4) 0 then(bif ieq (clW' pw) 0 then gd7 n hd lim x pw v4 (a4 (tGot A s 3 x.pred)) (tCas A s x.pred pw (lnkW pw v4))else gd6 lim x pw v4 (pE A t n s x.pred))else gd6 lim x pw v4 (pE A t n s (aA pw 10 9)))
 else bif ile key (kyW v4)then .inr ⟨s,x.pred,pw,aA pw 10 9,v4,x.tries,x.R,false⟩else gd5 n hd lim x pw v4 (dH A s (2*n+5+2*me+0) (WU (aA pw 10 9)))
def gd3(x:FNX)(pw v3:Int)(s:TS):FdO:=
 bif ovf s then .inr ⟨s,x.pred,pw,aA pw 10 9,0,x.tries,x.R,false⟩
 else bif ieq v3 pw then gd4 A t n me hd key lim x pw (a2 (tGot A s 1 (aA pw 10 9))) (aG A s 1 (aA pw 10 9))
 else bif ilt lim (x.tries+1)then DA x s x.R
 else bif mkW v3 then .inl ⟨s,n+1+hd,v3,aA pw 10 9,0,x.tries+1,x.R,0,false⟩else .inl ⟨s,x.pred,v3,aA pw 10 9,0,x.tries+1,x.R,x.moves,true⟩
def gd2(x:FNX)(pw:Int)(s:TS):FdO:=gd3 A t n me hd key lim x pw (a2 (tGot A s 1 x.pred)) (aG A s 1 x.pred)
def TU(x:FNX)(pw:Int)(s:TS):FdO:=gd2 A t n me hd key lim x pw (dH A s (2*n+5+2*me+1) (WU (aA pw 10 9)))
def gd0(x:FNX)(v:Int)(s:TS):FdO:=
 bif mkW v then(bif ilt lim (x.tries+1)then DA x s x.R else .inl ⟨s,n+1+hd,v,0,0,x.tries+1,x.R,0,x.loaded⟩)
 else bif ovf s then .inr ⟨s,x.pred,v,0,0,x.tries,x.R,false⟩
 else bif ieq (nxW v) 0 then .inr ⟨s,x.pred,v,0,0,x.tries,x.R,false⟩else TU A t n me hd key lim x v s
def fdS(x:FNX):FdO:=
 bif ovf x.s then .inr ⟨x.s,x.pred,x.pw,x.curr,x.cw,x.tries,x.R,false⟩
 else bif x.loaded then(bif ieq (nxW x.pw) 0 then .inr ⟨x.s,x.pred,x.pw,0,0,x.tries,x.R,false⟩else TU A t n me hd key lim x x.pw x.s)
 else gd0 A t n me hd key lim x (a2 (tGot A x.s 1 x.pred)) (aG A x.s 1 x.pred)
inductive gQ:FNX→FNR→Prop where
 | done (x:FNX) (r:FNR) (h:fdS A t n me hd key lim x=.inr r):gQ x r
 | step (x y:FNX) (r:FNR) (h:fdS A t n me hd key lim x=.inl y) (g:gQ y r):gQ x r
def J5(i:Nat):FNX:=⟨⟨(i:Int),false,false⟩,n+1+hd,0,0,0,0,[],0,false⟩
end
theorem gQ.one{A:List (List Int)}{t n me hd key lim:Int}{x:FNX}{r r':FNR}(h:gQ A t n me hd key lim x r)(g:gQ A t n me hd key lim x r'):r=r':=by
 induction h generalizing r' with
 | done x r h=>
   cases g with
   | done _ _ h'=>rw [h]at h';exact Sum.inr.inj h'
   | step _ y _ h' _=>rw [h]at h';cases h'
 | step x y r h _ ih=>
   cases g with
   | done _ _ h'=>rw [h]at h';cases h'
   | step _ y' _ h' g'=>rw [h]at h';cases h';exact ih g'
structure okFN (t n:Int) (A:List (List Int)) (i:Nat) (me hd key lim:Int) (x:FNX):Prop where
 lo:(i:Int)≤x.s.i
 hi:x.s.i≤A.length
 tr:0≤x.tries∧x.tries≤lim
 hR:(x.R.length:Int)≤x.s.i - i
 mv:0≤x.moves∧x.moves≤n
 pw:0≤x.pw∧x.pw≤18446744073709551615
 cw:0≤x.cw∧x.cw≤18446744073709551615
 hk:x.loaded=true→mkW x.pw=false
 run: ∀r,gQ A t n me hd key lim x r→gQ A t n me hd key lim (J5 n hd i) r
 b0:x.loaded=true→(i:Int)+1≤x.s.i∨ovf x.s=true
 rel:RelA t n A i (mE t n me hd key lim) x.s
  (fun y=>bif x.loaded then y=dP me (n+1+hd) key lim x.pred x.pw (nxW x.pw) 0 x.tries x.R x.moves 1∧nxW x.pw≠0 else∃a b c,y=dP me (n+1+hd) key lim x.pred a b c x.tries x.R x.moves 0)
  (fun y=>x.loaded=true∧y=dP me (n+1+hd) key lim x.pred x.pw 0 0 x.tries x.R x.moves 1∧nxW x.pw=0)
def fC(A:List (List Int))(x:FNX):Nat:=2*(A.length - x.s.i.toNat)+(bif ovf x.s then 0 else 1)
theorem SI{A:List (List Int)}{x x':FNX}{k:Int}(h0:0≤x.s.i)(h:Adv A k x.s x'.s)(hk:1≤k)(hx:x.s.i≤A.length)(ho:ovf x.s=false):fC A x'<fC A x:=by
 unfold fC
 have h1:=h.hi hx
 have h2:=h.lo
 rw [ho]
 cases e:ovf x'.s with
 | true=>simp only [cond_true,cond_false];omega
 | false=>
   have:=(h.on e).2
   simp only [cond_false];omega
section
variable {t n:Int} {A:List (List Int)} {i:Nat} {me hd key lim:Int}
structure jN (t n:Int) (A:List (List Int)) (i:Nat) (me hd key lim:Int):Prop where
 hA:okAW A
 len:A.length≤1000000
 hi:i≤A.length
 ht:0≤t∧t≤100000
 hn:0≤n∧n≤1000
 hm:0≤me∧me≤1000
 hh: -1000≤hd∧hd≤1000
 hl:0≤lim∧lim≤1000000
theorem SK(x:Int):0≤aA x 10 9∧aA x 10 9<512:=by have h:=cE (x:=x) (a:=10) (w:=9);rwa [show(2:Int)^(9:Int).toNat =512 from rfl]at h
theorem SJ(x:Int):0≤aA x 0 10∧aA x 0 10<1024:=by have h:=cE (x:=x) (a:=0) (w:=10);rwa [show(2:Int)^(10:Int).toNat =1024 from rfl]at h
theorem LE(pw cw:Int):bO (aA pw 0 10) (aA cw 10 9) (ieq (aA pw 19 1) 1) (aA pw 20 5) (Int.tmod (W (aA pw 25 18+1)) 262144)=lnkW pw cw:=by
 unfold lnkW aM
 have h:=HS pw
 have e1:W (aA pw 25 18+1)=aA pw 25 18+1:=cO (by omega)
 rw [e1,Int.tmod_eq_emod_of_nonneg (by omega)]
theorem SB{A:List (List Int)}{s:TS}{k a:Int}(h:a4 (tGot A s k a)=true):s.i+1≤(aG A s k a).i :=by
 unfold tGot at h
 cases e:tHit A s k a with
 | false=>rw [e]at h;cases h
 | true=>
   obtain⟨i,b,o⟩:=s
   unfold tHit at e
   simp only [Bool.and_eq_true,Bool.not_eq_true']at e
   obtain⟨e1,e2,e3,_⟩:=e
   have e1:b=false:=e1
   have e2:o=false:=e2
   subst e1 e2
   unfold aG
   simp only [Bool.or_false,cond_false,e3]
   exact Int.le_refl _
abbrev rl(t n:Int)(A:List (List Int))(i:Nat)(me hd key lim:Int)(s:TS)(P Q:FNS→Prop):Prop:=RelA t n A i (mE t n me hd key lim) s P Q
theorem okFN.next{x x':FNX}{k:Int}(F:jN t n A i me hd key lim)(hx:okFN t n A i me hd key lim x)(ho:ovf x.s=false)(hf:fdS A t n me hd key lim x=.inl x')(h:Adv A k x.s x'.s)(hk:1≤k)
 (tr:0≤x'.tries∧x'.tries≤lim) (hR:(x'.R.length:Int)≤x'.s.i - i) (mv:0≤x'.moves∧x'.moves≤n) (pw:0≤x'.pw∧x'.pw≤18446744073709551615) (cw:0≤x'.cw∧x'.cw≤18446744073709551615)
 (hm:x'.loaded=true→mkW x'.pw=false)
 (rel:rl t n A i me hd key lim x'.s
 (fun y=>bif x'.loaded then y=dP me (n+1+hd) key lim x'.pred x'.pw (nxW x'.pw) 0 x'.tries x'.R x'.moves 1∧nxW x'.pw≠0 else∃a b c,y=dP me (n+1+hd) key lim x'.pred a b c x'.tries x'.R x'.moves 0)
 (fun y=>x'.loaded=true∧y=dP me (n+1+hd) key lim x'.pred x'.pw 0 0 x'.tries x'.R x'.moves 1∧nxW x'.pw=0)):
 okFN t n A i me hd key lim x'∧fC A x'<fC A x:=by
 have h1:=hx.lo
 have h2:=hx.hi
 have h3:=h.lo
 have h4:=h.hi h2
 refine⟨⟨by omega,h4,tr,hR,mv,pw,cw,hm,fun r g=>hx.run r (.step x x' r hf g),fun _=>?_,rel⟩,SI (by omega) h hk h2 ho⟩
 cases e:ovf x'.s with
 | true=>exact .inr rfl
 | false=>exact .inl (by have:=(h.on e).2;omega)
theorem WN{x:FNX}{s:TS}{k:Int}{r:FNR}(hx:okFN t n A i me hd key lim x)(h:Adv A k x.s s)(hk:1≤k)(es:r.s=s)
 (tr:0≤r.tries∧r.tries≤lim+1) (hR:(r.R.length:Int)≤s.i - i) (pw:0≤r.pw∧r.pw≤18446744073709551615) (cw:0≤r.cw∧r.cw≤18446744073709551615)
 (rel:rl t n A i me hd key lim s (fun _=>False) (oW r)) (hab:r.ab=ilt lim r.tries:=by dsimp only;first | exact Eq.symm (by assumption) | (rw [aX];exact(decide_eq_false (by omega)).symm)):dE t n A i me hd key lim r:=by
 have h1:=hx.lo
 have h2:=hx.hi
 have h3:=h.lo
 have h4:=h.hi h2
 subst es
 exact⟨rel,by omega,h4,fun q=>by have:=(h.on q).2;omega,tr,hR,pw,cw,hab⟩
theorem NJ{K:AVal→aB Ob→Prop}(F:jN t n A i me hd key lim){x:FNX}(hx:okFN t n A i me hd key lim x)(ho:ovf x.s=false){pw:Int}{s:TS}(h0:Adv A 0 x.s s)(hpw:0≤pw∧pw≤18446744073709551615)(hmk:mkW pw=false)
 (hr:rl t n A i me hd key lim s (fun y=>y=dP me (n+1+hd) key lim x.pred pw (nxW pw) 0 x.tries x.R x.moves 1) (fun _=>False))
 (hS:fdS A t n me hd key lim x=TU A t n me hd key lim x pw s)
 (hK: ∀r,dE t n A i me hd key lim r→gQ A t n me hd key lim (J5 n hd i) r→K (.agg [.int .i64 r.pred,.int .u64 r.pw,.int .i64 r.curr,.int .u64 r.cw,.int .i64 r.tries,.slice 2 0 r.R.length 1,.bool r.ab]) (cN A r.s++ [some (.ints (some .i64) r.R)])):
 G3 A t n me hd key lim (okFN t n A i me hd key lim) (fC A) K x pw s:=by
 have f1:=F.len
 have f2:=F.ht
 have f3:=F.hn
 have f4:=F.hm
 have f5:=F.hh
 have f6:=F.hl
 have x1:=hx.lo
 have x2:=hx.hi
 have x3:=hx.tr
 have x4:=hx.hR
 have x5:=hx.mv
 have s1:=h0.lo
 have s2:=h0.hi x2
 have z0:(0:Int)≤0∧(0:Int)≤18446744073709551615:=by decide
 have n9:=SK pw
 have wT:W (x.tries+1)=x.tries+1:=cO (by omega)
 have wM:W (x.moves+1)=x.moves+1:=cO (by omega)
 have wH:W (W (n+1)+hd)=n+1+hd:=by
  have e:W (n+1)=n+1:=cO (by omega)
  rw [e];exact cO (by omega)
 have rT:0≤t∧t≤100000:=f2
 have rN:0≤n∧n≤100000:=by omega
 have rM:(-1099511627776:Int)≤me∧me≤(1099511627776:Int):=by omega
 unfold G3
 rw [wT,wM,wH]
 refine⟨hpw,⟨rT,rN,rM,by decide,by decide⟩,⟨rfl,by omega,by omega⟩,fun x_2 e2=>?_⟩
 have A2:Adv A 1 x.s x_2:=by
  rw [e2];exact(h0.trans (kU A s _ _)).le (by decide)
 have R2:rl t n A i me hd key lim x_2 (fun y=>y=dP me (n+1+hd) key lim x.pred pw (nxW pw) 0 x.tries x.R x.moves 2) (fun _=>False):=by
  rw [e2]
  refine RelA.stor hr (fun y σ p=>?_) (fun y σ p=>?_)
  ·subst p;rw [rF rfl];rfl
  ·subst p;rw [rF rfl];exact⟨fun _=>rfl,fun q=>by cases q⟩
 have g2:fdS A t n me hd key lim x=gd2 A t n me hd key lim x pw x_2:=by rw [hS,e2];rfl
 clear e2 hr
 have a1:=A2.lo
 have a2':=A2.hi x2
 refine⟨⟨rfl,F.hA,by omega,by omega⟩,fun x_3 e3=>⟨trivial,?_⟩⟩
 obtain⟨v3,s3⟩:=x_3
 simp only [pI']at e3
 obtain⟨ev3,es3⟩:=e3
 have hv3:0≤v3∧v3≤18446744073709551615:=by rw [ev3];exact F.hA.got x_2 1 x.pred
 have A3:Adv A 2 x.s s3:=by rw [es3];exact A2.trans (eH A x_2 1 _)
 have b1:=A3.lo
 have b2:=A3.hi x2
 have R3: ∀ {P' Q':FNS→Prop},(∀σ:MS,aD σ.xs x.pred=v3→((fnF t n (dP me (n+1+hd) key lim x.pred pw (nxW pw) 0 x.tries x.R x.moves 2) σ).d =false→P' (fnF t n (dP me (n+1+hd) key lim x.pred pw (nxW pw) 0 x.tries x.R x.moves 2) σ).x)∧((fnF t n (dP me (n+1+hd) key lim x.pred pw (nxW pw) 0 x.tries x.R x.moves 2) σ).d =true→Q' (fnF t n (dP me (n+1+hd) key lim x.pred pw (nxW pw) 0 x.tries x.R x.moves 2) σ).x))→rl t n A i me hd key lim s3 P' Q':=by
  intro P' Q' g
  rw [es3]
  refine RelA.load R2 (fun y σ p=>?_) (fun y σ p hv=>?_)
  ·subst p;exact MZ rfl
  ·subst p;rw [←ev3]at hv;exact g σ hv
 have g3:fdS A t n me hd key lim x=gd3 A t n me hd key lim x pw v3 s3:=by rw [g2,es3,ev3];rfl
 clear es3
 refine aF (fun o3=>?_) (fun o3=>?_)
 ·refine hK ⟨s3,x.pred,pw,aA pw 10 9,0,x.tries,x.R,false⟩ (WN hx A3 (by decide) rfl (by show 0≤x.tries∧x.tries≤lim+1;omega) (by show(x.R.length:Int)≤_;omega) hpw z0 ?_) (hx.run _ (.done _ _ (by rw [g3];unfold gd3;rw [show ovf s3=true from o3];rfl)))
  exact RelA.over (R3 (P':=fun _=>True) (Q':=fun _=>True) (fun σ _=>⟨fun _=>trivial,fun _=>trivial⟩)) o3
 have o3:ovf s3=false:=o3
 refine aF (fun e=>?_) (fun e=>?_)
 ·
  have e:ieq v3 pw=false:=by
   cases q:ieq v3 pw
   ·rfl
   ·have e:(!ieq v3 pw)=true:=e
    rw [q]at e;cases e
  refine aF (fun l=>?_) (fun l=>⟨hv3,?_⟩)
  ·refine hK ⟨s3,0,0,0,0,x.tries+1,x.R,true⟩ (WN hx A3 (by decide) rfl (by show 0≤x.tries+1∧x.tries+1≤lim+1;omega) (by show(x.R.length:Int)≤_;omega) z0 z0 ?_) (hx.run _ (.done _ _ (by rw [g3];unfold gd3;rw [o3,e,l];rfl)))
   refine R3 (fun σ hv=>?_)
   rw [pR (x:=dP me (n+1+hd) key lim x.pred pw (nxW pw) 0 x.tries x.R x.moves 2) rfl (by show ieq (aD σ.xs x.pred) pw=false;rw [hv];exact e) (by show ilt lim (W (x.tries+1))=true;rw [wT];exact l)]
   exact⟨fun q=>(by cases q),fun _=>⟨rfl,rfl,rfl,rfl,wT,rfl,rfl⟩⟩
  have l':=l
  rw [aX,dF']at l'
  refine aF (fun m=>?_) (fun m=>?_)
  ·refine aP (H:=dQ A t n me hd key lim (okFN t n A i me hd key lim) (fC A)) ⟨s3,n+1+hd,v3,aA pw 10 9,0,x.tries+1,x.R,0,false⟩ (by kernel_rfl) (okFN.next F hx ho (by rw [g3];unfold gd3;rw [o3,e,l,show mkW v3=true from m];rfl) A3 (by decide) (by show 0≤x.tries+1∧x.tries+1≤lim;omega) (by show(x.R.length:Int)≤s3.i - i;omega) (by show(0:Int)≤0∧(0:Int)≤n;omega) hv3 z0 (fun q=>by cases q) ?_)
   refine R3 (fun σ hv=>?_)
   rw [pS (x:=dP me (n+1+hd) key lim x.pred pw (nxW pw) 0 x.tries x.R x.moves 2) rfl (by show ieq (aD σ.xs x.pred) pw=false;rw [hv];exact e) (by show mkW (aD σ.xs x.pred)=true;rw [hv];exact m) (by show ilt lim (W (x.tries+1))=false;rw [wT];exact l)]
   exact⟨fun _=>⟨pw,nxW pw,0,by unfold wY dP fnT1;rw [wT]⟩,fun q=>by cases q⟩
  ·refine aP (H:=dQ A t n me hd key lim (okFN t n A i me hd key lim) (fC A)) ⟨s3,x.pred,v3,aA pw 10 9,0,x.tries+1,x.R,x.moves,true⟩ (by kernel_rfl) (okFN.next F hx ho (by rw [g3];unfold gd3;rw [o3,e,l,show mkW v3=false from m];rfl) A3 (by decide) (by show 0≤x.tries+1∧x.tries+1≤lim;omega) (by show(x.R.length:Int)≤s3.i - i;omega) x5 hv3 z0 (fun _=>m) ?_)
   refine R3 (fun σ hv=>?_)
   rw [pT (x:=dP me (n+1+hd) key lim x.pred pw (nxW pw) 0 x.tries x.R x.moves 2) rfl (by show ieq (aD σ.xs x.pred) pw=false;rw [hv];exact e) (by show mkW (aD σ.xs x.pred)=false;rw [hv];exact m) (by show ilt lim (W (x.tries+1))=false;rw [wT];exact l)]
   rw [show aD σ.xs (dP me (n+1+hd) key lim x.pred pw (nxW pw) 0 x.tries x.R x.moves 2).pred =v3 from hv]
   refine⟨fun q=>⟨by unfold O3 dP fnT1;rw [wT],?_⟩,fun q=>⟨rfl,?_,?_⟩⟩
   ·have q:ieq (nxW v3) 0=false:=q
    rw [bC,beq_eq_false_iff_ne]at q;exact q
   ·have q:ieq (nxW v3) 0=true:=q
    rw [bC,beq_iff_eq]at q
    unfold O3 dP fnT1;rw [wT,q]
   ·have q:ieq (nxW v3) 0=true:=q
    rw [bC,beq_iff_eq]at q;exact q
 have ev:v3=pw:=by
  have e:(!ieq v3 pw)=false:=e
  cases q:ieq v3 pw with
  | false=>rw [q]at e;cases e
  | true=>rw [bC,beq_iff_eq]at q;exact q
 have R4:rl t n A i me hd key lim s3 (fun y=>y=dP me (n+1+hd) key lim x.pred pw (nxW pw) 0 x.tries x.R x.moves 3) (fun _=>False):=by
  refine R3 (fun σ hv=>?_)
  rw [wZ (x:=dP me (n+1+hd) key lim x.pred pw (nxW pw) 0 x.tries x.R x.moves 2) rfl (by show aD σ.xs x.pred=pw;rw [hv,ev])]
  exact⟨fun _=>rfl,fun q=>by cases q⟩
 clear R3 R2 e ev3
 refine⟨⟨rfl,F.hA,by show 0≤s3.i;omega,by show s3.i≤_;omega⟩,fun x_4 e4=>⟨trivial,?_⟩⟩
 obtain⟨v4,s4⟩:=x_4
 simp only [pI']at e4
 obtain⟨ev4,es4⟩:=e4
 have ev4:v4=a2 (tGot A s3 1 (aA pw 10 9)):=ev4
 have es4:s4=aG A s3 1 (aA pw 10 9):=es4
 have hv4:0≤v4∧v4≤18446744073709551615:=by rw [ev4];exact F.hA.got s3 1 _
 have A4:Adv A 3 x.s s4:=by rw [es4];exact A3.trans (eH A s3 1 _)
 have c1:=A4.lo
 have c2:=A4.hi x2
 have R5: ∀ {P' Q':FNS→Prop},(∀σ:MS,aD σ.xs (nxW pw)=v4→((fnF t n (dP me (n+1+hd) key lim x.pred pw (nxW pw) 0 x.tries x.R x.moves 3) σ).d =false→P' (fnF t n (dP me (n+1+hd) key lim x.pred pw (nxW pw) 0 x.tries x.R x.moves 3) σ).x)∧((fnF t n (dP me (n+1+hd) key lim x.pred pw (nxW pw) 0 x.tries x.R x.moves 3) σ).d =true→Q' (fnF t n (dP me (n+1+hd) key lim x.pred pw (nxW pw) 0 x.tries x.R x.moves 3) σ).x))→rl t n A i me hd key lim s4 P' Q':=by
  intro P' Q' g
  rw [es4]
  refine RelA.load R4 (fun y σ p=>?_) (fun y σ p hv=>?_)
  ·subst p;exact M7 rfl
  ·subst p;rw [←ev4]at hv;exact g σ hv
 have g4:fdS A t n me hd key lim x=gd4 A t n me hd key lim x pw v4 s4:=by
  rw [g3,es4,ev4];unfold gd3;rw [o3,ev,cS];rfl
 clear es4
 refine aF (fun o4=>?_) (fun o4=>?_)
 ·refine hK ⟨s4,x.pred,pw,aA pw 10 9,v4,x.tries,x.R,false⟩ (WN hx A4 (by decide) rfl (by show 0≤x.tries∧x.tries≤lim+1;omega) (by show(x.R.length:Int)≤_;omega) hpw hv4 ?_) (hx.run _ (.done _ _ (by rw [g4];unfold gd4;rw [show ovf s4=true from o4];rfl)))
  exact RelA.over (R5 (P':=fun _=>True) (Q':=fun _=>True) (fun σ _=>⟨fun _=>trivial,fun _=>trivial⟩)) o4
 have o4:ovf s4=false:=o4
 refine⟨hpw,hv4,aF (fun m=>?_) (fun m=>?_)⟩
 ·
  have m:mkW v4=false:=by
   have m:(!mkW v4)=true:=m
   cases q:mkW v4
   ·rfl
   ·rw [q]at m;cases m
  refine aF (fun k=>?_) (fun k=>?_)
  ·refine hK ⟨s4,x.pred,pw,aA pw 10 9,v4,x.tries,x.R,false⟩ (WN hx A4 (by decide) rfl (by show 0≤x.tries∧x.tries≤lim+1;omega) (by show(x.R.length:Int)≤_;omega) hpw hv4 ?_) (hx.run _ (.done _ _ (by rw [g4];unfold gd4;rw [o4,m,show ile key (kyW v4)=true from k];rfl)))
   have k:ile key (kyW v4)=true:=k
   rw [bZ,dT']at k
   refine R5 (fun σ hv=>?_)
   rw [xD (x:=dP me (n+1+hd) key lim x.pred pw (nxW pw) 0 x.tries x.R x.moves 3) rfl (by show mkW (aD σ.xs (nxW pw))=false;rw [hv];exact m) (by show key≤kyW (aD σ.xs (nxW pw));rw [hv];exact k)]
   exact⟨fun q=>(by cases q),fun _=>⟨rfl,rfl,rfl,hv,rfl,rfl,rfl⟩⟩
  have k:ile key (kyW v4)=false:=k
  have kf:=k
  rw [bZ,dF']at k
  have R6:rl t n A i me hd key lim s4 (fun y=>y=dP me (n+1+hd) key lim x.pred pw (nxW pw) v4 x.tries x.R x.moves 6) (fun _=>False):=by
   refine R5 (fun σ hv=>?_)
   rw [BM (x:=dP me (n+1+hd) key lim x.pred pw (nxW pw) 0 x.tries x.R x.moves 3) rfl (by show mkW (aD σ.xs (nxW pw))=false;rw [hv];exact m) (by show kyW (aD σ.xs (nxW pw))<key;rw [hv];omega)]
   exact⟨fun _=>by show _=_;rw [show aD σ.xs (dP me (n+1+hd) key lim x.pred pw (nxW pw) 0 x.tries x.R x.moves 3).curr =v4 from hv];rfl,fun q=>by cases q⟩
  clear R5 R4
  refine⟨⟨rT,rN,rM,by decide,by decide⟩,⟨rfl,by show 0≤s4.i;omega,by show s4.i≤_;omega⟩,fun x_5 e5=>?_⟩
  have e5:x_5=dH A s4 (2*n+5+2*me+0) (WU (aA pw 10 9)):=e5
  have A5:Adv A 4 x.s x_5:=by rw [e5];exact A4.trans (kU A s4 _ _)
  have d1:=A5.lo
  have d2:=A5.hi x2
  have R7: ∀ {P' Q':FNS→Prop},(∀σ:MS,((fnF t n (dP me (n+1+hd) key lim x.pred pw (nxW pw) v4 x.tries x.R x.moves 6) σ).d =false→P' (fnF t n (dP me (n+1+hd) key lim x.pred pw (nxW pw) v4 x.tries x.R x.moves 6) σ).x)∧((fnF t n (dP me (n+1+hd) key lim x.pred pw (nxW pw) v4 x.tries x.R x.moves 6) σ).d =true→Q' (fnF t n (dP me (n+1+hd) key lim x.pred pw (nxW pw) v4 x.tries x.R x.moves 6) σ).x))→rl t n A i me hd key lim x_5 P' Q':=by
   intro P' Q' g
   rw [e5]
   refine RelA.stor R6 (fun y σ p=>?_) (fun y σ p=>?_)
   ·subst p;exact NB rfl
   ·subst p;exact g σ
  have g5:fdS A t n me hd key lim x=gd5 n hd lim x pw v4 x_5:=by
   rw [g4,e5];unfold gd4;rw [o4,m,kf];rfl
  clear e5
  refine aF (fun w=>?_) (fun w=>?_)
  ·
   have w':ile (W (x.moves+1)) n=false:=by
    rw [wM,bZ];rw [aX,dT']at w;exact decide_eq_false (by omega)
   refine aF (fun l=>?_) (fun l=>aF (fun _=>?_) (fun c=>by rw [c]at w;cases w))
   ·refine hK ⟨x_5,0,0,0,0,x.tries+1,x.R,true⟩ (WN hx A5 (by decide) rfl (by show 0≤x.tries+1∧x.tries+1≤lim+1;omega) (by show(x.R.length:Int)≤_;omega) z0 z0 ?_) (hx.run _ (.done _ _ (by rw [g5];unfold gd5;rw [w,l];rfl)))
    refine R7 (fun σ=>?_)
    rw [xB (x:=dP me (n+1+hd) key lim x.pred pw (nxW pw) v4 x.tries x.R x.moves 6) rfl w' (by show ilt lim (W (x.tries+1))=true;rw [wT];exact l)]
    exact⟨fun q=>(by cases q),fun _=>⟨rfl,rfl,rfl,rfl,wT,rfl,rfl⟩⟩
   ·have l':=l
    rw [aX,dF']at l'
    refine aP (H:=dQ A t n me hd key lim (okFN t n A i me hd key lim) (fC A)) ⟨x_5,n+1+hd,pw,aA pw 10 9,v4,x.tries+1,x.R,0,false⟩ (by kernel_rfl) (okFN.next F hx ho (by rw [g5];unfold gd5;rw [w,l];rfl) A5 (by decide) (by show 0≤x.tries+1∧x.tries+1≤lim;omega) (by show(x.R.length:Int)≤x_5.i - i;omega) (by show(0:Int)≤0∧(0:Int)≤n;omega) hpw hv4 (fun q=>by cases q) ?_)
    refine R7 (fun σ=>?_)
    rw [xC (x:=dP me (n+1+hd) key lim x.pred pw (nxW pw) v4 x.tries x.R x.moves 6) rfl w' (by show ilt lim (W (x.tries+1))=false;rw [wT];exact l)]
    exact⟨fun _=>⟨pw,nxW pw,v4,by unfold wY dP fnT1;rw [wT]⟩,fun q=>by cases q⟩
  ·have w':ile (W (x.moves+1)) n=true:=by
    rw [wM,bZ];rw [aX,dF']at w;exact decide_eq_true (by omega)
   have w2:=w
   rw [aX,dF']at w2
   refine aF (fun c=>by rw [c]at w;cases w) (fun _=>?_)
   refine aP (H:=dQ A t n me hd key lim (okFN t n A i me hd key lim) (fC A)) ⟨x_5,aA pw 10 9,pw,aA pw 10 9,v4,x.tries,x.R,W (x.moves+1),false⟩ (by kernel_rfl) (okFN.next F hx ho (by rw [g5];unfold gd5;rw [w];rfl) A5 (by decide) x3 (by show(x.R.length:Int)≤x_5.i - i;omega) (by show(0:Int)≤W (x.moves+1)∧W (x.moves+1)≤n;rw [wM];omega) hpw hv4 (fun q=>by cases q) ?_)
   refine R7 (fun σ=>?_)
   rw [MX (x:=dP me (n+1+hd) key lim x.pred pw (nxW pw) v4 x.tries x.R x.moves 6) rfl w']
   exact⟨fun _=>⟨pw,nxW pw,v4,rfl⟩,fun q=>by cases q⟩
 have m:mkW v4=true:=by
  have m:(!mkW v4)=false:=m
  cases q:mkW v4
  ·rw [q]at m;cases m
  ·rfl
 refine aF (fun c=>?_) (fun c=>aF (fun c'=>?_) (fun c'=>?_))
 ·have c:ieq (clW' v4) 0=false:=by
   have c:(!ieq (clW' v4) 0)=true:=c
   cases q:ieq (clW' v4) 0
   ·rfl
   ·rw [q]at c;cases c
  have R6:rl t n A i me hd key lim s4 (clAt (dP me (n+1+hd) key lim x.pred pw (nxW pw) v4 x.tries x.R x.moves 4) (clNF t n (aA pw 10 9))) (fun _=>False):=by
   refine R5 (fun σ hv=>?_)
   rw [GG (x:=dP me (n+1+hd) key lim x.pred pw (nxW pw) 0 x.tries x.R x.moves 3) rfl (by show mkW (aD σ.xs (nxW pw))=true;rw [hv];exact m) (by show ieq (clW' (aD σ.xs (nxW pw))) 0=false;rw [hv];exact c)]
   exact⟨fun _=>by show _=_;rw [show aD σ.xs (dP me (n+1+hd) key lim x.pred pw (nxW pw) 0 x.tries x.R x.moves 3).curr =v4 from hv];rfl,fun q=>by cases q⟩
  refine⟨⟨rfl,F.hA,rT,rN,⟨by show 0≤s4.i;omega,by show s4.i≤_;omega⟩,(kJ o4).1,(kJ o4).2⟩,fun x_5 e5=>?_⟩
  have g6:fdS A t n me hd key lim x=gd6 lim x pw v4 x_5:=by
   rw [g4,e5];unfold gd4;rw [o4,m,c];rfl
  have R7:rl t n A i me hd key lim x_5 (clOn (dP me (n+1+hd) key lim x.pred pw (nxW pw) v4 x.tries x.R x.moves 4)) (zF (dP me (n+1+hd) key lim x.pred pw (nxW pw) v4 x.tries x.R x.moves 4)):=by rw [e5];exact RelA.clear R6
  have A5:Adv A 4 x.s x_5:=by rw [e5];exact A4.trans (yY A t n s4 _)
  have d1:=A5.lo
  have d2:=A5.hi x2
  refine aF (fun l=>?_) (fun l=>?_)
  ·refine hK ⟨x_5,0,0,0,0,x.tries+1,x.R,true⟩ (WN hx A5 (by decide) rfl (by show 0≤x.tries+1∧x.tries+1≤lim+1;omega) (by show(x.R.length:Int)≤_;omega) z0 z0 (R7.mono (fun y p=>?_) (fun y p=>?_))) (hx.run _ (.done _ _ (by rw [g6];unfold gd6;rw [l];rfl)))
   ·have:=p.1
    have:ilt lim (W (x.tries+1))=false:=this
    rw [wT,l]at this;cases this
   ·rw [p.2];exact⟨rfl,rfl,rfl,rfl,wT,rfl,rfl⟩
  ·have l':=l
   rw [aX,dF']at l'
   refine aP (H:=dQ A t n me hd key lim (okFN t n A i me hd key lim) (fC A)) ⟨x_5,x.pred,pw,aA pw 10 9,v4,x.tries+1,x.R,x.moves,false⟩ (by kernel_rfl) (okFN.next F hx ho (by rw [g6];unfold gd6;rw [l];rfl) A5 (by decide) (by show 0≤x.tries+1∧x.tries+1≤lim;omega) (by show(x.R.length:Int)≤x_5.i - i;omega) x5 hpw hv4 (fun q=>by cases q) (R7.mono (fun y p=>?_) (fun y p=>?_)))
   ·exact⟨pw,nxW pw,v4,by rw [p.2];unfold dP fnT1;rw [wT]⟩
   ·have:=p.1
    have:ilt lim (W (x.tries+1))=true:=this
    rw [wT,l]at this;cases this
 ·have c:ieq (clW' v4) 0=true:=by
   have c:(!ieq (clW' v4) 0)=false:=c
   cases q:ieq (clW' v4) 0
   ·rw [q]at c;cases c
   ·rfl
  have c':ieq (clW' pw) 0=false:=by
   have c':(!ieq (clW' pw) 0)=true:=c'
   cases q:ieq (clW' pw) 0
   ·rfl
   ·rw [q]at c';cases c'
  have R6:rl t n A i me hd key lim s4 (clAt (dP me (n+1+hd) key lim x.pred pw (nxW pw) v4 x.tries x.R x.moves 4) (clNF t n x.pred)) (fun _=>False):=by
   refine R5 (fun σ hv=>?_)
   rw [GI (x:=dP me (n+1+hd) key lim x.pred pw (nxW pw) 0 x.tries x.R x.moves 3) rfl (by show mkW (aD σ.xs (nxW pw))=true;rw [hv];exact m) (by show ieq (clW' (aD σ.xs (nxW pw))) 0=true;rw [hv];exact c) c']
   exact⟨fun _=>by show _=_;rw [show aD σ.xs (dP me (n+1+hd) key lim x.pred pw (nxW pw) 0 x.tries x.R x.moves 3).curr =v4 from hv];rfl,fun q=>by cases q⟩
  refine⟨⟨rfl,F.hA,rT,rN,⟨by show 0≤s4.i;omega,by show s4.i≤_;omega⟩,(kJ o4).1,(kJ o4).2⟩,fun x_5 e5=>?_⟩
  have g6:fdS A t n me hd key lim x=gd6 lim x pw v4 x_5:=by
   rw [g4,e5];unfold gd4;rw [o4,m,c,c'];rfl
  have R7:rl t n A i me hd key lim x_5 (clOn (dP me (n+1+hd) key lim x.pred pw (nxW pw) v4 x.tries x.R x.moves 4)) (zF (dP me (n+1+hd) key lim x.pred pw (nxW pw) v4 x.tries x.R x.moves 4)):=by rw [e5];exact RelA.clear R6
  have A5:Adv A 4 x.s x_5:=by rw [e5];exact A4.trans (yY A t n s4 _)
  have d1:=A5.lo
  have d2:=A5.hi x2
  refine aF (fun l=>?_) (fun l=>?_)
  ·refine hK ⟨x_5,0,0,0,0,x.tries+1,x.R,true⟩ (WN hx A5 (by decide) rfl (by show 0≤x.tries+1∧x.tries+1≤lim+1;omega) (by show(x.R.length:Int)≤_;omega) z0 z0 (R7.mono (fun y p=>?_) (fun y p=>?_))) (hx.run _ (.done _ _ (by rw [g6];unfold gd6;rw [l];rfl)))
   ·have:=p.1
    have:ilt lim (W (x.tries+1))=false:=this
    rw [wT,l]at this;cases this
   ·rw [p.2];exact⟨rfl,rfl,rfl,rfl,wT,rfl,rfl⟩
  ·have l':=l
   rw [aX,dF']at l'
   refine aP (H:=dQ A t n me hd key lim (okFN t n A i me hd key lim) (fC A)) ⟨x_5,x.pred,pw,aA pw 10 9,v4,x.tries+1,x.R,x.moves,false⟩ (by kernel_rfl) (okFN.next F hx ho (by rw [g6];unfold gd6;rw [l];rfl) A5 (by decide) (by show 0≤x.tries+1∧x.tries+1≤lim;omega) (by show(x.R.length:Int)≤x_5.i - i;omega) x5 hpw hv4 (fun q=>by cases q) (R7.mono (fun y p=>?_) (fun y p=>?_)))
   ·exact⟨pw,nxW pw,v4,by rw [p.2];unfold dP fnT1;rw [wT]⟩
   ·have:=p.1
    have:ilt lim (W (x.tries+1))=true:=this
    rw [wT,l]at this;cases this
 have c:clW' v4=0:=by
  have c:(!ieq (clW' v4) 0)=false:=c
  cases q:ieq (clW' v4) 0 with
  | false=>rw [q]at c;cases c
  | true=>rw [bC,beq_iff_eq]at q;exact q
 have c':clW' pw=0:=by
  have c':(!ieq (clW' pw) 0)=false:=c'
  cases q:ieq (clW' pw) 0 with
  | false=>rw [q]at c';cases c'
  | true=>rw [bC,beq_iff_eq]at q;exact q
 have R6:rl t n A i me hd key lim s4 (fun y=>y=dP me (n+1+hd) key lim x.pred pw (nxW pw) v4 x.tries x.R x.moves 5) (fun _=>False):=by
  refine R5 (fun σ hv=>?_)
  rw [BN (x:=dP me (n+1+hd) key lim x.pred pw (nxW pw) 0 x.tries x.R x.moves 3) rfl (by show mkW (aD σ.xs (nxW pw))=true;rw [hv];exact m) (by show clW' (aD σ.xs (nxW pw))=0;rw [hv];exact c) c']
  exact⟨fun _=>by show _=_;rw [show aD σ.xs (dP me (n+1+hd) key lim x.pred pw (nxW pw) 0 x.tries x.R x.moves 3).curr =v4 from hv];rfl,fun q=>by cases q⟩
 clear R5 R4
 rw [LE]
 have q10:=SJ pw
 have q9:=SK v4
 have q5:=PY pw
 have q18:=HS pw
 have wV:W (aA pw 25 18+1)=aA pw 25 18+1:=cO (by omega)
 have m1:0≤Int.tmod (W (aA pw 25 18+1)) 262144:=Int.tmod_nonneg _ (by omega)
 have m2:Int.tmod (W (aA pw 25 18+1)) 262144<262144:=Int.tmod_lt_of_pos _ (by omega)
 have hlk:0≤lnkW pw v4∧lnkW pw v4≤18446744073709551615:=LT (rL pw v4)
 refine⟨by decide,⟨q10,q9,q5,m1,m2⟩,⟨rfl,by show 0≤s4.i;omega,by show s4.i≤_;omega⟩,fun x_5 e5=>?_⟩
 obtain⟨v5,s5⟩:=x_5
 simp only [pI']at e5
 obtain⟨ev5,es5⟩:=e5
 have ev5:v5=a4 (tGot A s4 3 x.pred):=ev5
 have es5:s5=tCas A s4 x.pred pw (lnkW pw v4):=es5
 have g7:fdS A t n me hd key lim x=gd7 n hd lim x pw v4 v5 s5:=by
  rw [g4,es5,ev5];unfold gd4;rw [o4,m,show ieq (clW' v4) 0=true by rw [c];rfl,show ieq (clW' pw) 0=true by rw [c'];rfl];rfl
 have A5:Adv A 4 x.s s5:=by rw [es5];exact A4.trans (nK A s4 _ _ _)
 have d1:=A5.lo
 have d2:=A5.hi x2
 have R7: ∀ {P' Q':FNS→Prop},(∀σ:MS,aV σ.xs x.pred pw=v5→((fnF t n (dP me (n+1+hd) key lim x.pred pw (nxW pw) v4 x.tries x.R x.moves 5) σ).d =false→P' (fnF t n (dP me (n+1+hd) key lim x.pred pw (nxW pw) v4 x.tries x.R x.moves 5) σ).x)∧((fnF t n (dP me (n+1+hd) key lim x.pred pw (nxW pw) v4 x.tries x.R x.moves 5) σ).d =true→Q' (fnF t n (dP me (n+1+hd) key lim x.pred pw (nxW pw) v4 x.tries x.R x.moves 5) σ).x))→rl t n A i me hd key lim s5 P' Q':=by
  intro P' Q' g
  rw [es5]
  refine RelA.cas R6 (fun y σ p=>?_) (fun y σ p hv=>?_)
  ·subst p;exact RU rfl hmk
  ·subst p;rw [←ev5]at hv;exact g σ hv
 refine aF (fun v=>?_) (fun v=>?_)
 ·have v:v5=true:=v
  have i5:s4.i+1≤s5.i:=by
   rw [es5]
   exact SB (k:=3) (a:=x.pred) (by rw [←ev5];exact v)
  have hR1:((x.R++ [aA pw 10 9]).length :Int)≤s5.i - i:=by rw [List.length_append];show((x.R.length+1:Nat):Int)≤_;omega
  clear es5
  refine⟨⟨rfl,rfl,rfl,by omega⟩,⟨q10,q9,q5,m1,m2⟩,aF (fun w=>?_) (fun w=>?_)⟩
  ·have w':ile (W (x.moves+1)) n=false:=by
    rw [wM,bZ];rw [aX,dT']at w;exact decide_eq_false (by omega)
   refine aF (fun l=>?_) (fun l=>aF (fun _=>?_) (fun c=>by rw [c]at w;cases w))
   ·have:=hK ⟨s5,0,0,0,0,x.tries+1,x.R++ [aA pw 10 9],true⟩ (WN hx A5 (by decide) rfl (by show 0≤x.tries+1∧x.tries+1≤lim+1;omega) hR1 z0 z0 (R7 (fun σ hv=>by
     rw [tM (x:=dP me (n+1+hd) key lim x.pred pw (nxW pw) v4 x.tries x.R x.moves 5) rfl (by rw [←v];exact hv) w' (by show ilt lim (W (x.tries+1))=true;rw [wT];exact l)]
     exact⟨fun q=>(by cases q),fun _=>⟨rfl,rfl,rfl,rfl,wT,rfl,rfl⟩⟩))) (hx.run _ (.done _ _ (by rw [g7];unfold gd7;rw [v,w,l];rfl)))
    rw [show(FNR.R ⟨s5,0,0,0,0,x.tries+1,x.R++ [aA pw 10 9],true⟩).length =x.R.length+1 from List.length_append]at this
    exact this
   ·have l':=l
    rw [aX,dF']at l'
    refine aP (H:=dQ A t n me hd key lim (okFN t n A i me hd key lim) (fC A)) ⟨s5,n+1+hd,lnkW pw v4,aA pw 10 9,v4,x.tries+1,x.R++ [aA pw 10 9],0,false⟩ (by simp only [dQ,List.length_append];kernel_rfl) (okFN.next F hx ho (by rw [g7];unfold gd7;rw [v,w,l];rfl) A5 (by decide) (by show 0≤x.tries+1∧x.tries+1≤lim;omega) hR1 (by show(0:Int)≤0∧(0:Int)≤n;omega) hlk hv4 (fun q=>by cases q) ?_)
    refine R7 (fun σ hv=>?_)
    rw [tN (x:=dP me (n+1+hd) key lim x.pred pw (nxW pw) v4 x.tries x.R x.moves 5) rfl (by rw [←v];exact hv) w' (by show ilt lim (W (x.tries+1))=false;rw [wT];exact l)]
    exact⟨fun _=>⟨pw,nxW pw,v4,by unfold wY dP fnT1;rw [wT]⟩,fun q=>by cases q⟩
  ·have w':ile (W (x.moves+1)) n=true:=by
    rw [wM,bZ];rw [aX,dF']at w;exact decide_eq_true (by omega)
   have w2:=w
   rw [aX,dF']at w2
   refine aF (fun c=>by rw [c]at w;cases w) (fun _=>?_)
   have hnk:nxW (lnkW pw v4)=nxW v4:=MT (rL pw v4)
   refine aP (H:=dQ A t n me hd key lim (okFN t n A i me hd key lim) (fC A)) ⟨s5,x.pred,lnkW pw v4,aA pw 10 9,v4,x.tries,x.R++ [aA pw 10 9],W (x.moves+1),true⟩ (by simp only [dQ,List.length_append];kernel_rfl) (okFN.next F hx ho (by rw [g7];unfold gd7;rw [v,w];rfl) A5 (by decide) x3 hR1 (by show(0:Int)≤W (x.moves+1)∧W (x.moves+1)≤n;rw [wM];omega) hlk hv4 (fun _=>(MR (rL pw v4)).trans hmk) ?_)
   refine R7 (fun σ hv=>?_)
   rw [xG (x:=dP me (n+1+hd) key lim x.pred pw (nxW pw) v4 x.tries x.R x.moves 5) rfl (by rw [←v];exact hv) w' hmk]
   refine⟨fun q=>⟨?_,?_⟩,fun q=>⟨rfl,?_,?_⟩⟩
   ·show _=dP _ _ _ _ _ _ (nxW (lnkW pw v4)) _ _ _ _ _
    rw [hnk];rfl
   ·have q:ieq (nxW v4) 0=false:=q
    rw [bC,beq_eq_false_iff_ne]at q;show nxW (lnkW pw v4)≠0;rw [hnk];exact q
   ·have q:ieq (nxW v4) 0=true:=q
    rw [bC,beq_iff_eq]at q
    show _=dP _ _ _ _ _ _ 0 _ _ _ _ _
    rw [←q];rfl
   ·have q:ieq (nxW v4) 0=true:=q
    rw [bC,beq_iff_eq]at q;show nxW (lnkW pw v4)=0;rw [hnk];exact q
 ·have v:v5=false:=v
  refine aF (fun l=>?_) (fun l=>?_)
  ·refine hK ⟨s5,0,0,0,0,x.tries+1,x.R,true⟩ (WN hx A5 (by decide) rfl (by show 0≤x.tries+1∧x.tries+1≤lim+1;omega) (by show(x.R.length:Int)≤_;omega) z0 z0 ?_) (hx.run _ (.done _ _ (by rw [g7];unfold gd7;rw [v,l];rfl)))
   refine R7 (fun σ hv=>?_)
   rw [xE (x:=dP me (n+1+hd) key lim x.pred pw (nxW pw) v4 x.tries x.R x.moves 5) rfl (by rw [←v];exact hv) (by show ilt lim (W (x.tries+1))=true;rw [wT];exact l)]
   exact⟨fun q=>(by cases q),fun _=>⟨rfl,rfl,rfl,rfl,wT,rfl,rfl⟩⟩
  ·have l':=l
   rw [aX,dF']at l'
   refine aP (H:=dQ A t n me hd key lim (okFN t n A i me hd key lim) (fC A)) ⟨s5,x.pred,pw,aA pw 10 9,v4,x.tries+1,x.R,x.moves,false⟩ (by kernel_rfl) (okFN.next F hx ho (by rw [g7];unfold gd7;rw [v,l];rfl) A5 (by decide) (by show 0≤x.tries+1∧x.tries+1≤lim;omega) (by show(x.R.length:Int)≤s5.i - i;omega) x5 hpw hv4 (fun q=>by cases q) ?_)
   refine R7 (fun σ hv=>?_)
   rw [xF (x:=dP me (n+1+hd) key lim x.pred pw (nxW pw) v4 x.tries x.R x.moves 5) rfl (by rw [←v];exact hv) (by show ilt lim (W (x.tries+1))=false;rw [wT];exact l)]
   exact⟨fun _=>⟨pw,nxW pw,v4,by unfold dP fnT1;rw [wT]⟩,fun q=>by cases q⟩
end
end Go.Sh
namespace Go.Sh
open Go Go.Proofs
variable [Con]
def ftT1(x:FTS):Int:=W (x.tries+1)
def xJ(x:FTS)(a T:Int):FTS:= {x with failed:=true,tries:=T,at':=a,fn:=bV,cl:=a9,pr:=bU}
def zW(t n:Int)(x:FTS)(st:STS):FTS:= {x with failed:=false,tries:=ftT1 x,at':=0,fn:=mE t n st.me (cR x.sh x.ky) (fA x.sh x.kd x.ky) (W (x.most - ftT1 x)),cl:=a9,pr:=bU}
def uF(st:STS)(l:List Int):STS:=⟨st.me,st.sp,st.R++l⟩
def ftGo(t n:Int)(x:FTS)(T:Int)(fn:FNS)(p:PLN):Bool×FTS:=
 bif p.now then(true,{x with code:=p.code,okk:=p.okk,val:=p.val,failed:=false,tries:=T,at':=0,p:=p,fn:=bV,cl:=a9,pr:=bU})
 else bif fG p.now p.code p.okk p.val p.addr p.old p.nxt p.mark p.pops then(false,{x with failed:=false,tries:=T,at':=1,p:=p,fn:=bV,cl:=clNF t n p.addr,pr:=bU})
 else bif bL x.kd then(false,{x with failed:=false,tries:=T,at':=2,p:=p,fn:=bV,cl:=a9,pr:=⟨x.ky,fn.curr,0,false⟩ })
 else(false,{x with failed:=false,tries:=T,at':=3,p:=p,fn:=bV,cl:=a9,pr:=bU})
theorem xL{t n:Int}{x:FTS}{st:STS}{s:MS}{fn:FNS}{s':MS}{T:Int}(h0:x.at'=0)(hm:tR x st)(hf:fnF t n x.fn s=⟨true,fn,s'⟩)(ht:W (x.tries+fn.tries)=T)(hl:ilt x.most T=true):
 ftF t n x st s=⟨true,xJ x 0 T,uF st fn.ul,s'⟩:=by
 unfold ftF u9
 rw [h0]
 show(iG t n x st s).val =_
 unfold iG
 have hr:bT x.6 x.7 x.8=true:=hm.r
 have hf:fnF t n x.12 s=⟨true,fn,s'⟩:=hf
 have ht:W (x.5+fn.5)=T:=ht
 have hl:ilt x.9 T=true:=hl
 cases hlk:bL x.7 with
 | false=>
   simp only [Tr.val,hr,hlk,hf,ht,hl,Bool.not_true,cond_true,cond_false]
   rfl
 | true=>
   have h2:ieq st.2 0=false:=by rw [bC,beq_eq_false_iff_ne];exact hm.l hlk
   simp only [Tr.val,hr,hlk,h2,hf,ht,hl,Bool.not_true,cond_true,cond_false]
   rfl
theorem NG{t n:Int}{x:FTS}{st:STS}{s:MS}{fn:FNS}{s':MS}{T:Int}{p:PLN}(h0:x.at'=0)(hm:tR x st)(hf:fnF t n x.fn s=⟨true,fn,s'⟩)(ht:W (x.tries+fn.tries)=T)(hl:ilt x.most T=false)
 (hp:aO x.sh x.kd x.ky fn.pred fn.pw fn.curr fn.cw st.sp=p):
 ftF t n x st s=⟨(ftGo t n x T fn p).1,(ftGo t n x T fn p).2,uF st fn.ul,s'⟩:=by
 unfold ftF u9
 rw [h0]
 show(iG t n x st s).val =_
 unfold iG
 have hr:bT x.6 x.7 x.8=true:=hm.r
 have hf:fnF t n x.12 s=⟨true,fn,s'⟩:=hf
 have ht:W (x.5+fn.5)=T:=ht
 have hl:ilt x.9 T=false:=hl
 have hp:aO x.6 x.7 x.8 fn.1 fn.2 fn.3 fn.4 st.2=p:=hp
 unfold ftGo uF
 cases hlk:bL x.kd with
 | false=>
   have hlk':bL x.7=false:=hlk
   cases hn:p.now with
   | true=>
     have hn':p.1=true:=hn
     simp only [Tr.val,hr,hlk',hf,ht,hl,hp,hn',Bool.not_true,cond_true,cond_false]
     try simp only [←hn']
   | false=>
     have hn':p.1=false:=hn
     cases hc:fG false p.code p.okk p.val p.addr p.old p.nxt p.mark p.pops with
     | true=>
       have hc':fG false p.2 p.3 p.4 p.5 p.6 p.7 p.8 p.9=true:=hc
       simp only [Tr.val,hr,hlk',hf,ht,hl,hp,hn',hc',Bool.not_true,cond_true,cond_false]
       try simp only [←hn']
     | false=>
       have hc':fG false p.2 p.3 p.4 p.5 p.6 p.7 p.8 p.9=false:=hc
       simp only [Tr.val,hr,hlk',hf,ht,hl,hp,hn',hc',Bool.not_true,cond_true,cond_false]
       try simp only [←hn']
 | true=>
   have hlk':bL x.7=true:=hlk
   have h2:ieq st.2 0=false:=by rw [bC,beq_eq_false_iff_ne];exact hm.l hlk
   cases hn:p.now with
   | true=>
     have hn':p.1=true:=hn
     simp only [Tr.val,hr,hlk',h2,hf,ht,hl,hp,hn',Bool.not_true,cond_true,cond_false]
     try simp only [←hn']
   | false=>
     have hn':p.1=false:=hn
     cases hc:fG false p.code p.okk p.val p.addr p.old p.nxt p.mark p.pops with
     | true=>
       have hc':fG false p.2 p.3 p.4 p.5 p.6 p.7 p.8 p.9=true:=hc
       simp only [Tr.val,hr,hlk',h2,hf,ht,hl,hp,hn',hc',Bool.not_true,cond_true,cond_false]
       try simp only [←hn']
     | false=>
       have hc':fG false p.2 p.3 p.4 p.5 p.6 p.7 p.8 p.9=false:=hc
       simp only [Tr.val,hr,hlk',h2,hf,ht,hl,hp,hn',hc',Bool.not_true,cond_true,cond_false]
       have ep: ∀(a b:Int) (st:STS),nD t n a b st=(⟨a,b,0,false⟩,st):=fun _ _ _=>rfl
       simp only [ep]
       try simp only [←hn']
theorem GW{t n:Int}{x:FTS}{st:STS}{s:MS}{c:CLS}{s':MS}(h0:x.at'=1)(hf:clF t n x.cl s=⟨false,c,s'⟩):ftF t n x st s=⟨false,{x with at':=1,fn:=bV,cl:=c,pr:=bU},st,s'⟩:=by
 unfold ftF u9
 rw [h0]
 show(jP t n x st s).val =_
 unfold jP
 have hf:clF t n x.13 s=⟨false,c,s'⟩:=hf
 simp only [Tr.val,hf,cond_false]
theorem GV{t n:Int}{x:FTS}{st:STS}{s:MS}{c:CLS}{s':MS}(h0:x.at'=1)(hf:clF t n x.cl s=⟨true,c,s'⟩)(hl:ilt x.most (ftT1 x)=true):ftF t n x st s=⟨true,xJ x 1 (ftT1 x),st,s'⟩:=by
 unfold ftF u9
 rw [h0]
 show(jP t n x st s).val =_
 unfold jP
 have hf:clF t n x.13 s=⟨true,c,s'⟩:=hf
 have hl:ilt x.9 (W (x.5+1))=true:=hl
 simp only [Tr.val,hf,hl,cond_true,cond_false]
 rfl
theorem GU{t n:Int}{x:FTS}{st:STS}{s:MS}{c:CLS}{s':MS}(h0:x.at'=1)(hf:clF t n x.cl s=⟨true,c,s'⟩)(hl:ilt x.most (ftT1 x)=false):ftF t n x st s=⟨false,zW t n x st,st,s'⟩:=by
 unfold ftF u9
 rw [h0]
 show(jP t n x st s).val =_
 unfold jP
 have hf:clF t n x.13 s=⟨true,c,s'⟩:=hf
 have hl:ilt x.9 (W (x.5+1))=false:=hl
 simp only [Tr.val,hf,hl,cond_true,cond_false]
 rfl
theorem GP{t n:Int}{x:FTS}{st:STS}{s:MS}{w:Int}(h0:x.at'=3)(hc:aV s.xs x.p.addr x.p.old=false)(hw:bA x.p.now x.p.code x.p.okk x.p.val x.p.addr x.p.old x.p.nxt x.p.mark x.p.pops=w)(hl:ilt x.most (ftT1 x)=true):
 ftF t n x st s=⟨true,xJ x 3 (ftT1 x),st,s.cased x.p.addr x.p.old w⟩:=by
 unfold ftF u9
 rw [h0]
 show(jQ t n x st s).val =_
 unfold jQ
 have hc':aV s.3 (FTS.p x).5 (FTS.p x).6=false:=hc
 have hw:bA (FTS.p x).1 (FTS.p x).2 (FTS.p x).3 (FTS.p x).4 (FTS.p x).5 (FTS.p x).6 (FTS.p x).7 (FTS.p x).8 (FTS.p x).9=w:=hw
 have hl:ilt x.9 (W (x.5+1))=true:=hl
 simp only [Tr.val,hc',hw,hl,Bool.not_false,cond_true,cond_false]
 unfold MS.cased MS.did
 simp only [hc,cond_false]
 rfl
theorem GO{t n:Int}{x:FTS}{st:STS}{s:MS}{w:Int}(h0:x.at'=3)(hc:aV s.xs x.p.addr x.p.old=false)(hw:bA x.p.now x.p.code x.p.okk x.p.val x.p.addr x.p.old x.p.nxt x.p.mark x.p.pops=w)(hl:ilt x.most (ftT1 x)=false):
 ftF t n x st s=⟨false,zW t n x st,st,s.cased x.p.addr x.p.old w⟩:=by
 unfold ftF u9
 rw [h0]
 show(jQ t n x st s).val =_
 unfold jQ
 have hc':aV s.3 (FTS.p x).5 (FTS.p x).6=false:=hc
 have hw:bA (FTS.p x).1 (FTS.p x).2 (FTS.p x).3 (FTS.p x).4 (FTS.p x).5 (FTS.p x).6 (FTS.p x).7 (FTS.p x).8 (FTS.p x).9=w:=hw
 have hl:ilt x.9 (W (x.5+1))=false:=hl
 simp only [Tr.val,hc',hw,hl,Bool.not_false,cond_true,cond_false]
 unfold MS.cased MS.did
 simp only [hc,cond_false]
 rfl
end Go.Sh
namespace Go.Sh
open Go Go.Proofs
variable [Con]
def ftZ(t n:Int)(p:FTS×STS)(σ:MS):FtO:=ftF t n p.1 p.2 σ
def FtO.p(o:FtO):FTS×STS:=(o.x,o.st)
structure FtTr (t n:Int) (A:List (List Int)) (X:Nat→FTS×STS) (S:Nat→MS) (i e:Nat):Prop where
 le:i≤e
 he:e≤A.length
 st: ∀m,i≤m→m<e→A[m]? =some (rowM (ftZ t n (X m) (S m)).s)∧(ftZ t n (X m) (S m)).d =false∧X (m+1)=(ftZ t n (X m) (S m)).p
 fin:e<A.length→A[e]? =some (rowM (ftZ t n (X e) (S e)).s)∧(ftZ t n (X e) (S e)).d =true
def RelT(t n:Int)(A:List (List Int))(i:Nat)(x0:FTS×STS)(s:TS)(P Q:FTS×STS→Prop):Prop:=
 ∀X S e,FtTr t n A X S i e→X i=x0→
  (e=A.length∧s=⟨(A.length:Nat),false,true⟩)∨(∃m:Nat,i≤m∧m≤e∧s=⟨(m:Int),false,false⟩∧P (X m))∨(e<A.length∧s=⟨((e+1:Nat):Int),false,false⟩∧Q (ftZ t n (X e) (S e)).p)
section
variable {t n:Int} {A:List (List Int)} {i:Nat} {x0:FTS×STS} {s s':TS} {P P' Q Q':FTS×STS→Prop}
theorem RelT.start:RelT t n A i x0 ⟨(i:Int),false,false⟩ (fun y=>y=x0) (fun _=>False):=by
 intro X S e tr h0
 exact .inr (.inl ⟨i,Nat.le_refl _,tr.le,rfl,h0⟩)
theorem RelT.mono(h:RelT t n A i x0 s P Q)(hp: ∀y,P y→P' y)(hq: ∀y,Q y→Q' y):RelT t n A i x0 s P' Q':=by
 intro X S e tr h0
 rcases h X S e tr h0 with c | ⟨m,l1,l2,es,p⟩ | ⟨l,es,q⟩
 ·exact .inl c
 ·exact .inr (.inl ⟨m,l1,l2,es,hp _ p⟩)
 ·exact .inr (.inr ⟨l,es,hq _ q⟩)
theorem RelT.over(h:RelT t n A i x0 s P Q)(ho:ovf s=true):RelT t n A i x0 s P' Q':=by
 intro X S e tr h0
 rcases h X S e tr h0 with c | ⟨m,l1,l2,es,p⟩ | ⟨l,es,q⟩
 ·exact .inl c
 ·rw [es]at ho;cases ho
 ·rw [es]at ho;cases ho
theorem RelT.act(h:RelT t n A i x0 s P (fun _=>False))(hov:s.out=true→s'=s)(hend:s=⟨(A.length:Nat),false,false⟩→s'=⟨(A.length:Nat),false,true⟩)
 (hst: ∀(m:Nat) y σ,s=⟨(m:Int),false,false⟩→P y→A[m]? =some (rowM (ftZ t n y σ).s)→s'=⟨((m+1:Nat):Int),false,false⟩∧((ftZ t n y σ).d =false→P' (ftZ t n y σ).p)∧((ftZ t n y σ).d =true→Q' (ftZ t n y σ).p)):RelT t n A i x0 s' P' Q':=by
 intro X S e tr h0
 rcases h X S e tr h0 with⟨c,es⟩ | ⟨m,l1,l2,es,p⟩ | ⟨_,_,q⟩
 ·refine .inl ⟨c,?_⟩
  rw [hov (by rw [es]),es]
 ·rcases Nat.lt_or_ge m e with c | c
  ·obtain⟨r,d,nx⟩:=tr.st m l1 c
   obtain⟨e1,g,_⟩:=hst m _ _ es p r
   exact .inr (.inl ⟨m+1,by omega,by omega,e1,by rw [nx];exact g d⟩)
  ·have em:m=e:=by omega
   subst em
   rcases Nat.lt_or_ge m A.length with c2 | c2
   ·obtain⟨r,d⟩:=tr.fin c2
    obtain⟨e1,_,g⟩:=hst m _ _ es p r
    exact .inr (.inr ⟨c2,e1,g d⟩)
   ·have em:m=A.length:=by have:=tr.he;omega
    exact .inl ⟨em,hend (by rw [es,em])⟩
 ·exact q.elim
theorem RelT.load{a:Int}(h:RelT t n A i x0 s P (fun _=>False))(hk: ∀y σ,P y→(ftZ t n y σ).s =σ.loadd a)
 (hl: ∀y σ,P y→aD σ.xs a=a2 (tGot A s 1 a)→((ftZ t n y σ).d =false→P' (ftZ t n y σ).p)∧((ftZ t n y σ).d =true→Q' (ftZ t n y σ).p)):RelT t n A i x0 (aG A s 1 a) P' Q':=by
 refine h.act (fun c=>(qG c).1) (fun c=>by rw [c];exact pG.1) (fun m y σ es p r=>?_)
 rw [hk y σ p]at r
 refine⟨by rw [es];exact(jE r rfl rfl).1,?_⟩
 refine hl y σ p ?_
 rw [es,(jE (k:=1) (a:=a) r rfl rfl).2]
 rfl
theorem RelT.stor{a v:Int}(h:RelT t n A i x0 s P (fun _=>False))(hk: ∀y σ,P y→(ftZ t n y σ).s =σ.stored a v)
 (hl: ∀y σ,P y→((ftZ t n y σ).d =false→P' (ftZ t n y σ).p)∧((ftZ t n y σ).d =true→Q' (ftZ t n y σ).p)):RelT t n A i x0 (dH A s a v) P' Q':=by
 refine h.act (fun c=>B9 c) (fun c=>by rw [c];exact IZ) (fun m y σ es p r=>?_)
 rw [hk y σ p]at r
 exact⟨by rw [es];exact I0 r,hl y σ p⟩
theorem RelT.cas{a o v:Int}(h:RelT t n A i x0 s P (fun _=>False))(hk: ∀y σ,P y→(ftZ t n y σ).s =σ.cased a o v)
 (hl: ∀y σ,P y→aV σ.xs a o=a4 (tGot A s 3 a)→((ftZ t n y σ).d =false→P' (ftZ t n y σ).p)∧((ftZ t n y σ).d =true→Q' (ftZ t n y σ).p)):RelT t n A i x0 (tCas A s a o v) P' Q':=by
 refine h.act (fun c=>B7 c) (fun c=>by rw [c];exact IS) (fun m y σ es p r=>?_)
 rw [hk y σ p]at r
 refine⟨by rw [es];exact IT r,?_⟩
 refine hl y σ p ?_
 rw [es,(jE (k:=3) (a:=a) r rfl rfl).2,uO]
 rfl
theorem F5(p:Nat→Bool)(l:Nat): ∀(k m:Nat),l=m+k→ ∃e,m≤e∧e≤l∧(∀j,m≤j→j<e→p j=false)∧(e<l→p e=true):=by
 intro k
 induction k with
 | zero=>intro m h;exact⟨m,Nat.le_refl _,by omega,fun j _ _=>by omega,fun _=>by omega⟩
 | succ k ih=>
   intro m h
   cases hp:p m with
   | true=>exact⟨m,Nat.le_refl _,by omega,fun j _ _=>by omega,fun _=>hp⟩
   | false=>
     obtain⟨e,h1,h2,h3,h4⟩:=ih (m+1) (by omega)
     refine⟨e,by omega,h2,fun j a b=>?_,h4⟩
     by_cases q:j=m
     ·subst q;exact hp
     ·exact h3 j (by omega) b
def subY(t n:Int)(S:Nat→MS)(m:Nat)(y0:FNS):Nat→FNS
 | 0=>y0
 | k+1=>(fnF t n (subY t n S m y0 k) (S (m+k))).x
theorem RelT.sub{y0:FNS}{emb:FNS→FTS×STS}{I:FNS→Prop}{R:FNS→Prop}(h:RelT t n A i x0 s P (fun _=>False))(ho:ovf s=false)(h1: ∀z,P z→z=emb y0)(hI:I y0)
 (hst: ∀y σ,I y→(fnF t n y σ).d =false→I (fnF t n y σ).x ∧ftZ t n (emb y) σ=⟨false,(emb (fnF t n y σ).x).1,(emb (fnF t n y σ).x).2,(fnF t n y σ).s⟩)
 (hen: ∀y σ,I y→(fnF t n y σ).d =true→(ftZ t n (emb y) σ).s =(fnF t n y σ).s ∧(R (fnF t n y σ).x →((ftZ t n (emb y) σ).d =false→P' (ftZ t n (emb y) σ).p)∧((ftZ t n (emb y) σ).d =true→Q' (ftZ t n (emb y) σ).p)))
 (hA: ∀m:Nat,s=⟨(m:Int),false,false⟩→RelA t n A m y0 s' (fun _=>False) R):RelT t n A i x0 s' P' Q':=by
 intro X S e tr h0
 rcases h X S e tr h0 with⟨_,es⟩ | ⟨m,l1,l2,es,p⟩ | ⟨_,_,q⟩
 ·rw [es]at ho;cases ho
 ·have hX:=h1 _ p
  have hme:m≤A.length:=by have:=tr.he;omega
  obtain⟨e',g1,g2,g3,g4⟩:=F5 (fun j=>(fnF t n (subY t n S m y0 (j - m)) (S j)).d) A.length (A.length - m) m (by omega)
  have hY: ∀j,m≤j→subY t n S m y0 (j+1 - m)=(fnF t n (subY t n S m y0 (j - m)) (S j)).x :=by
   intro j hj
   rw [show j+1 - m=(j - m)+1 from by omega]
   show(fnF t n (subY t n S m y0 (j - m)) (S (m+(j - m)))).x =_
   rw [show m+(j - m)=j from by omega]
  have hin: ∀k,m+k≤e'→m+k≤e∧X (m+k)=emb (subY t n S m y0 (m+k - m))∧I (subY t n S m y0 (m+k - m)):=by
   intro k
   induction k with
   | zero=>
     intro _
     rw [show m+0 - m=0 from by omega]
     exact⟨l2,hX,hI⟩
   | succ k ih=>
     intro hk
     obtain⟨i1,i2,i3⟩:=ih (by omega)
     have hd:=g3 (m+k) (by omega) (by omega)
     obtain⟨j1,j2⟩:=hst _ (S (m+k)) i3 hd
     have hlt:m+k<e:=by
      rcases Nat.lt_or_ge (m+k) e with c | c
      ·exact c
      ·have ee:m+k=e:=by omega
       have:=(tr.fin (by omega)).2
       rw [←ee,i2,j2]at this
       cases this
     have nx:=(tr.st (m+k) (by omega) hlt).2.2
     rw [i2,j2]at nx
     refine⟨by omega,?_,?_⟩
     ·rw [show m+(k+1)=m+k+1 from rfl,nx,hY (m+k) (by omega)]
      rfl
     ·rw [show m+(k+1)=m+k+1 from rfl,hY (m+k) (by omega)]
      exact j1
  have hin': ∀j,m≤j→j≤e'→j≤e∧X j=emb (subY t n S m y0 (j - m))∧I (subY t n S m y0 (j - m)):=by
   intro j a b
   have:=hin (j - m) (by omega)
   rw [show m+(j - m)=j from by omega]at this
   exact this
  obtain⟨z1,z2,z3⟩:=hin' e' g1 (Nat.le_refl _)
  have ft:FnTr t n A (fun j=>subY t n S m y0 (j - m)) S m e':=by
   refine⟨g1,g2,fun j a b=>?_,fun c=>?_⟩
   ·obtain⟨i1,i2,i3⟩:=hin' j a (by omega)
    have hd:=g3 j a b
    obtain⟨j1,j2⟩:=hst _ (S j) i3 hd
    have i4:=(hin' (j+1) (by omega) (by omega)).1
    have r:=(tr.st j (by omega) (by omega)).1
    rw [i2,j2]at r
    exact⟨r,hd,hY j a⟩
   ·have hd:=g4 c
    have q:=(hen _ (S e') z3 hd).1
    refine⟨?_,hd⟩
    show A[e']? =some (rowM (fnF t n (subY t n S m y0 (e' - m)) (S e')).s)
    rw [←q,←z2]
    rcases Nat.lt_or_ge e' e with c2 | c2
    ·exact(tr.st e' (by omega) c2).1
    ·have:e'=e:=by omega
     subst this
     exact(tr.fin c).1
  rcases hA m es _ S e' ft (by show subY t n S m y0 (m - m)=y0;rw [Nat.sub_self];rfl)with⟨c,c2⟩ | ⟨_,_,_,_,f⟩ | ⟨c,c2,r⟩
  ·have:=tr.he
   exact .inl ⟨by omega,c2⟩
  ·exact f.elim
  ·have hd:=g4 c
   obtain⟨q1,q2⟩:=hen _ (S e') z3 hd
   have q2:=q2 r
   rw [←z2]at q2
   rcases Nat.lt_or_ge e' e with c3 | c3
   ·obtain⟨_,d,nx⟩:=tr.st e' (by omega) c3
    exact .inr (.inl ⟨e'+1,by omega,by omega,c2,by rw [nx];exact q2.1 d⟩)
   ·have ee:e'=e:=by omega
    subst ee
    exact .inr (.inr ⟨c,c2,q2.2 (tr.fin c).2⟩)
 ·exact q.elim
end
end Go.Sh
namespace Go.Sh
open Go Go.Proofs
variable [Con]
def WY{α:Type}(p:α→Prop):Tr α→Prop
 | .pre _ o=>WY p o
 | .ite _ x y=>WY p x∧WY p y
 | .ret v=>p v
theorem WQ{α:Type} [Inhabited α]{p:α→Prop} : ∀(o:Tr α),WY p o→p o.val
 | .pre _ o,h=>WQ o h
 | .ite b x y,h=>by
   show p (cond b x.val y.val)
   cases b
   ·exact WQ y h.2
   ·exact WQ x h.1
 | .ret v,h=>h
theorem W3{α:Type}{p:α→Prop}{P:Prop}{o:Tr α}(h:WY p o):WY p (.pre P o):=h
theorem W2{α:Type}{p:α→Prop}{b:Bool}{x y:Tr α}(h:WY p x)(g:WY p y):WY p (.ite b x y):=⟨h,g⟩
theorem W4{α:Type}{p:α→Prop}{v:α}(h:p v):WY p (.ret v):=h
def okO(s s':MS):Prop:=okW s.xs→0≤s'.o∧s'.o≤18446744073709551615
theorem cV{s s':MS}{a:Int}(h:s'.o=aD s.xs a):okO s s':=fun w=>by rw [h];exact HX w a
theorem RB(t n:Int)(x:CLS)(s:MS):x.at'=0∨x.at'=1∨x.at'=2∨x.at'=3→okO s (clF t n x s).s :=by
 intro h
 rcases h with h | h | h | h
 ·rw [OB h];exact cV rfl
 ·rw [OC h];exact cV rfl
 ·rw [OD h];exact cV rfl
 ·rw [OE h];exact cV rfl
theorem RS(t n:Int)(x:FNS)(s:MS)(h:x.at'=5):okO s (fnF t n x s).s :=by
 unfold fnF mZ
 rw [h]
 show okO s (gD t n x s).val.s
 refine WQ (p:=fun(y:FnO)=>okO s y.s) _ ?_
 unfold gD
 repeat' (with_reducible first | refine W3 ?_ | refine W2 ?_ ?_ | refine W4 ?_)
 all_goals exact cV rfl
theorem TM(t n:Int)(x:FNS)(s:MS)(h:x.at'=0∨x.at'=1∨x.at'=2∨x.at'=3∨x.at'=4∨x.at'=5∨x.at'=6)(hc:x.at'=4→x.cl.at'=0∨x.cl.at'=1∨x.cl.at'=2∨x.cl.at'=3):okO s (fnF t n x s).s :=by
 rcases h with h | h | h | h | h | h | h
 ·rw [MY h];exact cV rfl
 ·rw [rF h];exact cV rfl
 ·rw [MZ h];exact cV rfl
 ·rw [M7 h];exact cV rfl
 ·rw [NA h];exact RB t n x.cl s (hc h)
 ·exact RS t n x s h
 ·rw [NB h];exact cV rfl
theorem P8{t n:Int}{x:PRS}{st:STS}{s:MS}(h:x.loaded=true):(prF t n x st s).s.o =aD s.xs st.sp∧True:=by
 unfold prF LS AO
 have h':x.4=true:=h
 simp only [Tr.val,h',Bool.not_true,cond_false]
 exact⟨trivial,trivial⟩
theorem TX(t n:Int)(x:PRS)(st:STS)(s:MS):okO s (prF t n x st s).s :=by
 cases h:x.loaded with
 | true=>exact cV (P8 h).1
 | false=>rw [BZ h];exact cV rfl
theorem TP(t n:Int)(x:FTS)(st:STS)(s:MS)(h:x.at'=0∨x.at'=1∨x.at'=2∨x.at'=3)(hf:x.at'=0→okO s (fnF t n x.fn s).s)(hc:x.at'=1→okO s (clF t n x.cl s).s):okO s (ftF t n x st s).s :=by
 unfold ftF u9
 rcases h with h | h | h | h
 ·have q:=hf h
  rw [h]
  show okO s (iG t n x st s).val.s
  refine WQ (p:=fun(y:FtO)=>okO s y.s) _ ?_
  unfold iG
  repeat' (with_reducible first | refine W3 ?_ | refine W2 ?_ ?_ | refine W4 ?_)
  all_goals first | exact cV rfl | exact q
 ·have q:=hc h
  rw [h]
  show okO s (jP t n x st s).val.s
  refine WQ (p:=fun(y:FtO)=>okO s y.s) _ ?_
  unfold jP
  repeat' (with_reducible first | refine W3 ?_ | refine W2 ?_ ?_ | refine W4 ?_)
  all_goals first | exact cV rfl | exact q
 ·have q:=TX t n x.pr st s
  rw [h]
  show okO s (lI t n x st s).val.s
  refine WQ (p:=fun(y:FtO)=>okO s y.s) _ ?_
  unfold lI
  repeat' (with_reducible first | refine W3 ?_ | refine W2 ?_ ?_ | refine W4 ?_)
  all_goals first | exact cV rfl | exact q
 ·rw [h]
  show okO s (jQ t n x st s).val.s
  refine WQ (p:=fun(y:FtO)=>okO s y.s) _ ?_
  unfold jQ
  repeat' (with_reducible first | refine W3 ?_ | refine W2 ?_ ?_ | refine W4 ?_)
  all_goals exact cV rfl
structure sP (t n b0:Int) (L:Nat) (x0:FTS×STS) (x:FWX):Prop where
 hi:x.i≤300
 hc:0≤x.s.c∧x.s.c≤2*x.i
 hl:x.s.xs.length=L
 hw:okW x.s.xs
 hA:x.A.length=x.i
 oA:okAW x.A
 w:ftW t (b0+x.i) x.st x.x
 sw:stW (b0+x.i) x.st
 run: ∃(X:Nat→FTS×STS) (S:Nat→MS),X 0=x0∧X x.i=(x.x,x.st)∧ ∀m,m<x.i→x.A[m]? =some (rowM (ftZ t n (X m) (S m)).s)∧(ftZ t n (X m) (S m)).d =false∧X (m+1)=(ftZ t n (X m) (S m)).p
def xM(t n:Int)(x0:FTS×STS)(A:List (List Int))(o:FtO):Prop:= ∃(X:Nat→FTS×STS) (S:Nat→MS) (e:Nat),e+1=A.length∧X 0=x0∧FtTr t n A X S 0 e∧ftZ t n (X e) (S e)=o
def xN(t n:Int)(x0:FTS×STS)(A:List (List Int)):Prop:= ∃(X:Nat→FTS×STS) (S:Nat→MS),X 0=x0∧FtTr t n A X S 0 A.length
theorem tY{A:List (List Int)}{r:List Int}(h:okAW A)(g:0≤a2 r∧a2 r≤18446744073709551615):okAW (A++ [r]):=by
 refine⟨fun q hq=>?_⟩
 rcases List.mem_append.1 hq with c | c
 ·exact h.h q c
 ·rw [List.mem_singleton]at c;subst c;exact g
structure PO (t n b0:Int) (L:Nat) (x0:FTS×STS) (x:FWX) (σ:MS) (o:FtO):Prop where
 ok:ftOk t n x.x x.st σ
 c:o.s.c=σ.c+1
 l:o.s.xs.length=L
 oA:okAW (x.A++ [rowM o.s])
 next:o.d=false→σ.c≤2*x.i+1→x.i<300→sP t n b0 L x0 ⟨x.i+1,o.x,o.st,o.s,x.A++ [rowM o.s]⟩
 done:o.d=true→xM t n x0 (x.A++ [rowM o.s]) o
theorem sP.step{t n b0:Int}{L:Nat}{x0:FTS×STS}{x:FWX}(hx:sP t n b0 L x0 x)(ht:1≤t∧t≤1000)(hn:1≤n∧n≤1000)(hb:0≤b0∧b0≤800000){σ:MS}(hw:okW σ.xs)(hl:σ.xs.length=L)(hc:0≤σ.c∧σ.c≤1000):PO t n b0 L x0 x σ (ftF t n x.x x.st σ):=by
 have bd:Bnd t n σ:=⟨ht,hn,by omega,hw⟩
 have hi:=hx.hi
 have V:=PM bd hx.w hx.sw (by omega)
 have ho:okO σ (ftF t n x.x x.st σ).s :=TP t n x.x x.st σ hx.w.h (fun e=>TM t n x.x.fn σ (hx.w.fn e).1.h (fun e4=>((hx.w.fn e).1.cl e4).h)) (fun e=>RB t n x.x.cl σ (hx.w.cl e).h)
 obtain⟨X,S,h0,hX,hr⟩:=hx.run
 have hA:=hx.hA
 have g1: ∀m,m<x.i→(x.A++ [rowM (ftF t n x.x x.st σ).s])[m]? =x.A[m]? :=fun m hm=>List.getElem?_append_left (by omega)
 have g2:(x.A++ [rowM (ftF t n x.x x.st σ).s])[x.i]? =some (rowM (ftF t n x.x x.st σ).s):=by
  rw [List.getElem?_append_right (by omega),hA,Nat.sub_self];rfl
 refine⟨PL bd hx.w hx.sw (by omega),V.a.c,by rw [V.a.len];exact hl,tY hx.oA (ho hw),fun hd h1 h2=>?_,fun hd=>?_⟩
 ·have e:b0+((x.i+1:Nat):Int)=b0+x.i+1:=by omega
  refine⟨by show x.i+1≤300;omega,?_,by show(ftF t n x.x x.st σ).s.xs.length =L;rw [V.a.len];exact hl,V.a.w hw,by show(x.A++ [_]).length =x.i+1;rw [List.length_append,hA];rfl,tY hx.oA (ho hw),?_,?_,?_⟩
  ·show 0≤(ftF t n x.x x.st σ).s.c ∧(ftF t n x.x x.st σ).s.c ≤2*((x.i+1:Nat):Int)
   rw [V.a.c];omega
  ·show ftW t (b0+((x.i+1:Nat):Int)) _ _
   rw [e];exact V.w hd
  ·show stW (b0+((x.i+1:Nat):Int)) _
   rw [e];exact V.st
  ·refine⟨fun m=>if m≤x.i then X m else(ftZ t n (x.x,x.st) σ).p,fun m=>if m=x.i then σ else S m,?_,?_,fun m hm=>?_⟩
   ·show(if 0≤x.i then X 0 else _)=x0
    rw [if_pos (Nat.zero_le _)];exact h0
   ·show(if x.i+1≤x.i then _ else _)=_
    rw [if_neg (by omega)];rfl
   ·show(x.A++ [rowM (ftF t n x.x x.st σ).s])[m]? =some (rowM (ftZ t n (if m≤x.i then X m else _) (if m=x.i then σ else S m)).s)∧(ftZ t n (if m≤x.i then X m else _) (if m=x.i then σ else S m)).d =false∧(if m+1≤x.i then X (m+1)else _)=(ftZ t n (if m≤x.i then X m else _) (if m=x.i then σ else S m)).p
    have hm:m<x.i+1:=hm
    rw [if_pos (show m≤x.i by omega)]
    by_cases q:m=x.i
    ·subst q
     rw [if_pos rfl,if_neg (by omega),hX,g2]
     exact⟨rfl,hd,rfl⟩
    ·rw [if_neg q,if_pos (by omega),g1 m (by omega)]
     exact hr m (by omega)
 ·refine⟨X,fun m=>if m=x.i then σ else S m,x.i,by rw [List.length_append,hA];rfl,h0,⟨Nat.zero_le _,by rw [List.length_append,hA];omega,fun m _ hm=>?_,fun _=>?_⟩,?_⟩
  ·show(x.A++ [rowM (ftF t n x.x x.st σ).s])[m]? =some (rowM (ftZ t n (X m) (if m=x.i then σ else S m)).s)∧(ftZ t n (X m) (if m=x.i then σ else S m)).d =false∧X (m+1)=(ftZ t n (X m) (if m=x.i then σ else S m)).p
   rw [if_neg (by omega),g1 m hm]
   exact hr m hm
  ·show(x.A++ [rowM (ftF t n x.x x.st σ).s])[x.i]? =some (rowM (ftZ t n (X x.i) (if x.i=x.i then σ else S x.i)).s)∧(ftZ t n (X x.i) (if x.i=x.i then σ else S x.i)).d =true
   rw [if_pos rfl,hX,g2]
   exact⟨rfl,hd⟩
  ·show ftZ t n (X x.i) (if x.i=x.i then σ else S x.i)=_
   rw [if_pos rfl,hX];rfl
theorem sP.not{t n b0:Int}{L:Nat}{x0:FTS×STS}{x:FWX}(hx:sP t n b0 L x0 x):xN t n x0 x.A:=by
 obtain⟨X,S,h0,hX,hr⟩:=hx.run
 have hA:=hx.hA
 exact⟨X,S,h0,⟨Nat.zero_le _,Nat.le_refl _,fun m _ hm=>hr m (by omega),fun c=>absurd c (Nat.lt_irrefl _)⟩⟩
def PN(t n:Int)(o:FtO)(A:List (List Int)):aB Ob:=mH o.s++ [some (.cells [.ptr 3 0,.int .i64 o.x.code,.bool o.x.okk,.int .i64 o.x.val,.bool o.x.failed,.int .i64 o.x.tries,.int .i64 o.x.sh,.int .i64 o.x.kd,.int .i64 o.x.ky,.int .i64 o.x.most,.int .i64 o.x.at',.bool o.x.p.now,.int .i64 o.x.p.code,.bool o.x.p.okk,.int .i64 o.x.p.val,.int .i64 o.x.p.addr,.int .u64 o.x.p.old,.int .i64 o.x.p.nxt,.bool o.x.p.mark,.int .i64 o.x.p.pops,.O,.O,.O]),some (.abs (.store t n o.st) []),some (.cells [.tslice 5 0 A.length 5,.int .i64 0,.bool false,.bool false]),some (.tab [some .i64,some .i64,some .u64,some .u64,none] A)]
def TT(t n:Int)(x:FWX):aB Ob:=mH x.s++ [some (.abs (.fast t n x.x) [3]),some (.abs (.store t n x.st) []),some (.cells [.tslice 5 0 x.A.length 5,.int .i64 0,.bool false,.bool false]),some (.tab [some .i64,some .i64,some .u64,some .u64,none] x.A)]
set_option maxRecDepth 20000 in
theorem SA{p:Nat}{fa fx:Nat→Int}{t n b0:Int}{L:Nat}{x0:FTS×STS}{s:MS}{K:AVal→aB Ob→Prop}(hfx: ∀i,0≤fx i∧fx i≤18446744073709551615)(ht:1≤t∧t≤1000)(hn:1≤n∧n≤1000)(hb:0≤b0∧b0≤800000)
 (hc0:s.c=0) (hl0:s.xs.length=L) (hw0:okW s.xs) (w0:ftW t b0 x0.2 x0.1) (s0:stW b0 x0.2)
 (hE: ∀o A,xM t n x0 A o→okAW A→A.length≤300→K (.tup [.ptr 4 0,.bool true,.bool true]) (PN t n o A))
 (hN: ∀x:FWX,xN t n x0 x.A→okAW x.A→x.A.length≤300→K (.tup [.ptr 4 0,.bool false,.bool true]) (TT t n x)):
 K2 p fa fx t n x0.1 x0.2 s (sP t n b0 L x0) K:=by
 unfold K2
 refine⟨aP (H:=yL p fa fx t n (sP t n b0 L x0)) ⟨0,x0.1,x0.2,s,[]⟩ (by kernel_rfl) ⟨Nat.zero_le _,by show 0≤s.c∧s.c≤_;rw [hc0];omega,hl0,hw0,rfl,⟨fun r hr=>by cases hr⟩,?_,?_,⟨fun _=>x0,fun _=>s,rfl,rfl,fun m hm=>absurd hm (Nat.not_lt_zero _)⟩⟩,fun x hx=>?_⟩
 ·show ftW t (b0+((0:Nat):Int)) _ _
  rw [show b0+((0:Nat):Int)=b0 by omega];exact w0
 ·show stW (b0+((0:Nat):Int)) _
  rw [show b0+((0:Nat):Int)=b0 by omega];exact s0
 have hi:=hx.hi
 have hc:=hx.hc
 have hA:=hx.hA
 refine aF (fun k=>aF (fun q=>?_) (fun q=>?_)) (fun k=>?_)
 ·rw [aX,dT']at k q
  have hk:x.i<300:=by have k:(x.i:Int)<300:=k;omega
  have q:(x.i:Int)<(p:Nat):=q
  have wi:W ((x.i:Int)+1)=((x.i+1:Nat):Int):=by rw [dW (by omega)];rfl
  have W1:okW (MS.stored x.s (fa (Int.toNat (x.i:Int))) (fx (Int.toNat (x.i:Int)))).xs :=BU hx.hw (hfx _)
  have L1:(MS.stored x.s (fa (Int.toNat (x.i:Int))) (fx (Int.toNat (x.i:Int)))).xs.length =L:=by show(aZ x.s.xs _ _).length =_;rw [gG];exact hx.hl
  have S1:=hx.step ht hn hb (σ:=(MS.stored x.s (fa (Int.toNat (x.i:Int))) (fx (Int.toNat (x.i:Int))))) W1 L1 (by show 0≤x.s.c+1∧x.s.c+1≤1000;omega)
  have cc:(ftF t n x.x x.st (MS.stored x.s (fa (Int.toNat (x.i:Int))) (fx (Int.toNat (x.i:Int))))).s.c =x.s.c+1+1:=S1.c
  have wc:W (x.s.c+1+1)=x.s.c+1+1:=dW (by omega)
  have hq:(!ieq (ftF t n x.x x.st (MS.stored x.s (fa (Int.toNat (x.i:Int))) (fx (Int.toNat (x.i:Int))))).s.c (W (x.s.c+1+1)))=false:=by rw [wc,cc,cS];rfl
  refine⟨⟨by omega,by omega⟩,⟨by omega,by omega⟩,⟨⟨rfl,by omega,by omega⟩,trivial⟩,⟨rfl,trivial⟩,⟨⟨rfl,rfl,rfl⟩,S1.ok⟩,aF (fun d=>⟨⟨rfl,trivial⟩,?_⟩) (fun d=>⟨⟨rfl,trivial⟩,?_⟩)⟩
  ·have d:(ftF t n x.x x.st (MS.stored x.s (fa (Int.toNat (x.i:Int))) (fx (Int.toNat (x.i:Int))))).d =true:=d
   have q:=hE _ _ (S1.done d) S1.oA (by rw [List.length_append];show x.A.length+1≤300;omega)
   have e1:(x.A++ [rowM (ftF t n x.x x.st (MS.stored x.s (fa (Int.toNat (x.i:Int))) (fx (Int.toNat (x.i:Int))))).s]).length =x.A.length+1:=by rw [List.length_append];rfl
   unfold PN at q
   rw [e1]at q
   exact aF (fun c=>by have c:(!ieq (ftF t n x.x x.st (MS.stored x.s (fa (Int.toNat (x.i:Int))) (fx (Int.toNat (x.i:Int))))).s.c (W (x.s.c+1+1)))=true:=c;rw [hq]at c;cases c) (fun _=>⟨⟨⟨rfl,trivial⟩,trivial⟩,⟨rfl,rfl,by omega⟩,q⟩)
  ·have d:(ftF t n x.x x.st (MS.stored x.s (fa (Int.toNat (x.i:Int))) (fx (Int.toNat (x.i:Int))))).d =false:=d
   refine aF (fun c=>by have c:(!ieq (ftF t n x.x x.st (MS.stored x.s (fa (Int.toNat (x.i:Int))) (fx (Int.toNat (x.i:Int))))).s.c (W (x.s.c+1+1)))=true:=c;rw [hq]at c;cases c) (fun _=>⟨⟨⟨rfl,trivial⟩,trivial⟩,⟨rfl,rfl,by omega⟩,?_⟩)
   rw [wi]
   exact aP (H:=yL p fa fx t n (sP t n b0 L x0)) ⟨x.i+1,(ftF t n x.x x.st (MS.stored x.s (fa (Int.toNat (x.i:Int))) (fx (Int.toNat (x.i:Int))))).x,(ftF t n x.x x.st (MS.stored x.s (fa (Int.toNat (x.i:Int))) (fx (Int.toNat (x.i:Int))))).st,(ftF t n x.x x.st (MS.stored x.s (fa (Int.toNat (x.i:Int))) (fx (Int.toNat (x.i:Int))))).s,x.A++ [rowM (ftF t n x.x x.st (MS.stored x.s (fa (Int.toNat (x.i:Int))) (fx (Int.toNat (x.i:Int))))).s]⟩ (by simp only [yL,List.length_append]<;>rfl) ⟨S1.next d (by show x.s.c+1≤2*(x.i:Int)+1;omega) (by omega),by show 300 - (x.i+1)<300 - x.i;omega⟩
 ·rw [aX,dT']at k
  have hk:x.i<300:=by have k:(x.i:Int)<300:=k;omega
  have wi:W ((x.i:Int)+1)=((x.i+1:Nat):Int):=by rw [dW (by omega)];rfl
  have S1:=hx.step ht hn hb (σ:=x.s) hx.hw hx.hl (by show 0≤x.s.c∧x.s.c≤1000;omega)
  have cc:(ftF t n x.x x.st x.s).s.c =x.s.c+1:=S1.c
  have wc:W (x.s.c+1)=x.s.c+1:=dW (by omega)
  have hq:(!ieq (ftF t n x.x x.st x.s).s.c (W (x.s.c+1)))=false:=by rw [wc,cc,cS];rfl
  refine⟨⟨rfl,trivial⟩,⟨⟨rfl,rfl,rfl⟩,S1.ok⟩,aF (fun d=>⟨⟨rfl,trivial⟩,?_⟩) (fun d=>⟨⟨rfl,trivial⟩,?_⟩)⟩
  ·have d:(ftF t n x.x x.st x.s).d =true:=d
   have q:=hE _ _ (S1.done d) S1.oA (by rw [List.length_append];show x.A.length+1≤300;omega)
   have e1:(x.A++ [rowM (ftF t n x.x x.st x.s).s]).length =x.A.length+1:=by rw [List.length_append];rfl
   unfold PN at q
   rw [e1]at q
   exact aF (fun c=>by have c:(!ieq (ftF t n x.x x.st x.s).s.c (W (x.s.c+1)))=true:=c;rw [hq]at c;cases c) (fun _=>⟨⟨⟨rfl,trivial⟩,trivial⟩,⟨rfl,rfl,by omega⟩,q⟩)
  ·have d:(ftF t n x.x x.st x.s).d =false:=d
   refine aF (fun c=>by have c:(!ieq (ftF t n x.x x.st x.s).s.c (W (x.s.c+1)))=true:=c;rw [hq]at c;cases c) (fun _=>⟨⟨⟨rfl,trivial⟩,trivial⟩,⟨rfl,rfl,by omega⟩,?_⟩)
   rw [wi]
   exact aP (H:=yL p fa fx t n (sP t n b0 L x0)) ⟨x.i+1,(ftF t n x.x x.st x.s).x,(ftF t n x.x x.st x.s).st,(ftF t n x.x x.st x.s).s,x.A++ [rowM (ftF t n x.x x.st x.s).s]⟩ (by simp only [yL,List.length_append]<;>rfl) ⟨S1.next d (by show x.s.c≤2*(x.i:Int)+1;omega) (by omega),by show 300 - (x.i+1)<300 - x.i;omega⟩
 ·exact hN x hx.not hx.oA (by omega)
def UK(o:FtO):Option (aI Ob):=some (.cells [.ptr 3 0,.int .i64 o.x.code,.bool o.x.okk,.int .i64 o.x.val,.bool o.x.failed,.int .i64 o.x.tries,.int .i64 o.x.sh,.int .i64 o.x.kd,.int .i64 o.x.ky,.int .i64 o.x.most,.int .i64 o.x.at',.bool o.x.p.now,.int .i64 o.x.p.code,.bool o.x.p.okk,.int .i64 o.x.p.val,.int .i64 o.x.p.addr,.int .u64 o.x.p.old,.int .i64 o.x.p.nxt,.bool o.x.p.mark,.int .i64 o.x.p.pops,.O,.O,.O])
def UL(A:List (List Int))(l:Nat):aB Ob:=[some (.cells [.tslice l 0 A.length 5,.int .i64 0,.bool false,.bool false]),some (.tab [some .i64,some .i64,some .u64,some .u64,none] A)]
def KZ(t n:Int)(o:FtO)(A:List (List Int)):aB Ob:=mH o.s++ [UK o,some (.cells [.int .i64 t,.int .i64 n,.int .i64 o.st.me,.int .i64 o.st.sp,.slice 5 0 o.st.R.length 1]),none,some (.ints (some .i64) o.st.R)]++UL A 7
def K1(t n:Int)(x:FWX):aB Ob:=mH x.s++ [some (.abs (.fast t n x.x) [3]),some (.cells [.int .i64 t,.int .i64 n,.int .i64 x.st.me,.int .i64 x.st.sp,.slice 5 0 x.st.R.length 1]),none,some (.ints (some .i64) x.st.R)]++UL x.A 7
theorem G0{t n:Int}{o:FtO}{A:List (List Int)}{K:AVal→aB Ob→Prop}(hK:K (.tup [.ptr 6 0,.bool true,.bool true]) (KZ t n o A)):
 EC tbl (NW 5 K) (.tup [.ptr 5 0,.bool true,.bool true]) (mH o.s++ [UK o,some (.abs (.store t n o.st) []),none,some (.cells [.tslice 6 0 A.length 5,.int .i64 0,.bool false,.bool false]),some (.tab [some .i64,some .i64,some .u64,some .u64,none] A)]):=by
 exact⟨.store t n o.st,3,0,jD t n o.st,[],rfl,rfl,rfl,Eq.mp (by kernel_rfl) hK⟩
theorem G1{t n:Int}{x:FWX}{K:AVal→aB Ob→Prop}(hK:K (.tup [.ptr 6 0,.bool false,.bool true]) (K1 t n x)):
 EC tbl (NW 5 K) (.tup [.ptr 5 0,.bool false,.bool true]) (mH x.s++ [some (.abs (.fast t n x.x) [3]),some (.abs (.store t n x.st) []),none,some (.cells [.tslice 6 0 x.A.length 5,.int .i64 0,.bool false,.bool false]),some (.tab [some .i64,some .i64,some .u64,some .u64,none] x.A)]):=by
 exact⟨.store t n x.st,3,0,jD t n x.st,[],rfl,rfl,rfl,Eq.mp (by kernel_rfl) hK⟩
theorem K3{p:Nat}{fa fx:Nat→Int}{t n b0:Int}{x:FTS}{st:STS}{s:MS}{K:AVal→aB Ob→Prop}(hfx: ∀i,0≤fx i∧fx i≤18446744073709551615)(ht:1≤t∧t≤1000)(hn:1≤n∧n≤1000)(hb:0≤b0∧b0≤800000)
 (hc0:s.c=0) (hw0:okW s.xs) (w0:ftW t b0 st x) (s0:stW b0 st)
 (hE: ∀o A,xM t n (x,st) A o→okAW A→A.length≤300→K (.tup [.ptr 6 0,.bool true,.bool true]) (KZ t n o A))
 (hN: ∀y:FWX,xN t n (x,st) y.A→okAW y.A→y.A.length≤300→K (.tup [.ptr 6 0,.bool false,.bool true]) (K1 t n y)):
 cT' 26 [.ptr 0 0,.iface 35 (.ptr 2 0),.view p 2 (fun i=>[.int .i64 (fa i),.int .u64 (fx i)]),.int .i64 300] (mH s++ [some (.abs (.fast t n x) [3]),some (.cells [.int .i64 t,.int .i64 n,.int .i64 st.me,.int .i64 st.sp,.slice 4 0 st.R.length 1]),some (.ints (some .i64) st.R)]) K:=by
 refine VV (aC.opened tbl ?_)
 refine XH tbl (mH s++ [some (.abs (.fast t n x) [3]),some (.abs (.store t n st) [])]) (.store t n st) 3 0 (jD t n st) [] rfl rfl rfl rfl ?_
 refine G2 p fa fx t n x st s (sP t n b0 s.xs.length (x,st)) _ (SA (x0:=(x,st)) hfx ht hn hb hc0 rfl hw0 w0 s0 (fun o A h1 h2 h3=>?_) (fun y h1 h2 h3=>?_))
 ·exact G0 (hE o A h1 h2 h3)
 ·exact G1 (hN y h1 h2 h3)
structure FWR where
 en:Bool
 o:FtO
 x:FWX
structure rH (t n:Int) (x0:FTS×STS) (r:FWR):Prop where
 e:r.en=true→xM t n x0 r.x.A r.o
 u:r.en=false→xN t n x0 r.x.A
 oA:okAW r.x.A
 l:r.x.A.length≤300
instance:Inhabited FWX:=⟨⟨0,default,default,default,[]⟩⟩
def watchFtS:aL Ob:=fun args h=>match args,h with
 | [.ptr 0 0,.iface 35 (.ptr 2 0),.view p 2 row,.int .i64 300],[e0,e1,some (.abs (.fast t n x) [3]),some (.cells [.int .i64 t2,.int .i64 n2,.int .i64 me,.int .i64 sp,.slice 4 0 k 1]),some (.ints (some .i64) R)]=>(match fB 1 [e0,e1]with
   | some (l,s)=>some (.pre ((l=s.xs.length∧t2=t∧n2=n∧k=R.length)∧(1≤t∧t≤1000)∧(1≤n∧n≤1000)∧s.c=0∧okW s.xs∧(∃b0,(0≤b0∧b0≤800000)∧ftW t b0 ⟨me,sp,R⟩ x∧stW b0 ⟨me,sp,R⟩)∧ ∃fa fx:Nat→Int,row=(fun i=>[.int .i64 (fa i),.int .u64 (fx i)])∧ ∀i,0≤fx i∧fx i≤18446744073709551615) (.all FWR (fun r=>rH t n (x,⟨me,sp,R⟩) r) fun r=>.ite r.en (.ret (.tup [.ptr 6 0,.bool true,.bool true]) (KZ t n r.o r.x.A)) (.ret (.tup [.ptr 6 0,.bool false,.bool true]) (K1 t n r.x))))
   | none=>none)
 | _,_=>none
theorem A0:sT' 26 watchFtS:=by
 intro args h o ho K hK
 unfold watchFtS at ho
 split at ho
 case h_2=>cases ho
 rename_i p row e0 e1 t n x t2 n2 me sp k R
 split at ho<;>cases ho
 rename_i l s hm
 obtain⟨⟨⟨hl,rfl,rfl,rfl⟩,ht,hn,hc,hw,⟨b0,hb,w0,s0⟩,fa,fx,rfl,hfx⟩,hK⟩:=hK
 have hh:=cC hm hl
 cases hh
 have hK: ∀r,rH t2 n2 (x,⟨me,sp,R⟩) r→cond r.en (K (.tup [.ptr 6 0,.bool true,.bool true]) (KZ t2 n2 r.o r.x.A)) (K (.tup [.ptr 6 0,.bool false,.bool true]) (K1 t2 n2 r.x)):=hK
 refine K3 (st:=⟨me,sp,R⟩) (s:=s) hfx ht hn hb hc hw w0 s0 (fun o A h1 h2 h3=>?_) (fun y h1 h2 h3=>?_)
 ·exact hK ⟨true,o,{ (default:FWX)with A:=A}⟩ ⟨fun _=>h1,fun q=>(by cases q),h2,h3⟩
 ·exact hK ⟨false,default,y⟩ ⟨fun q=>(by cases q),fun _=>h1,h2,h3⟩
end Go.Sh
