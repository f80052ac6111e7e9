import Derived.Shelf.Sort.Plain
import Derived.Shelf.Slices.In.SortNone
import Derived.Test.YteindpciaceeeaaGreatZN2toN12
set_option linter.all false
set_option maxHeartbeats 8000000
namespace Go.Sh
open Go Go.Proofs
variable [Con]
theorem aE7(s:MS)(lt ln hd:Int)(K:AVal→aC Ob→Prop)(h1:0≤ln∧ln≤100000)(h2: -1000000≤hd∧hd≤1000000)(hK:K (.slice 2 0 (ndF s.xs ln hd).length 1) [bD 1 s,bE s,iI' (ndF s.xs ln hd)]):aCp s lt ln hd (ndF s.xs ln hd) K:=by
 refine⟨⟨h1,h2⟩,⟨rfl,trivial⟩,trivial,aQ (H:=RY s lt ln (ndF s.xs ln hd)) (aA (aF s.xs (ln+1+hd)) 10 9,[]) rfl ⟨by show((0:Nat):Int)≤_;omega,⟨ln.toNat+1,by have:=CS ln;show i9 ln []<ln.toNat+1;omega,rfl⟩,by have:=CS ln;show 0+i9 ln []≤ln.toNat;omega⟩,?_⟩
 rintro⟨n,out⟩ ⟨hb,⟨k,hk,hR⟩,hc⟩;dsimp only at hb hk hR hc⊢;have stop: ∀(h:bif bY ln n then !hasB out n else false),True:=fun _=>trivial;refine⟨trivial,aI (fun e1=>⟨⟨rfl,by omega⟩,aI (fun e2=>?_) (fun e2=>?_)⟩) (fun e1=>?_)⟩
 ·have e2':hasB out n=false:=by simpa using e2
  have hlt:=KJ (nd:=ln) e1 e2';cases k with
  | zero=>omega
  | succ k=>
    unfold yH at hR;rw [e1,e2]at hR;simp only [cond_true]at hR;refine⟨⟨rfl,rfl,rfl,by omega⟩,⟨rfl,trivial⟩,trivial,aQ (H:=RY s lt ln (ndF s.xs ln hd)) (aA (aF s.xs n) 10 9,out++ [n]) (by simp only [RY,List.length_append,List.length_singleton]<;>rfl) ⟨⟨?_,⟨k,by show i9 ln (out++ [n])<k;omega,hR⟩,?_⟩,hlt⟩⟩
    ·show((out++ [n]).length :Int)≤_;rw [List.length_append,List.length_singleton];omega
    ·show(out++ [n]).length +i9 ln (out++ [n])≤_;rw [List.length_append,List.length_singleton];omega
 ·have hR2:out=ndF s.xs ln hd:=by
   cases k with
   | zero=>omega
   | succ k=>
     unfold yH at hR;rw [e1,e2]at hR;exact hR
  rw [←hR2]at hK;exact hK
 ·have hR2:out=ndF s.xs ln hd:=by
   cases k with
   | zero=>omega
   | succ k=>
     unfold yH at hR;rw [e1]at hR;exact hR
  rw [←hR2]at hK;exact hK
theorem PC(xs:List Int)(nd:Int)(k:Nat): ∀(n:Int) (out:List Int),(yH xs nd k n out).length ≤out.length+k:=by
 induction k with
 | zero=>intro n out;unfold yH;omega
 | succ k ih=>
   intro n out;unfold yH;cases bY nd n<;>cases hasB out n<;>simp only [cond_true,cond_false,Bool.not_true,Bool.not_false]<;>try omega
   have:=ih (aA (aF xs n) 10 9) (out++ [n]);rw [List.length_append,List.length_singleton]at this;omega
theorem HU(xs:List Int)(nd hd:Int):(ndF xs nd hd).length ≤nd.toNat+1:=by
 have:=PC xs nd (nd.toNat+1) (aA (aF xs (nd+1+hd)) 10 9) [];unfold ndF
 simpa using this
def ndS:aH Ob:=fun args h=>match args,h with
 | [.ptr 0 0,.agg [.int .i64 lt,.int .i64 ln],.int .i64 hd],[e1,e2]=>(match cO 1 [e1,e2]with
   | some (l,s)=>some (.pre (l=s.xs.length∧(0≤ln∧ln≤100000)∧(-1000000≤hd∧hd≤1000000)) (.ret (.slice 2 0 (ndF s.xs ln hd).length 1) [bD 1 s,bE s,iI' (ndF s.xs ln hd)]))
   | none=>none)
 | _,_=>none
theorem aE6:sT' 132 ndS:=by
 intro args h o ho K hK;unfold ndS at ho;split at ho
 case h_2=>cases ho
 rename_i lt ln hd e1 e2;split at ho<;>cases ho
 rename_i l s hm;obtain⟨⟨hl,h1,h2⟩,hK⟩:=hK;have hh:=bF hm hl;cases hh;exact PD s lt ln hd _ K (aE7 s lt ln hd K h1 h2 hK)
noncomputable def EU4:=EU3.addS 132 ndS aE6
def kyL(xs ns:List Int):List Int:=(ns.filter fun a=>!ieq (aA (aF xs a) 19 1) 1).map fun a=>aA (aF xs a) 0 10
structure aEZ (xs ns:List Int) (x:Nat×List Int):Prop where
 hi:x.1≤ns.length
 eq:x.2=kyL xs (ns.take x.1)
def HKY(s:MS)(ns:List Int):Hint Ob:= {X:=Nat×List Int,st:=fun x=>([.ptr 0 0,.O,.O,.O,.O,.O,.O,.slice 2 0 x.2.length 1,.O,.O,.O,.O,.O,.O,.slice 3 0 ns.length 1,.I (ns.length:Int),.I (x.1:Int)]++List.replicate 17 .O,[bD 1 s,bE s,iI' x.2,iI' ns]),ok:=aEZ s.xs ns,mu:=fun x=>ns.length - x.1,keep:=[0,7,14,15,16],casts:=[(.slot 7,.ints (some .i64))] }
abbrev w51(s:MS):Option (aJ Ob):=cE' [.I s.1,.I s.2,.slice 1 0 s.3.length 1,.I s.4,.I s.5,.I s.6,.int .u64 s.7,.int .u64 s.8,.bool s.9]
def aCl(s:MS)(lt ln hd:Int)(K:AVal→aC Ob→Prop):Prop:=(lE' s.3∧((0:Int)≤ln∧ln≤(100000:Int))∧(-1000000:Int)≤hd∧hd≤(1000000:Int))∧cW (HKY s (ndF (MS.xs s) ln hd)) (Hint.ok (HKY s (ndF (MS.xs s) ln hd))) (.ptr 0 0::.O::.O::.O::.O::.O::.O::.slice 2 0 0 1::.O::.O::.O::.O::.O::.O::.slice 3 0 (List.length (ndF s.3 ln hd)) 1::.I (↑(List.length (ndF s.3 ln hd)):Int)::.I 0::(tO' 17 [])) [w51 s,some (.ints (some .u64) s.3),some (.ints (some .i64) []),iI' (ndF s.3 ln hd)]∧ ∀(x:Hint.X (HKY s (ndF (MS.xs s) ln hd))),aEZ s.3 (ndF s.3 ln hd) x→bif ilt (↑x.1:Int) (↑(List.length (ndF s.3 ln hd)):Int)then((0:Int)≤(↑x.1:Int)∧(↑x.1:Int)<(↑(List.length (ndF s.3 ln hd)):Int))∧0+Int.toNat (↑x.1:Int)*(1:Nat)<List.length (ndF s.3 ln hd)∧(lE' s.3∧True)∧True∧bif !ieq (aA (aF s.3 (List.getD (ndF s.3 ln hd) (0+Int.toNat (↑x.1:Int)*1) 0)) 19 1) 1 then(0=0∧lE' x.2∧1=1∧x.2.length+(1:Nat)≤(4294967296:Nat))∧cW (HKY s (ndF (MS.xs s) ln hd)) (fun x'=>Hint.ok (HKY s (ndF (MS.xs s) ln hd)) x'∧Hint.mu (HKY s (ndF (MS.xs s) ln hd)) x'<Hint.mu (HKY s (ndF (MS.xs s) ln hd)) x) (.ptr 0 0::.O::.O::.O::.O::.O::.O::.slice 2 0 (x.2.length+1) 1::.O::.O::.O::.O::.O::.O::.slice 3 0 (List.length (ndF s.3 ln hd)) 1::.I (↑(List.length (ndF s.3 ln hd)):Int)::.I (W ((↑x.1:Int)+1))::(tO' 17 [])) [w51 s,some (.ints (some .u64) s.3),iI' (x.2++ [aA (aF s.3 (List.getD (ndF s.3 ln hd) (0+Int.toNat (↑x.1:Int)*1) 0)) 0 10]),iI' (ndF s.3 ln hd)]else cW (HKY s (ndF (MS.xs s) ln hd)) (fun x'=>Hint.ok (HKY s (ndF (MS.xs s) ln hd)) x'∧Hint.mu (HKY s (ndF (MS.xs s) ln hd)) x'<Hint.mu (HKY s (ndF (MS.xs s) ln hd)) x) (.ptr 0 0::.O::.O::.O::.O::.O::.O::.slice 2 0 x.2.length 1::.O::.O::.O::.O::.O::.O::.slice 3 0 (List.length (ndF s.3 ln hd)) 1::.I (↑(List.length (ndF s.3 ln hd)):Int)::.I (W ((↑x.1:Int)+1))::(tO' 17 [])) [w51 s,some (.ints (some .u64) s.3),iI' x.2,iI' (ndF s.3 ln hd)]else K (.slice 2 0 x.2.length 1) [w51 s,some (.ints (some .u64) s.3),iI' x.2]
theorem O7(s:MS)(lt ln hd:Int)(K:AVal→aC Ob→Prop)(h:aCl s lt ln hd K):cT' 110 [.ptr 0 0,.agg [.I lt,.I ln],.I hd] [bD 1 s,bE s] K:=by
 exact aHp (aD (E:=EU4) Tryz.checked.mixed (L:=fun _ _=>some (.states (HKY s (ndF s.xs ln hd)))) (n:=10) (aK (by kernel_rfl) h))
theorem Q0{ns:List Int}{i:Nat}(hi:i<ns.length):ns.take (i+1)=ns.take i++ [ns.getD i 0]:=by
 rw [List.take_succ,gD',gE' hi];rfl
theorem ZI{xs ns:List Int}{i:Nat}(hi:i<ns.length)(h:(!ieq (aA (aF xs (ns.getD i 0)) 19 1) 1)=true):kyL xs (ns.take (i+1))=kyL xs (ns.take i)++ [aA (aF xs (ns.getD i 0)) 0 10]:=by
 unfold kyL;rw [Q0 hi,List.filter_append,List.map_append];simp only [List.filter_cons,List.filter_nil,h,if_true,List.map_cons,List.map_nil]
theorem aE0{xs ns:List Int}{i:Nat}(hi:i<ns.length)(h:(!ieq (aA (aF xs (ns.getD i 0)) 19 1) 1)=false):kyL xs (ns.take (i+1))=kyL xs (ns.take i):=by
 unfold kyL;rw [Q0 hi,List.filter_append,List.map_append];simp only [List.filter_cons,List.filter_nil,h,Bool.false_eq_true,if_false,List.map_nil,List.append_nil]
theorem HR(xs ns:List Int):(kyL xs ns).length ≤ns.length:=by
 unfold kyL;rw [List.length_map];exact List.length_filter_le _ _
def keyF(xs:List Int)(nd hd:Int):List Int:=kyL xs (ndF xs nd hd)
theorem iN(xs:List Int)(nd hd:Int):(keyF xs nd hd).length ≤nd.toNat+1:=Nat.le_trans (HR _ _) (HU _ _ _)
theorem aE1(s:MS)(lt ln hd:Int)(K:AVal→aC Ob→Prop)(h1:0≤ln∧ln≤100000)(h2: -1000000≤hd∧hd≤1000000)(hK:K (.slice 2 0 (keyF s.xs ln hd).length 1) [bD 1 s,bE s,iI' (keyF s.xs ln hd)]):aCl s lt ln hd K:=by
 have hlen:=HU s.xs ln hd;unfold keyF at hK;refine⟨⟨rfl,h1,h2⟩,aQ (H:=HKY s (ndF s.xs ln hd)) ((0:Nat),[]) rfl ⟨Nat.zero_le _,rfl⟩,?_⟩;have hlen':(ndF s.3 ln hd).length ≤ln.toNat+1:=hlen;generalize ndF s.xs ln hd=ns at hK hlen⊢;rintro⟨i,out⟩ ⟨hi,heq⟩;dsimp only at hi heq;subst heq;have hkl:(kyL s.xs (ns.take i)).length ≤i:=Nat.le_trans (HR _ _) (List.length_take_le _ _);refine aI (fun e=>?_) (fun e=>?_)
 ·rw [aU,dT']at e;have e:(i:Int)<(ns.length:Int):=e;have hil:i<ns.length:=by omega
  have e4:W ((i:Int)+1)=((i+1:Nat):Int):=by rw [W,cV (by omega)];rfl
  have e0:0+Int.toNat (i:Int)*1=i:=by omega
  have hk1:(kyL s.xs (ns.take i)).length +1≤4294967296:=by omega
  refine⟨⟨by show(0:Int)≤(i:Int);omega,e⟩,by show 0+Int.toNat (i:Int)*1<ns.length;omega,⟨rfl,trivial⟩,trivial,aI (fun e2=>⟨⟨rfl,rfl,rfl,hk1⟩,?_⟩) (fun e2=>?_)⟩
  ·have e2:(!ieq (aA (aF s.xs (ns.getD (0+Int.toNat (i:Int)*1) 0)) 19 1) 1)=true:=e2;rw [e0]at e2;refine aQ (H:=HKY s ns) (i+1,kyL s.xs (ns.take (i+1))) ?_ ⟨⟨hil,rfl⟩,by show ns.length - (i+1)<ns.length - i;omega⟩
   show((HKY s ns).st (i+1,kyL s.xs (ns.take (i+1))))=_;have hl:(kyL s.xs (ns.take (i+1))).length =(kyL s.xs (ns.take i)).length +1:=by rw [ZI hil e2];simp
   simp only [HKY,hl];rw [ZI hil e2];simp only [e4,e0];rfl
  ·have e2:(!ieq (aA (aF s.xs (ns.getD (0+Int.toNat (i:Int)*1) 0)) 19 1) 1)=false:=e2;rw [e0]at e2;refine aQ (H:=HKY s ns) (i+1,kyL s.xs (ns.take (i+1))) ?_ ⟨⟨hil,rfl⟩,by show ns.length - (i+1)<ns.length - i;omega⟩
   rw [aE0 hil e2];simp only [HKY,e4];rfl
 ·rw [aU,dF']at e;have e: ¬(i:Int)<(ns.length:Int):=e;have hil:i=ns.length:=by omega
  subst hil;rw [List.take_length];exact hK
def kyS:aH Ob:=fun args h=>match args,h with
 | [.ptr 0 0,.agg [.int .i64 lt,.int .i64 ln],.int .i64 hd],[e1,e2]=>(match cO 1 [e1,e2]with
   | some (l,s)=>some (.pre (l=s.xs.length∧(0≤ln∧ln≤100000)∧(-1000000≤hd∧hd≤1000000)) (.ret (.slice 2 0 (keyF s.xs ln hd).length 1) [bD 1 s,bE s,iI' (keyF s.xs ln hd)]))
   | none=>none)
 | _,_=>none
theorem ZJ:sT' 110 kyS:=by
 intro args h o ho K hK;unfold kyS at ho;split at ho
 case h_2=>cases ho
 rename_i lt ln hd e1 e2;split at ho<;>cases ho
 rename_i l s hm;obtain⟨⟨hl,h1,h2⟩,hK⟩:=hK;have hh:=bF hm hl;cases hh;exact O7 s lt ln hd K (aE1 s lt ln hd K h1 h2 hK)
noncomputable def EU5:=EU4.addS 110 kyS ZJ
end Go.Sh
namespace Go.Proofs
open Go.Shelf
def Tryz.lays189_ren:Go.Shelf.Ren:=⟨fun | 189=>111 | 125=>135 | 257=>134 | 128=>180 | 129=>181 | 294=>172 | 295=>173 | 296=>174 | 297=>175 | 298=>176 | 299=>177 | 216=>140 | 300=>178 | 301=>179 | 328=>236 | 329=>237 | 330=>238 | 331=>239 | 332=>240 | 215=>186 | 343=>276 | n=>n,fun | 28=>67 | 3=>3 | 46=>212 | 0=>0 | 51=>250 | 53=>72 | 4=>4 | 183=>244 | 182=>243 | 131=>195 | 5=>5 | 9=>9 | 218=>306 | 222=>309 | 228=>336 | 229=>337 | n=>n,fun | n=>n⟩
theorem Tryz.lays189:Go.Proofs.Lays.n189 Tryz.prog Tryz.lays189_ren:= {
 mixed:=by kernel_rfl,
 f125:=Tryz.func135.trans (congrArg some (by kernel_rfl)),
 f128:=Tryz.func180.trans (congrArg some (by kernel_rfl)),
 f129:=Tryz.func181.trans (congrArg some (by kernel_rfl)),
 f189:=Tryz.func111.trans (congrArg some (by kernel_rfl)),
 f215:=Tryz.func186.trans (congrArg some (by kernel_rfl)),
 f216:=Tryz.func140.trans (congrArg some (by kernel_rfl)),
 f257:=Tryz.func134.trans (congrArg some (by kernel_rfl)),
 f294:=Tryz.func172.trans (congrArg some (by kernel_rfl)),
 f295:=Tryz.func173.trans (congrArg some (by kernel_rfl)),
 f296:=Tryz.func174.trans (congrArg some (by kernel_rfl)),
 f297:=Tryz.func175.trans (congrArg some (by kernel_rfl)),
 f298:=Tryz.func176.trans (congrArg some (by kernel_rfl)),
 f299:=Tryz.func177.trans (congrArg some (by kernel_rfl)),
 f300:=Tryz.func178.trans (congrArg some (by kernel_rfl)),
 f301:=Tryz.func179.trans (congrArg some (by kernel_rfl)),
 f328:=Tryz.func236.trans (congrArg some (by kernel_rfl)),
 f329:=Tryz.func237.trans (congrArg some (by kernel_rfl)),
 f330:=Tryz.func238.trans (congrArg some (by kernel_rfl)),
 f331:=Tryz.func239.trans (congrArg some (by kernel_rfl)),
 f332:=Tryz.func240.trans (congrArg some (by kernel_rfl)),
 f343:=Tryz.func276.trans (congrArg some (by kernel_rfl)),
 t0:=Tryz.underlying0,
 a0:=Tryz.isAgg0,
 z0:=Tryz.sizeOf0,
 v0:=Tryz.zeroValue0,
 t3:=Tryz.underlying3,
 a3:=Tryz.isAgg3,
 z3:=Tryz.sizeOf3,
 v3:=Tryz.zeroValue3,
 t4:=Tryz.underlying4,
 a4:=Tryz.isAgg4,
 z4:=Tryz.sizeOf4,
 v4:=Tryz.zeroValue4,
 t5:=Tryz.underlying5,
 a5:=Tryz.isAgg5,
 z5:=Tryz.sizeOf5,
 v5:=Tryz.zeroValue5,
 t9:=Tryz.underlying9,
 a9:=Tryz.isAgg9,
 z9:=Tryz.sizeOf9,
 v9:=Tryz.zeroValue9,
 t28:=Tryz.underlying67,
 a28:=Tryz.isAgg67,
 z28:=Tryz.sizeOf67,
 v28:=Tryz.zeroValue67,
 t46:=Tryz.underlying212,
 a46:=Tryz.isAgg212,
 z46:=Tryz.sizeOf212,
 v46:=Tryz.zeroValue212,
 t51:=Tryz.underlying250,
 a51:=Tryz.isAgg250,
 z51:=Tryz.sizeOf250,
 v51:=Tryz.zeroValue250,
 t53:=Tryz.underlying72,
 a53:=Tryz.isAgg72,
 z53:=Tryz.sizeOf72,
 v53:=Tryz.zeroValue72,
 t131:=Tryz.underlying195,
 a131:=Tryz.isAgg195,
 z131:=Tryz.sizeOf195,
 v131:=Tryz.zeroValue195,
 t182:=Tryz.underlying243,
 a182:=Tryz.isAgg243,
 z182:=Tryz.sizeOf243,
 v182:=Tryz.zeroValue243,
 t183:=Tryz.underlying244,
 a183:=Tryz.isAgg244,
 z183:=Tryz.sizeOf244,
 v183:=Tryz.zeroValue244,
 t218:=Tryz.underlying306,
 a218:=Tryz.isAgg306,
 z218:=Tryz.sizeOf306,
 v218:=Tryz.zeroValue306,
 t222:=Tryz.underlying309,
 a222:=Tryz.isAgg309,
 z222:=Tryz.sizeOf309,
 v222:=Tryz.zeroValue309,
 t228:=Tryz.underlying336,
 a228:=Tryz.isAgg336,
 z228:=Tryz.sizeOf336,
 v228:=Tryz.zeroValue336,
 t229:=Tryz.underlying337,
 a229:=Tryz.isAgg337,
 z229:=Tryz.sizeOf337,
 v229:=Tryz.zeroValue337}
end Go.Proofs
namespace Go.Sh
open Go Go.Proofs
variable [Con]
def mM(xs:List Int):List Int:=xs.mergeSort fun x y=>decide (x≤y)
theorem oJ(xs:List Int):(mM xs).length =xs.length:=by unfold mM;exact List.length_mergeSort xs
theorem wA(ys:List Int)(cs:Array Value)(tail:List Value)(xs:List Int)(hl:ys.length=xs.length)(hcs:cs.toList=xs.map (Code1.val (some .i64))++tail):
 (Go.Sort.putCells (Value.int .i64) 0 ys.toArray cs).toList =ys.map (Code1.val (some .i64))++tail:=by
 apply List.ext_getElem?;intro k;rw [Array.getElem?_toList];unfold Go.Sort.putCells;rw [Array.getElem?_mapIdx];have hk:cs[k]? =(xs.map (Code1.val (some .i64))++tail)[k]? :=by rw [←hcs,Array.getElem?_toList]
 rw [hk]
 by_cases hlt:k<xs.length
 ·rw [List.getElem?_append_left (by rw [List.length_map];exact hlt),List.getElem?_append_left (by rw [List.length_map];omega),List.getElem?_map,List.getElem?_map,gE' hlt,gE' (by omega:k<ys.length)]
  have hc:0≤k∧k<0+ys.toArray.size:=by simp;omega
  simp only [Option.map_some];rw [if_pos hc]
  have:ys.toArray[k - 0]! =ys[k]'(by omega):=by
   rw [getElem!_pos ys.toArray (k - 0) (by simp;omega)];simp
  rw [this];rfl
 ·rw [List.getElem?_append_right (by rw [List.length_map];omega),List.getElem?_append_right (by rw [List.length_map];omega),List.length_map,List.length_map,hl]
  cases tail[k - xs.length]? with
  | none=>rfl
  | some y=>
    have hc: ¬(0≤k∧k<0+ys.toArray.size):=by simp;omega
    simp only [Option.map_some];rw [if_neg hc]
def srS:aH Ob:=fun args h=>match args,h with
 | [.slice 0 0 k 1],[some (.ints (some .i64) xs)]=>some (.pre (k=xs.length∧k≤1000000) (.ret (.tup []) [some (.ints (some .i64) (mM xs))]))
 | _,_=>none
theorem Z0:sT' 111 srS:=by
 intro args h o ho K hK;unfold srS at ho;split at ho<;>cases ho
 rename_i k xs;obtain⟨⟨rfl,hk⟩,hK⟩:=hK;have hK:K (.tup []) [some (.ints (some .i64) (mM xs))]:=hK;intro V hR w args' hi hf hr;obtain⟨v,vs,e,⟨base,cap,rfl,hcap,hb⟩,e2⟩:=hr;have e2:vs=[]:=e2;subst e2;have ha:args'= #[.slice base xs.length cap]:=by apply Array.ext';simpa using e
 subst ha
 by_cases hx:xs=[]
 ·subst hx;refine(Go.Proofs.Any.slices_Sort_int_none Go.Proofs.Tryz.lays189 base cap w).mono ?_;rintro e w' ⟨rfl,rfl⟩;exact⟨.tup [],.tuple #[],V,_,hK,rfl,⟨#[],rfl,rfl⟩,V.le_refl,hf,Nat.le_refl _,(by rw [show mM []=[]from by simp [mM]];exact hi),aHN _⟩
 ·have hpos:0<xs.length:=List.length_pos_iff.2 hx;obtain⟨hs,h1,h2,h3,h4,h5,h6,h7⟩:=hi;rcases h1 0 _ rfl with⟨q,_⟩ | ⟨b,k,hV,cs,T,tail,hone,hsz,hcs⟩
  ·exact absurd q hx
  rcases hb with⟨b',k',hV',rfl,hle⟩ | ⟨hn,_⟩
  case inr=>omega
  rw [hV]at hV';simp only [sI',pI']at hV';obtain⟨rfl,rfl⟩:=hV';have hwb:w.heap[b]? =some (.cells cs T):=h5 0 b _ (by rw [hone];simp [PHeap.one])
  have hbl:b<w.heap.size:=(Array.getElem?_eq_some_iff.1 hwb).1
  have hH:Go.Sort.Holds (Value.int .i64) w b 0 xs.toArray:=by
   intro j hj;have hj:j<xs.length:=by simpa using hj
   constructor
   ·have:cs[j]? =some (.int .i64 xs[j]):=by
     rw [←Array.getElem?_toList,hcs,List.getElem?_append_left (by rw [List.length_map];exact hj),List.getElem?_map,gE' hj];rfl
    have h0:xs.toArray[j]! =xs[j]:=by rw [getElem!_pos xs.toArray j (by simpa using hj)];simp
    simp only [World.cell?,hwb,Nat.zero_add,h0];exact this
   ·simp [World.frozen?,hwb]
  have hwe:w.heap.size=w.heap.size:=rfl;have hcall:=Go.Proofs.Any.slices_Sort_int Go.Proofs.Tryz.lays189 b 0 cap xs w hH hbl (by omega)
  refine hcall.mono ?_;rintro e w' ⟨rfl,n,os,rfl⟩;have hys:(xs.mergeSort fun x y=>decide (x≤y))=mM xs:=rfl;rw [hys];have hyl:=oJ xs;generalize hyg:mM xs=ys at hK hyl;have hcl:=wA ys cs tail xs hyl hcs;generalize hcg:Go.Sort.putCells (Value.int .i64) 0 ys.toArray cs=cs2 at hcl
  have hw2b:(Go.Sort.putRow (Value.int .i64) (Go.Sort.ahead w n) b 0 ys.toArray).heap[b]? =some (.cells cs2 T):=by
   unfold Go.Sort.putRow Go.Sort.mapBlock;show(w.heap.modify b _)[b]? =_;rw [Array.getElem?_modify,if_pos rfl,hwb,←hcg];rfl
  have hw2o: ∀c,c≠b→(Go.Sort.putRow (Value.int .i64) (Go.Sort.ahead w n) b 0 ys.toArray).heap[c]? =w.heap[c]? :=by
   intro c hc;unfold Go.Sort.putRow Go.Sort.mapBlock;show(w.heap.modify b _)[c]? =_;rw [Array.getElem?_modify,if_neg (fun e=>hc e.symm)]
  have hsz2:(Go.Sort.putRow (Value.int .i64) (Go.Sort.ahead w n) b 0 ys.toArray).heap.size =w.heap.size:=by
   unfold Go.Sort.putRow Go.Sort.mapBlock;show(w.heap.modify b _).size =_;exact Array.size_modify
  have hos:(Go.Sort.putRow (Value.int .i64) (Go.Sort.ahead w n) b 0 ys.toArray).os =w.os:=rfl;have hout:(Go.Sort.putRow (Value.int .i64) (Go.Sort.ahead w n) b 0 ys.toArray).output =w.output:=rfl;generalize Go.Sort.putRow (Value.int .i64) (Go.Sort.ahead w n) b 0 ys.toArray=w2 at hw2b hw2o hsz2 hos hout;have hg: ∀c,c<w.heap.size→(Go.Sort.grow w2 os).heap[c]? =w2.heap[c]? :=fun c hc=>Go.Sort.heap_grow_old w2 os (by omega)
  have hlt: ∀(c:Nat) (o:Obj),w.heap[c]? =some o→c<w.heap.size:=fun c o h=>(Array.getElem?_eq_some_iff.1 h).1
  have hRb:hR b=none:=by
   rcases h4 0 b with q | q
   ·rw [hone]at q;simp [PHeap.one]at q
   ·exact q
  have hemp: ∀l,l≠0→hs l=.emp :=by
   intro l hl;refine h2 l ?_;cases l with
   | zero=>exact absurd rfl hl
   | succ l=>simp [toF,aO]
  refine⟨.tup [],.tuple #[],V,_,hK,rfl,⟨#[],rfl,rfl⟩,V.le_refl,hf,Nat.le_refl _,⟨fun l=>if l=0 then .one b (.cells cs2 T)else .emp,?_,?_,?_,?_,?_,?_,h7⟩,⟨hos,hout,by simp;omega,?_⟩⟩
  ·intro l e he;cases l with
   | zero=>
     have he:some (aJ.ints (some .i64) ys)=some e:=he;cases he;refine .inr ⟨b,k,hV,cs2,T,tail,by simp,?_,hcl⟩
     rw [←hsz,←Array.length_toList,←Array.length_toList,hcl,hcs];simp [hyl]
   | succ l=>simp [toF,aO]at he
  ·intro l hl;cases l with
   | zero=>exact absurd hl (by simp [toF,aO])
   | succ l=>simp
  ·intro l m hlm c
   by_cases hl:l=0
   ·subst hl;right;simp [Ne.symm hlm,PHeap.emp]
   ·left;simp [hl,PHeap.emp]
  ·intro l c
   by_cases hl:l=0
   ·subst hl
    by_cases hc:c=b
    ·right;rw [hc];exact hRb
    ·left;simp [PHeap.one,hc]
   ·left;simp [hl,PHeap.emp]
  ·intro l c o hc
   by_cases hl:l=0
   ·subst hl;have hc:PHeap.one b (.cells cs2 T) c=some o:=hc
    by_cases hcb:c=b
    ·subst hcb;rw [hg c hbl,hw2b]
     simpa [PHeap.one]using hc
    ·simp [PHeap.one,hcb]at hc
   ·simp [hl,PHeap.emp]at hc
  ·intro c o hc;have hw:=h6 c o hc;have hcb:c≠b:=by intro e;rw [e,hRb]at hc;cases hc
   rw [hg c (hlt c o hw),hw2o c hcb];exact hw
  ·intro a ha;have h1:(Go.Sort.grow w2 os).frozen? a=w2.frozen? a:=Go.Sort.frozen?_grow w2 os a (by omega)
   rw [h1];unfold World.frozen?
   by_cases hab:a.block=b
   ·rw [hab,hw2b,hwb]
   ·rw [hw2o _ hab]
noncomputable def EU6:=EU5.addS 111 srS Z0
end Go.Sh
