import Derived.RangeFuncLeaves
import Derived.Test.YteindpciaceeeaaGreatZSh34
set_option linter.all false
set_option maxHeartbeats 8000000
namespace Go.Sh
open Go Go.Proofs
variable [Con]
structure rowOk (row:Nat→List AVal):Prop where
 h: ∃th tm:Nat→Int,row=fun i=>[.int .i64 (th i),.int .i64 (tm i)]
theorem bW.putD{w:World}{l:Nat}{d d':Option (List Deferred)}(h:w.heap[l]? =some (.deferred d)):bW w (w.putObj l (.deferred d')):=by
 have hlt:l<w.heap.size:=(Array.getElem?_eq_some_iff.1 h).1;refine⟨rfl,rfl,?_,?_⟩
 ·show w.heap.size≤(w.heap.setIfInBounds l _).size
  simp
 ·intro a _;unfold World.frozen?
  by_cases e:a.block=l
  ·rw [e,h,World.putObj_heap_same hlt]
  ·rw [World.putObj_heap_other e]
noncomputable def EUa:=EU9
noncomputable def EUb:=EUa
theorem sB{a b:Int}(h:ilt a b=true):a<b:=by rw [a8]at h;exact of_decide_eq_true h
theorem pS{a b:Int}(h:ilt a b=false): ¬a<b:=by rw [a8]at h;exact of_decide_eq_false h
noncomputable def EUc:=EUb
theorem VJ{sh th nd tr:Int}{m:Nat}{ln:Nat→Nat}{f g:Nat→Nat→Int}(h:gnC sh th nd tr m ln f g=0):wrE sh th nd tr=0:=by
 unfold gnC at h;cases h1:ieq (wrE sh th nd tr) 0 with
 | true=>exact fY h1
 | false=>rw [h1]at h;exact h
theorem ZK{sh th nd tr:Int}{m:Nat}{ln:Nat→Nat}{f g:Nat→Nat→Int}(h:gnC sh th nd tr m ln f g=0):lgB th m ln=false:=by
 have h0:=VJ h;unfold gnC at h;rw [h0]at h;cases e:lgB th m ln with
 | false=>rfl
 | true=>rw [e]at h;exact absurd (show(6:Int)=0 from h) (by decide)
theorem ZL{sh th nd tr:Int}{m:Nat}{ln:Nat→Nat}{f g:Nat→Nat→Int}(h:gnC sh th nd tr m ln f g=0){i:Nat}(hi:i<m):ln i≤40:=by
 have h1:=ZK h;unfold lgB at h1;rw [Bool.or_eq_false_iff]at h1;have h2:=List.any_eq_false.1 h1.1 i (List.mem_range.2 hi)
 simpa using h2
theorem IR(k:Nat):TP (List.replicate k 0):=by
 refine⟨fun x hx=>?_⟩;rw [List.eq_of_mem_replicate hx];exact⟨by decide,by decide⟩
theorem UR{sh th nd tr:Int}{m:Nat}{ln:Nat→Nat}{f g:Nat→Nat→Int}(h:gnC sh th nd tr m ln f g=0){j:Nat}(hj:(j:Int)<th)(hth:th≤8):UT th nd 0 (cY sh th nd m ln f g j):=by
 have hl:((bif ilt (j:Int) (m:Int)then ofR sh (ln j) (f j) (g j)else []).length :Int)≤40:=by
  cases e:ilt (j:Int) (m:Int)with
  | false=>exact(by decide:((0:Nat):Int)≤40)
  | true=>
    rw [a8,dT']at e;have h1:=ZL h (i:=j) (by omega)
    show((ofR sh (ln j) (f j) (g j)).length :Int)≤40;unfold ofR;cases gM sh (ln j) (f j) (g j)with
    | false=>exact(by decide:((0:Nat):Int)≤40)
    | true=>show((kA sh (ln j) (f j) (g j)).length :Int)≤40;rw [o8];omega
 unfold cY;generalize (bif ilt (j:Int) (m:Int)then ofR sh (ln j) (f j) (g j)else [])=tk at hl⊢;exact⟨rfl,rfl,⟨⟨by show(0:Int)≤(j:Int);omega,by show(j:Int)≤1000;omega⟩,rA,(by decide:((0:Nat):Int)≤0)⟩,fun e=>Bool.noConfusion e,(by decide:(0:Int)≤0),by show(0:Int)≤(tk.length:Int);omega,rfl,(by decide:((0:Nat):Int)≤0),by show(tk.length:Int)≤100000;omega⟩
theorem RC{sh th nd tr:Int}{m:Nat}{ln:Nat→Nat}{f g:Nat→Nat→Int}(h:gnC sh th nd tr m ln f g=0):egW th nd (pK sh th nd tr m ln f g):=by
 have h0:=VJ h;obtain⟨_,_,⟨t0,t1,n0,n1⟩,_⟩:=WG (by rw [b8,h0];rfl)
 refine⟨⟨t0,t1⟩,⟨n0,by omega⟩,rfl,rfl,rfl,rfl,⟨(by decide:(0:Int)≤0),(by decide:(0:Int)≤60000)⟩,rfl,IR _,?_,?_,?_⟩
 ·show(((List.range th.toNat).map _).length :Int)=th;rw [List.length_map,List.length_range];omega
 ·intro i hi;have hi:i<((List.range th.toNat).map (cY sh th nd m ln f g)).length :=hi;rw [List.length_map,List.length_range]at hi
  have e:bX (pK sh th nd tr m ln f g).ws i=cY sh th nd m ln f g i:=by
   show bX ((List.range th.toNat).map (cY sh th nd m ln f g)) i=_;unfold bX;rw [gD',List.getElem?_map,List.getElem?_range hi];rfl
  rw [e];exact UR h (by omega) t1
 ·refine⟨(by decide:((0:Nat):Int)≤2*0),(by decide:((0:Nat):Int)≤0),?_,?_,?_,?_,?_,?_,?_,?_⟩<;>exact⟨(by decide:(0:Int)≤0),(by decide:(0:Int)≤((0:Nat):Int))⟩
theorem W1{i:Nat}{m:Nat}(hi:i<m)(hm:m≤1000000):W ((i:Int)+1)=((i+1:Nat):Int):=by
 have:=cU (x:=(i:Int)+1) ⟨by omega,by omega⟩
 exact this.trans (by omega)
noncomputable def EUd:=EUc
end Go.Sh
