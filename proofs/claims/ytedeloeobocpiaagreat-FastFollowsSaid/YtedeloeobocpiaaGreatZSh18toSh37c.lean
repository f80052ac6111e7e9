import Derived.WideKeyArgs
import Derived.OpenShut
import Derived.RangeFuncRecord
import Derived.Below
import Derived.Test.YtedeloeobocpiaaGreatZSh14toSh22
set_option linter.all false
set_option maxHeartbeats 8000000
namespace Go.Sh
open Go
inductive Shp where
 | code (c:Code1)
 | str
 | ints (c:Code1)
 | rows (r:List Shp)
mutual
def S4:Shp→Type
 | .code _=>Int
 | .str =>ByteArray
 | .ints _=>List Int
 | .rows r=>List (DenL r)
def DenL:List Shp→Type
 | []=>Unit
 | s::r=>S4 s×DenL r
end
mutual
def UZ:(s:Shp)→S4 s
 | .code _=>(0:Int)
 | .str =>ByteArray.empty
 | .ints _=>([]:List Int)
 | .rows r=>([]:List (DenL r))
def JU:(r:List Shp)→DenL r
 | []=>()
 | s::r=>(UZ s,JU r)
end
mutual
def TD:(s:Shp)→S4 s→AVal
 | .code c,n=>Code1.aval c n
 | .str,s=>.str s
 | .ints c,xs=>.iview c xs
 | .rows r,xs=>.view (List.length (α:=DenL r) xs) r.length (fun i=>gP r (List.getD (α:=DenL r) xs i (JU r)))
def gP:(r:List Shp)→DenL r→List AVal
 | [],_=>[]
 | s::r,x=>TD s x.1::gP r x.2
end
def oU:Code1→Int→Prop
 | some k,n=>(Lit.int k n).wf =true
 | none,n=>n=0∨n=1
mutual
def VO:(s:Shp)→S4 s→Prop
 | .code c,n=>oU c n
 | .str,s=>ByteArray.size s≤maxLen
 | .ints c,xs=>List.length (α:=Int) xs≤maxLen∧ ∀x:Int,List.Mem x xs→oU c x
 | .rows r,xs=>List.length (α:=DenL r) xs≤maxLen∧ ∀x:DenL r,List.Mem x xs→DH r x
def DH:(r:List Shp)→DenL r→Prop
 | [],_=>True
 | s::r,x=>VO s x.1∧DH r x.2
end
def hZ(P:Program)(rec:TypeId→Option (List Shp)):Nat→List Field→Option (List Shp)
 | _,[]=>some []
 | off,f::fs=>match rec f.type with
   | some r=>if f.offset=off∧P.cellsOf f.type=r.length then(hZ P rec (off+r.length) fs).map (r++ ·)else none
   | none=>none
def IJ(P:Program):Nat→TypeId→Option (List Shp)
 | 0,_=>none
 | d+1,t=>match P.underlying t with
   | some .bool =>some [.code none]
   | some (.int k)=>some [.code (some k)]
   | some .string =>some [.str]
   | some (.slice e)=>match IJ P d e with
     | some [.code c]=>if P.cellsOf e=1 then some [.ints c]else none
     | some r=>if P.cellsOf e=r.length∧0<r.length then some [.rows r]else none
     | none=>none
   | some (.struct fs)=>match hZ P (IJ P d) 0 fs.toList with
     | some r=>if P.cellsOf t=r.length then some r else none
     | none=>none
   | some (.array n e)=>match IJ P d e with
     | some r=>if P.cellsOf e=r.length∧P.cellsOf t=n*r.length then some ((List.replicate n r).flatten)else none
     | none=>none
   | _=>none
theorem p8: ∀(r:List Shp) (x:DenL r),(gP r x).length =r.length
 | [],_=>rfl
 | s::r,x=>by show(TD s x.1::gP r x.2).length =_;simp [p8 r x.2]
def CI:(r q:List Shp)→DenL r→DenL q→DenL (r++q)
 | [],_,_,y=>y
 | _::r,q,x,y=>(x.1,CI r q x.2 y)
theorem sC: ∀(r q:List Shp) (x:DenL r) (y:DenL q),gP (r++q) (CI r q x y)=gP r x++gP q y
 | [],_,_,_=>rfl
 | s::r,q,x,y=>by
   show TD s x.1::gP (r++q) (CI r q x.2 y)=TD s x.1::(gP r x.2++gP q y)
   rw [sC r q]
theorem vD: ∀(r q:List Shp) (x:DenL r) (y:DenL q),DH r x→DH q y→DH (r++q) (CI r q x y)
 | [],_,_,_,_,h=>h
 | s::r,q,x,y,hx,hy=>⟨hx.1,vD r q x.2 y hx.2 hy⟩
theorem lB{α:Type}{p:Nat→α→Prop} : ∀(n:Nat),(∀i,i<n→ ∃x,p i x)→ ∃l:List α,l.length=n∧ ∀i (h:i<l.length),p i l[i]
 | 0,_=>⟨[],rfl,fun i h=>by simp at h⟩
 | n+1,h=>by
   obtain⟨l,h1,h2⟩:=lB n (fun i hi=>h i (by omega))
   obtain⟨x,hx⟩:=h n (by omega)
   refine⟨l++ [x],by simp [h1],?_⟩
   intro i hi
   by_cases hc:i<l.length
   ·rw [List.getElem_append_left hc];exact h2 i hc
   ·have:i=n:=by simp at hi;omega
    subst this
    rw [List.getElem_append_right (by omega)]
    simpa [h1]using hx
section
variable {H:Type} {enc:TypeId×Value→H} {P:Program} {w:World}
theorem add_zero(a:Addr):a.add 0=a:=by simp [Addr.add]
theorem sV(a:Addr)(n:Nat):(a.add n).block =a.block:=by unfold Addr.add;split<;>rfl
theorem BB(a:Addr)(n:Nat):(a.add n).off =a.off+n:=by
 unfold Addr.add
 split<;>simp_all
theorem oG{a:Addr}{n:Nat}{cs:List Value}(h:w.cells? 0 a n=some cs)(hn:0<n):
 ∃c T fz,a.spot=none∧w.heap[a.block]? =some (.cells c T fz)∧(c.toList.drop a.off).take n=cs:=by
 obtain⟨_,hl,hc⟩:=World.cells?_some h
 have h0:=hc 0 hn
 obtain⟨v0,hv0⟩: ∃v,cs[0]? =some v:=⟨cs[0],gE' (by omega)⟩
 rw [hv0]at h0
 have ha0:a.add 0=a:=by simp [Addr.add]
 rw [ha0]at h0
 have hs:=World.cell?_spot h0
 obtain⟨b,off,sp⟩:=a
 simp only at hs
 subst hs
 unfold World.cell? at h0
 split at h0
 ·rename_i c T fz hb
  refine⟨c,T,fz,rfl,hb,?_⟩
  apply List.ext_getElem?
  intro j
  rw [List.getElem?_take]
  by_cases hj:j<n
  ·rw [if_pos hj,List.getElem?_drop,←hc j hj,Addr.add_lit,Array.getElem?_toList]
   exact(cell_of_row w b (off+j) c T fz hb).symm
  ·rw [if_neg hj,List.getElem?_eq_none (by omega)]
 ·cases h0
theorem FH{V:Val} [Con]{r:List Shp}{x:DenL r}{c:Code1}{cs:List Value}(hr:r=[.code c])(h:aH V (gP r x) cs)(ho:DH r x): ∃n,cs=[Code1.val c n]∧oU c n:=by
 subst hr
 obtain⟨v,vs,rfl,h1,h2⟩:=h
 have h2':vs=[]:=h2
 subst h2'
 refine⟨x.1,?_,ho.1⟩
 have h1':Rep V (Code1.aval c x.1) v:=h1
 cases c with
 | some k=>have:v=.int k x.1:=h1';rw [this];rfl
 | none=>have:v=Code1.val none x.1:=h1';rw [this]
theorem mN [Con]{rec:TypeId→Option (List Shp)}{cs:List Value}{rd:TypeId→List Value→Prop}
 (hrec: ∀t r l,rec t=some r→rd t l→ ∃x:DenL r,DH r x∧aH (fun _=>none) (gP r x) l):
 ∀(fs:List Field) (off:Nat) (r:List Shp),hZ P rec off fs=some r→off+r.length≤cs.length→(∀f∈fs,rd f.type ((cs.drop f.offset).take (P.cellsOf f.type)))→
  ∃x:DenL r,DH r x∧aH (fun _=>none) (gP r x) ((cs.drop off).take r.length)
 | [],off,r,h,_,_=>by
   simp [hZ]at h;subst h
   exact⟨(),trivial,by simp [gP,aH]⟩
 | f::fs,off,r,h,hl,hrd=>by
   simp only [hZ]at h
   cases hf:rec f.type with
   | none=>rw [hf]at h;cases h
   | some q=>
     rw [hf]at h
     simp only at h
     split at h
     ·rename_i hc
      obtain⟨ho,hq⟩:=hc
      cases hfs:hZ P rec (off+q.length) fs with
      | none=>rw [hfs]at h;cases h
      | some r'=>
        rw [hfs]at h
        simp at h;subst h
        rw [List.length_append]at hl
        obtain⟨x,ox,rx⟩:=hrec f.type q _ hf (hrd f (by simp))
        obtain⟨y,oy,ry⟩:=mN hrec fs _ r' hfs (by omega) (fun g hg=>hrd g (by simp [hg]))
        refine⟨CI q r' x y,vD q r' x y ox oy,?_⟩
        rw [sC,List.length_append,List.take_add,List.drop_drop]
        rw [ho,hq]at rx
        exact aH.append rx ry
     ·cases h
theorem nP [Con]{P':List Value→Prop}{r:List Shp}(hr: ∀l,P' l→ ∃x:DenL r,DH r x∧aH (fun _=>none) (gP r x) l):
 ∀(n:Nat) (cs:List Value),cs.length=n*r.length→(∀i,i<n→P' ((cs.drop (i*r.length)).take r.length))→
  ∃x:DenL ((List.replicate n r).flatten),DH _ x∧aH (fun _=>none) (gP _ x) cs
 | 0,cs,hl,_=>by
   have:cs=[]:=List.length_eq_zero_iff.1 (by omega)
   subst this
   exact⟨(),trivial,by simp [gP,aH]⟩
 | n+1,cs,hl,h=>by
   obtain⟨x,ox,rx⟩:=hr _ (h 0 (by omega))
   rw [Nat.zero_mul,List.drop_zero]at rx
   obtain⟨y,oy,ry⟩:=nP hr n (cs.drop r.length) (by rw [List.length_drop,hl,Nat.succ_mul];omega) (by
    intro i hi
    have:=h (i+1) (by omega)
    rw [List.drop_drop]
    rw [show r.length+i*r.length=(i+1)*r.length from by rw [Nat.succ_mul];omega]
    exact this)
   refine⟨CI r _ x y,vD r _ x y ox oy,?_⟩
   show aH _ (gP (r++(List.replicate n r).flatten) _) cs
   rw [sC]
   have:=aH.append rx ry
   rwa [List.take_append_drop]at this
theorem IY [Con](hcon: ∀b o,w.heap[b]? =some o→Con.con b=some o): ∀(m n:Nat) (t:TypeId) (cs:List Value) (x:DataW H×List MemPlace) (held:Bool) (r:List Shp),
 DataW.trod enc P w 0 (fun _=>true) held n t cs=some x→IJ P m t=some r→ ∃x:DenL r,DH r x∧aH (fun _=>none) (gP r x) cs:=by
 intro m
 induction m with
 | zero=>intro n t cs x held r _ h;simp [IJ]at h
 | succ m ih=>
   intro n t cs x held r h hs
   unfold IJ at hs
   split at hs
   ·rename_i ht
    obtain⟨b,rfl,_⟩:=DataW.trod_bool ht h
    simp at hs;subst hs
    refine⟨((cond b 1 0:Int),()),⟨?_,trivial⟩,?_⟩
    ·show(cond b 1 0:Int)=0∨(cond b 1 0:Int)=1
     cases b<;>simp
    ·refine⟨.bool b,[],rfl,?_,rfl⟩
     show Value.bool b=.bool ((cond b 1 0:Int) !=0)
     cases b<;>rfl
   ·rename_i k ht
    obtain⟨v,rfl,_,hw⟩:=DataW.trod_int ht h
    simp at hs;subst hs
    exact⟨(v,()),⟨hw,trivial⟩,.int k v,[],rfl,rfl,rfl⟩
   ·rename_i ht
    obtain⟨s,rfl,_,hw⟩:=DataW.trod_string ht h
    simp at hs;subst hs
    exact⟨(s,()),⟨hw,trivial⟩,.string s,[],rfl,rfl,rfl⟩
   ·rename_i e ht
    have sl:=DataW.trod_slice ht h
    split at hs
    ·rename_i c he
     split at hs
     case isFalse=>cases hs
     rename_i hce
     simp at hs;subst hs
     rcases sl with⟨rfl,_⟩ | ⟨a,len,cap,elems,rest,k,_,rfl,_,_,h1,h2,h3,h4,_⟩
     ·refine⟨(([]:List Int),()),⟨⟨Nat.zero_le _,fun x h=>by cases h⟩,trivial⟩,.slice none 0 0,[],rfl,?_,rfl⟩
      exact⟨none,0,rfl,Nat.le_refl _,.inr rfl⟩
     ·have hel: ∀i,i<len→ ∃v:Int,oU c v∧ ∃c' T fz,(i=0→a.spot=none)∧w.heap[a.block]? =some (.cells c' T fz)∧(c'.toList.drop (a.off+i)).take 1=[Code1.val c v]:=by
       intro i hi
       have hb:=h4 i hi
       rw [hce,Nat.mul_one]at hb
       cases hc:w.cells? 0 (a.add i) 1 with
       | none=>rw [hc,gE' (by omega)]at hb;cases hb
       | some l=>
         rw [hc,gE' (by omega)]at hb
         simp only [Option.bind_some]at hb
         obtain⟨y,oy,ry⟩:=ih k e l _ held [.code c] hb he
         obtain⟨v,rfl,hv⟩:=FH rfl ry oy
         obtain⟨c',T,fz,q1,q2,q3⟩:=oG hc (by omega)
         have e1:(a.add i).block =a.block:=sV a _
         rw [e1]at q2
         have e2:(a.add i).off =a.off+i:=BB a i
         rw [e2]at q3
         exact⟨v,hv,c',T,fz,fun h0=>by subst h0;rw [add_zero]at q1;exact q1,q2,q3⟩
      obtain⟨xs,hxl,hx⟩:=lB len hel
      refine⟨(xs,()),⟨⟨by show xs.length≤_;omega,?_⟩,trivial⟩,.slice (some a) len cap,[],rfl,?_,rfl⟩
      ·intro v hv
       obtain⟨i,hi,rfl⟩:=List.getElem_of_mem hv
       exact(hx i hi).1
      ·show Rep _ (.iview c xs) _
       refine⟨some a,cap,by rw [hxl],by rw [hxl];exact h1,?_⟩
       by_cases h0:len=0
       ·right;exact List.length_eq_zero_iff.1 (by omega)
       ·left
        obtain⟨_,c',T,fz,q1,q2,_⟩:=hx 0 (by omega)
        obtain⟨b,off,sp⟩:=a
        simp only at q1 q2;have q1:=q1 trivial;subst q1
        refine⟨b,off,c',T,fz,rfl,hcon _ _ q2,(c'.toList.drop off).drop len,?_⟩
        have:xs.map (Code1.val c)=(c'.toList.drop off).take len:=by
         apply List.ext_getElem?
         intro i
         rw [List.getElem?_map,List.getElem?_take]
         by_cases hi:i<len
         ·rw [if_pos hi,gE' (by omega)]
          obtain⟨_,c2,T2,fz2,_,p2,p3⟩:=hx i (by omega)
          simp only at p2 p3
          rw [q2]at p2
          simp only [sI',Obj.cells.injEq]at p2
          obtain⟨rfl,_⟩:=p2
          have:=congrArg (fun l=>l[0]?) p3
          simp only [List.getElem?_take,List.getElem?_drop]at this
          rw [List.getElem?_drop]
          simpa using this.symm
         ·rw [if_neg hi,List.getElem?_eq_none (by omega)];rfl
        rw [this,List.take_append_drop]
    ·rename_i q hq he
     split at hs
     case isFalse=>cases hs
     rename_i hce
     simp at hs;subst hs
     rcases sl with⟨rfl,_⟩ | ⟨a,len,cap,elems,rest,k,_,rfl,_,_,h1,h2,h3,h4,_⟩
     ·refine⟨(([]:List (DenL q)),()),⟨⟨Nat.zero_le _,fun x h=>by cases h⟩,trivial⟩,.slice none 0 0,[],rfl,?_,rfl⟩
      exact⟨none,0,rfl,Nat.le_refl _,.inr rfl⟩
     ·have hel: ∀i,i<len→ ∃y:DenL q,DH q y∧ ∃c' T fz,(i=0→a.spot=none)∧w.heap[a.block]? =some (.cells c' T fz)∧aH (fun _=>none) (gP q y) ((c'.toList.drop (a.off+i*q.length)).take q.length):=by
       intro i hi
       have hb:=h4 i hi
       rw [hce.1]at hb
       cases hc:w.cells? 0 (a.add (i*q.length)) q.length with
       | none=>rw [hc,gE' (by omega)]at hb;cases hb
       | some l=>
         rw [hc,gE' (by omega)]at hb
         simp only [Option.bind_some]at hb
         obtain⟨y,oy,ry⟩:=ih k e l _ held q hb he
         obtain⟨c',T,fz,q1,q2,q3⟩:=oG hc hce.2
         have e1:(a.add (i*q.length)).block =a.block:=sV a _
         rw [e1]at q2
         have e2:(a.add (i*q.length)).off =a.off+i*q.length:=BB a _
         rw [e2]at q3
         exact⟨y,oy,c',T,fz,fun h0=>by subst h0;rw [Nat.zero_mul,add_zero]at q1;exact q1,q2,by rw [q3];exact ry⟩
      obtain⟨xs,hxl,hx⟩:=lB len hel
      refine⟨(xs,()),⟨⟨by show xs.length≤_;omega,?_⟩,trivial⟩,.slice (some a) len cap,[],rfl,?_,rfl⟩
      ·intro v hv
       obtain⟨i,hi,rfl⟩:=List.getElem_of_mem hv
       exact(hx i hi).1
      ·show Rep _ (.view xs.length q.length fun i=>gP q (xs.getD i (JU q))) _
       refine⟨some a,cap,by rw [hxl],by rw [hxl];exact h1,?_⟩
       by_cases h0:len=0
       ·right;omega
       ·left
        obtain⟨_,c',T,fz,q1,q2,_⟩:=hx 0 (by omega)
        obtain⟨b,off,sp⟩:=a
        simp only at q1 q2;have q1:=q1 trivial;subst q1
        refine⟨b,off,c',T,fz,rfl,hcon _ _ q2,?_⟩
        intro i hi
        refine⟨p8 _ _,?_⟩
        show aH _ (gP q (xs.getD i (JU q))) _
        rw [gD',gE' hi]
        obtain⟨_,c2,T2,fz2,_,p2,p3⟩:=hx i hi
        simp only at p2 p3
        rw [q2]at p2
        simp only [sI',Obj.cells.injEq]at p2
        obtain⟨rfl,_⟩:=p2
        exact p3
    ·cases hs
   ·rename_i fs ht
    split at hs
    ·rename_i q hq
     split at hs
     case isFalse=>cases hs
     rename_i hct
     simp at hs;subst hs
     obtain⟨xs,k,_,_,hl,hxl,hf⟩:=DataW.trod_struct ht h
     obtain⟨y,oy,ry⟩:=mN (P:=P) (cs:=cs) (rec:=IJ P m) (rd:=fun t l=> ∃z,DataW.trod enc P w 0 (fun _=>true) held k t l=some z)
      (fun t r l ht' ⟨z,hz⟩=>ih k t l z held r hz ht') fs.toList 0 q hq (by omega) (by
        intro f hf'
        obtain⟨i,hi,rfl⟩:=List.getElem_of_mem hf'
        have hi':i<fs.size:=by simpa using hi
        have:=hf i fs[i] (Array.getElem?_eq_getElem hi')
        rw [gE' (by omega)]at this
        exact⟨_,by simpa using this⟩)
     refine⟨y,oy,?_⟩
     rw [List.drop_zero,List.take_of_length_le (by omega)]at ry
     exact ry
    ·cases hs
   ·rename_i k e ht
    split at hs
    ·rename_i q hq
     split at hs
     case isFalse=>cases hs
     rename_i hce
     simp at hs;subst hs
     obtain⟨xs,j,_,_,hl,hxl,hf⟩:=DataW.trod_array ht h
     refine nP (P':=fun l=> ∃z,DataW.trod enc P w 0 (fun _=>true) held j e l=some z) (r:=q) (fun l ⟨z,hz⟩=>ih j e l z held q hz hq) k cs (by omega) ?_
     intro i hi
     have:=hf i hi
     rw [hce.1,gE' (by omega)]at this
     exact⟨_,this⟩
    ·cases hs
   ·cases hs
end
end Go.Sh
namespace Go.Sh
open Go Go.ChangeShapes Go.RowKit
def qQ(P:Program):List TypeId→Option (List (Bool×List Shp))
 | []=>some []
 | t::ts=>match eF P t,IJ P 40 t,qQ P ts with
   | some b,some r,some l=>if b=true∨r.length=1 then some ((b,r)::l)else none
   | _,_,_=>none
def DenA:List (Bool×List Shp)→Type
 | []=>Unit
 | (_,r)::l=>DenL r×DenA l
def pF:(l:List (Bool×List Shp))→DenA l→List AVal
 | [],_=>[]
 | (true,r)::l,x=>.agg (gP r x.1)::pF l x.2
 | (false,r)::l,x=>(gP r x.1).headD .O ::pF l x.2
def S9:(l:List (Bool×List Shp))→DenA l→Prop
 | [],_=>True
 | (_,r)::l,x=>DH r x.1∧S9 l x.2
section
variable {H:Type} {enc:TypeId×Value→H} {P:Program} {w:World}
theorem vL{t:TypeId}{v:Value}{base:Nat}(hb:eF P t=some false)(ho:Value.okWide P w .any base t v)(hs: ∃m r,IJ P m t=some r):v.cells= #[v]:=by
 obtain⟨m,r,hs⟩:=hs
 cases m with
 | zero=>simp [IJ]at hs
 | succ m=>
   unfold IJ at hs
   unfold eF at hb
   unfold Value.okWide at ho
   cases hu:P.underlying t with
   | none=>rw [hu]at hs;cases hs
   | some d=>
     rw [hu]at ho hb hs
     cases v with
     | agg cs=>
       exfalso
       cases d<;>simp at hb hs<;>simp [Cell.okWide,hu,Cell.ok]at ho
     | _=>rfl
theorem wD [Con](hcon: ∀b o,w.heap[b]? =some o→Con.con b=some o){base:Nat} : ∀(ts:List TypeId) (vs:List Value) (ds:List (DataW H)) (ps:List MemPlace) (l:List (Bool×List Shp)),
 DataW.TrodAll enc P w 0 (fun _=>true) true ts vs ds ps→(∀(j:Nat) t v,ts[j]? =some t→vs[j]? =some v→Value.okWide P w .any base t v)→qQ P ts=some l→
 ∃x:DenA l,S9 l x∧aH (fun _=>none) (pF l x) vs
 | [],vs,ds,ps,l,h,_,hl=>by
   obtain⟨rfl,rfl,rfl⟩:=trodAll_nil h
   simp [qQ]at hl;subst hl
   exact⟨(),trivial,by simp [pF,aH]⟩
 | t::ts,vs,ds,ps,l,h,hv,hl=>by
   obtain⟨v,vs',d,ds',p,q,rfl,rfl,rfl,h1,h2⟩:=trodAll_cons h
   simp only [qQ]at hl
   split at hl
   ·rename_i b r l' hb hr hl'
    split at hl
    case isFalse=>cases hl
    rename_i hc
    simp at hl;subst hl
    obtain⟨y,oy,ry⟩:=wD hcon ts vs' ds' q l' h2 (fun j t v a b=>hv (j+1) t v (by simpa using a) (by simpa using b)) hl'
    obtain⟨n,hn⟩:=h1
    obtain⟨x,ox,rx⟩:=IY hcon 40 n t _ _ true r hn hr
    have hok:=hv 0 t v rfl rfl
    cases b with
    | true=>
      refine⟨(x,y),⟨ox,oy⟩,v,vs',rfl,?_,ry⟩
      have: ∃cs,v=.agg cs:=by
       unfold Value.okWide at hok
       unfold eF at hb
       cases hu:P.underlying t with
       | none=>rw [hu]at hb;cases hb
       | some d=>
         rw [hu]at hok hb
         cases d<;>simp at hb<;>(obtain⟨cs,e,_⟩:=hok;exact⟨cs,e⟩)
      obtain⟨cs,rfl⟩:=this
      exact⟨cs,rfl,rx⟩
    | false=>
      refine⟨(x,y),⟨ox,oy⟩,v,vs',rfl,?_,ry⟩
      rw [vL hb hok ⟨40,r,hr⟩]at rx
      have hr1:r.length=1:=by simpa using hc
      show Rep _ ((gP r x).headD .O) v
      match r,hr1,x,rx with
      | [s],_,x,rx=>
        obtain⟨u,us,e,r1,_⟩:=rx
        simp only [lI']at e
        rw [e.1];exact r1
   ·cases hl
theorem mO{W W':World}(hl:laidOutB P=true){sp:Nat→Bool} : ∀(ts:List TypeId) (vs:List Value) (ds:List (DataW H)) (ps:List MemPlace),
 (∀t∈ts,P.readableRec t=true∧t<P.types.size)→DataW.TrodAll enc P W 0 (fun _=>true) true ts vs ds ps→(∀p∈ps,W.sameAt W' p)→(∀p∈ps,sp p.block=true)→DataW.TrodAll enc P W' 0 sp true ts vs ds ps
 | [],vs,ds,ps,_,h,_,_=>by
   obtain⟨rfl,rfl,rfl⟩:=trodAll_nil h
   exact trodAll_mk0
 | t::ts,vs,ds,ps,ht,h,hs,hp=>by
   obtain⟨v,vs',d,ds',p,q,rfl,rfl,rfl,h1,h2⟩:=trodAll_cons h
   exact trodAll_cons_mk (WideElems.Trod_stays hl (ht t (by simp)).1 (ht t (by simp)).2 h1 (fun x hx=>hs x (by simp [hx])) (fun x hx=>hp x (by simp [hx])))
    (mO hl ts vs' ds' q (fun u hu=>ht u (by simp [hu])) h2 (fun x hx=>hs x (by simp [hx])) (fun x hx=>hp x (by simp [hx])))
theorem lV{w:World}{sp:Nat→Bool}{b:Nat}{hd:Bool} : ∀(ts:List TypeId) (vs:List Value) (ds:List (DataW H)) (ps:List MemPlace),DataW.TrodAll enc P w b sp hd ts vs ds ps→ds.length=ts.length
 | [],vs,ds,ps,h=>by obtain⟨rfl,rfl,rfl⟩:=trodAll_nil h;rfl
 | t::ts,vs,ds,ps,h=>by
   obtain⟨v,vs',d,ds',p,q,rfl,rfl,rfl,h1,h2⟩:=trodAll_cons h
   simp [lV ts vs' ds' q h2]
abbrev XU(W:World):Con:=⟨fun b=>W.heap[b]?⟩
theorem DT{f:Func}{s:ChangeSpec}{apart fresh handsOn again:Bool}{W W':World}{args:Array Value}{v:Value}{ds gs:List (DataW H)}{before pa pv:List MemPlace}
 (hW:DataW.Whole enc P f.params.toList s.vars apart W args.toList ds gs before)
 (h1: ∀(b:Nat) (sp:Nat→Bool) (hd:Bool),DataW.TrodAll enc P W' b sp hd f.resultTypes.toList (v.resultList f.resultTypes.size) (s.fn H (ds++gs)).results [])
 (h2: ∀sp:Nat→Bool,(∀p∈before,sp p.block=true)→DataW.TrodAll enc P W' 0 sp true f.params.toList args.toList (s.fn H (ds++gs)).args pa)
 (h3: ∀sp:Nat→Bool,(∀p∈before,sp p.block=true)→DataW.TrodVars enc P W' sp s.vars (s.fn H (ds++gs)).vars pv)
 (hb:before=pa++pv) (hk:W.keptBut W' (· ∈before)) (hz: ∀a:Addr,a.block<W.heap.size→W'.frozen? a=W.frozen? a)
 (ho: ∀(j:Nat) (t:TypeId) (r:Value),f.resultTypes[j]? =some t→(v.resultList f.resultTypes.size)[j]? =some r→Value.okWide P W' .any 0 t r):
 s.post enc P f apart fresh handsOn again W args v W':=by
 have lt: ∀p∈before,p.block<W.heap.size:=fun p hp=>hW.lt p hp
 refine⟨ds,gs,before,[],pa,pv,hW,h1 _ _ _,h2 _ (fun p hp=>by simpa using lt p hp),h3 _ (fun p hp=>by simpa using lt p hp),World.keptBut_mono (fun p hp=>⟨hp,.inr (List.mem_append.1 (hb▸hp))⟩) hk,fun _=>⟨ho,_,_,([]++pa)++pv,⟨[]++pa,pv,trodAll_append (h2 _ (fun _ _=>rfl)) (h1 _ _ _),h3 _ (fun _ _=>rfl),rfl,?_,?_⟩,?_⟩⟩
 ·intro b off hp
  have hp':MemPlace.cell b off∈before:=by rw [hb];simpa using hp
  obtain⟨_,_,_,_,_,q,_⟩:=hW
  rw [hz _ (lt _ hp')]
  exact q b off hp'
 ·intro ha
  obtain⟨_,_,_,_,_,_,q⟩:=hW
  have:=q ha
  rw [hb]at this
  simpa using this
 ·intro p hp _
  rw [hb]
  simpa using hp
theorem HO{A:Type}{F:Func}{f:FuncId}{s:ChangeSpec}{tb:TypeId}{l:List (Bool×List Shp)}(hl:laidOutB P=true)
 (hpar:F.params.toList.all (fun t=>P.readableRec t&&decide (t<P.types.size))=true) (hsh:qQ P F.params.toList=some l) (hv:s.vars=[]) (hres:F.resultTypes= #[tb]) (htb:P.underlying tb=some .bool)
 (hfn: ∀ds:List (DataW H),ds.length=F.params.toList.length→s.fn H ds= {results:=[.lit (.bool true)],args:=ds})
 (law: ∀W0:World,∃I:Itp A,∀x:DenA l,S9 l x→ @aC (XU W0) A I P f (pF l x) ([]:aB A) (fun v _=>v=.bool true))
 (W:World) (base:Nat) (args:Array Value) (ds gs:List (DataW H)) (before:List MemPlace)
 (hval: ∀(j:Nat) t v,F.params[j]? =some t→args[j]? =some v→Value.okWide P W .any base t v)
 (hW:DataW.Whole enc P F.params.toList s.vars false W args.toList ds gs before):
 Calls P f args W fun e W'=> ∃v,e=.returned v∧s.post enc P F false true false false W args v W':=by
 have hW':=hW
 obtain⟨p,q,hA,hV,rfl,hfz,hnd⟩:=hW
 rw [hv]at hV
 obtain⟨rfl,rfl⟩:=trodVars_none hV
 obtain⟨I,hI⟩:=law W
 letI:Con:=XU W
 obtain⟨x,ox,rx⟩:=wD (enc:=enc) (P:=P) (w:=W) (base:=base) (fun b o h=>h) F.params.toList args.toList ds p l hA (fun j t v a b=>hval j t v (by simpa using a) (by simpa using b)) hsh
 have hlen:=lV _ _ _ _ hA
 refine(aC.law (hI x ox) rx W (fun b o h=>h)).mono ?_
 rintro e W' ⟨rfl,hg⟩
 have hsame: ∀p'∈p,W.sameAt W' p':=by
  intro p' hp
  have hlt:p'.block<W.heap.size:=hW'.lt p' (by simpa using hp)
  have hk:=hg.1.2.2 p'.block hlt
  cases p' with
  | cell b off=>
    show W'.cell? ⟨b,off,none⟩=W.cell? ⟨b,off,none⟩
    simp only [MemPlace.block]at hk hlt
    unfold World.cell?
    simp only
    cases h1:W.heap[b]? with
    | none=>rw [Array.getElem?_eq_getElem hlt]at h1;cases h1
    | some o=>
      rw [h1]at hk
      cases h2:W'.heap[b]? with
      | none=>rw [h2]at hk;cases o<;>simp at hk
      | some o'=>
        rw [h2]at hk
        cases o<;>cases o'<;>simp at hk<;>first | rfl | skip
        rename_i c t fr c' t' fr'
        obtain⟨_,_,hsz,hc⟩:=hk
        exact hc off
  | map b=>
    show W'.heap[b]? =W.heap[b]?
    simp only [MemPlace.block]at hk hlt
    cases h1:W.heap[b]? with
    | none=>rw [Array.getElem?_eq_getElem hlt]at h1;cases h1
    | some o=>
      rw [h1]at hk
      cases h2:W'.heap[b]? with
      | none=>rw [h2]at hk;cases o<;>simp at hk
      | some o'=>
        rw [h2]at hk
        cases o<;>cases o'<;>simp at hk<;>first | (simp_all;done) | skip
        rename_i c t fr c' t' fr'
        obtain⟨rfl,rfl,hsz,hc⟩:=hk
        have:c=c':=by
         apply Array.ext_getElem?
         intro i
         exact(hc i).symm
        rw [this]
 have hpar': ∀t∈F.params.toList,P.readableRec t=true∧t<P.types.size:=by
  intro t ht
  have:=List.all_eq_true.1 hpar t ht
  simpa using this
 have hf0:s.fn H (ds++ [])= {results:=[.lit (.bool true)],args:=ds} :=by rw [List.append_nil];exact hfn ds hlen
 refine⟨_,rfl,DT (pa:=p) (pv:=[]) hW' ?_ ?_ ?_ rfl (World.keptBut_mono (fun _ h=>h.elim) hg.1) hg.2.1 ?_⟩
 ·intro b sp hd
  rw [hf0,hres]
  exact trodAll_cons_mk (shut_bool htb _) trodAll_mk0
 ·intro sp hsp
  rw [hf0]
  exact mO hl _ _ _ _ hpar' hA hsame (fun p' hp=>hsp p' (by simpa using hp))
 ·intro sp _
  rw [hf0,hv]
  rfl
 ·exact ok_one hres rfl (okWide_bool_mk htb _)
end
end Go.Sh
namespace Go.Sh
open Go
variable [Con] {A:Type} (tb:A→Nat×aB A)
structure qH (I:Itp A) (V:Val) (h:aY A) (hs:Nat→PHeap):Prop where
 ent: ∀l e,h l=some e→e.interp I V l (hs l)
 non: ∀l,h l=none→hs l=.emp
 dis: ∀l m,l≠m→(hs l).disj (hs m)
def lM:Nat→Itp A
 | 0,_,_,_,_=>False
 | n+1,t,r,bs,p=> ∃V hs,V 0=some r∧(∀i,i<(tb t).1→V (1+i)=bs[i]?)∧bs.length=(tb t).1∧qH (lM n) V (toF (tb t).2) hs∧p=VZ hs
def obI:Itp A:=fun t r bs p=> ∃n,lM tb n t r bs p
theorem WE{I I':Itp A}(hI: ∀t r bs p,I t r bs p→I' t r bs p){V:Val}{l:Nat}{e:aI A}{p:PHeap}(h:e.interp I V l p):e.interp I' V l p:=by
 cases e with
 | abs t ps=>
   obtain⟨b,k,h1,bs,h2,h3⟩:=h
   exact⟨b,k,h1,bs,h2,hI _ _ _ _ h3⟩
 | cells vs=>exact h
 | ints c xs=>exact h
 | tab ks rows=>exact h
 | imap kk vc m=>exact h
 | iter lm kk vc m left cur=>exact h
theorem qH.mono_I{I I':Itp A}(hI: ∀t r bs p,I t r bs p→I' t r bs p){V:Val}{h:aY A}{hs:Nat→PHeap}(q:qH I V h hs):qH I' V h hs:=
 ⟨fun l e he=>WE hI (q.ent l e he),q.non,q.dis⟩
theorem xW: ∀(n:Nat) (t:A) (r:Nat×Nat) (bs:List (Nat×Nat)) (p:PHeap),lM tb n t r bs p→lM tb (n+1) t r bs p
 | 0,_,_,_,_,h=>h.elim
 | n+1,t,r,bs,p,⟨V,hs,h1,h2,h3,h4,h5⟩=>⟨V,hs,h1,h2,h3,h4.mono_I (xW n),h5⟩
theorem lN{n m:Nat}(hnm:n≤m){t:A}{r:Nat×Nat}{bs:List (Nat×Nat)}{p:PHeap}(h:lM tb n t r bs p):lM tb m t r bs p:=by
 induction hnm with
 | refl=>exact h
 | step _ ih=>exact xW tb _ _ _ _ _ ih
theorem wJ{V:Val}{hs:Nat→PHeap} : ∀(g:aB A) (k:Nat),(∀l e,aJ g l=some e→e.interp (obI tb) V (k+l) (hs (k+l)))→ ∃n,∀l e,aJ g l=some e→e.interp (lM tb n) V (k+l) (hs (k+l))
 | [],k,_=>⟨0,fun l e h=>by simp [aJ]at h⟩
 | x::g,k,h=>by
   obtain⟨n,hn⟩:=wJ g (k+1) (fun l e he=>by
    have:=h (l+1) e (by simpa [aJ]using he)
    rw [show k+(l+1)=k+1+l from by omega]at this
    exact this)
   have h0: ∃m,∀e,x=some e→e.interp (lM tb m) V k (hs k):=by
    cases x with
    | none=>exact⟨0,fun e he=>by cases he⟩
    | some e=>
      have:=h 0 e rfl
      cases e with
      | abs t ps=>
        obtain⟨b,q,h1,bs,h2,m,h3⟩:=this
        exact⟨m,fun e he=>by cases he;exact⟨b,q,h1,bs,h2,h3⟩⟩
      | cells vs=>exact⟨0,fun e he=>by cases he;exact this⟩
      | ints c xs=>exact⟨0,fun e he=>by cases he;exact this⟩
      | tab ks rows=>exact⟨0,fun e he=>by cases he;exact this⟩
      | imap kk vc mm=>exact⟨0,fun e he=>by cases he;exact this⟩
      | iter lm kk vc mm left cur=>exact⟨0,fun e he=>by cases he;exact this⟩
   obtain⟨m,hm⟩:=h0
   refine⟨max n m,fun l e he=>?_⟩
   cases l with
   | zero=>
     have hx:x=some e:=by simpa [aJ]using he
     exact WE (fun t r bs p=>lN tb (Nat.le_max_right n m)) (hm e hx)
   | succ l=>
     have:=WE (fun t r bs p=>lN tb (Nat.le_max_left n m)) (hn l e (by simpa [aJ]using he))
     rw [show k+1+l=k+(l+1)from by omega]at this
     exact this
theorem XN{I:Itp A}{V V':Val}{pl:List Nat}(hV: ∀l,pl.elem l=true→V l=V' l){l:Nat}{e:aI A}{p:PHeap}(q1:V l=V' l)(q2:e.within pl=true)(hi:e.interp I V l p):e.interp I V' l p:=by
 cases e with
 | cells vs=>
   obtain⟨b,k,hl,cs,T,e1,e2,rs,tail,e3,r⟩:=hi
   exact⟨b,k,by rw [←q1];exact hl,cs,T,e1,e2,rs,tail,e3,WL hV _ _ q2 r⟩
 | ints c xs=>
   rcases hi with⟨e1,e2,b,hl⟩ | ⟨b,k,hl,r⟩
   ·exact .inl ⟨e1,e2,b,by rw [←q1];exact hl⟩
   ·exact .inr ⟨b,k,by rw [←q1];exact hl,r⟩
 | abs t ps=>
   obtain⟨b,k,hl,bs,hb,r⟩:=hi
   exact⟨b,k,by rw [←q1];exact hl,bs,eM.congr (fun m hm=>hV m (oP q2 m hm)) hb,r⟩
 | tab ks rows=>
   rcases hi with⟨e1,e2,b,hl⟩ | ⟨b,k,hl,r⟩
   ·exact .inl ⟨e1,e2,b,by rw [←q1];exact hl⟩
   ·exact .inr ⟨b,k,by rw [←q1];exact hl,r⟩
 | imap kk vc m=>
   obtain⟨b,k,hl,r⟩:=hi
   exact⟨b,k,by rw [←q1];exact hl,r⟩
 | iter lm kk vc m left cur=>
   obtain⟨b,k,hl,bm,km,hm,r⟩:=hi
   exact⟨b,k,by rw [←q1];exact hl,bm,km,by rw [←hV lm q2];exact hm,r⟩
theorem hO{n l:Nat} :(upto 0 n).elem l=true↔l<n:=by rw [lW];omega
theorem eM.len{V:Val} : ∀ {ls:List Nat} {bs:List (Nat×Nat)},eM V ls bs→bs.length=ls.length
 | [],_,e=>by rw [e];rfl
 | _::_,_,⟨x,r,h1,h2,h3⟩=>by rw [h2];simp [eM.len h3]
theorem eM.get{V:Val} : ∀ {ls:List Nat} {bs:List (Nat×Nat)},eM V ls bs→ ∀i,i<ls.length→V (ls.getD i 0)=bs[i]?
 | [],_,_,i,hi=>by cases hi
 | l::ls,_,⟨x,r,h1,h2,h3⟩,i,hi=>by
   subst h2
   cases i with
   | zero=>simpa using h1
   | succ i=>simpa using eM.get h3 i (by simpa using hi)
theorem eM.mk{V:Val} : ∀ {ls:List Nat},(∀l∈ls,∃x,V l=some x)→ ∃bs,eM V ls bs
 | [],_=>⟨[],rfl⟩
 | l::ls,h=>by
   obtain⟨x,hx⟩:=h l List.mem_cons_self
   obtain⟨r,hr⟩:=eM.mk (fun m hm=>h m (List.mem_cons_of_mem _ hm))
   exact⟨x::r,x,r,hx,rfl,hr⟩
def unI(l:Nat)(ps:List Nat)(n np:Nat)(i:Nat):Nat:=match i with
 | 0=>l
 | j+1=>if j<np then ps.getD j 0 else n+(j - np)
def bP(h:aB A)(l np:Nat)(g:aB A)(ps:List Nat):aB A:=
 h.set l ((aJ g 0).map (aI.ren (unI l ps h.length np)))++(g.drop (1+np)).map (Option.map (aI.ren (unI l ps h.length np)))
theorem eA(h:aB A)(l np:Nat)(g:aB A)(ps:List Nat):(bP h l np g ps).length =h.length+(g.length - (1+np)):=by
 unfold bP;simp
def oZ(np:Nat)(g:aB A):Bool:=dM g.length g&&Nat.ble (1+np) g.length&&(g.drop 1 |>.take np).all (·.isNone)&&(aJ g 0).isSome
theorem tX{np:Nat}{g:aB A}(h:oZ np g=true):dM g.length g=true∧1+np≤g.length∧(∀i,i<np→aJ g (1+i)=none)∧ ∃e,aJ g 0=some e:=by
 unfold oZ at h
 simp only [Bool.and_eq_true]at h
 obtain⟨⟨⟨h1,h2⟩,h3⟩,h4⟩:=h
 refine⟨h1,Nat.le_of_ble_eq_true h2,?_,Option.isSome_iff_exists.1 h4⟩
 intro i hi
 have hlen:=Nat.le_of_ble_eq_true h2
 rw [List.all_eq_true]at h3
 have hx:=h3 (aJ g (1+i)) (by
  rw [List.mem_iff_getElem?]
  refine⟨i,?_⟩
  rw [List.getElem?_take,if_pos hi,List.getElem?_drop]
  simp only [aJ,gD']
  rw [gE' (by omega)]
  rfl)
 simpa using hx
theorem uM{g:aB A}(h:dM g.length g=true){l:Nat}{e:aI A}(he:aJ g l=some e):e.within (upto 0 g.length)=true:=by
 unfold dM at h
 rw [List.all_eq_true]at h
 simp only [aJ,gD']at he
 have hl:l<g.length:=by
  cases Nat.lt_or_ge l g.length with
  | inl q=>exact q
  | inr q=>rw [List.getElem?_eq_none q]at he;cases he
 rw [gE' hl]at he
 have:=h (g[l]) (List.getElem_mem hl)
 simp only [Option.getD_some]at he
 rw [he]at this
 exact this
theorem kO{h:aB A}{l np:Nat}{g:aB A}{ps:List Nat}(hl:l<h.length):aJ (bP h l np g ps) l=(aJ g 0).map (aI.ren (unI l ps h.length np)):=by
 unfold bP
 rw [bY (by simpa using hl)]
 simp only [aJ,gD']
 rw [List.getElem?_set_self hl];rfl
theorem eK{h:aB A}{l np:Nat}{g:aB A}{ps:List Nat}{m:Nat}(hm:m<h.length)(hlm:m≠l):aJ (bP h l np g ps) m=aJ h m:=by
 unfold bP
 rw [bY (by simpa using hm)]
 simp only [aJ,gD']
 rw [List.getElem?_set_ne (fun e=>hlm e.symm)]
theorem i6{h:aB A}{l np:Nat}{g:aB A}{ps:List Nat}{j:Nat} :aJ (bP h l np g ps) (h.length+j)=(aJ g (1+np+j)).map (aI.ren (unI l ps h.length np)):=by
 unfold bP
 simp only [aJ,gD']
 rw [List.getElem?_append_right (by simp),List.length_set,List.getElem?_map,List.getElem?_drop,Nat.add_sub_cancel_left]
 cases g[1+np+j]? <;>rfl
theorem Inv.unpack{V:Val}{h:aB A}{hR:PHeap}{w:World}{t:A}{l np:Nat}{g:aB A}{ps:List Nat}(hi:Inv (obI tb) V (toF h) hR w)(hf:bM V h.length)(hl:aJ h l=some (.abs t ps))(ht:tb t=(np,g))(ho:oZ np g=true)(hnp:ps.length=np):
 ∃V',V.le V'∧bM V' (bP h l np g ps).length ∧Inv (obI tb) V' (toF (bP h l np g ps)) hR w:=by
 obtain⟨o1,o2,o3,e0,o4⟩:=tX ho
 have hll:=cB hl
 obtain⟨hs,h1,h2,h3,h4,h5,h6⟩:=hi
 obtain⟨b,k,hV,bs,hlo,n,hob⟩:=h1 l _ hl
 cases n with
 | zero=>exact hob.elim
 | succ n=>
 obtain⟨Vg,gs,g1,g2,g3,⟨g4,g5,g6⟩,g7⟩:=hob
 rw [ht]at g2 g3 g4 g5
 dsimp only at g2 g3 g4 g5
 let V':Val:=fun m=>if m<h.length then V m else if m<(bP h l np g ps).length then Vg (m - h.length+1+np)else none
 have hlen:=eA h l np g ps
 have hle:V.le V':=by
  intro m x hm
  have hlt:m<h.length:=by
   cases Nat.lt_or_ge m h.length with
   | inl q=>exact q
   | inr q=>rw [hf m q]at hm;cases hm
  show(if m<h.length then V m else _)=some x
  rw [if_pos hlt];exact hm
 have hVι: ∀i,(upto 0 g.length).elem i=true→Vg i=V' (unI l ps h.length np i):=by
  intro i hi
  rw [hO]at hi
  cases i with
  | zero=>
    show _=V' l
    rw [hle l _ hV];exact g1
  | succ j=>
    show _=V' (if j<np then ps.getD j 0 else h.length+(j - np))
    by_cases hj:j<np
    ·rw [if_pos hj]
     have hg:=hlo.get j (by omega)
     have hj2:j<bs.length:=by omega
     rw [gE' hj2]at hg
     rw [hle _ _ hg,Nat.add_comm,g2 j hj,gE' hj2]
    ·rw [if_neg hj]
     show _=if h.length+(j - np)<h.length then _ else _
     rw [if_neg (by omega),if_pos (by omega)]
     congr 1;omega
 have hent: ∀i e,aJ g i=some e→(e.ren (unI l ps h.length np)).interp (obI tb) V' (unI l ps h.length np i) (gs i):=by
  intro i e he
  refine aI.interp_ren.2 ?_
  have q1:=WE (I':=(obI tb)) (fun t r bs p hh=>⟨n,hh⟩) (g4 i e he)
  exact XN hVι (hVι i (hO.2 (cB he))) (uM o1 he) q1
 have hsub: ∀i b' o,gs i b'=some o→hs l b'=some o:=by
  intro i b' o hh
  rw [g7];exact WD g6 hh
 let hs':Nat→PHeap:=fun m=>if m<h.length then(if m=l then gs 0 else hs m)else gs (m - h.length+1+np)
 refine⟨V',hle,?_,hs',?_,?_,?_,?_,?_,h6⟩
 ·intro m hm
  show(if m<h.length then _ else _)=none
  rw [if_neg (by omega),if_neg (by omega)]
 ·intro m e he
  by_cases hm:m<h.length
  ·by_cases hml:m=l
   ·subst hml
    have he':aJ (bP h m np g ps) m=some e:=he
    rw [kO hm,o4]at he'
    simp only [Option.map_some,sI']at he'
    show e.interp (obI tb) V' m (if m<h.length then(if m=m then gs 0 else hs m)else _)
    rw [if_pos hm,if_pos rfl,←he']
    exact hent 0 e0 o4
   ·have he':aJ (bP h l np g ps) m=some e:=he
    rw [eK hm hml]at he'
    show e.interp (obI tb) V' m (if m<h.length then(if m=l then gs 0 else hs m)else _)
    rw [if_pos hm,if_neg hml]
    exact WA hle (h1 m e he')
  ·have he':aJ (bP h l np g ps) m=some e:=he
   have hm2:m=h.length+(m - h.length):=by omega
   rw [hm2,i6]at he'
   cases hq:aJ g (1+np+(m - h.length))with
   | none=>rw [hq]at he';cases he'
   | some e1=>
     rw [hq]at he'
     simp only [Option.map_some,sI']at he'
     have:=hent _ e1 hq
     show e.interp (obI tb) V' m (if m<h.length then _ else gs (m - h.length+1+np))
     rw [if_neg hm,←he']
     have e3:unI l ps h.length np (1+np+(m - h.length))=m:=by
      have:1+np+(m - h.length)=(np+(m - h.length))+1:=by omega
      rw [this]
      show(if np+(m - h.length)<np then _ else h.length+(np+(m - h.length) - np))=m
      rw [if_neg (by omega)];omega
     rw [e3]at this
     have e4:m - h.length+1+np=1+np+(m - h.length):=by omega
     rw [e4];exact this
 ·intro m he
  by_cases hm:m<h.length
  ·by_cases hml:m=l
   ·subst hml
    have he':aJ (bP h m np g ps) m=none:=he
    rw [kO hm,o4]at he';cases he'
   ·have he':aJ (bP h l np g ps) m=none:=he
    rw [eK hm hml]at he'
    show(if m<h.length then(if m=l then gs 0 else hs m)else _)=_
    rw [if_pos hm,if_neg hml]
    exact h2 m he'
  ·have he':aJ (bP h l np g ps) m=none:=he
   have hm2:m=h.length+(m - h.length):=by omega
   rw [hm2,i6]at he'
   show(if m<h.length then _ else gs (m - h.length+1+np))=_
   rw [if_neg hm]
   have e4:m - h.length+1+np=1+np+(m - h.length):=by omega
   rw [e4]
   refine g5 _ ?_
   cases hq:aJ g (1+np+(m - h.length))with
   | none=>exact hq
   | some e1=>rw [hq]at he';cases he'
 ·intro m m' hmm
  intro b'
  show(if m<h.length then(if m=l then gs 0 else hs m)else gs (m - h.length+1+np)) b'=none∨(if m'<h.length then(if m'=l then gs 0 else hs m')else gs (m' - h.length+1+np)) b'=none
  have out: ∀i m,m≠l→gs i b'=none∨hs m b'=none:=by
   intro i m hml
   cases hq:gs i b' with
   | none=>exact .inl rfl
   | some o=>
     right
     have:=hsub i b' o hq
     rcases h3 l m (fun e=>hml e.symm) b' with q | q
     ·rw [q]at this;cases this
     ·exact q
  by_cases hm:m<h.length
  ·by_cases hm':m'<h.length
   ·rw [if_pos hm,if_pos hm']
    by_cases hml:m=l
    ·have hml':m'≠l:=fun e=>hmm (hml.trans e.symm)
     rw [if_pos hml,if_neg hml'];exact out 0 m' hml'
    ·rw [if_neg hml]
     by_cases hml':m'=l
     ·rw [if_pos hml'];exact(out 0 m hml).symm
     ·rw [if_neg hml'];exact h3 m m' hmm b'
   ·rw [if_pos hm,if_neg hm']
    by_cases hml:m=l
    ·rw [if_pos hml];exact g6 0 _ (by omega) b'
    ·rw [if_neg hml];exact(out _ m hml).symm
  ·by_cases hm':m'<h.length
   ·rw [if_neg hm,if_pos hm']
    by_cases hml':m'=l
    ·rw [if_pos hml'];exact g6 _ 0 (by omega) b'
    ·rw [if_neg hml'];exact out _ m' hml'
   ·rw [if_neg hm,if_neg hm'];exact g6 _ _ (by omega) b'
 ·intro m b'
  have out: ∀i,gs i b'=none∨hR b'=none:=by
   intro i
   cases hq:gs i b' with
   | none=>exact .inl rfl
   | some o=>
     right
     have:=hsub i b' o hq
     rcases h4 l b' with q | q
     ·rw [q]at this;cases this
     ·exact q
  show(if m<h.length then(if m=l then gs 0 else hs m)else gs (m - h.length+1+np)) b'=none∨hR b'=none
  split
  ·split
   ·exact out 0
   ·exact h4 m b'
  ·exact out _
 ·intro m b' o hq
  have hq':(if m<h.length then(if m=l then gs 0 else hs m)else gs (m - h.length+1+np)) b'=some o:=hq
  split at hq'
  ·split at hq'
   ·exact h5 l b' o (hsub 0 b' o hq')
   ·exact h5 m b' o hq'
  ·exact h5 l b' o (hsub _ b' o hq')
def rV(h:aB A)(l:Nat)(ps:List Nat):Bool:=dM h.length h&&ps.all (fun p=>Nat.blt p h.length&& !Nat.beq p l&&(aJ h p).isSome)
theorem Inv.pack{V:Val}{h:aB A}{hR:PHeap}{w:World}{t:A}{l np:Nat}{g:aB A}{ps:List Nat}(hi:Inv (obI tb) V (toF (bP h l np g ps)) hR w)(hl:aJ h l=some (.abs t ps))(ht:tb t=(np,g))(ho:oZ np g=true)(hnp:ps.length=np)(hp:rV h l ps=true):
 Inv (obI tb) (fun m=>if m<h.length then V m else none) (toF h) hR w:=by
 obtain⟨o1,o2,o3,e0,o4⟩:=tX ho
 have hll:=cB hl
 unfold rV at hp
 rw [Bool.and_eq_true,List.all_eq_true]at hp
 obtain⟨p1,p2⟩:=hp
 have hdom: ∀m e,aJ (bP h l np g ps) m=some e→ ∃x,V m=some x:=fun m e he=>hi.dom he
 obtain⟨hs,h1,h2,h3,h4,h5,h6⟩:=hi
 have hlen:=eA h l np g ps
 have hps: ∀p∈ps,p<h.length∧p≠l∧ ∃x,V p=some x:=by
  intro p hp
  have:=p2 p hp
  simp only [Bool.and_eq_true,Bool.not_eq_true',Nat.blt_eq]at this
  obtain⟨⟨q1,q2⟩,q3⟩:=this
  have q2':p≠l:=by intro e;rw [e]at q2;simp at q2
  obtain⟨e,he⟩:=Option.isSome_iff_exists.1 q3
  exact⟨q1,q2',hdom p e (by rw [eK q1 q2'];exact he)⟩
 have hV0: ∃x,V l=some x:=hdom l (e0.ren (unI l ps h.length np)) (by rw [kO hll,o4];rfl)
 obtain⟨⟨b,k⟩,hVl⟩:=hV0
 obtain⟨bs,hbs⟩:=eM.mk (V:=V) (ls:=ps) (fun p hp=>(hps p hp).2.2)
 let gs:Nat→PHeap:=fun j=>match j with
  | 0=>hs l
  | i+1=>if i<np then .emp else hs (h.length+(i - np))
 have gs_sub: ∀j,gs j=.emp ∨ ∃m,(m=l∨h.length≤m)∧gs j=hs m:=by
  intro j
  cases j with
  | zero=>exact .inr ⟨l,.inl rfl,rfl⟩
  | succ i=>
    show(if i<np then PHeap.emp else hs (h.length+(i - np)))=.emp ∨_
    by_cases hi:i<np
    ·rw [if_pos hi];exact .inl rfl
    ·right
     refine⟨h.length+(i - np),.inr (by omega),?_⟩
     show(if i<np then PHeap.emp else hs (h.length+(i - np)))=_
     rw [if_neg hi]
 have gdis: ∀i j,i≠j→(gs i).disj (gs j):=by
  intro i j hij
  cases i with
  | zero=>
    cases j with
    | zero=>exact(hij rfl).elim
    | succ j=>
      show PHeap.disj (hs l) (if j<np then .emp else hs (h.length+(j - np)))
      split
      ·exact VW _
      ·exact h3 _ _ (by omega)
  | succ i=>
    cases j with
    | zero=>
      show PHeap.disj (if i<np then .emp else hs (h.length+(i - np))) (hs l)
      split
      ·exact(VW _).symm
      ·exact h3 _ _ (by omega)
    | succ j=>
      show PHeap.disj (if i<np then .emp else hs (h.length+(i - np))) (if j<np then .emp else hs (h.length+(j - np)))
      split
      ·exact(VW _).symm
      ·split
       ·exact VW _
       ·exact h3 _ _ (by omega)
 have gent: ∀i e,aJ g i=some e→e.interp (obI tb) (fun i=>V (unI l ps h.length np i)) i (gs i):=by
  intro i e he
  refine aI.interp_ren.1 ?_
  cases i with
  | zero=>
    show(e.ren _).interp (obI tb) V l (hs l)
    exact h1 l _ (by show aJ _ _=_;rw [kO hll,he];rfl)
  | succ i=>
    have hi: ¬i<np:=by
     intro hi
     have:=o3 i hi
     rw [Nat.add_comm,he]at this;cases this
    have e3:unI l ps h.length np (i+1)=h.length+(i - np):=by
     show(if i<np then _ else _)=_
     rw [if_neg hi]
    show(e.ren _).interp (obI tb) V (unI l ps h.length np (i+1)) (if i<np then PHeap.emp else hs (h.length+(i - np)))
    rw [if_neg hi,e3]
    refine h1 _ _ ?_
    show aJ _ _=_
    rw [i6]
    have:1+np+(i - np)=i+1:=by omega
    rw [this,he];rfl
 obtain⟨n,hn⟩:=wJ tb (hs:=gs) g 0 (by simpa using gent)
 have gnon: ∀i,toF g i=none→gs i=.emp :=by
  intro i he
  cases i with
  | zero=>have:aJ g 0=none:=he;rw [o4]at this;cases this
  | succ i=>
    show(if i<np then PHeap.emp else hs (h.length+(i - np)))=.emp
    by_cases hi:i<np
    ·rw [if_pos hi]
    ·rw [if_neg hi]
     refine h2 _ ?_
     show aJ _ _=_
     rw [i6]
     have:1+np+(i - np)=i+1:=by omega
     have he':aJ g (i+1)=none:=he
     rw [this,he'];rfl
 have hbig: ∀b' o,VZ gs b'=some o→ ∃m,(m=l∨h.length≤m)∧hs m b'=some o:=by
  intro b' o hh
  obtain⟨j,hj⟩:=WG hh
  rcases gs_sub j with q | ⟨m,q1,q2⟩
  ·rw [q]at hj;cases hj
  ·exact⟨m,q1,by rw [←q2];exact hj⟩
 have own: ∀m,m<h.length→(fun m=>if m<h.length then V m else none) m=V m:=fun m hm=>if_pos hm
 refine⟨fun m=>if m=l then VZ gs else if m<h.length then hs m else .emp,?_,?_,?_,?_,?_,h6⟩
 ·intro m e he
  have hm:m<h.length:=cB he
  by_cases hml:m=l
  ·subst hml
   have he':aJ h m=some e:=he
   rw [hl]at he'
   simp only [sI']at he'
   subst he'
   show aI.interp (obI tb) _ m _ (if m=m then VZ gs else _)
   rw [if_pos rfl]
   refine⟨b,k,by show(if m<h.length then V m else none)=_;rw [if_pos hm];exact hVl,bs,hbs.congr (fun p hp=>(own p (hps p hp).1).symm),n+1,?_⟩
   show∃V1 hs1,V1 0=some (b,k)∧(∀i,i<(tb t).1→V1 (1+i)=bs[i]?)∧bs.length=(tb t).1∧qH (lM tb n) V1 (toF (tb t).2) hs1∧VZ gs=VZ hs1
   rw [ht]
   refine⟨(fun i=>V (unI m ps h.length np i)),gs,hVl,?_,by rw [hbs.len];exact hnp,⟨fun l e he=>by have:=hn l e he;simpa using this,gnon,gdis⟩,rfl⟩
   intro i hi
   have:=hbs.get i (by omega)
   rw [←this]
   show V (unI m ps h.length np (1+i))=_
   rw [Nat.add_comm]
   show V (if i<np then _ else _)=_
   rw [if_pos hi]
  ·show e.interp (obI tb) _ m (if m=l then _ else if m<h.length then hs m else .emp)
   rw [if_neg hml,if_pos hm]
   have he':aJ h m=some e:=he
   refine XN (pl:=upto 0 h.length) (V:=V) (fun i hi=>(own i (hO.1 hi)).symm) (own m hm).symm (uM p1 he') ?_
   exact h1 m e (by show aJ _ _=_;rw [eK hm hml];exact he')
 ·intro m he
  have he':aJ h m=none:=he
  by_cases hml:m=l
  ·subst hml;rw [hl]at he';cases he'
  ·show(if m=l then _ else if m<h.length then hs m else .emp)=_
   rw [if_neg hml]
   by_cases hm:m<h.length
   ·rw [if_pos hm]
    exact h2 m (by show aJ _ _=_;rw [eK hm hml];exact he')
   ·rw [if_neg hm]
 ·intro m m' hmm b'
  show(if m=l then VZ gs else if m<h.length then hs m else .emp) b'=none∨(if m'=l then VZ gs else if m'<h.length then hs m' else .emp) b'=none
  have out: ∀m,m≠l→VZ gs b'=none∨(if m<h.length then hs m else PHeap.emp) b'=none:=by
   intro m hml
   by_cases hm:m<h.length
   ·rw [if_pos hm]
    cases hq:VZ gs b' with
    | none=>exact .inl rfl
    | some o=>
      right
      obtain⟨m2,q1,q2⟩:=hbig b' o hq
      rcases h3 m2 m (by rcases q1 with q | q<;>omega) b' with q | q
      ·rw [q]at q2;cases q2
      ·exact q
   ·rw [if_neg hm];exact .inr rfl
  by_cases hml:m=l
  ·have hml':m'≠l:=fun e=>hmm (hml.trans e.symm)
   rw [if_pos hml,if_neg hml'];exact out m' hml'
  ·rw [if_neg hml]
   by_cases hml':m'=l
   ·rw [if_pos hml'];exact(out m hml).symm
   ·rw [if_neg hml']
    by_cases hm:m<h.length
    ·rw [if_pos hm]
     by_cases hm':m'<h.length
     ·rw [if_pos hm'];exact h3 m m' hmm b'
     ·rw [if_neg hm'];exact .inr rfl
    ·rw [if_neg hm];exact .inl rfl
 ·intro m b'
  show(if m=l then VZ gs else if m<h.length then hs m else .emp) b'=none∨hR b'=none
  by_cases hml:m=l
  ·rw [if_pos hml]
   cases hq:VZ gs b' with
   | none=>exact .inl rfl
   | some o=>
     right
     obtain⟨m2,q1,q2⟩:=hbig b' o hq
     rcases h4 m2 b' with q | q
     ·rw [q]at q2;cases q2
     ·exact q
  ·rw [if_neg hml]
   by_cases hm:m<h.length
   ·rw [if_pos hm];exact h4 m b'
   ·rw [if_neg hm];exact .inl rfl
 ·intro m b' o hq
  have hq':(if m=l then VZ gs else if m<h.length then hs m else .emp) b'=some o:=hq
  by_cases hml:m=l
  ·rw [if_pos hml]at hq'
   obtain⟨m2,q1,q2⟩:=hbig b' o hq'
   exact h5 m2 b' o q2
  ·rw [if_neg hml]at hq'
   by_cases hm:m<h.length
   ·rw [if_pos hm]at hq';exact h5 m b' o hq'
   ·rw [if_neg hm]at hq';cases hq'
variable {P:Program}
theorem aC.unpack{f:FuncId}{args:List AVal}{h:aB A}{K:AVal→aB A→Prop}(t:A)(l np:Nat)(g:aB A)(ps:List Nat)(hl:aJ h l=some (.abs t ps))(ht:tb t=(np,g))(ho:oZ np g=true)(hnp:ps.length=np)
 (h0:aC (obI tb) P f args (bP h l np g ps) K):aC (obI tb) P f args h K:=by
 intro V hR w args' hi hf hr
 obtain⟨V1,v1,v2,v3⟩:=hi.unpack tb hf hl ht ho hnp
 refine(h0 V1 hR w args' v3 v2 (aH.mono v1 _ _ hr)).mono ?_
 rintro e w' ⟨v,v',V',h',k1,k2,k3,k4,k5,k6,k7,k8⟩
 exact⟨v,v',V',h',k1,k2,k3,Val.le_trans v1 k4,k5,Nat.le_trans (by rw [eA];omega) k6,k7,k8⟩
structure vZ (n:Nat) (K:AVal→aB A→Prop) (v:AVal) (g':aB A):Prop where
 ex: ∃(pl:List Nat) (h2:aB A) (t:A) (l np:Nat) (g:aB A) (ps:List Nat),(dY pl g'.length&&iU pl 0 n&&Nat.ble n h2.length&&oZ np g&&rV h2 l ps&&(jY pl v).within (upto 0 h2.length)&&Nat.beq ps.length np)=true∧fR pl g'=bP h2 l np g ps∧tb t=(np,g)∧aJ h2 l=some (.abs t ps)∧K (jY pl v) h2
theorem aC.pack{f:FuncId}{args:List AVal}{h:aB A}{K:AVal→aB A→Prop}(h0:aC (obI tb) P f args h (vZ tb h.length K)):aC (obI tb) P f args h K:=by
 intro V hR w args' hi hf hr
 refine(h0 V hR w args' hi hf hr).mono ?_
 rintro e w' ⟨v,v',V',g',⟨pl,h2,t,l,np,g,ps,hb,hT,ht,hl,hK⟩,k2,k3,k4,k5,k6,k7,k8⟩
 simp only [Bool.and_eq_true]at hb
 obtain⟨⟨⟨⟨⟨⟨b1,b2⟩,b3⟩,b4⟩,b5⟩,b6⟩,b7⟩:=hb
 obtain⟨e1,e2⟩:=kI b2
 have hp:=lU (h:=g') b1
 have hi2:=k7.pick hp
 rw [hT]at hi2
 have hi3:=hi2.pack tb hl ht b4 (Nat.eq_of_beq_eq_true b7) b5
 have hn:h.length≤h2.length:=Nat.le_of_ble_eq_true b3
 refine⟨jY pl v,v',_,h2,hK,k2,?_,?_,?_,hn,hi3,k8⟩
 ·have:=mD (n:=g'.length) (pl:=pl) k3
  exact WZ (pl:=upto 0 h2.length) (fun i hi=>by
   show _=if i<h2.length then _ else none
   rw [if_pos (hO.1 hi)]) _ _ b6 this
 ·intro m x hm
  have hlt:m<h.length:=by
   cases Nat.lt_or_ge m h.length with
   | inl q=>exact q
   | inr q=>rw [hf m q]at hm;cases hm
  show(if m<h2.length then V' (lab pl g'.length m)else none)=some x
  rw [if_pos (by omega)]
  have:lab pl g'.length m=m:=by unfold lab;rw [e2 m hlt];simp
  rw [this];exact k4 m x hm
 ·intro m hm
  show(if m<h2.length then _ else none)=none
  rw [if_neg (by omega)]
structure EC (K:AVal→aB A→Prop) (v:AVal) (g':aB A):Prop where
 ex: ∃(t:A) (l np:Nat) (g:aB A) (ps:List Nat),(oZ np g&&Nat.beq ps.length np)=true∧tb t=(np,g)∧aJ g' l=some (.abs t ps)∧K v (bP g' l np g ps)
theorem aC.opened{f:FuncId}{args:List AVal}{h:aB A}{K:AVal→aB A→Prop}(h0:aC (obI tb) P f args h (EC tb K)):aC (obI tb) P f args h K:=by
 intro V hR w args' hi hf hr
 refine(h0 V hR w args' hi hf hr).mono ?_
 rintro e w' ⟨v,v',V',g',⟨t,l,np,g,ps,hb,ht,hl,hK⟩,k2,k3,k4,k5,k6,k7,k8⟩
 simp only [Bool.and_eq_true]at hb
 obtain⟨b1,b2⟩:=hb
 obtain⟨V1,v1,v2,v3⟩:=k7.unpack tb k5 hl ht b1 (Nat.eq_of_beq_eq_true b2)
 exact⟨v,v',V1,_,hK,k2,Rep.mono v1 _ _ k3,Val.le_trans k4 v1,v2,Nat.le_trans k6 (by rw [eA];omega),v3,k8⟩
def farI(n k i:Nat):Nat:=if i<n then i else i+k
def zN(n k:Nat)(g:aB A):aB A:=(g.take n).map (Option.map (aI.ren (farI n k)))++List.replicate k none++(g.drop n).map (Option.map (aI.ren (farI n k)))
theorem FZ{n k:Nat}{g:aB A}(hn:n≤g.length)(i:Nat):aJ (zN n k g) (farI n k i)=(aJ g i).map (aI.ren (farI n k)):=by
 have hl:((g.take n).map (Option.map (aI.ren (farI n k)))).length =n:=by rw [List.length_map,List.length_take];omega
 unfold zN aJ
 simp only [gD']
 by_cases hi:i<n
 ·have e:farI n k i=i:=if_pos hi
  rw [e,List.append_assoc,List.getElem?_append_left (by rw [hl];exact hi),List.getElem?_map,List.getElem?_take,if_pos hi]
  rw [gE' (by omega)]
  rfl
 ·have e:farI n k i=i+k:=if_neg hi
  rw [e,List.getElem?_append_right (by rw [List.length_append,hl,List.length_replicate];omega),List.getElem?_map,List.getElem?_drop]
  have e2:n+(i+k - ((g.take n).map (Option.map (aI.ren (farI n k)))++List.replicate k (none:Option (aI A))).length)=i:=by
   rw [List.length_append,hl,List.length_replicate];omega
  rw [e2]
  cases g[i]? <;>rfl
theorem wS{n k:Nat}{g:aB A}(hn:n≤g.length):(zN n k g).length =g.length+k:=by
 unfold zN
 rw [List.length_append,List.length_append,List.length_map,List.length_take,List.length_replicate,List.length_map,List.length_drop];omega
theorem CS{n k:Nat}{g:aB A}(hn:n≤g.length){m:Nat}(h1:n≤m)(h2:m<n+k):aJ (zN n k g) m=none:=by
 have hl:((g.take n).map (Option.map (aI.ren (farI n k)))).length =n:=by rw [List.length_map,List.length_take];omega
 unfold zN aJ
 simp only [gD']
 rw [List.append_assoc,List.getElem?_append_right (by rw [hl];exact h1),hl,List.getElem?_append_left (by rw [List.length_replicate];omega),List.getElem?_replicate,if_pos (by omega)]
 rfl
theorem F0{n k:Nat} : ∀i j,farI n k i=farI n k j→i=j:=by
 intro i j h
 unfold farI at h
 split at h<;>split at h<;>omega
theorem XH{f:FuncId}{args:List AVal}{h':aB A}{K:AVal→aB A→Prop}(h:aB A)(t:A)(l np:Nat)(g:aB A)(ps:List Nat)(he:h'=bP h l np g ps)(hl:aJ h l=some (.abs t ps))(ht:tb t=(np,g))
 (hb:(oZ np g&&rV h l ps&&VY (upto 0 h.length) args&&Nat.beq ps.length np)=true)
 (h0:aC (obI tb) P f args h (fun v g2=>K (v.ren (farI h.length (h'.length - h.length))) (zN h.length (h'.length - h.length) g2))):aC (obI tb) P f args h' K:=by
 subst he
 simp only [Bool.and_eq_true]at hb
 obtain⟨⟨⟨b1,b2⟩,b3⟩,b4⟩:=hb
 have hlen:=eA h l np g ps
 generalize hk:(bP h l np g ps).length - h.length=k at h0
 intro V hR w args' hi hf hr
 have hi2:=hi.pack tb hl ht b1 (Nat.eq_of_beq_eq_true b4) b2
 have hf2:bM (fun m=>if m<h.length then V m else none) h.length:=by
  intro m hm
  show(if m<h.length then _ else none)=none
  rw [if_neg (by omega)]
 have hr2:aH (fun m=>if m<h.length then V m else none) args args'.toList:=WL (pl:=upto 0 h.length) (fun i hi=>by
  show _=if i<h.length then _ else none
  rw [if_pos (hO.1 hi)]) _ _ b3 hr
 refine(h0 _ hR w args' hi2 hf2 hr2).mono ?_
 rintro e w' ⟨v,v',V',g2,hK,k2,k3,k4,k5,k6,k7,k8⟩
 let V1:Val:=fun m=>if m<h.length then V' m else if m<h.length+k then V m else V' (m - k)
 have hV1:(fun i=>V1 (farI h.length k i))=V':=by
  funext i
  show(if farI h.length k i<h.length then _ else _)=_
  by_cases hi:i<h.length
  ·have e:farI h.length k i=i:=if_pos hi
   rw [e,if_pos hi]
  ·have e:farI h.length k i=i+k:=if_neg hi
   rw [e,if_neg (by omega),if_neg (by omega),Nat.add_sub_cancel]
 refine⟨_,v',V1,_,hK,k2,?_,?_,?_,?_,?_,k8⟩
 ·refine(Rep.ren _ _).2 ?_
  rw [hV1];exact k3
 ·intro m x hm
  show(if m<h.length then _ else _)=some x
  by_cases h1:m<h.length
  ·rw [if_pos h1]
   exact k4 m x (by show(if m<h.length then V m else none)=some x;rw [if_pos h1];exact hm)
  ·rw [if_neg h1]
   have h2:m<h.length+k:=by
    cases Nat.lt_or_ge m (h.length+k)with
    | inl q=>exact q
    | inr q=>rw [hf m (by omega)]at hm;cases hm
   rw [if_pos h2];exact hm
 ·intro m hm
  rw [wS k6]at hm
  show(if m<h.length then _ else _)=none
  rw [if_neg (by omega),if_neg (by omega)]
  exact k5 _ (by omega)
 ·rw [wS k6];omega
 ·refine(WW (ι:=farI h.length k) (h0:=toF g2) F0 (fun i=>FZ k6 i) ?_).2 (by rw [hV1];exact k7)
  intro m hm
  by_cases h1:m<h.length
  ·exact(hm m (if_pos h1)).elim
  ·by_cases h2:m<h.length+k
   ·exact CS k6 (by omega) h2
   ·refine(hm (m - k) ?_).elim
    show(if m - k<h.length then _ else _)=m
    rw [if_neg (by omega)];omega
end Go.Sh
namespace Go.Sh
open Go
variable [Con] {A:Type} {P:Program}
def lX:List AVal→List AVal→Prop
 | [],[]=>True
 | v::vs,w::ws=>(w=v∨w=.O)∧lX vs ws
 | _,_=>False
theorem uL{V:Val} : ∀ {vs ws:List AVal} {xs:List Value},lX vs ws→aH V vs xs→aH V ws xs
 | [],[],_,_,r=>r
 | v::vs,w::ws,_,⟨h,h2⟩,⟨x,xs,e,r,r2⟩=>⟨x,xs,e,by rcases h with rfl | rfl;exact r;exact trivial,uL h2 r2⟩
def mP:Option (aI A)→Option (aI A)→Prop
 | _,none=>True
 | some (.cells vs),some (.cells ws)=>lX vs ws
 | x,y=>x=y
def i7:aB A→aB A→Prop
 | [],[]=>True
 | x::g,y::g2=>mP x y∧i7 g g2
 | _,_=>False
theorem fV: ∀ {g g2:aB A},i7 g g2→g2.length=g.length
 | [],[],_=>rfl
 | x::g,y::g2,h=>by simp [fV h.2]
theorem uK: ∀ {g g2:aB A},i7 g g2→ ∀l,mP (aJ g l) (aJ g2 l)
 | [],[],_,l=>by simp [aJ,mP]
 | x::g,y::g2,h,0=>by simpa [aJ]using h.1
 | x::g,y::g2,h,l+1=>by
   have:=uK h.2 l
   simpa [aJ]using this
theorem Inv.weak{I:Itp A}{V:Val}{g g2:aB A}{hR:PHeap}{w:World}(hw:i7 g g2)(hi:Inv I V (toF g) hR w):Inv I V (toF g2) hR w:=by
 classical
 obtain⟨hs,h1,h2,h3,h4,h5,h6⟩:=hi
 refine⟨fun l=>if aJ g2 l=none then .emp else hs l,?_,?_,?_,?_,?_,h6⟩
 ·intro l e he
  have he':aJ g2 l=some e:=he
  have hq:=uK hw l
  rw [he']at hq
  show e.interp I V l (if aJ g2 l=none then PHeap.emp else hs l)
  rw [if_neg (by rw [he'];simp)]
  cases hg:aJ g l with
  | none=>rw [hg]at hq;cases e<;>cases hq
  | some e1=>
    rw [hg]at hq
    have hi1:=h1 l e1 hg
    cases e1 with
    | cells vs=>
      cases e with
      | cells ws=>
        obtain⟨b,k,q1,cs,T,q2,q3,rs,tail,q4,q5⟩:=hi1
        exact⟨b,k,q1,cs,T,q2,q3,rs,tail,q4,uL hq q5⟩
      | _=>simp [mP]at hq
    | _=>
      simp only [mP,sI']at hq
      subst hq
      exact hi1
 ·intro l he
  have he':aJ g2 l=none:=he
  show(if aJ g2 l=none then PHeap.emp else hs l)=_
  rw [if_pos he']
 ·intro l m hlm
  show PHeap.disj (if aJ g2 l=none then .emp else hs l) (if aJ g2 m=none then .emp else hs m)
  split
  ·exact(VW _).symm
  ·split
   ·exact VW _
   ·exact h3 l m hlm
 ·intro l
  show PHeap.disj (if aJ g2 l=none then .emp else hs l) hR
  split
  ·exact(VW _).symm
  ·exact h4 l
 ·intro l
  show PHeap.sub (if aJ g2 l=none then .emp else hs l) w
  split
  ·exact WP _
  ·exact h5 l
structure EB (K:AVal→aB A→Prop) (v:AVal) (g:aB A):Prop where
 ex: ∃g2,i7 g g2∧K v g2
theorem XG{I:Itp A}{f:FuncId}{args:List AVal}{h:aB A}{K:AVal→aB A→Prop}(h0:aC I P f args h (EB K)):aC I P f args h K:=by
 intro V hR w args' hi hf hr
 refine(h0 V hR w args' hi hf hr).mono ?_
 rintro e w' ⟨v,v',V',g',⟨g2,hw,hK⟩,k2,k3,k4,k5,k6,k7,k8⟩
 exact⟨v,v',V',g2,hK,k2,k3,k4,by rw [fV hw];exact k5,by rw [fV hw];exact k6,k7.weak hw,k8⟩
end Go.Sh
namespace Go.Sh
open Go
variable [Con] {A:Type} {P:Program}
def aQ(I:Itp A)(n:Nat)(v:AVal)(g:aB A)(v2:AVal)(g2:aB A):Prop:=
 ∀V hR w x,Inv I V (toF g) hR w→bM V g.length→n≤g.length→Rep V v x→
  ∃V',(∀l y,l<n→V l=some y→V' l=some y)∧bM V' g2.length∧n≤g2.length∧Rep V' v2 x∧Inv I V' (toF g2) hR w
theorem WV{I:Itp A}(n:Nat)(v:AVal)(g:aB A):aQ I n v g v g:=fun V hR w x h1 h2 h3 h4=>⟨V,fun _ _ _ h=>h,h2,h3,h4,h1⟩
theorem aQ.trans{I:Itp A}{n:Nat}{v v2 v3:AVal}{g g2 g3:aB A}(a:aQ I n v g v2 g2)(b:aQ I n v2 g2 v3 g3):aQ I n v g v3 g3:=by
 intro V hR w x h1 h2 h3 h4
 obtain⟨V1,a1,a2,a3,a4,a5⟩:=a V hR w x h1 h2 h3 h4
 obtain⟨V2,b1,b2,b3,b4,b5⟩:=b V1 hR w x a5 a2 a3 a4
 exact⟨V2,fun l y hl hy=>b1 l y hl (a1 l y hl hy),b2,b3,b4,b5⟩
theorem aQ.weak{I:Itp A}{n:Nat}{v:AVal}{g g2:aB A}(h:i7 g g2):aQ I n v g v g2:=fun V hR w x h1 h2 h3 h4=>⟨V,fun _ _ _ h=>h,by rw [fV h];exact h2,by rw [fV h];exact h3,h4,h1.weak h⟩
theorem aQ.pick{I:Itp A}{n:Nat}{v:AVal}{g:aB A}(pl:List Nat)(h:(dY pl g.length&&iU pl 0 n)=true):aQ I n v g (jY pl v) (fR pl g):=by
 intro V hR w x h1 h2 h3 h4
 obtain⟨q1,q2⟩:=Bool.and_eq_true_iff.1 h
 obtain⟨p1,p2,p3,p4⟩:=sT.elim q1 q2 h1 h2
 exact⟨_,fun l y hl hy=>(p1 l hl).trans hy,p2,p3,mD h4,p4⟩
theorem aQ.unpack{tb:A→Nat×aB A}{n:Nat}{v:AVal}{g:aB A}(t:A)(l np:Nat)(e:aB A)(ps:List Nat)(hl:aJ g l=some (.abs t ps))(ht:tb t=(np,e))(ho:oZ np e=true)(hnp:ps.length=np):aQ (obI tb) n v g v (bP g l np e ps):=by
 intro V hR w x h1 h2 h3 h4
 obtain⟨V1,v1,v2,v3⟩:=h1.unpack tb h2 hl ht ho hnp
 exact⟨V1,fun l y _ hy=>v1 l y hy,v2,by rw [eA];omega,Rep.mono v1 _ _ h4,v3⟩
theorem aQ.pack{tb:A→Nat×aB A}{n:Nat}{v:AVal}{g:aB A}(h2:aB A)(t:A)(l np:Nat)(e:aB A)(ps:List Nat)(hg:g=bP h2 l np e ps)(hl:aJ h2 l=some (.abs t ps))(ht:tb t=(np,e))
 (hb:(Nat.ble n h2.length&&oZ np e&&rV h2 l ps&&v.within (upto 0 h2.length)&&Nat.beq ps.length np)=true):aQ (obI tb) n v g v h2:=by
 subst hg
 simp only [Bool.and_eq_true]at hb
 obtain⟨⟨⟨⟨b3,b4⟩,b5⟩,b6⟩,b7⟩:=hb
 have hn:n≤h2.length:=Nat.le_of_ble_eq_true b3
 intro V hR w x h1 hf h3 h4
 refine⟨_,?_,?_,hn,?_,h1.pack tb hl ht b4 (Nat.eq_of_beq_eq_true b7) b5⟩
 ·intro m y hm hy
  show(if m<h2.length then V m else none)=some y
  rw [if_pos (by omega)];exact hy
 ·intro m hm
  show(if m<h2.length then _ else none)=none
  rw [if_neg (by omega)]
 ·exact WZ (pl:=upto 0 h2.length) (fun i hi=>by
   show _=if i<h2.length then _ else none
   rw [if_pos (hO.1 hi)]) _ _ b6 h4
theorem WJ{I:Itp A}{n:Nat}{v v2:AVal}{g g2:aB A}(h1:v=v2)(h2:g=g2):aQ I n v g v2 g2:=by subst h1 h2;exact WV _ _ _
theorem aQ.less{I:Itp A}{n m:Nat}{v v2:AVal}{g g2:aB A}(h:aQ I n v g v2 g2)(hm:m≤n)(hn:n≤g.length):aQ I m v g v2 g2:=by
 intro V hR w x h1 hf h3 h4
 obtain⟨V1,a1,a2,a3,a4,a5⟩:=h V hR w x h1 hf hn h4
 exact⟨V1,fun l y hl hy=>a1 l y (by omega) hy,a2,by omega,a4,a5⟩
structure gM (I:Itp A) (n:Nat) (K:AVal→aB A→Prop) (v:AVal) (g:aB A):Prop where
 ex: ∃v2 g2,aQ I n v g v2 g2∧K v2 g2
theorem W5{I:Itp A}{f:FuncId}{args:List AVal}{h:aB A}{K:AVal→aB A→Prop}(h0:aC I P f args h (gM I h.length K)):aC I P f args h K:=by
 intro V hR w args' hi hf hr
 refine(h0 V hR w args' hi hf hr).mono ?_
 rintro e w' ⟨v,v',V',g',⟨v2,g2,ht,hK⟩,k2,k3,k4,k5,k6,k7,k8⟩
 obtain⟨V1,a1,a2,a3,a4,a5⟩:=ht V' hR w' v' k7 k5 k6 k3
 refine⟨v2,v',V1,g2,hK,k2,a4,?_,a2,a3,a5,k8⟩
 intro l y hl
 have hlt:l<h.length:=by
  cases Nat.lt_or_ge l h.length with
  | inl q=>exact q
  | inr q=>rw [hf l q]at hl;cases hl
 exact a1 l y hlt (k4 l y hl)
inductive Tr (X:Type) where
 | ret (x:X)
 | ite (b:Bool) (l r:Tr X)
 | pre (p:Prop) (t:Tr X)
def Tr.run{X:Type} :Tr X→(X→Prop)→Prop
 | .ret x,K=>K x
 | .ite b l r,K=>cond b (l.run K) (r.run K)
 | .pre p t,K=>p∧t.run K
def Tr.val{X:Type} :Tr X→X
 | .ret x=>x
 | .ite b l r=>bif b then l.val else r.val
 | .pre _ t=>t.val
def Tr.ok{X:Type} :Tr X→Prop
 | .ret _=>True
 | .ite b l r=>cond b l.ok r.ok
 | .pre p t=>p∧t.ok
theorem WB{X:Type}{K:X→Prop} : ∀ {t:Tr X},t.ok→K t.val→t.run K
 | .ret x,_,k=>k
 | .ite b l r,o,k=>by
   cases b with
   | true=>exact WB (t:=l) o k
   | false=>exact WB (t:=r) o k
 | .pre p t,o,k=>⟨o.1,WB (t:=t) o.2 k⟩
def NV{X:Type}(n:Nat)(parse:AVal→aB A→Option (Prop×X))(K:X→Prop)(v:AVal)(g:aB A):Prop:=
 cJ (dY (dL n g v.labels) g.length&&iU (dL n g v.labels) 0 n) (match parse (jY (dL n g v.labels) v) (fR (dL n g v.labels) g)with
  | some (p,x)=>p∧K x
  | none=>False)
def dB{X:Type}(I:Itp A)(n:Nat)(parse:AVal→aB A→Option (Prop×X))(fin:X→Out A):Prop:=
 ∀v g p x,parse v g=some (p,x)→p→ ∀K,(fin x).run K→gM I n K v g
theorem aC.leaf{X:Type}{I:Itp A}{f:FuncId}{args:List AVal}{h:aB A}{K:AVal→aB A→Prop}{parse:AVal→aB A→Option (Prop×X)}{fin:X→Out A}(n:Nat)(hn:n≤h.length)(hr:dB I n parse fin)
 (h0:aC I P f args h (NV n parse fun x=>(fin x).run K)): ∀V hR w (args':Array Value),Inv I V (toF h) hR w→bM V h.length→aH V args args'.toList→Calls P f args' w (fun e w'=> ∃v v' V' h',K v h'∧e=.returned v'∧Rep V' v v'∧(∀l y,l<n→V l=some y→V' l=some y)∧bM V' h'.length∧n≤h'.length∧Inv I V' (toF h') hR w'∧bR w w'):=by
 intro V hR w args' hi hf hrp
 refine(h0 V hR w args' hi hf hrp).mono ?_
 rintro e w' ⟨v,v',V',g',hL,k2,k3,k4,k5,k6,k7,k8⟩
 unfold NV at hL
 obtain⟨hg,hL⟩:=bD.1 hL
 have ht:=aQ.pick (I:=I) (v:=v) _ hg
 split at hL
 ·rename_i p x hp
  obtain⟨v2,g2,ht2,hK⟩:=(hr _ _ p x hp hL.1 K hL.2).ex
  obtain⟨V1,a1,a2,a3,a4,a5⟩:=(ht.trans ht2) V' hR w' v' k7 k5 (by omega) k3
  exact⟨v2,v',V1,g2,hK,k2,a4,fun l y hl hy=>a1 l y hl (k4 l y hy),a2,a3,a5,k8⟩
 ·exact hL.elim
theorem aC.plain{X:Type}{I:Itp A}{f:FuncId}{args:List AVal}{h:aB A}{K:AVal→aB A→Prop}{parse:AVal→aB A→Option (Prop×X)}{fin:X→Out A}(hr:dB I h.length parse fin)
 (h0:aC I P f args h (NV h.length parse fun x=>(fin x).run K)):aC I P f args h K:=by
 intro V hR w args' hi hf hrp
 refine(aC.leaf h.length (Nat.le_refl _) hr h0 V hR w args' hi hf hrp).mono ?_
 rintro e w' ⟨v,v',V',h',k1,k2,k3,k4,k5,k6,k7,k8⟩
 refine⟨v,v',V',h',k1,k2,k3,?_,k5,k6,k7,k8⟩
 intro l y hy
 have hlt:l<h.length:=by
  cases Nat.lt_or_ge l h.length with
  | inl q=>exact q
  | inr q=>rw [hf l q]at hy;cases hy
 exact k4 l y hlt hy
end Go.Sh
namespace Go.Sh
open Go
variable [Con] {A:Type} {P:Program}
def NR(g:aB A):AVal→Bool
 | .ptr l 0=>(match aJ g l with
   | some (.abs _ _)=>false
   | _=>true)
 | _=>true
def IW(g:aB A)(pos:List Nat):Nat→List AVal→List AVal
 | _,[]=>[]
 | i,v::vs=>cond (pos.elem i&&NR g v) .O v::IW g pos (i+1) vs
theorem sD(g:aB A)(pos:List Nat): ∀(i:Nat) (vs:List AVal),lX vs (IW g pos i vs)
 | _,[]=>trivial
 | i,v::vs=>by
   refine⟨?_,sD g pos (i+1) vs⟩
   cases pos.elem i&&NR g v with
   | true=>exact .inr rfl
   | false=>exact .inl rfl
theorem sG: ∀(vs:List AVal),lX vs vs
 | []=>trivial
 | _::vs=>⟨.inl rfl,sG vs⟩
theorem sF(e:Option (aI A)):mP e e:=by
 cases e with
 | none=>trivial
 | some e=>cases e with
   | cells vs=>exact sG vs
   | _=>rfl
theorem kP: ∀(g:aB A),i7 g g
 | []=>trivial
 | _::g=>⟨sF _,kP g⟩
theorem pH: ∀(g:aB A) (l:Nat) (e2:Option (aI A)),mP (aJ g l) e2→i7 g (g.set l e2)
 | [],_,_,_=>trivial
 | x::g,0,e2,h=>⟨by simpa [aJ]using h,kP g⟩
 | x::g,l+1,e2,h=>⟨sF x,pH g l e2 (by simpa [aJ]using h)⟩
def vR(g:aB A)(root:Nat)(pos:List Nat):aB A:=match aJ g root with
 | some (.cells vs)=>g.set root (some (.cells (IW g pos 0 vs)))
 | _=>g
theorem vS(g:aB A)(root:Nat)(pos:List Nat):i7 g (vR g root pos):=by
 unfold vR
 split
 ·rename_i vs h
  refine pH g root _ ?_
  rw [h]
  exact sD g pos 0 vs
 ·exact kP g
theorem aQ.cast{I:Itp A}{n:Nat}{cs:List (Place×fO)}{v v2:AVal}{g g2:aB A}(h:fW cs [v] g=some ([v2],g2)):aQ I n v g v2 g2:=by
 intro V hR w x h1 h2 h3 h4
 obtain⟨V',⟨c1,c2,c3,c4⟩,r⟩:=eQ h h1 h2 (xs:=[x]) ⟨x,[],rfl,h4,rfl⟩
 obtain⟨y,ys,e,r1,_⟩:=r
 simp only [lI']at e
 obtain⟨rfl,_⟩:=e
 exact⟨V',fun l y _ hy=>c1 l y hy,c2,by omega,r1,c4⟩
def dX{X:Type}(n root:Nat)(pos:List Nat)(cs:List (Place×fO))(parse:AVal→aB A→Option (Prop×X))(K:X→Prop)(v:AVal)(g:aB A):Prop:=
 let pl:=dL n g v.labels
 cJ (dY pl g.length&&iU pl 0 n) (
  match fW cs [jY pl v] (vR (fR pl g) root pos)with
  | some ([v3],g3)=>
    let pl2:=dL n g3 v3.labels
    cJ (dY pl2 g3.length&&iU pl2 0 n) (match parse (jY pl2 v3) (fR pl2 g3)with
     | some (p,x)=>p∧K x
     | none=>False)
  | _=>False)
theorem dX.sees{X:Type}{I:Itp A}{n root:Nat}{pos:List Nat}{cs:List (Place×fO)}{parse:AVal→aB A→Option (Prop×X)}{fin:X→Out A}(hr:dB I n parse fin){K:AVal→aB A→Prop}{v:AVal}{g:aB A}
 (h:dX n root pos cs parse (fun x=>(fin x).run K) v g):gM I n K v g:=by
 unfold dX at h
 obtain⟨h1,h⟩:=bD.1 h
 have t1:=aQ.pick (I:=I) (v:=v) _ h1
 split at h
 ·rename_i v3 g3 hc
  obtain⟨h2,h⟩:=bD.1 h
  have t2:aQ I n (jY (dL n g v.labels) v) (fR (dL n g v.labels) g) v3 g3:=(aQ.weak (vS _ root pos)).trans (aQ.cast hc)
  have t3:=aQ.pick (I:=I) (v:=v3) _ h2
  split at h
  ·rename_i p x hp
   obtain⟨v4,g4,t4,hK⟩:=(hr _ _ p x hp h.1 K h.2).ex
   exact⟨v4,g4,((t1.trans t2).trans t3).trans t4,hK⟩
  ·exact h.elim
 ·exact h.elim
theorem XM{X:Type}{I:Itp A}{f:FuncId}{args:List AVal}{h:aB A}{K:AVal→aB A→Prop}{parse:AVal→aB A→Option (Prop×X)}{fin:X→Out A}(n:Nat)(hn:n≤h.length){root:Nat}{pos:List Nat}{cs:List (Place×fO)}(hr:dB I n parse fin)
 (h0:aC I P f args h (dX n root pos cs parse fun x=>(fin x).run K)): ∀V hR w (args':Array Value),Inv I V (toF h) hR w→bM V h.length→aH V args args'.toList→Calls P f args' w (fun e w'=> ∃v v' V' h',K v h'∧e=.returned v'∧Rep V' v v'∧(∀l y,l<n→V l=some y→V' l=some y)∧bM V' h'.length∧n≤h'.length∧Inv I V' (toF h') hR w'∧bR w w'):=by
 intro V hR w args' hi hf hrp
 refine(h0 V hR w args' hi hf hrp).mono ?_
 rintro e w' ⟨v,v',V',g',hL,k2,k3,k4,k5,k6,k7,k8⟩
 obtain⟨v2,g2,ht2,hK⟩:=(dX.sees hr hL).ex
 obtain⟨V1,a1,a2,a3,a4,a5⟩:=ht2 V' hR w' v' k7 k5 (by omega) k3
 exact⟨v2,v',V1,g2,hK,k2,a4,fun l y hl hy=>a1 l y hl (k4 l y hy),a2,a3,a5,k8⟩
theorem WI{X:Type}{I:Itp A}{f:FuncId}{args:List AVal}{h:aB A}{K:AVal→aB A→Prop}{parse:AVal→aB A→Option (Prop×X)}{fin:X→Out A}{root:Nat}{pos:List Nat}{cs:List (Place×fO)}(hr:dB I h.length parse fin)
 (h0:aC I P f args h (dX h.length root pos cs parse fun x=>(fin x).run K)):aC I P f args h K:=by
 intro V hR w args' hi hf hrp
 refine(XM h.length (Nat.le_refl _) hr h0 V hR w args' hi hf hrp).mono ?_
 rintro e w' ⟨v,v',V',h',k1,k2,k3,k4,k5,k6,k7,k8⟩
 refine⟨v,v',V',h',k1,k2,k3,?_,k5,k6,k7,k8⟩
 intro l y hy
 have hlt:l<h.length:=by
  cases Nat.lt_or_ge l h.length with
  | inl q=>exact q
  | inr q=>rw [hf l q]at hy;cases hy
 exact k4 l y hlt hy
end Go.Sh
namespace Go.Sh
open Go
variable [Con] {A:Type} {P:Program}
def rowC:Nat→List (Option A)→List AVal
 | _,[]=>[]
 | k,none::r=>.raw (.pointer none)::rowC (k+1) r
 | k,some _::r=>.ptr k 0::rowC (k+1) r
def LX(ws:List (Option A)):aB A:=ws.map (Option.map fun t=>aI.abs t [])
def rowE(ws:List (Option A)):aB A:=some (.cells (rowC 1 ws))::LX ws
def jR(ws:List (Option A))(i:Nat):aB A:=some (.cells ((rowC 2 ws).set i (.ptr 1 0)))::none::(LX ws).set i none
def DZ(k:Nat):Option A→AVal
 | none=>.raw (.pointer none)
 | some _=>.ptr k 0
theorem gI: ∀(ws:List (Option A)) (k j:Nat),(rowC k ws)[j]? =(ws[j]?).map (DZ (k+j))
 | [],_,_=>by simp [rowC]
 | none::r,k,0=>by simp [rowC,DZ]
 | some _::r,k,0=>by simp [rowC,DZ]
 | none::r,k,j+1=>by simp only [rowC,List.getElem?_cons_succ];rw [gI r (k+1) j];rw [show k+1+j=k+(j+1)from by omega]
 | some _::r,k,j+1=>by simp only [rowC,List.getElem?_cons_succ];rw [gI r (k+1) j];rw [show k+1+j=k+(j+1)from by omega]
theorem fI(k:Nat)(ws:List (Option A)):(rowC k ws).length =ws.length:=by
 induction ws generalizing k with
 | nil=>rfl
 | cons o r ih=>cases o<;>simp [rowC,ih]
theorem WX{V:Val} : ∀ {av:List AVal} {vs:List Value},av.length=vs.length→(∀(i:Nat) (a:AVal) (v:Value),av[i]? =some a→vs[i]? =some v→Rep V a v)→aH V av vs
 | [],[],_,_=>rfl
 | [],_::_,h,_=>by simp at h
 | _::_,[],h,_=>by simp at h
 | a::av,v::vs,h,hg=>⟨v,vs,rfl,hg 0 a v rfl rfl,WX (by simpa using h) (fun i a v h1 h2=>hg (i+1) a v (by simpa using h1) (by simpa using h2))⟩
theorem aH.at{V:Val}{av:List AVal}{vs:List Value}(h:aH V av vs){i:Nat}{a:AVal}{v:Value}(ha:av[i]? =some a)(hv:vs[i]? =some v):Rep V a v:=by
 obtain⟨y,hy,r⟩:=aH.get h i a ha
 rw [hv]at hy;cases hy;exact r
structure gL (tb:A→Nat×aB A) where
 R:Type
 row:R→A
 hole:R→Nat→A
 els:R→List (Option A)
 len:R→Nat
 upd:R→Nat→A→Option R
 isRow:A→Option R
 isHole:A→Option (R×Nat)
 is:R→Nat→Bool
 get:R→Nat→A
 isRow_eq: ∀t r,isRow t=some r→t=row r
 isHole_eq: ∀t r i,isHole t=some (r,i)→t=hole r i
 len_eq: ∀r,len r=(els r).length
 upd_eq: ∀r i t r',upd r i t=some r'→els r'=(els r).set i (some t)
 is_true: ∀r i,is r i=true→i<len r→(els r)[i]? =some (some (get r i))
 is_false: ∀r i,is r i=false→i<len r→(els r)[i]? =some none
 tbRow: ∀r,tb (row r)=(0,rowE (els r))
 tbHole: ∀r i,tb (hole r i)=(1,jR (els r) i)
theorem dZ(ws:List (Option A))(j:Nat):aJ (rowE ws) (j+1)=(ws[j]?).join.map (fun t=>aI.abs t []):=by
 simp only [rowE,aJ,List.getD_cons_succ,LX]
 rw [gD',List.getElem?_map]
 cases ws[j]? with
 | none=>rfl
 | some o=>cases o<;>rfl
theorem eL(ws:List (Option A))(i j:Nat):aJ (jR ws i) (j+2)=if i=j then none else(ws[j]?).join.map (fun t=>aI.abs t []):=by
 simp only [jR,aJ,List.getD_cons_succ,LX]
 rw [gD',List.getElem?_set]
 split
 ·split<;>rfl
 ·rw [List.getElem?_map]
  cases ws[j]? with
  | none=>rfl
  | some o=>cases o<;>rfl
variable {tb:A→Nat×aB A}
theorem mR{N:Nat}{V:Val}{l:Nat}{t:A}{p:PHeap}(h:aI.interp (lM tb N) V l (.abs t []) p): ∃x,V l=some x∧lM tb N t x [] p:=by
 obtain⟨b,k,h1,bs,h2,h3⟩:=h
 have:bs=[]:=h2
 subst this
 exact⟨_,h1,h3⟩
theorem gL.lend(R:gL tb){rr:R.R}{i:Nat}{t:A}{r:Nat×Nat}{p:PHeap}{N:Nat}(h:lM tb (N+1) (R.row rr) r [] p)(hw:(R.els rr)[i]? =some (some t)):
 ∃x q p',lM tb N t x [] q∧lM tb (N+1) (R.hole rr i) r [x] p'∧q.disj p'∧(∀b o,q b=some o→p b=some o)∧(∀b o,p' b=some o→p b=some o)∧
  ∃cs T,p r.1=some (.cells cs T)∧cs.toList[i]? =some (.pointer (some ⟨x.1,0,none⟩)):=by
 obtain⟨V,gs,g1,g2,g3,⟨g4,g5,g6⟩,g7⟩:=h
 have htb:=R.tbHole rr i
 rw [R.tbRow]at g2 g3 g4 g5
 dsimp only at g2 g3 g4 g5
 generalize R.els rr=ws at*
 have hi:aJ (rowE ws) (i+1)=some (.abs t []):=by rw [dZ,hw];rfl
 obtain⟨x,hx,hq⟩:=mR (g4 _ _ hi)
 have hc:=g4 0 _ (show aJ (rowE ws) 0=some (.cells (rowC 1 ws))from rfl)
 obtain⟨b,k,c1,cs,T,c2,c3,rs,tail,c4,c5⟩:=hc
 have hbk:r=(b,k):=by have c1':V 0=some (b,k):=c1;rw [g1]at c1';simpa using c1'
 have hlen:=aH.length c5
 have hil:i<rs.length:=by
  rw [hlen,fI]
  exact(List.getElem?_eq_some_iff.1 hw).1
 have hri:=aH.at c5 (i:=i) (a:=.ptr (1+i) 0) (v:=rs[i]) (by rw [gI,hw];rfl) (gE' hil)
 obtain⟨b2,k2,e1,e2⟩:=hri
 have hx2:x=(b2,k2):=by
  have:V (1+i)=some (b2,k2):=e1
  rw [Nat.add_comm]at this
  have hx':V (i+1)=some x:=hx
  rw [hx']at this;simpa using this
 let V':Val:=fun m=>match m with
  | 0=>V 0
  | 1=>some x
  | j+2=>V (j+1)
 let gs':Nat→PHeap:=fun m=>match m with
  | 0=>gs 0
  | 1=>.emp
  | j+2=>if i=j then .emp else gs (j+1)
 have hsub: ∀j b o,gs j b=some o→p b=some o:=by
  intro j b o hh;rw [g7];exact WD g6 hh
 have gs'_sub: ∀m b o,gs' m b=some o→ ∃j,j≠i+1∧gs j b=some o:=by
  intro m b o hh
  match m,hh with
  | 0,hh=>exact⟨0,by omega,hh⟩
  | 1,hh=>cases hh
  | j+2,hh=>
    have hh':(if i=j then PHeap.emp else gs (j+1)) b=some o:=hh
    split at hh'
    ·cases hh'
    ·exact⟨j+1,by omega,hh'⟩
 have gdis: ∀l m,l≠m→(gs' l).disj (gs' m):=by
  intro l m hlm b
  cases h1:gs' l b with
  | none=>exact .inl rfl
  | some o=>
    right
    cases h2:gs' m b with
    | none=>rfl
    | some o2=>
      exfalso
      have key: ∀l m,l≠m→ ∀o o2,gs' l b=some o→gs' m b=some o2→False:=by
       intro l m hlm o o2 h1 h2
       match l,m,h1,h2 with
       | 0,0,_,_=>exact hlm rfl
       | 1,_,h1,_=>cases h1
       | _,1,_,h2=>cases h2
       | 0,j+2,h1,h2=>
         have h2':(if i=j then PHeap.emp else gs (j+1)) b=some o2:=h2
         split at h2'
         ·cases h2'
         ·rcases g6 0 (j+1) (by omega) b with d | d
          ·have h1':gs 0 b=some o:=h1
           rw [d]at h1';cases h1'
          ·rw [d]at h2';cases h2'
       | j+2,0,h1,h2=>
         have h1':(if i=j then PHeap.emp else gs (j+1)) b=some o:=h1
         split at h1'
         ·cases h1'
         ·rcases g6 0 (j+1) (by omega) b with d | d
          ·have h2':gs 0 b=some o2:=h2
           rw [d]at h2';cases h2'
          ·rw [d]at h1';cases h1'
       | j+2,j2+2,h1,h2=>
         have h1':(if i=j then PHeap.emp else gs (j+1)) b=some o:=h1
         have h2':(if i=j2 then PHeap.emp else gs (j2+1)) b=some o2:=h2
         split at h1'
         ·cases h1'
         ·split at h2'
          ·cases h2'
          ·rcases g6 (j+1) (j2+1) (by omega) b with d | d
           ·rw [d]at h1';cases h1'
           ·rw [d]at h2';cases h2'
      exact key l m hlm o o2 h1 h2
 have hcell:aJ (jR ws i) 0=some (.cells ((rowC 2 ws).set i (.ptr 1 0))):=rfl
 refine⟨x,gs (i+1),VZ gs',hq,⟨V',gs',g1,?_,?_,⟨?_,?_,gdis⟩,rfl⟩,?_,hsub _,?_,cs,T,?_,?_⟩
 ·intro j hj
  rw [htb]at hj
  have:j=0:=by dsimp only at hj;omega
  subst this
  rfl
 ·rw [htb];rfl
 ·intro l e he
  rw [htb]at he
  match l,he with
  | 0,he=>
    have he':aJ (jR ws i) 0=some e:=he
    rw [hcell]at he'
    simp only [sI']at he'
    subst he'
    refine⟨b,k,c1,cs,T,c2,c3,rs,tail,c4,?_⟩
    refine WX (by rw [List.length_set,fI,hlen,fI]) ?_
    intro j a v ha hv
    rw [List.getElem?_set]at ha
    split at ha
    ·rename_i hij
     subst hij
     split at ha
     ·simp only [sI']at ha
      subst ha
      rw [gE' hil]at hv
      simp only [sI']at hv
      subst hv
      refine⟨b2,k2,?_,e2⟩
      show some x=_
      rw [hx2]
     ·cases ha
    ·rw [gI]at ha
     cases hwj:ws[j]? with
     | none=>rw [hwj]at ha;cases ha
     | some o=>
       rw [hwj]at ha
       simp only [Option.map_some,sI']at ha
       have hr:=aH.at c5 (i:=j) (a:=DZ (1+j) o) (v:=v) (by rw [gI,hwj];rfl) hv
       cases o with
       | none=>subst ha;exact hr
       | some s=>
         subst ha
         obtain⟨b3,k3,f1,f2⟩:=hr
         refine⟨b3,k3,?_,f2⟩
         show V' (2+j)=_
         rw [Nat.add_comm]
         show V (j+1)=_
         rw [Nat.add_comm];exact f1
  | 1,he=>cases he
  | j+2,he=>
    have he':aJ (jR ws i) (j+2)=some e:=he
    rw [eL]at he'
    split at he'
    ·cases he'
    ·rename_i hij
     have hj2:aJ (rowE ws) (j+1)=some e:=by rw [dZ];exact he'
     have hin:=g4 _ _ hj2
     show aI.interp (lM tb N) V' (j+2) e (if i=j then PHeap.emp else gs (j+1))
     rw [if_neg hij]
     cases hwj:(ws[j]?).join with
     | none=>rw [hwj]at he';cases he'
     | some s=>
       rw [hwj]at he'
       simp only [Option.map_some,sI']at he'
       subst he'
       obtain⟨x3,f1,f2⟩:=mR hin
       exact⟨x3.1,x3.2,f1,[],rfl,f2⟩
 ·intro l he
  rw [htb]at he
  match l,he with
  | 0,he=>cases he
  | 1,he=>rfl
  | j+2,he=>
    have he':aJ (jR ws i) (j+2)=none:=he
    rw [eL]at he'
    show(if i=j then PHeap.emp else gs (j+1))=_
    split at he'
    ·rename_i hij;rw [if_pos hij]
    ·rename_i hij
     rw [if_neg hij]
     refine g5 _ ?_
     show aJ (rowE ws) (j+1)=none
     rw [dZ];exact he'
 ·intro b'
  cases h1:gs (i+1) b' with
  | none=>exact .inl rfl
  | some o=>
    right
    refine W8 fun m=>?_
    cases h2:gs' m b' with
    | none=>rfl
    | some o2=>
      exfalso
      obtain⟨j,hj,h3⟩:=gs'_sub m b' o2 h2
      rcases g6 j (i+1) hj b' with d | d
      ·rw [d]at h3;cases h3
      ·rw [d]at h1;cases h1
 ·intro b' o hh
  obtain⟨m,hm⟩:=WG hh
  obtain⟨j,_,h3⟩:=gs'_sub m b' o hm
  exact hsub j b' o h3
 ·refine hsub 0 r.1 _ ?_
  rw [c2,hbk]
  simp [PHeap.one]
 ·rw [c4,List.getElem?_append_left hil,gE' hil,e2,hx2]
theorem gL.back(R:gL tb){rr rr':R.R}{i:Nat}{t:A}{r x:Nat×Nat}{p' q:PHeap}{N:Nat}(hp:lM tb (N+1) (R.hole rr i) r [x] p')(hq:lM tb N t x [] q)(hd:q.disj p')(hi:i<R.len rr)(hu:R.upd rr i t=some rr'):
 ∃p,lM tb (N+1) (R.row rr') r [] p∧(∀b o,p b=some o→q b=some o∨p' b=some o):=by
 obtain⟨V,gs,g1,g2,g3,⟨g4,g5,g6⟩,g7⟩:=hp
 have htb:=R.tbRow rr'
 rw [R.upd_eq _ _ _ _ hu]at htb
 rw [R.len_eq]at hi
 rw [R.tbHole]at g2 g3 g4 g5
 dsimp only at g2 g3 g4 g5
 generalize R.els rr=ws at*
 have hx:V 1=some x:=by have:=g2 0 (by omega);simpa using this
 have hc:=g4 0 _ (show aJ (jR ws i) 0=some (.cells ((rowC 2 ws).set i (.ptr 1 0)))from rfl)
 obtain⟨b,k,c1,cs,T,c2,c3,rs,tail,c4,c5⟩:=hc
 have hlen:=aH.length c5
 rw [List.length_set,fI]at hlen
 let V':Val:=fun m=>match m with
  | 0=>V 0
  | j+1=>if i=j then some x else V (j+2)
 let gs':Nat→PHeap:=fun m=>match m with
  | 0=>gs 0
  | j+1=>if i=j then q else gs (j+2)
 have hsub: ∀j b o,gs j b=some o→p' b=some o:=by
  intro j b o hh;rw [g7];exact WD g6 hh
 have hqd: ∀j b o o2,gs j b=some o→q b=some o2→False:=by
  intro j b o o2 h1 h2
  have:=hsub j b o h1
  rcases hd b with d | d
  ·rw [d]at h2;cases h2
  ·rw [d]at this;cases this
 have key: ∀l m b,l≠m→ ∀o o2,gs' l b=some o→gs' m b=some o2→False:=by
  intro l m b hlm o o2 h1 h2
  match l,m,h1,h2 with
  | 0,0,_,_=>exact hlm rfl
  | 0,j+1,h1,h2=>
    have h2':(if i=j then q else gs (j+2)) b=some o2:=h2
    split at h2'
    ·exact hqd 0 b o o2 h1 h2'
    ·rcases g6 0 (j+2) (by omega) b with d | d
     ·have h1':gs 0 b=some o:=h1
      rw [d]at h1';cases h1'
     ·rw [d]at h2';cases h2'
  | j+1,0,h1,h2=>
    have h1':(if i=j then q else gs (j+2)) b=some o:=h1
    split at h1'
    ·exact hqd 0 b o2 o h2 h1'
    ·rcases g6 0 (j+2) (by omega) b with d | d
     ·have h2':gs 0 b=some o2:=h2
      rw [d]at h2';cases h2'
     ·rw [d]at h1';cases h1'
  | j+1,j2+1,h1,h2=>
    have h1':(if i=j then q else gs (j+2)) b=some o:=h1
    have h2':(if i=j2 then q else gs (j2+2)) b=some o2:=h2
    split at h1'
    ·split at h2'
     ·omega
     ·exact hqd _ b o2 o h2' h1'
    ·split at h2'
     ·exact hqd _ b o o2 h1' h2'
     ·rcases g6 (j+2) (j2+2) (by omega) b with d | d
      ·rw [d]at h1';cases h1'
      ·rw [d]at h2';cases h2'
 have gdis: ∀l m,l≠m→(gs' l).disj (gs' m):=by
  intro l m hlm b
  cases h1:gs' l b with
  | none=>exact .inl rfl
  | some o=>
    right
    cases h2:gs' m b with
    | none=>rfl
    | some o2=>exact(key l m b hlm o o2 h1 h2).elim
 refine⟨VZ gs',⟨V',gs',g1,?_,?_,⟨?_,?_,gdis⟩,rfl⟩,?_⟩
 ·intro j hj
  rw [htb]at hj
  dsimp only at hj;omega
 ·rw [htb];rfl
 ·intro l e he
  rw [htb]at he
  match l,he with
  | 0,he=>
    have he':some (aI.cells (rowC 1 (ws.set i (some t))))=some e:=he
    simp only [sI']at he'
    subst he'
    refine⟨b,k,c1,cs,T,c2,c3,rs,tail,c4,?_⟩
    refine WX (by rw [fI,List.length_set,hlen]) ?_
    intro j a v ha hv
    rw [gI,List.getElem?_set]at ha
    split at ha
    ·rename_i hij
     subst hij
     simp only [Option.map_some,sI',DZ]at ha
     subst ha
     have hr:=aH.at c5 (i:=i) (a:=.ptr 1 0) (v:=v) (by rw [List.getElem?_set,if_pos rfl,if_pos (by rw [fI];exact hi)]) hv
     obtain⟨b3,k3,f1,f2⟩:=hr
     refine⟨b3,k3,?_,f2⟩
     show V' (1+i)=_
     rw [Nat.add_comm]
     show(if i=i then some x else _)=_
     rw [if_pos rfl,←hx];exact f1
    ·rename_i hij
     cases hwj:ws[j]? with
     | none=>rw [hwj]at ha;cases ha
     | some o=>
       rw [hwj]at ha
       simp only [Option.map_some,sI']at ha
       have hr:=aH.at c5 (i:=j) (a:=DZ (2+j) o) (v:=v) (by rw [List.getElem?_set,if_neg hij,gI,hwj];rfl) hv
       cases o with
       | none=>subst ha;exact hr
       | some s=>
         subst ha
         obtain⟨b3,k3,f1,f2⟩:=hr
         refine⟨b3,k3,?_,f2⟩
         show V' (1+j)=_
         rw [Nat.add_comm]
         show(if i=j then some x else V (j+2))=_
         rw [if_neg hij,Nat.add_comm];exact f1
  | j+1,he=>
    have he':aJ (rowE (ws.set i (some t))) (j+1)=some e:=he
    rw [dZ,List.getElem?_set]at he'
    show aI.interp (lM tb N) V' (j+1) e (if i=j then q else gs (j+2))
    split at he'
    ·rename_i hij
     subst hij
     simp only [Option.join_some,Option.map_some,sI']at he'
     subst he'
     rw [if_pos rfl]
     exact⟨x.1,x.2,by show(if i=i then some x else _)=_;rw [if_pos rfl],[],rfl,hq⟩
    ·rename_i hij
     rw [if_neg hij]
     have hj2:aJ (jR ws i) (j+2)=some e:=by rw [eL,if_neg hij];exact he'
     have hin:=g4 _ _ hj2
     cases hwj:(ws[j]?).join with
     | none=>rw [hwj]at he';cases he'
     | some s=>
       rw [hwj]at he'
       simp only [Option.map_some,sI']at he'
       subst he'
       obtain⟨x3,f1,f2⟩:=mR hin
       refine⟨x3.1,x3.2,?_,[],rfl,f2⟩
       show(if i=j then some x else V (j+2))=_
       rw [if_neg hij];exact f1
 ·intro l he
  rw [htb]at he
  match l,he with
  | 0,he=>cases he
  | j+1,he=>
    have he':aJ (rowE (ws.set i (some t))) (j+1)=none:=he
    rw [dZ,List.getElem?_set]at he'
    show(if i=j then q else gs (j+2))=_
    split at he'
    ·rename_i hij
     subst hij
     cases he'
    ·rename_i hij
     rw [if_neg hij]
     refine g5 _ ?_
     show aJ (jR ws i) (j+2)=none
     rw [eL,if_neg hij];exact he'
 ·intro b' o hh
  obtain⟨m,hm⟩:=WG hh
  match m,hm with
  | 0,hm=>exact .inr (hsub 0 b' o hm)
  | j+1,hm=>
    have hm':(if i=j then q else gs (j+2)) b'=some o:=hm
    split at hm'
    ·exact .inl hm'
    ·exact .inr (hsub _ b' o hm')
theorem gL.nil(R:gL tb){rr:R.R}{i:Nat}{r:Nat×Nat}{p:PHeap}{N:Nat}(h:lM tb (N+1) (R.row rr) r [] p)(hw:(R.els rr)[i]? =some none):
 ∃cs T,p r.1=some (.cells cs T)∧cs.toList[i]? =some (.pointer none):=by
 obtain⟨V,gs,g1,g2,g3,⟨g4,g5,g6⟩,g7⟩:=h
 rw [R.tbRow]at g4
 dsimp only at g4
 generalize R.els rr=ws at*
 have hc:=g4 0 _ (show aJ (rowE ws) 0=some (.cells (rowC 1 ws))from rfl)
 obtain⟨b,k,c1,cs,T,c2,c3,rs,tail,c4,c5⟩:=hc
 have hbk:r=(b,k):=by have c1':V 0=some (b,k):=c1;rw [g1]at c1';simpa using c1'
 have hlen:=aH.length c5
 have hil:i<rs.length:=by rw [hlen,fI];exact(List.getElem?_eq_some_iff.1 hw).1
 have hri:=aH.at c5 (i:=i) (a:=.raw (.pointer none)) (v:=rs[i]) (by rw [gI,hw];rfl) (gE' hil)
 have e2:rs[i]=.pointer none:=hri
 refine⟨cs,T,?_,?_⟩
 ·rw [g7]
  refine WD g6 (l:=0) ?_
  rw [c2,hbk];simp [PHeap.one]
 ·rw [c4,List.getElem?_append_left hil,gE' hil,e2]
theorem gL.lent(R:gL tb){rr:R.R}{i:Nat}{r x:Nat×Nat}{p:PHeap}{N:Nat}(h:lM tb (N+1) (R.hole rr i) r [x] p)(hi:i<R.len rr):
 ∃cs T,p r.1=some (.cells cs T)∧cs.toList[i]? =some (.pointer (some ⟨x.1,0,none⟩)):=by
 obtain⟨V,gs,g1,g2,g3,⟨g4,g5,g6⟩,g7⟩:=h
 rw [R.tbHole]at g2 g4
 rw [R.len_eq]at hi
 dsimp only at g2 g4
 generalize R.els rr=ws at*
 have hx:V 1=some x:=by have:=g2 0 (by omega);simpa using this
 have hc:=g4 0 _ (show aJ (jR ws i) 0=some (.cells ((rowC 2 ws).set i (.ptr 1 0)))from rfl)
 obtain⟨b,k,c1,cs,T,c2,c3,rs,tail,c4,c5⟩:=hc
 have hbk:r=(b,k):=by have c1':V 0=some (b,k):=c1;rw [g1]at c1';simpa using c1'
 have hlen:=aH.length c5
 rw [List.length_set,fI]at hlen
 have hil:i<rs.length:=by omega
 have hri:=aH.at c5 (i:=i) (a:=.ptr 1 0) (v:=rs[i]) (by rw [List.getElem?_set,if_pos rfl,if_pos (by rw [fI];exact hi)]) (gE' hil)
 obtain⟨b2,k2,e1,e2⟩:=hri
 have hx2:x=(b2,k2):=by
  have:V 1=some (b2,k2):=e1
  rw [hx]at this;simpa using this
 refine⟨cs,T,?_,?_⟩
 ·rw [g7]
  refine WD g6 (l:=0) ?_
  rw [c2,hbk];simp [PHeap.one]
 ·rw [c4,List.getElem?_append_left hil,gE' hil,e2,hx2]
theorem Inv.lend(R:gL tb){V:Val}{h:aB A}{hR:PHeap}{w:World}{l i:Nat}{ws:R.R}{t:A}(hi:Inv (obI tb) V (toF h) hR w)(hf:bM V h.length)(hl:aJ h l=some (.abs (R.row ws) []))(hw:(R.els ws)[i]? =some (some t)):
 ∃V' x b k cs T,V.le V'∧bM V' (h.length+1)∧Inv (obI tb) V' (toF (h.set l (some (.abs (R.hole ws i) [h.length]))++ [some (.abs t [])])) hR w∧V' h.length=some x∧V l=some (b,k)∧w.heap[b]? =some (.cells cs T)∧cs.toList[i]? =some (.pointer (some ⟨x.1,0,none⟩)):=by
 have hll:=cB hl
 obtain⟨hs,h1,h2,h3,h4,h5,h6⟩:=hi
 obtain⟨b,k,hV,bs,hlo,N,hob⟩:=h1 l _ hl
 have hbs:bs=[]:=hlo
 subst hbs
 cases N with
 | zero=>exact hob.elim
 | succ N=>
 obtain⟨x,q,p',o1,o2,o3,o4,o5,cs,T,o6,o7⟩:=R.lend hob hw
 have hn:V h.length=none:=hf _ (Nat.le_refl _)
 have hle:=V8 (x:=x) hn
 let hs':Nat→PHeap:=fun m=>if m=l then p' else if m=h.length then q else hs m
 have get1: ∀m,m<h.length→m≠l→aJ (h.set l (some (.abs (R.hole ws i) [h.length]))++ [some (.abs t [])]) m=aJ h m:=by
  intro m hm hml
  rw [bY (by simpa using hm)]
  simp only [aJ,gD']
  rw [List.getElem?_set_ne (fun e=>hml e.symm)]
 have get2:aJ (h.set l (some (.abs (R.hole ws i) [h.length]))++ [some (.abs t [])]) l=some (.abs (R.hole ws i) [h.length]):=by
  rw [bY (by simpa using hll)]
  simp only [aJ,gD']
  rw [List.getElem?_set_self hll];rfl
 have get3:aJ (h.set l (some (.abs (R.hole ws i) [h.length]))++ [some (.abs t [])]) h.length=some (.abs t []):=by
  simp only [aJ,gD']
  rw [List.getElem?_append_right (by simp)];simp
 have get4: ∀m,h.length<m→aJ (h.set l (some (.abs (R.hole ws i) [h.length]))++ [some (.abs t [])]) m=none:=fun m hm=>b9 (by simp;omega)
 have hsl: ∀b o,p' b=some o→hs l b=some o:=o5
 have hsq: ∀b o,q b=some o→hs l b=some o:=o4
 have hsn: ∀m,h.length≤m→hs m=.emp :=fun m hm=>h2 m (b9 hm)
 refine⟨V.add h.length x,x,b,k,cs,T,hle,?_,⟨hs',?_,?_,?_,?_,?_,h6⟩,VX _ _ _,hV,?_,o7⟩
 ·intro m hm
  rw [W6 _ _ (by omega)]
  exact hf m (by omega)
 ·intro m e he
  have he':aJ (h.set l (some (.abs (R.hole ws i) [h.length]))++ [some (.abs t [])]) m=some e:=he
  by_cases hml:m=l
  ·subst hml
   rw [get2]at he'
   simp only [sI']at he'
   subst he'
   show aI.interp _ _ _ _ (if m=m then p' else _)
   rw [if_pos rfl]
   exact⟨b,k,hle _ _ hV,[x],⟨x,[],VX _ _ _,rfl,rfl⟩,N+1,o2⟩
  ·by_cases hmn:m=h.length
   ·subst hmn
    rw [get3]at he'
    simp only [sI']at he'
    subst he'
    show aI.interp _ _ _ _ (if h.length=l then p' else if h.length=h.length then q else _)
    rw [if_neg hml,if_pos rfl]
    exact⟨x.1,x.2,VX _ _ _,[],rfl,N,o1⟩
   ·by_cases hlt:m<h.length
    ·rw [get1 m hlt hml]at he'
     show aI.interp _ _ _ _ (if m=l then p' else if m=h.length then q else hs m)
     rw [if_neg hml,if_neg hmn]
     exact WA hle (h1 m e he')
    ·rw [get4 m (by omega)]at he';cases he'
 ·intro m he
  have he':aJ (h.set l (some (.abs (R.hole ws i) [h.length]))++ [some (.abs t [])]) m=none:=he
  show(if m=l then p' else if m=h.length then q else hs m)=_
  by_cases hml:m=l
  ·subst hml;rw [get2]at he';cases he'
  ·by_cases hmn:m=h.length
   ·subst hmn;rw [get3]at he';cases he'
   ·rw [if_neg hml,if_neg hmn]
    by_cases hlt:m<h.length
    ·rw [get1 m hlt hml]at he';exact h2 m he'
    ·exact hsn m (by omega)
 ·intro m m' hmm b'
  show(if m=l then p' else if m=h.length then q else hs m) b'=none∨(if m'=l then p' else if m'=h.length then q else hs m') b'=none
  have part: ∀m,m≠l→m≠h.length→(p' b'=none∧q b'=none)∨hs m b'=none:=by
   intro m hml hmn
   rcases h3 l m (fun e=>hml e.symm) b' with d | d
   ·left
    constructor
    ·cases hp:p' b' with
     | none=>rfl
     | some o=>rw [hsl b' o hp]at d;cases d
    ·cases hp:q b' with
     | none=>rfl
     | some o=>rw [hsq b' o hp]at d;cases d
   ·exact .inr d
  by_cases a1:m=l
  ·rw [if_pos a1]
   by_cases a2:m'=l
   ·exact(hmm (a1.trans a2.symm)).elim
   ·rw [if_neg a2]
    by_cases a3:m'=h.length
    ·rw [if_pos a3];exact(o3 b').symm
    ·rw [if_neg a3];rcases part m' a2 a3 with d | d
     ·exact .inl d.1
     ·exact .inr d
  ·rw [if_neg a1]
   by_cases a0:m=h.length
   ·rw [if_pos a0]
    by_cases a2:m'=l
    ·rw [if_pos a2];exact o3 b'
    ·rw [if_neg a2]
     by_cases a3:m'=h.length
     ·exact(hmm (a0.trans a3.symm)).elim
     ·rw [if_neg a3];rcases part m' a2 a3 with d | d
      ·exact .inl d.2
      ·exact .inr d
   ·rw [if_neg a0]
    by_cases a2:m'=l
    ·rw [if_pos a2];rcases part m a1 a0 with d | d
     ·exact .inr d.1
     ·exact .inl d
    ·rw [if_neg a2]
     by_cases a3:m'=h.length
     ·rw [if_pos a3];rcases part m a1 a0 with d | d
      ·exact .inr d.2
      ·exact .inl d
     ·rw [if_neg a3];exact h3 m m' hmm b'
 ·intro m b'
  show(if m=l then p' else if m=h.length then q else hs m) b'=none∨hR b'=none
  split
  ·rcases h4 l b' with d | d
   ·cases hp:p' b' with
    | none=>exact .inl rfl
    | some o=>rw [hsl b' o hp]at d;cases d
   ·exact .inr d
  ·split
   ·rcases h4 l b' with d | d
    ·cases hp:q b' with
     | none=>exact .inl rfl
     | some o=>rw [hsq b' o hp]at d;cases d
    ·exact .inr d
   ·exact h4 m b'
 ·intro m b' o hh
  have hh':(if m=l then p' else if m=h.length then q else hs m) b'=some o:=hh
  split at hh'
  ·exact h5 l b' o (hsl b' o hh')
  ·split at hh'
   ·exact h5 l b' o (hsq b' o hh')
   ·exact h5 m b' o hh'
 ·exact h5 l b _ o6
theorem Inv.back(R:gL tb){V:Val}{h:aB A}{hR:PHeap}{w:World}{l i k:Nat}{ws ws':R.R}{t:A}(hu:R.upd ws i t=some ws')(hi:Inv (obI tb) V (toF h) hR w)(hl:aJ h l=some (.abs (R.hole ws i) [k]))(hk:aJ h k=some (.abs t []))(hkl:k≠l)(hlt:i<R.len ws):
 Inv (obI tb) V (toF ((h.set l (some (.abs (R.row ws') []))).set k none)) hR w:=by
 have hll:=cB hl
 have hkk:=cB hk
 obtain⟨hs,h1,h2,h3,h4,h5,h6⟩:=hi
 obtain⟨b,kk,hV,bs,hlo,N,hob⟩:=h1 l _ hl
 obtain⟨x,r,hx,rfl,hr⟩:=hlo
 have hr':r=[]:=hr
 subst hr'
 obtain⟨b2,k2,hV2,bs2,hlo2,N2,hob2⟩:=h1 k _ hk
 have hbs2:bs2=[]:=hlo2
 subst hbs2
 have hxk:x=(b2,k2):=by
  have:V k=some x:=hx
  rw [hV2]at this;simpa using this.symm
 subst hxk
 cases N with
 | zero=>exact hob.elim
 | succ N=>
 have q1:=lN tb (Nat.le_max_right N N2) hob2
 have q2:=lN tb (show N+1≤max N N2+1 by omega) hob
 obtain⟨p,p1,p2⟩:=R.back q2 q1 (h3 k l hkl) hlt hu
 let hs':Nat→PHeap:=fun m=>if m=l then p else if m=k then .emp else hs m
 have get1: ∀m,m≠l→m≠k→aJ ((h.set l (some (.abs (R.row ws') []))).set k none) m=aJ h m:=by
  intro m hml hmk
  simp only [aJ,gD']
  rw [List.getElem?_set_ne (fun e=>hmk e.symm),List.getElem?_set_ne (fun e=>hml e.symm)]
 have get2:aJ ((h.set l (some (.abs (R.row ws') []))).set k none) l=some (.abs (R.row ws') []):=by
  simp only [aJ,gD']
  rw [List.getElem?_set_ne hkl,List.getElem?_set_self hll];rfl
 have get3:aJ ((h.set l (some (.abs (R.row ws') []))).set k none) k=none:=by
  simp only [aJ,gD']
  rw [List.getElem?_set_self (by simpa using hkk)];rfl
 refine⟨hs',?_,?_,?_,?_,?_,h6⟩
 ·intro m e he
  have he':aJ ((h.set l (some (.abs (R.row ws') []))).set k none) m=some e:=he
  show aI.interp _ _ _ _ (if m=l then p else if m=k then .emp else hs m)
  by_cases hml:m=l
  ·subst hml
   rw [get2]at he'
   simp only [sI']at he'
   subst he'
   rw [if_pos rfl]
   exact⟨b,kk,hV,[],rfl,_,p1⟩
  ·by_cases hmk:m=k
   ·subst hmk;rw [get3]at he';cases he'
   ·rw [if_neg hml,if_neg hmk]
    rw [get1 m hml hmk]at he'
    exact h1 m e he'
 ·intro m he
  have he':aJ ((h.set l (some (.abs (R.row ws') []))).set k none) m=none:=he
  show(if m=l then p else if m=k then .emp else hs m)=_
  by_cases hml:m=l
  ·subst hml;rw [get2]at he';cases he'
  ·rw [if_neg hml]
   by_cases hmk:m=k
   ·rw [if_pos hmk]
   ·rw [if_neg hmk]
    rw [get1 m hml hmk]at he'
    exact h2 m he'
 ·intro m m' hmm b'
  show(if m=l then p else if m=k then .emp else hs m) b'=none∨(if m'=l then p else if m'=k then .emp else hs m') b'=none
  have part: ∀m,m≠l→m≠k→p b'=none∨hs m b'=none:=by
   intro m hml hmk
   cases hp:p b' with
   | none=>exact .inl rfl
   | some o=>
     right
     rcases p2 b' o hp with d | d
     ·rcases h3 k m (fun e=>hmk e.symm) b' with f | f
      ·rw [f]at d;cases d
      ·exact f
     ·rcases h3 l m (fun e=>hml e.symm) b' with f | f
      ·rw [f]at d;cases d
      ·exact f
  by_cases a1:m=l
  ·rw [if_pos a1]
   by_cases a2:m'=l
   ·exact(hmm (a1.trans a2.symm)).elim
   ·rw [if_neg a2]
    by_cases a3:m'=k
    ·rw [if_pos a3];exact .inr rfl
    ·rw [if_neg a3];exact part m' a2 a3
  ·rw [if_neg a1]
   by_cases a0:m=k
   ·rw [if_pos a0];exact .inl rfl
   ·rw [if_neg a0]
    by_cases a2:m'=l
    ·rw [if_pos a2];exact(part m a1 a0).symm
    ·rw [if_neg a2]
     by_cases a3:m'=k
     ·rw [if_pos a3];exact .inr rfl
     ·rw [if_neg a3];exact h3 m m' hmm b'
 ·intro m b'
  show(if m=l then p else if m=k then .emp else hs m) b'=none∨hR b'=none
  split
  ·cases hp:p b' with
   | none=>exact .inl rfl
   | some o=>
     right
     rcases p2 b' o hp with d | d
     ·rcases h4 k b' with f | f
      ·rw [f]at d;cases d
      ·exact f
     ·rcases h4 l b' with f | f
      ·rw [f]at d;cases d
      ·exact f
  ·split
   ·exact .inl rfl
   ·exact h4 m b'
 ·intro m b' o hh
  have hh':(if m=l then p else if m=k then .emp else hs m) b'=some o:=hh
  split at hh'
  ·rcases p2 b' o hh' with d | d
   ·exact h5 k b' o d
   ·exact h5 l b' o d
  ·split at hh'
   ·cases hh'
   ·exact h5 m b' o hh'
def gL.at(R:gL tb)(ws:R.R)(l off:Nat)(h:aB A)(K:AVal→aB A→Prop):Prop:=
 off<R.len ws∧cond (R.is ws off) (K (.ptr h.length 0) (h.set l (some (.abs (R.hole ws off) [h.length]))++ [some (.abs (R.get ws off) [])])) (K (.raw (.pointer none)) h)
def gL.load(R:gL tb)(P:Program)(ρ:Operand→AVal)(op:Op)(h:aB A)(K:AVal→aB A→Prop):Prop:=
 match op with
 | .load t a=>match ρ a,eF P t with
   | .ptr l off,some false=>match aJ h l with
     | some (.abs a [])=>match R.isRow a with
       | some ws=>R.at ws l off h K
       | none=>False
     | some (.abs a [k])=>match R.isHole a with
       | some (ws,i)=>match aJ h k with
         | some (.abs s [])=>(match R.upd ws i s with
           | some ws'=>cond (Nat.beq k l) False (i<R.len ws∧R.at ws' l off ((h.set l (some (.abs (R.row ws') []))).set k none) K)
           | none=>False)
         | _=>(i<R.len ws∧off=i)∧K (.ptr k 0) h
       | none=>False
     | _=>False
   | _,_=>False
 | _=>False
theorem gL.at_ok(R:gL tb){ws:R.R}{l off:Nat}{h:aB A}{K:AVal→aB A→Prop}(hk:R.at ws l off h K){V:Val}{hR:PHeap}{w:World}{t:TypeId}(ht:eF P t=some false)(hi:Inv (obI tb) V (toF h) hR w)(hf:bM V h.length)(hl:aJ h l=some (.abs (R.row ws) [])){x:Value}(hx:Rep V (.ptr l off) x):
 ∃v v' V' h2,K v h2∧(Instr.loadAt t x).run P w=.ok v' w∧Rep V' v v'∧V.le V'∧bM V' h2.length∧h.length≤h2.length∧Inv (obI tb) V' (toF h2) hR w:=by
 obtain⟨hlt,hk⟩:=hk
 obtain⟨b,k,hV,rfl⟩:=hx
 have seg: ∀ {cs:Array Value} {v:Value},cs.toList[off]? =some v→cs.toList.drop off=[v]++cs.toList.drop (off+1):=by
  intro cs v hv
  obtain⟨hlt',hv'⟩:=List.getElem?_eq_some_iff.1 hv
  rw [←hv']
  exact List.drop_eq_getElem_cons hlt'
 cases hs:R.is ws off with
 | true=>
   rw [hs]at hk
   have hw:=R.is_true ws off hs hlt
   obtain⟨V',y,b',k',cs,T,a1,a2,a3,a4,a5,a6,a7⟩:=hi.lend R hf hl hw
   rw [hV]at a5
   simp only [sI',pI']at a5
   obtain⟨rfl,rfl⟩:=a5
   obtain⟨v',g1,g2⟩:=iJ (P:=P) (V:=V') (t:=t) (av:=[.ptr h.length 0]) (v:=.ptr h.length 0) a6 (seg a7) ⟨_,[],rfl,⟨y.1,y.2,a4,rfl⟩,rfl⟩ (by unfold eO;rw [ht];rfl)
   exact⟨_,v',V',_,hk,g1,g2,a1,by simpa using a2,by simp,a3⟩
 | false=>
   rw [hs]at hk
   have hw:=R.is_false ws off hs hlt
   have hi0:=hi
   obtain⟨hs',h1,h2,h3,h4,h5,h6⟩:=hi
   obtain⟨b',k',hV',bs,hlo,N,hob⟩:=h1 l _ hl
   have hbs:bs=[]:=hlo
   subst hbs
   rw [hV]at hV'
   simp only [sI',pI']at hV'
   obtain⟨rfl,rfl⟩:=hV'
   cases N with
   | zero=>exact hob.elim
   | succ N=>
   obtain⟨cs,T,o6,o7⟩:=R.nil hob hw
   obtain⟨v',g1,g2⟩:=iJ (P:=P) (V:=V) (t:=t) (av:=[.raw (.pointer none)]) (v:=.raw (.pointer none)) (h5 l b _ o6) (seg o7) ⟨_,[],rfl,rfl,rfl⟩ (by unfold eO;rw [ht];rfl)
   exact⟨_,v',V,h,hk,g1,g2,V.le_refl,hf,Nat.le_refl _,hi0⟩
theorem gL.load_ok(R:gL tb)(ρ:Operand→AVal)(o:Oper)(h:aB A)(K:AVal→aB A→Prop)(hk:R.load P ρ o.op h K)(V:Val)(hR:PHeap)(w:World)(ρ':Operand→Value)(hi:Inv (obI tb) V (toF h) hR w)(hf: ∀l,h.length≤l→V l=none)(hρ: ∀x,Rep V (ρ x) (ρ' x)):
 ∃nx w' V' v v' h2,K v h2∧(execOp ρ' o).run P w=.ok nx w'∧(nx=.value v'∨nx=.skip ∧v'=undef)∧Rep V' v v'∧V.le V'∧(∀l,h2.length≤l→V' l=none)∧h.length≤h2.length∧Inv (obI tb) V' (toF h2) hR w'∧bR w w':=by
 unfold gL.load at hk
 split at hk
 case h_2=>exact hk.elim
 rename_i t a hop
 split at hk
 case h_2=>exact hk.elim
 rename_i l off hρa hag
 have hx:=hρ a
 rw [hρa]at hx
 have fin: ∀ {v v' V' h2},K v h2→(Instr.loadAt t (ρ' a)).run P w=.ok v' w→Rep V' v v'→V.le V'→bM V' h2.length→h.length≤h2.length→Inv (obI tb) V' (toF h2) hR w→
  ∃nx w' V' v v' h2,K v h2∧(execOp ρ' o).run P w=.ok nx w'∧(nx=.value v'∨nx=.skip ∧v'=undef)∧Rep V' v v'∧V.le V'∧(∀l,h2.length≤l→V' l=none)∧h.length≤h2.length∧Inv (obI tb) V' (toF h2) hR w'∧bR w w':=by
  intro v v' V' h2 a1 a2 a3 a4 a5 a6 a7
  exact⟨_,w,V',v,v',h2,a1,by simp [execOp,hop,a2],.inl rfl,a3,a4,a5,a6,a7,WF w⟩
 split at hk
 ·rename_i a0 hl
  split at hk
  case h_2=>exact hk.elim
  rename_i ws hr
  have:=R.isRow_eq _ _ hr
  subst this
  obtain⟨v,v',V',h2,a1,a2,a3,a4,a5,a6,a7⟩:=R.at_ok (P:=P) hk hag hi hf hl hx
  exact fin a1 a2 a3 a4 a5 a6 a7
 ·rename_i a0 k hl
  split at hk
  case h_2=>exact hk.elim
  rename_i ws i hr
  have:=R.isHole_eq _ _ _ hr
  subst this
  split at hk
  ·rename_i s hkk
   split at hk
   case h_2=>exact hk.elim
   rename_i ws' hu
   cases hb:Nat.beq k l with
   | true=>rw [hb]at hk;exact hk.elim
   | false=>
     rw [hb]at hk
     obtain⟨hil,hk⟩:=hk
     have hkl:k≠l:=by intro e;rw [e,Nat.beq_refl]at hb;cases hb
     have hi2:=hi.back R hu hl hkk hkl hil
     have hll:=cB hl
     obtain⟨v,v',V',h2,a1,a2,a3,a4,a5,a6,a7⟩:=R.at_ok (P:=P) hk hag hi2 (by intro m hm;exact hf m (by simpa using hm)) (by
      simp only [aJ,gD']
      rw [List.getElem?_set_ne hkl,List.getElem?_set_self hll];rfl) hx
     exact fin a1 a2 a3 a4 a5 (by simpa using a6) a7
  ·obtain⟨⟨hil,hoff⟩,hk⟩:=hk
   subst hoff
   obtain⟨b,kk,hV,hx⟩:=hx
   obtain⟨hs',h1,h2,h3,h4,h5,h6⟩:=id hi
   obtain⟨b',k',hV',bs,hlo,N,hob⟩:=h1 l _ hl
   obtain⟨x,r,hxk,rfl,hr'⟩:=hlo
   have hr'':r=[]:=hr'
   subst hr''
   rw [hV]at hV'
   simp only [sI',pI']at hV'
   obtain⟨rfl,rfl⟩:=hV'
   cases N with
   | zero=>exact hob.elim
   | succ N=>
   obtain⟨cs,T,o6,o7⟩:=R.lent hob hil
   have seg:cs.toList.drop off=[.pointer (some ⟨x.1,0,none⟩)]++cs.toList.drop (off+1):=by
    obtain⟨hlt',hv'⟩:=List.getElem?_eq_some_iff.1 o7
    rw [←hv']
    exact List.drop_eq_getElem_cons hlt'
   obtain⟨v',g1,g2⟩:=iJ (P:=P) (V:=V) (t:=t) (av:=[.ptr k 0]) (v:=.ptr k 0) (h5 l b _ o6) seg ⟨_,[],rfl,⟨x.1,x.2,hxk,rfl⟩,rfl⟩ (by unfold eO;rw [hag];rfl)
   exact fin hk (by rw [hx];exact g1) g2 V.le_refl hf (Nat.le_refl _) hi
 ·exact hk.elim
def tH(tb:A→Nat×aB A)(P:Program)(t:TypeId)(o:A)(off:Nat)(h:aB A)(K:AVal→aB A→Prop):Prop:=
 match tb o with
 | (_,some (.cells vs)::_)=>match eF P t,bS P t with
   | some true,some n=>cJ (Nat.ble (off+n) vs.length&&VY [] ((vs.drop off).take n)) (K (.agg ((vs.drop off).take n)) h)
   | some false,_=>match vs[off]? with
     | some v=>cJ (v.within []) (K v h)
     | none=>False
   | _,_=>False
 | _=>False
def gL.ops(R:gL tb)(P:Program)(ρ:Operand→AVal)(op:Op)(h:aB A)(K:AVal→aB A→Prop):Prop:=
 match op with
 | .load t a=>match ρ a with
   | .ptr l off=>match aJ h l with
     | some (.abs o ps)=>match R.isRow o,R.isHole o with
       | none,none=>tH tb P t o off h K
       | _,_=>R.load P ρ op h K
     | _=>False
   | _=>False
 | _=>False
theorem gL.ops_ok(R:gL tb)(ρ:Operand→AVal)(o:Oper)(h:aB A)(K:AVal→aB A→Prop)(hk:R.ops P ρ o.op h K)(V:Val)(hR:PHeap)(w:World)(ρ':Operand→Value)(hi:Inv (obI tb) V (toF h) hR w)(hf: ∀l,h.length≤l→V l=none)(hρ: ∀x,Rep V (ρ x) (ρ' x)):
 ∃nx w' V' v v' h2,K v h2∧(execOp ρ' o).run P w=.ok nx w'∧(nx=.value v'∨nx=.skip ∧v'=undef)∧Rep V' v v'∧V.le V'∧(∀l,h2.length≤l→V' l=none)∧h.length≤h2.length∧Inv (obI tb) V' (toF h2) hR w'∧bR w w':=by
 have hk0:=hk
 unfold gL.ops at hk
 split at hk
 case h_2=>exact hk.elim
 rename_i t a hop
 split at hk
 case h_2=>exact hk.elim
 rename_i l off hρa
 split at hk
 case h_2=>exact hk.elim
 rename_i ob ps hl
 split at hk
 case h_2=>exact R.load_ok ρ o h K hk V hR w ρ' hi hf hρ
 unfold tH at hk
 have hx:=hρ a
 rw [hρa]at hx
 obtain⟨b,kk,hV,hx⟩:=hx
 split at hk
 case h_2=>exact hk.elim
 rename_i np vs rest htb
 obtain⟨hs,h1,h2,h3,h4,h5,h6⟩:=id hi
 obtain⟨b',k',hV',bs,hlo,N,hob⟩:=h1 l _ hl
 rw [hV]at hV'
 simp only [sI',pI']at hV'
 obtain⟨rfl,rfl⟩:=hV'
 cases N with
 | zero=>exact hob.elim
 | succ N=>
 obtain⟨Vg,gs,g1,g2,g3,⟨g4,g5,g6⟩,g7⟩:=hob
 rw [htb]at g4
 have hc:=g4 0 (.cells vs) rfl
 obtain⟨b2,k2,c1,cs,T,c2,c3,rs,tail,c4,c5⟩:=hc
 have hbk:b2=b:=by have c1':Vg 0=some (b2,k2):=c1;rw [g1]at c1';simp at c1';exact c1'.1.symm
 subst hbk
 have hcell:w.heap[b2]? =some (.cells cs T):=by
  refine h5 l b2 _ ?_
  rw [g7]
  refine WD g6 (l:=0) ?_
  rw [c2];simp [PHeap.one]
 have hlen:=aH.length c5
 have drop1: ∀ {av:List AVal},off≤vs.length→cs.toList.drop off=rs.drop off++tail:=by
  intro av hle
  rw [c4,List.drop_append_of_le_length (by omega)]
 split at hk
 ·rename_i n e1 e2
  obtain⟨hc1,hk⟩:=bD.1 hk
  obtain⟨hc2,hc3⟩:=Bool.and_eq_true_iff.1 hc1
  have hle:off+n≤vs.length:=Nat.le_of_ble_eq_true hc2
  have hrep:aH V ((vs.drop off).take n) ((rs.drop off).take n):=WL (pl:=[]) (fun i hi=>by cases hi) _ _ hc3 (aH.take (aH.drop c5 off) n)
  obtain⟨v',g8,g9⟩:=iJ (P:=P) (V:=V) (t:=t) (av:=(vs.drop off).take n) (v:=.agg (((vs.drop off).take n).take n)) hcell (seg:=(rs.drop off).take n) (rest:=(rs.drop off).drop n++tail) (by rw [drop1 (av:=[]) (by omega),←List.append_assoc,List.take_append_drop]) hrep (by
   unfold eO;rw [e1,e2]
   simp only
   rw [if_pos (by rw [List.length_take,List.length_drop];omega)])
  rw [List.take_take,Nat.min_self]at g9
  exact⟨_,w,V,_,v',h,hk,by simp [execOp,hop,hx,g8],.inl rfl,g9,V.le_refl,hf,Nat.le_refl _,hi,WF w⟩
 ·rename_i e2 e1
  split at hk
  case h_2=>exact hk.elim
  rename_i v hv
  obtain⟨hc1,hk⟩:=bD.1 hk
  have hlt:off<vs.length:=(List.getElem?_eq_some_iff.1 hv).1
  have hri:=aH.at c5 (i:=off) (a:=v) (v:=rs[off]'(by omega)) hv (gE' (by omega))
  have hrep:Rep V v (rs[off]'(by omega)):=WZ (pl:=[]) (fun i hi=>by cases hi) _ _ hc1 hri
  obtain⟨v',g8,g9⟩:=iJ (P:=P) (V:=V) (t:=t) (av:=[v]) (v:=v) hcell (seg:=[rs[off]'(by omega)]) (rest:=rs.drop (off+1)++tail) (by
   rw [drop1 (av:=[]) (by omega),List.drop_eq_getElem_cons (by omega)];rfl) ⟨_,[],rfl,hrep,rfl⟩ (by unfold eO;rw [e1];rfl)
  exact⟨_,w,V,_,v',h,hk,by simp [execOp,hop,hx,g8],.inl rfl,g9,V.le_refl,hf,Nat.le_refl _,hi,WF w⟩
 ·exact hk.elim
end Go.Sh
namespace Go.Sh
open Go
variable [Con] {A:Type} {P:Program}
def cQ(I:Itp A)(h h2:aB A):Prop:= ∀V hR w,Inv I V (toF h) hR w→bM V h.length→ ∃V',V.le V'∧bM V' h2.length∧h.length≤h2.length∧Inv I V' (toF h2) hR w
theorem cQ.refl{I:Itp A}(h:aB A):cQ I h h:=fun V hR w h1 h2=>⟨V,V.le_refl,h2,Nat.le_refl _,h1⟩
theorem cQ.trans{I:Itp A}{h h2 h3:aB A}(a:cQ I h h2)(b:cQ I h2 h3):cQ I h h3:=by
 intro V hR w h1 hf
 obtain⟨V1,a1,a2,a3,a4⟩:=a V hR w h1 hf
 obtain⟨V2,b1,b2,b3,b4⟩:=b V1 hR w a4 a2
 exact⟨V2,Val.le_trans a1 b1,b2,Nat.le_trans a3 b3,b4⟩
theorem cQ.unpack{tb:A→Nat×aB A}{h:aB A}(t:A)(l np:Nat)(g:aB A)(ps:List Nat)(hl:aJ h l=some (.abs t ps))(ht:tb t=(np,g))(ho:oZ np g=true)(hnp:ps.length=np):cQ (obI tb) h (bP h l np g ps):=by
 intro V hR w h1 hf
 obtain⟨V1,v1,v2,v3⟩:=h1.unpack tb hf hl ht ho hnp
 exact⟨V1,v1,v2,by rw [eA];omega,v3⟩
theorem cQ.weak{I:Itp A}{h h2:aB A}(hw:i7 h h2):cQ I h h2:=fun V hR w h1 hf=>⟨V,V.le_refl,by rw [fV hw];exact hf,by rw [fV hw];exact Nat.le_refl _,h1.weak hw⟩
theorem cQ.eq{I:Itp A}{h h2:aB A}(e:h=h2):cQ I h h2:=by subst e;exact cQ.refl h
theorem V9{X:Type}{I:Itp A}{f:FuncId}{args:List AVal}{h h2:aB A}{K:AVal→aB A→Prop}{parse:AVal→aB A→Option (Prop×X)}{fin:X→Out A}{root:Nat}{pos:List Nat}{cs:List (Place×fO)}(hr:dB I h.length parse fin)(ho:cQ I h h2)
 (h0:aC I P f args h2 (dX h.length root pos cs parse fun x=>(fin x).run K)):aC I P f args h K:=by
 intro V hR w args' hi hf hrp
 obtain⟨V1,v1,v2,v3,v4⟩:=ho V hR w hi hf
 refine(XM h.length v3 hr h0 V1 hR w args' v4 v2 (aH.mono v1 _ _ hrp)).mono ?_
 rintro e w' ⟨v,v',V',h',k1,k2,k3,k4,k5,k6,k7,k8⟩
 refine⟨v,v',V',h',k1,k2,k3,?_,k5,k6,k7,k8⟩
 intro l y hy
 have hlt:l<h.length:=by
  cases Nat.lt_or_ge l h.length with
  | inl q=>exact q
  | inr q=>rw [hf l q]at hy;cases hy
 exact k4 l y hlt (v1 l y hy)
def aL.or(F G:aL A):aL A:=fun args h=>match F args h with
 | some o=>some o
 | none=>G args h
theorem WT{I:Itp A}{f:FuncId}{F G:aL A}(hF:aL.ok I P f F)(hG:aL.ok I P f G):aL.ok I P f (F.or G):=by
 intro args h o ho K hK
 unfold aL.or at ho
 split at ho
 ·rename_i o' h1
  simp only [sI']at ho;subst ho
  exact hF args h _ h1 K hK
 ·exact hG args h o ho K hK
def QZ(pos:List Nat):Nat→List AVal→List AVal
 | _,[]=>[]
 | i,v::vs=>cond (pos.elem i) .O v::QZ pos (i+1) vs
theorem uG(pos:List Nat): ∀(i:Nat) (vs:List AVal),lX vs (QZ pos i vs)
 | _,[]=>trivial
 | i,v::vs=>by
   refine⟨?_,uG pos (i+1) vs⟩
   cases pos.elem i with
   | true=>exact .inr rfl
   | false=>exact .inl rfl
def SV(g:aB A)(root:Nat)(pos:List Nat):aB A:=match aJ g root with
 | some (.cells vs)=>g.set root (some (.cells (QZ pos 0 vs)))
 | _=>g
theorem cY(g:aB A)(root:Nat)(pos:List Nat):i7 g (SV g root pos):=by
 unfold SV
 split
 ·rename_i vs h
  refine pH g root _ ?_
  rw [h]
  exact uG pos 0 vs
 ·exact kP g
theorem B4{I:Itp A}{n:Nat}{K:AVal→aB A→Prop}{d:Bool}{a b g:aB A}(hK:(Out.ite d (.ret (.bool true) a) (.ret (.bool false) b)).run K)(h1:K (.bool true) a→gM I n K (.bool true) g)(h2:K (.bool false) b→gM I n K (.bool false) g):gM I n K (.bool d) g:=by
 cases d with
 | true=>exact h1 hK
 | false=>exact h2 hK
end Go.Sh
namespace Go.Sh
open Go
variable [Con]
def PHeap.less(h g:PHeap):PHeap:=fun b=>match g b with | some _=>none | none=>h b
theorem PHeap.join_some{h g:PHeap}{b:Nat}{o:Obj}(e:h.join g b=some o):h b=some o∨(h b=none∧g b=some o):=by
 unfold PHeap.join at e
 cases hh:h b with
 | some o'=>rw [hh]at e;exact .inl (by simpa using e)
 | none=>rw [hh]at e;exact .inr ⟨rfl,e⟩
section
variable {P:Program}
end
end Go.Sh
namespace Go.Sh
open Go
variable [Con] {A:Type}
section
variable {P:Program} {E:oM A P}
def EE(E:oM A P)(ds:List Deferred)(V:Val)(n:Nat)(hR:PHeap)(w:World)(K:List AVal→aB A→Prop)(a:Act)(w':World):Prop:=
 ∃tm V' h',K tm h'∧aH V' tm a.tmps.toList∧V.le V'∧bM V' h'.length∧n≤h'.length∧Inv E.I V' (toF h') hR w'∧bR w w'∧a.defers=ds
theorem EE.chain{ds:List Deferred}{V V1:Val}{n n1:Nat}{hR:PHeap}{w w1:World}{K:List AVal→aB A→Prop}{a:Act}{w':World}(h:EE E ds V1 n1 hR w1 K a w')(hV:V.le V1)(hn:n≤n1)(hg:bR w w1):EE E ds V n hR w K a w':=by
 obtain⟨tm,V',h',h1,h2,h3,h4,h5,h6,h7,h8⟩:=h
 exact⟨tm,V',h',h1,h2,Val.le_trans hV h3,h4,by omega,h6,hg.trans h7,h8⟩
end
section
variable {P:Program} {E:oM A P}
end
end Go.Sh
namespace Go.Sh
open Go Go.RowKit
variable [Con] {A:Type}
theorem Inv.put{I:Itp A}{V:Val}{h:aY A}{hX hY:PHeap}{w:World}{l:Nat}{o o':Obj}(hi:Inv I V h hX w)(hl:hX l=some o)(hY1:hY l=some o')(hY2: ∀b,b≠l→hY b=hX b)(hc:Con.con l=none):Inv I V h hY (w.putObj l o'):=by
 obtain⟨hs,h1,h2,h3,h4,h5,h6,h7⟩:=hi
 have hlt:l<w.heap.size:=(Array.getElem?_eq_some_iff.1 (h6 l o hl)).1
 have nl: ∀m,hs m l=none:=fun m=>by
  rcases h4 m l with e | e
  ·exact e
  ·rw [hl]at e;cases e
 refine⟨hs,h1,h2,h3,?_,?_,?_,?_⟩
 ·intro m b
  by_cases e:b=l
  ·subst e;exact .inl (nl m)
  ·rw [hY2 b e];exact h4 m b
 ·intro m b x e
  have hb:b≠l:=fun e2=>by subst e2;rw [nl m]at e;cases e
  rw [World.putObj_heap_other hb];exact h5 m b x e
 ·intro b x e
  by_cases hb:b=l
  ·subst hb;rw [hY1]at e;cases e;exact World.putObj_heap_same hlt
  ·rw [World.putObj_heap_other hb];rw [hY2 b hb]at e;exact h6 b x e
 ·intro b x e
  have hb:b≠l:=fun e2=>by subst e2;rw [hc]at e;cases e
  rw [hY2 b hb];exact h7 b x e
theorem bR.put{w:World}{l:Nat}{r r':Loop}(h:w.heap[l]? =some (.loop r)):bR w (w.putObj l (.loop r')):=by
 have hlt:l<w.heap.size:=(Array.getElem?_eq_some_iff.1 h).1
 refine⟨rfl,rfl,?_,?_⟩
 ·show w.heap.size≤(w.heap.setIfInBounds l _).size
  simp
 ·intro a _
  unfold World.frozen?
  by_cases e:a.block=l
  ·rw [e,h,World.putObj_heap_same hlt]
  ·rw [World.putObj_heap_other e]
section
variable {P:Program} {E:oM A P}
end
end Go.Sh
namespace Go.Sh
open Go Go.RowKit
variable [Con] {A:Type}
section
variable {P:Program} {E:oM A P}
end
end Go.Sh
namespace Go.Sh
open Go
variable {A:Type}
def Con.sub(c c':Con):Prop:= ∀b o,c.con b=some o→c'.con b=some o
mutual
theorem Rep.con{c c':Con}(h:Con.sub c c'){V:Val} : ∀(a:AVal) (v:Value),@Rep c V a v→ @Rep c' V a v
 | .bool _,_,r=>r
 | .int _ _,_,r=>r
 | .str _,_,r=>r
 | .ptr _ _,_,r=>r
 | .slice _ _ _ _,_,r=>r
 | .map _,_,r=>r
 | .func _ f g,_,⟨fs,cs,hv,r,s⟩=>⟨fs,cs,hv,aH.con h f _ r,aH.con h g _ s⟩
 | .iface _ a,_,⟨x,hv,r⟩=>⟨x,hv,Rep.con h a _ r⟩
 | .agg av,_,⟨cs,hv,r⟩=>⟨cs,hv,aH.con h av _ r⟩
 | .tup av,_,⟨cs,hv,r⟩=>⟨cs,hv,aH.con h av _ r⟩
 | .raw _,_,r=>r
 | .any,_,r=>r
 | .O,_,r=>r
 | .iview _ _,_,⟨base,cap,hv,hc,r⟩=>⟨base,cap,hv,hc,r.imp (fun⟨b,off,cs,T,fz,e,f,g⟩=>⟨b,off,cs,T,fz,e,h _ _ f,g⟩) id⟩
 | .view _ _ row,_,⟨base,cap,hv,hc,r⟩=>⟨base,cap,hv,hc,r.imp (fun⟨b,off,cs,T,fz,e,f,g⟩=>⟨b,off,cs,T,fz,e,h _ _ f,fun i hi=>⟨(g i hi).1,aH.con h (row i) _ (g i hi).2⟩⟩) id⟩
 | .tslice _ _ _ _,_,r=>r
 | .tptr _ _ _ _,_,r=>r
 | .empty,_,r=>r
 | .cptr av,_,⟨b,off,cs,T,fz,e,f,g⟩=>⟨b,off,cs,T,fz,e,h _ _ f,aH.con h av _ g⟩
theorem aH.con{c c':Con}(h:Con.sub c c'){V:Val} : ∀(a:List AVal) (v:List Value),@aH c V a v→ @aH c' V a v
 | [],_,r=>r
 | a::av,_,⟨v,vs,e,r,s⟩=>⟨v,vs,e,Rep.con h a v r,aH.con h av vs s⟩
end
section
variable {tb:A→Nat×aB A}
end
def back(S:Nat→Bool):Nat→aB A→aB A→aB A
 | _,[],g=>g
 | i,e::h,[]=>e::h
 | i,e::h,x::g=>(cond (S i) x e)::back S (i+1) h g
end Go.Sh
namespace Go.Sh
open Go
variable [Con] {A:Type} {tb:A→Nat×aB A} {P:Program}
end Go.Sh
namespace Go.Sh
open Go
variable [Con] {A:Type} {P:Program}
structure CC (A:Type) where
 X:Type
 hd:Nat→X→AVal
 en:X→aI A
variable {E:CC A}
def gS(E:CC A):Nat→List E.X→List AVal
 | _,[]=>[]
 | k,x::r=>E.hd k x::gS E (k+1) r
def B6(E:CC A)(ws:List E.X):aB A:=ws.map fun x=>some (E.en x)
def iM(E:CC A)(ws:List E.X):aB A:=some (.cells (gS E 1 ws))::B6 E ws
def vB(E:CC A)(ws:List E.X)(i:Nat):AVal:=match ws[i]? with
 | some x=>E.hd 1 x
 | none=>.O
def gO(E:CC A)(ws:List E.X)(i:Nat):aB A:=some (.cells ((gS E 2 ws).set i (vB E ws i)))::none::(B6 E ws).set i none
theorem eT: ∀(ws:List E.X) (k j:Nat),(gS E k ws)[j]? =(ws[j]?).map (E.hd (k+j))
 | [],_,_=>by simp [gS]
 | x::r,k,0=>by simp [gS]
 | x::r,k,j+1=>by simp only [gS,List.getElem?_cons_succ];rw [eT r (k+1) j];rw [show k+1+j=k+(j+1)from by omega]
theorem dT(k:Nat)(ws:List E.X):(gS E k ws).length =ws.length:=by
 induction ws generalizing k with
 | nil=>rfl
 | cons o r ih=>simp [gS,ih]
theorem cT(ws:List E.X)(j:Nat):aJ (iM E ws) (j+1)=(ws[j]?).map E.en:=by
 simp only [iM,aJ,List.getD_cons_succ,B6]
 rw [gD',List.getElem?_map]
 cases ws[j]? <;>rfl
theorem eB(ws:List E.X)(i j:Nat):aJ (gO E ws i) (j+2)=if i=j then none else(ws[j]?).map E.en:=by
 simp only [gO,aJ,List.getD_cons_succ,B6]
 rw [gD',List.getElem?_set]
 split
 ·split<;>rfl
 ·rw [List.getElem?_map]
  cases ws[j]? <;>rfl
variable {tb:A→Nat×aB A}
def EnAt(tb:A→Nat×aB A)(N:Nat)(e:aI A)(x:Nat×Nat)(q:PHeap):Prop:= ∀(V:Val) (l:Nat),V l=some x→aI.interp (lM tb N) V l e q
theorem rI{I:Itp A}{V:Val}{l:Nat}{e:aI A}{p:PHeap}(h:aI.interp I V l e p): ∃x,V l=some x:=by
 cases e with
 | cells vs=>obtain⟨b,k,h,_⟩:=h;exact⟨_,h⟩
 | ints c xs=>
   rcases h with⟨_,_,b,h⟩ | ⟨b,k,h,_⟩
   ·exact⟨_,h⟩
   ·exact⟨_,h⟩
 | abs t ps=>obtain⟨b,k,h,_⟩:=h;exact⟨_,h⟩
 | tab ks rows=>
   rcases h with⟨_,_,b,h⟩ | ⟨b,k,h,_⟩
   ·exact⟨_,h⟩
   ·exact⟨_,h⟩
 | imap kk vc m=>obtain⟨b,k,h,_⟩:=h;exact⟨_,h⟩
 | iter lm kk vc m left cur=>obtain⟨b,k,h,_⟩:=h;exact⟨_,h⟩
structure RowS (tb:A→Nat×aB A) (E:CC A) where
 row:List E.X→A
 hole:List E.X→Nat→A
 isRow:A→Option (List E.X)
 isHole:A→Option (List E.X×Nat)
 rd:aI A→Option E.X
 isRow_eq: ∀t r,isRow t=some r→t=row r
 isHole_eq: ∀t r i,isHole t=some (r,i)→t=hole r i
 rd_eq: ∀e x,rd e=some x→e=E.en x
 tbRow: ∀r,tb (row r)=(0,iM E r)
 tbHole: ∀r i,tb (hole r i)=(1,gO E r i)
 hdRep: ∀(V V':Val) (k k':Nat) (x:E.X) (v:Value),V k=V' k'→Rep V (E.hd k x) v→Rep V' (E.hd k' x) v
 enLoc: ∀(N:Nat) (V V':Val) (l l':Nat) (x:E.X) (p:PHeap),V l=V' l'→aI.interp (lM tb N) V l (E.en x) p→aI.interp (lM tb N) V' l' (E.en x) p
theorem RowS.lend(R:RowS tb E){ws:List E.X}{i:Nat}{t:E.X}{r:Nat×Nat}{p:PHeap}{N:Nat}(h:lM tb (N+1) (R.row ws) r [] p)(hw:ws[i]? =some t):
 ∃x q p',EnAt tb N (E.en t) x q∧lM tb (N+1) (R.hole ws i) r [x] p'∧q.disj p'∧(∀b o,q b=some o→p b=some o)∧(∀b o,p' b=some o→p b=some o)∧
  ∃cs T v,p r.1=some (.cells cs T)∧cs.toList[i]? =some v∧ ∀(V:Val) (l:Nat),V l=some x→Rep V (E.hd l t) v:=by
 obtain⟨V,gs,g1,g2,g3,⟨g4,g5,g6⟩,g7⟩:=h
 have htb:=R.tbHole ws i
 rw [R.tbRow]at g2 g3 g4 g5
 dsimp only at g2 g3 g4 g5
 have hi:aJ (iM E ws) (i+1)=some (E.en t):=by rw [cT,hw];rfl
 have hq:=g4 _ _ hi
 obtain⟨x,hx⟩:=rI hq
 have hc:=g4 0 _ (show aJ (iM E ws) 0=some (.cells (gS E 1 ws))from rfl)
 obtain⟨b,k,c1,cs,T,c2,c3,rs,tail,c4,c5⟩:=hc
 have hbk:r=(b,k):=by have c1':V 0=some (b,k):=c1;rw [g1]at c1';simpa using c1'
 have hlen:=aH.length c5
 have hil:i<rs.length:=by
  rw [hlen,dT]
  exact(List.getElem?_eq_some_iff.1 hw).1
 have hri:=aH.at c5 (i:=i) (a:=E.hd (1+i) t) (v:=rs[i]) (by rw [eT,hw];rfl) (gE' hil)
 have hri2: ∀(V2:Val) (l:Nat),V2 l=some x→Rep V2 (E.hd l t) rs[i]:=fun V2 l h2=>R.hdRep V V2 (1+i) l t _ (by rw [Nat.add_comm,h2];exact hx) hri
 let V':Val:=fun m=>match m with
  | 0=>V 0
  | 1=>some x
  | j+2=>V (j+1)
 let gs':Nat→PHeap:=fun m=>match m with
  | 0=>gs 0
  | 1=>.emp
  | j+2=>if i=j then .emp else gs (j+1)
 have hsub: ∀j b o,gs j b=some o→p b=some o:=by
  intro j b o hh;rw [g7];exact WD g6 hh
 have gs'_sub: ∀m b o,gs' m b=some o→ ∃j,j≠i+1∧gs j b=some o:=by
  intro m b o hh
  match m,hh with
  | 0,hh=>exact⟨0,by omega,hh⟩
  | 1,hh=>cases hh
  | j+2,hh=>
    have hh':(if i=j then PHeap.emp else gs (j+1)) b=some o:=hh
    split at hh'
    ·cases hh'
    ·exact⟨j+1,by omega,hh'⟩
 have gdis: ∀l m,l≠m→(gs' l).disj (gs' m):=by
  intro l m hlm b
  cases h1:gs' l b with
  | none=>exact .inl rfl
  | some o=>
    right
    cases h2:gs' m b with
    | none=>rfl
    | some o2=>
      exfalso
      have key: ∀l m,l≠m→ ∀o o2,gs' l b=some o→gs' m b=some o2→False:=by
       intro l m hlm o o2 h1 h2
       match l,m,h1,h2 with
       | 0,0,_,_=>exact hlm rfl
       | 1,_,h1,_=>cases h1
       | _,1,_,h2=>cases h2
       | 0,j+2,h1,h2=>
         have h2':(if i=j then PHeap.emp else gs (j+1)) b=some o2:=h2
         split at h2'
         ·cases h2'
         ·rcases g6 0 (j+1) (by omega) b with d | d
          ·have h1':gs 0 b=some o:=h1
           rw [d]at h1';cases h1'
          ·rw [d]at h2';cases h2'
       | j+2,0,h1,h2=>
         have h1':(if i=j then PHeap.emp else gs (j+1)) b=some o:=h1
         split at h1'
         ·cases h1'
         ·rcases g6 0 (j+1) (by omega) b with d | d
          ·have h2':gs 0 b=some o2:=h2
           rw [d]at h2';cases h2'
          ·rw [d]at h1';cases h1'
       | j+2,j2+2,h1,h2=>
         have h1':(if i=j then PHeap.emp else gs (j+1)) b=some o:=h1
         have h2':(if i=j2 then PHeap.emp else gs (j2+1)) b=some o2:=h2
         split at h1'
         ·cases h1'
         ·split at h2'
          ·cases h2'
          ·rcases g6 (j+1) (j2+1) (by omega) b with d | d
           ·rw [d]at h1';cases h1'
           ·rw [d]at h2';cases h2'
      exact key l m hlm o o2 h1 h2
 have hcell:aJ (gO E ws i) 0=some (.cells ((gS E 2 ws).set i (vB E ws i))):=rfl
 refine⟨x,gs (i+1),VZ gs',fun V2 l h2=>R.enLoc N V V2 (i+1) l t _ (hx.trans h2.symm) hq,⟨V',gs',g1,?_,?_,⟨?_,?_,gdis⟩,rfl⟩,?_,hsub _,?_,cs,T,rs[i],?_,?_,hri2⟩
 ·intro j hj
  rw [htb]at hj
  have:j=0:=by dsimp only at hj;omega
  subst this
  rfl
 ·rw [htb];rfl
 ·intro l e he
  rw [htb]at he
  match l,he with
  | 0,he=>
    have he':aJ (gO E ws i) 0=some e:=he
    rw [hcell]at he'
    simp only [sI']at he'
    subst he'
    refine⟨b,k,c1,cs,T,c2,c3,rs,tail,c4,?_⟩
    refine WX (by rw [List.length_set,dT,hlen,dT]) ?_
    intro j a v ha hv
    rw [List.getElem?_set]at ha
    split at ha
    ·rename_i hij
     subst hij
     split at ha
     ·simp only [sI']at ha
      subst ha
      rw [gE' hil]at hv
      simp only [sI']at hv
      subst hv
      unfold vB
      rw [hw]
      exact hri2 V' 1 rfl
     ·cases ha
    ·rw [eT]at ha
     cases hwj:ws[j]? with
     | none=>rw [hwj]at ha;cases ha
     | some o=>
       rw [hwj]at ha
       simp only [Option.map_some,sI']at ha
       have hr:=aH.at c5 (i:=j) (a:=E.hd (1+j) o) (v:=v) (by rw [eT,hwj];rfl) hv
       subst ha
       exact R.hdRep V V' (1+j) (2+j) o v (by rw [Nat.add_comm 1 j,Nat.add_comm 2 j]) hr
  | 1,he=>cases he
  | j+2,he=>
    have he':aJ (gO E ws i) (j+2)=some e:=he
    rw [eB]at he'
    split at he'
    ·cases he'
    ·rename_i hij
     have hj2:aJ (iM E ws) (j+1)=some e:=by rw [cT];exact he'
     have hin:=g4 _ _ hj2
     show aI.interp (lM tb N) V' (j+2) e (if i=j then PHeap.emp else gs (j+1))
     rw [if_neg hij]
     cases hwj:ws[j]? with
     | none=>rw [hwj]at he';cases he'
     | some s=>
       rw [hwj]at he'
       simp only [Option.map_some,sI']at he'
       subst he'
       exact R.enLoc N V V' (j+1) (j+2) s _ rfl hin
 ·intro l he
  rw [htb]at he
  match l,he with
  | 0,he=>cases he
  | 1,he=>rfl
  | j+2,he=>
    have he':aJ (gO E ws i) (j+2)=none:=he
    rw [eB]at he'
    show(if i=j then PHeap.emp else gs (j+1))=_
    split at he'
    ·rename_i hij;rw [if_pos hij]
    ·rename_i hij
     rw [if_neg hij]
     refine g5 _ ?_
     show aJ (iM E ws) (j+1)=none
     rw [cT];exact he'
 ·intro b'
  cases h1:gs (i+1) b' with
  | none=>exact .inl rfl
  | some o=>
    right
    refine W8 fun m=>?_
    cases h2:gs' m b' with
    | none=>rfl
    | some o2=>
      exfalso
      obtain⟨j,hj,h3⟩:=gs'_sub m b' o2 h2
      rcases g6 j (i+1) hj b' with d | d
      ·rw [d]at h3;cases h3
      ·rw [d]at h1;cases h1
 ·intro b' o hh
  obtain⟨m,hm⟩:=WG hh
  obtain⟨j,_,h3⟩:=gs'_sub m b' o hm
  exact hsub j b' o h3
 ·refine hsub 0 r.1 _ ?_
  rw [c2,hbk]
  simp [PHeap.one]
 ·rw [c4,List.getElem?_append_left hil,gE' hil]
theorem RowS.back(R:RowS tb E){ws:List E.X}{i:Nat}{t0 t:E.X}{r x:Nat×Nat}{p' q:PHeap}{N:Nat}(hp:lM tb (N+1) (R.hole ws i) r [x] p')(hq:EnAt tb N (E.en t) x q)(hd:q.disj p')(hi:i<ws.length)(h0:ws[i]? =some t0)(hh: ∀l,E.hd l t=E.hd l t0):
 ∃p,lM tb (N+1) (R.row (ws.set i t)) r [] p∧(∀b o,p b=some o→q b=some o∨p' b=some o):=by
 obtain⟨V,gs,g1,g2,g3,⟨g4,g5,g6⟩,g7⟩:=hp
 have htb:=R.tbRow (ws.set i t)
 rw [R.tbHole]at g2 g3 g4 g5
 dsimp only at g2 g3 g4 g5
 have hx:V 1=some x:=by have:=g2 0 (by omega);simpa using this
 have hc:=g4 0 _ (show aJ (gO E ws i) 0=some (.cells ((gS E 2 ws).set i (vB E ws i)))from rfl)
 obtain⟨b,k,c1,cs,T,c2,c3,rs,tail,c4,c5⟩:=hc
 have hlen:=aH.length c5
 rw [List.length_set,dT]at hlen
 let V':Val:=fun m=>match m with
  | 0=>V 0
  | j+1=>if i=j then some x else V (j+2)
 let gs':Nat→PHeap:=fun m=>match m with
  | 0=>gs 0
  | j+1=>if i=j then q else gs (j+2)
 have hsub: ∀j b o,gs j b=some o→p' b=some o:=by
  intro j b o hh;rw [g7];exact WD g6 hh
 have hqd: ∀j b o o2,gs j b=some o→q b=some o2→False:=by
  intro j b o o2 h1 h2
  have:=hsub j b o h1
  rcases hd b with d | d
  ·rw [d]at h2;cases h2
  ·rw [d]at this;cases this
 have key: ∀l m b,l≠m→ ∀o o2,gs' l b=some o→gs' m b=some o2→False:=by
  intro l m b hlm o o2 h1 h2
  match l,m,h1,h2 with
  | 0,0,_,_=>exact hlm rfl
  | 0,j+1,h1,h2=>
    have h2':(if i=j then q else gs (j+2)) b=some o2:=h2
    split at h2'
    ·exact hqd 0 b o o2 h1 h2'
    ·rcases g6 0 (j+2) (by omega) b with d | d
     ·have h1':gs 0 b=some o:=h1
      rw [d]at h1';cases h1'
     ·rw [d]at h2';cases h2'
  | j+1,0,h1,h2=>
    have h1':(if i=j then q else gs (j+2)) b=some o:=h1
    split at h1'
    ·exact hqd 0 b o2 o h2 h1'
    ·rcases g6 0 (j+2) (by omega) b with d | d
     ·have h2':gs 0 b=some o2:=h2
      rw [d]at h2';cases h2'
     ·rw [d]at h1';cases h1'
  | j+1,j2+1,h1,h2=>
    have h1':(if i=j then q else gs (j+2)) b=some o:=h1
    have h2':(if i=j2 then q else gs (j2+2)) b=some o2:=h2
    split at h1'
    ·split at h2'
     ·omega
     ·exact hqd _ b o2 o h2' h1'
    ·split at h2'
     ·exact hqd _ b o o2 h1' h2'
     ·rcases g6 (j+2) (j2+2) (by omega) b with d | d
      ·rw [d]at h1';cases h1'
      ·rw [d]at h2';cases h2'
 have gdis: ∀l m,l≠m→(gs' l).disj (gs' m):=by
  intro l m hlm b
  cases h1:gs' l b with
  | none=>exact .inl rfl
  | some o=>
    right
    cases h2:gs' m b with
    | none=>rfl
    | some o2=>exact(key l m b hlm o o2 h1 h2).elim
 refine⟨VZ gs',⟨V',gs',g1,?_,?_,⟨?_,?_,gdis⟩,rfl⟩,?_⟩
 ·intro j hj
  rw [htb]at hj
  dsimp only at hj;omega
 ·rw [htb];rfl
 ·intro l e he
  rw [htb]at he
  match l,he with
  | 0,he=>
    have he':some (aI.cells (gS E 1 (ws.set i t)))=some e:=he
    simp only [sI']at he'
    subst he'
    refine⟨b,k,c1,cs,T,c2,c3,rs,tail,c4,?_⟩
    refine WX (by rw [dT,List.length_set,hlen]) ?_
    intro j a v ha hv
    rw [eT,List.getElem?_set]at ha
    split at ha
    ·rename_i hij
     subst hij
     simp only [Option.map_some,sI']at ha
     subst ha
     have hr:=aH.at c5 (i:=i) (a:=vB E ws i) (v:=v) (by rw [List.getElem?_set,if_pos rfl,if_pos (by rw [dT];exact hi)]) hv
     unfold vB at hr
     rw [h0]at hr
     have hr:Rep V (E.hd 1 t0) v:=hr
     rw [hh]
     refine R.hdRep V V' 1 (1+i) t0 v ?_ hr
     show V 1=V' (1+i)
     rw [Nat.add_comm]
     show V 1=(if i=i then some x else _)
     rw [if_pos rfl,hx]
    ·rename_i hij
     cases hwj:ws[j]? with
     | none=>rw [hwj]at ha;cases ha
     | some o=>
       rw [hwj]at ha
       simp only [Option.map_some,sI']at ha
       have hr:=aH.at c5 (i:=j) (a:=E.hd (2+j) o) (v:=v) (by rw [List.getElem?_set,if_neg hij,eT,hwj];rfl) hv
       subst ha
       refine R.hdRep V V' (2+j) (1+j) o v ?_ hr
       show V (2+j)=V' (1+j)
       rw [Nat.add_comm 1 j]
       show V (2+j)=(if i=j then some x else V (j+2))
       rw [if_neg hij,Nat.add_comm]
  | j+1,he=>
    have he':aJ (iM E (ws.set i t)) (j+1)=some e:=he
    rw [cT,List.getElem?_set]at he'
    show aI.interp (lM tb N) V' (j+1) e (if i=j then q else gs (j+2))
    split at he'
    ·rename_i hij
     subst hij
     simp only [Option.map_some,sI']at he'
     subst he'
     rw [if_pos rfl]
     exact hq V' (i+1) (by show(if i=i then some x else _)=_;rw [if_pos rfl])
    ·rename_i hij
     rw [if_neg hij]
     have hj2:aJ (gO E ws i) (j+2)=some e:=by rw [eB,if_neg hij];exact he'
     have hin:=g4 _ _ hj2
     cases hwj:ws[j]? with
     | none=>rw [hwj]at he';cases he'
     | some s=>
       rw [hwj]at he'
       simp only [Option.map_some,sI']at he'
       subst he'
       refine R.enLoc N V V' (j+2) (j+1) s _ ?_ hin
       show V (j+2)=(if i=j then some x else V (j+2))
       rw [if_neg hij]
 ·intro l he
  rw [htb]at he
  match l,he with
  | 0,he=>cases he
  | j+1,he=>
    have he':aJ (iM E (ws.set i t)) (j+1)=none:=he
    rw [cT,List.getElem?_set]at he'
    show(if i=j then q else gs (j+2))=_
    split at he'
    ·rename_i hij
     subst hij
     cases he'
    ·rename_i hij
     rw [if_neg hij]
     refine g5 _ ?_
     show aJ (gO E ws i) (j+2)=none
     rw [eB,if_neg hij];exact he'
 ·intro b' o hh
  obtain⟨m,hm⟩:=WG hh
  match m,hm with
  | 0,hm=>exact .inr (hsub 0 b' o hm)
  | j+1,hm=>
    have hm':(if i=j then q else gs (j+2)) b'=some o:=hm
    split at hm'
    ·exact .inl hm'
    ·exact .inr (hsub _ b' o hm')
theorem RowS.lent(R:RowS tb E){ws:List E.X}{i:Nat}{t:E.X}{r x:Nat×Nat}{p:PHeap}{N:Nat}(h:lM tb (N+1) (R.hole ws i) r [x] p)(hw:ws[i]? =some t):
 ∃cs T v,p r.1=some (.cells cs T)∧cs.toList[i]? =some v∧ ∀(V:Val) (l:Nat),V l=some x→Rep V (E.hd l t) v:=by
 obtain⟨V,gs,g1,g2,g3,⟨g4,g5,g6⟩,g7⟩:=h
 rw [R.tbHole]at g2 g4
 dsimp only at g2 g4
 have hi:i<ws.length:=(List.getElem?_eq_some_iff.1 hw).1
 have hx:V 1=some x:=by have:=g2 0 (by omega);simpa using this
 have hc:=g4 0 _ (show aJ (gO E ws i) 0=some (.cells ((gS E 2 ws).set i (vB E ws i)))from rfl)
 obtain⟨b,k,c1,cs,T,c2,c3,rs,tail,c4,c5⟩:=hc
 have hbk:r=(b,k):=by have c1':V 0=some (b,k):=c1;rw [g1]at c1';simpa using c1'
 have hlen:=aH.length c5
 rw [List.length_set,dT]at hlen
 have hil:i<rs.length:=by omega
 have hri:=aH.at c5 (i:=i) (a:=vB E ws i) (v:=rs[i]) (by rw [List.getElem?_set,if_pos rfl,if_pos (by rw [dT];exact hi)]) (gE' hil)
 unfold vB at hri
 rw [hw]at hri
 have hri:Rep V (E.hd 1 t) rs[i]:=hri
 refine⟨cs,T,rs[i],?_,?_,fun V2 l h2=>R.hdRep V V2 1 l t _ (hx.trans h2.symm) hri⟩
 ·rw [g7]
  refine WD g6 (l:=0) ?_
  rw [c2,hbk];simp [PHeap.one]
 ·rw [c4,List.getElem?_append_left hil,gE' hil]
theorem Inv.lendS(R:RowS tb E){V:Val}{h:aB A}{hR:PHeap}{w:World}{l i:Nat}{ws:List E.X}{t:E.X}(hi:Inv (obI tb) V (toF h) hR w)(hf:bM V h.length)(hl:aJ h l=some (.abs (R.row ws) []))(hw:ws[i]? =some t):
 ∃V' x b k cs T v,V.le V'∧bM V' (h.length+1)∧Inv (obI tb) V' (toF (h.set l (some (.abs (R.hole ws i) [h.length]))++ [some (E.en t)])) hR w∧V' h.length=some x∧V l=some (b,k)∧w.heap[b]? =some (.cells cs T)∧cs.toList[i]? =some v∧(∀(V:Val) (l:Nat),V l=some x→Rep V (E.hd l t) v):=by
 have hll:=cB hl
 obtain⟨hs,h1,h2,h3,h4,h5,h6⟩:=hi
 obtain⟨b,k,hV,bs,hlo,N,hob⟩:=h1 l _ hl
 have hbs:bs=[]:=hlo
 subst hbs
 cases N with
 | zero=>exact hob.elim
 | succ N=>
 obtain⟨x,q,p',o1,o2,o3,o4,o5,cs,T,v,o6,o7,o8⟩:=R.lend hob hw
 have hn:V h.length=none:=hf _ (Nat.le_refl _)
 have hle:=V8 (x:=x) hn
 let hs':Nat→PHeap:=fun m=>if m=l then p' else if m=h.length then q else hs m
 have get1: ∀m,m<h.length→m≠l→aJ (h.set l (some (.abs (R.hole ws i) [h.length]))++ [some (E.en t)]) m=aJ h m:=by
  intro m hm hml
  rw [bY (by simpa using hm)]
  simp only [aJ,gD']
  rw [List.getElem?_set_ne (fun e=>hml e.symm)]
 have get2:aJ (h.set l (some (.abs (R.hole ws i) [h.length]))++ [some (E.en t)]) l=some (.abs (R.hole ws i) [h.length]):=by
  rw [bY (by simpa using hll)]
  simp only [aJ,gD']
  rw [List.getElem?_set_self hll];rfl
 have get3:aJ (h.set l (some (.abs (R.hole ws i) [h.length]))++ [some (E.en t)]) h.length=some (E.en t):=by
  simp only [aJ,gD']
  rw [List.getElem?_append_right (by simp)];simp
 have get4: ∀m,h.length<m→aJ (h.set l (some (.abs (R.hole ws i) [h.length]))++ [some (E.en t)]) m=none:=fun m hm=>b9 (by simp;omega)
 have hsl: ∀b o,p' b=some o→hs l b=some o:=o5
 have hsq: ∀b o,q b=some o→hs l b=some o:=o4
 have hsn: ∀m,h.length≤m→hs m=.emp :=fun m hm=>h2 m (b9 hm)
 refine⟨V.add h.length x,x,b,k,cs,T,v,hle,?_,⟨hs',?_,?_,?_,?_,?_,h6⟩,VX _ _ _,hV,?_,o7,o8⟩
 ·intro m hm
  rw [W6 _ _ (by omega)]
  exact hf m (by omega)
 ·intro m e he
  have he':aJ (h.set l (some (.abs (R.hole ws i) [h.length]))++ [some (E.en t)]) m=some e:=he
  by_cases hml:m=l
  ·subst hml
   rw [get2]at he'
   simp only [sI']at he'
   subst he'
   show aI.interp _ _ _ _ (if m=m then p' else _)
   rw [if_pos rfl]
   exact⟨b,k,hle _ _ hV,[x],⟨x,[],VX _ _ _,rfl,rfl⟩,N+1,o2⟩
  ·by_cases hmn:m=h.length
   ·subst hmn
    rw [get3]at he'
    simp only [sI']at he'
    subst he'
    show aI.interp _ _ _ _ (if h.length=l then p' else if h.length=h.length then q else _)
    rw [if_neg hml,if_pos rfl]
    exact WE (fun t r bs p h=>⟨N,h⟩) (o1 _ _ (VX _ _ _))
   ·by_cases hlt:m<h.length
    ·rw [get1 m hlt hml]at he'
     show aI.interp _ _ _ _ (if m=l then p' else if m=h.length then q else hs m)
     rw [if_neg hml,if_neg hmn]
     exact WA hle (h1 m e he')
    ·rw [get4 m (by omega)]at he';cases he'
 ·intro m he
  have he':aJ (h.set l (some (.abs (R.hole ws i) [h.length]))++ [some (E.en t)]) m=none:=he
  show(if m=l then p' else if m=h.length then q else hs m)=_
  by_cases hml:m=l
  ·subst hml;rw [get2]at he';cases he'
  ·by_cases hmn:m=h.length
   ·subst hmn;rw [get3]at he';cases he'
   ·rw [if_neg hml,if_neg hmn]
    by_cases hlt:m<h.length
    ·rw [get1 m hlt hml]at he';exact h2 m he'
    ·exact hsn m (by omega)
 ·intro m m' hmm b'
  show(if m=l then p' else if m=h.length then q else hs m) b'=none∨(if m'=l then p' else if m'=h.length then q else hs m') b'=none
  have part: ∀m,m≠l→m≠h.length→(p' b'=none∧q b'=none)∨hs m b'=none:=by
   intro m hml hmn
   rcases h3 l m (fun e=>hml e.symm) b' with d | d
   ·left
    constructor
    ·cases hp:p' b' with
     | none=>rfl
     | some o=>rw [hsl b' o hp]at d;cases d
    ·cases hp:q b' with
     | none=>rfl
     | some o=>rw [hsq b' o hp]at d;cases d
   ·exact .inr d
  by_cases a1:m=l
  ·rw [if_pos a1]
   by_cases a2:m'=l
   ·exact(hmm (a1.trans a2.symm)).elim
   ·rw [if_neg a2]
    by_cases a3:m'=h.length
    ·rw [if_pos a3];exact(o3 b').symm
    ·rw [if_neg a3];rcases part m' a2 a3 with d | d
     ·exact .inl d.1
     ·exact .inr d
  ·rw [if_neg a1]
   by_cases a0:m=h.length
   ·rw [if_pos a0]
    by_cases a2:m'=l
    ·rw [if_pos a2];exact o3 b'
    ·rw [if_neg a2]
     by_cases a3:m'=h.length
     ·exact(hmm (a0.trans a3.symm)).elim
     ·rw [if_neg a3];rcases part m' a2 a3 with d | d
      ·exact .inl d.2
      ·exact .inr d
   ·rw [if_neg a0]
    by_cases a2:m'=l
    ·rw [if_pos a2];rcases part m a1 a0 with d | d
     ·exact .inr d.1
     ·exact .inl d
    ·rw [if_neg a2]
     by_cases a3:m'=h.length
     ·rw [if_pos a3];rcases part m a1 a0 with d | d
      ·exact .inr d.2
      ·exact .inl d
     ·rw [if_neg a3];exact h3 m m' hmm b'
 ·intro m b'
  show(if m=l then p' else if m=h.length then q else hs m) b'=none∨hR b'=none
  split
  ·rcases h4 l b' with d | d
   ·cases hp:p' b' with
    | none=>exact .inl rfl
    | some o=>rw [hsl b' o hp]at d;cases d
   ·exact .inr d
  ·split
   ·rcases h4 l b' with d | d
    ·cases hp:q b' with
     | none=>exact .inl rfl
     | some o=>rw [hsq b' o hp]at d;cases d
    ·exact .inr d
   ·exact h4 m b'
 ·intro m b' o hh
  have hh':(if m=l then p' else if m=h.length then q else hs m) b'=some o:=hh
  split at hh'
  ·exact h5 l b' o (hsl b' o hh')
  ·split at hh'
   ·exact h5 l b' o (hsq b' o hh')
   ·exact h5 m b' o hh'
 ·exact h5 l b _ o6
theorem nW{V:Val}{l:Nat}{e:aI A}{p:PHeap}(h:aI.interp (obI tb) V l e p): ∃n,aI.interp (lM tb n) V l e p:=by
 cases e with
 | cells vs=>exact⟨0,h⟩
 | ints c xs=>exact⟨0,h⟩
 | abs t ps=>obtain⟨b,k,h1,bs,h2,n,h3⟩:=h;exact⟨n,b,k,h1,bs,h2,h3⟩
 | tab ks rows=>exact⟨0,h⟩
 | imap kk vc m=>exact⟨0,h⟩
 | iter lm kk vc m left cur=>exact⟨0,h⟩
theorem Inv.backS(R:RowS tb E){V:Val}{h:aB A}{hR:PHeap}{w:World}{l i k:Nat}{ws:List E.X}{t0 t:E.X}(h0:ws[i]? =some t0)(hh: ∀l,E.hd l t=E.hd l t0)(hi:Inv (obI tb) V (toF h) hR w)(hl:aJ h l=some (.abs (R.hole ws i) [k]))(hk:aJ h k=some (E.en t))(hkl:k≠l):
 Inv (obI tb) V (toF ((h.set l (some (.abs (R.row (ws.set i t)) []))).set k none)) hR w:=by
 have hll:=cB hl
 have hkk:=cB hk
 obtain⟨hs,h1,h2,h3,h4,h5,h6⟩:=hi
 obtain⟨b,kk,hV,bs,hlo,N,hob⟩:=h1 l _ hl
 obtain⟨x,r,hx,rfl,hr⟩:=hlo
 have hr':r=[]:=hr
 subst hr'
 have hlt:i<ws.length:=(List.getElem?_eq_some_iff.1 h0).1
 obtain⟨N2,hob2⟩:=nW (h1 k _ hk)
 have hxk:V k=some x:=hx
 cases N with
 | zero=>exact hob.elim
 | succ N=>
 have q1:EnAt tb (max N N2) (E.en t) x (hs k):=fun V2 l2 e2=>R.enLoc _ V V2 k l2 t _ (hxk.trans e2.symm) (WE (fun t r bs p h=>lN tb (Nat.le_max_right N N2) h) hob2)
 have q2:=lN tb (show N+1≤max N N2+1 by omega) hob
 obtain⟨p,p1,p2⟩:=R.back q2 q1 (h3 k l hkl) hlt h0 hh
 let hs':Nat→PHeap:=fun m=>if m=l then p else if m=k then .emp else hs m
 have get1: ∀m,m≠l→m≠k→aJ ((h.set l (some (.abs (R.row (ws.set i t)) []))).set k none) m=aJ h m:=by
  intro m hml hmk
  simp only [aJ,gD']
  rw [List.getElem?_set_ne (fun e=>hmk e.symm),List.getElem?_set_ne (fun e=>hml e.symm)]
 have get2:aJ ((h.set l (some (.abs (R.row (ws.set i t)) []))).set k none) l=some (.abs (R.row (ws.set i t)) []):=by
  simp only [aJ,gD']
  rw [List.getElem?_set_ne hkl,List.getElem?_set_self hll];rfl
 have get3:aJ ((h.set l (some (.abs (R.row (ws.set i t)) []))).set k none) k=none:=by
  simp only [aJ,gD']
  rw [List.getElem?_set_self (by simpa using hkk)];rfl
 refine⟨hs',?_,?_,?_,?_,?_,h6⟩
 ·intro m e he
  have he':aJ ((h.set l (some (.abs (R.row (ws.set i t)) []))).set k none) m=some e:=he
  show aI.interp _ _ _ _ (if m=l then p else if m=k then .emp else hs m)
  by_cases hml:m=l
  ·subst hml
   rw [get2]at he'
   simp only [sI']at he'
   subst he'
   rw [if_pos rfl]
   exact⟨b,kk,hV,[],rfl,_,p1⟩
  ·by_cases hmk:m=k
   ·subst hmk;rw [get3]at he';cases he'
   ·rw [if_neg hml,if_neg hmk]
    rw [get1 m hml hmk]at he'
    exact h1 m e he'
 ·intro m he
  have he':aJ ((h.set l (some (.abs (R.row (ws.set i t)) []))).set k none) m=none:=he
  show(if m=l then p else if m=k then .emp else hs m)=_
  by_cases hml:m=l
  ·subst hml;rw [get2]at he';cases he'
  ·rw [if_neg hml]
   by_cases hmk:m=k
   ·rw [if_pos hmk]
   ·rw [if_neg hmk]
    rw [get1 m hml hmk]at he'
    exact h2 m he'
 ·intro m m' hmm b'
  show(if m=l then p else if m=k then .emp else hs m) b'=none∨(if m'=l then p else if m'=k then .emp else hs m') b'=none
  have part: ∀m,m≠l→m≠k→p b'=none∨hs m b'=none:=by
   intro m hml hmk
   cases hp:p b' with
   | none=>exact .inl rfl
   | some o=>
     right
     rcases p2 b' o hp with d | d
     ·rcases h3 k m (fun e=>hmk e.symm) b' with f | f
      ·rw [f]at d;cases d
      ·exact f
     ·rcases h3 l m (fun e=>hml e.symm) b' with f | f
      ·rw [f]at d;cases d
      ·exact f
  by_cases a1:m=l
  ·rw [if_pos a1]
   by_cases a2:m'=l
   ·exact(hmm (a1.trans a2.symm)).elim
   ·rw [if_neg a2]
    by_cases a3:m'=k
    ·rw [if_pos a3];exact .inr rfl
    ·rw [if_neg a3];exact part m' a2 a3
  ·rw [if_neg a1]
   by_cases a0:m=k
   ·rw [if_pos a0];exact .inl rfl
   ·rw [if_neg a0]
    by_cases a2:m'=l
    ·rw [if_pos a2];exact(part m a1 a0).symm
    ·rw [if_neg a2]
     by_cases a3:m'=k
     ·rw [if_pos a3];exact .inr rfl
     ·rw [if_neg a3];exact h3 m m' hmm b'
 ·intro m b'
  show(if m=l then p else if m=k then .emp else hs m) b'=none∨hR b'=none
  split
  ·cases hp:p b' with
   | none=>exact .inl rfl
   | some o=>
     right
     rcases p2 b' o hp with d | d
     ·rcases h4 k b' with f | f
      ·rw [f]at d;cases d
      ·exact f
     ·rcases h4 l b' with f | f
      ·rw [f]at d;cases d
      ·exact f
  ·split
   ·exact .inl rfl
   ·exact h4 m b'
 ·intro m b' o hh
  have hh':(if m=l then p else if m=k then .emp else hs m) b'=some o:=hh
  split at hh'
  ·rcases p2 b' o hh' with d | d
   ·exact h5 k b' o d
   ·exact h5 l b' o d
  ·split at hh'
   ·cases hh'
   ·exact h5 m b' o hh'
end Go.Sh
namespace Go.Sh
open Go
variable [Con] {A:Type} {P:Program} {E:CC A} {tb:A→Nat×aB A}
theorem RowS.snoc(R:RowS tb E){ws:List E.X}{y:E.X}{r:Nat×Nat}{p:PHeap}{N:Nat}(h:lM tb (N+1) (R.row ws) r [] p):
 ∃cs T rs tail,p r.1=some (.cells cs T)∧cs.size=r.2∧cs.toList=rs++tail∧rs.length=ws.length∧
  ∀(x:Nat×Nat) (q:PHeap) (b' k':Nat) (cs':Array Value) (T':TypeId) (v:Value) (tail':List Value),EnAt tb N (E.en y) x q→q.disj p→(∀(V:Val) (l:Nat),V l=some x→Rep V (E.hd l y) v)→
   cs'.toList=(rs++ [v])++tail'→cs'.size=k'→(b'=r.1∨p b'=none)→q b'=none→
   ∃p',lM tb (N+1) (R.row (ws++ [y])) (b',k') [] p'∧ ∀c o,p' c=some o→(c=b'∧o=.cells cs' T')∨(c≠r.1∧p c=some o)∨q c=some o:=by
 obtain⟨V,gs,g1,g2,g3,⟨g4,g5,g6⟩,g7⟩:=h
 rw [R.tbRow]at g2 g3 g4 g5
 dsimp only at g2 g3 g4 g5
 have hc:=g4 0 _ (show aJ (iM E ws) 0=some (.cells (gS E 1 ws))from rfl)
 obtain⟨b,k,c1,cs,T,c2,c3,rs,tail,c4,c5⟩:=hc
 have hbk:r=(b,k):=by have c1':V 0=some (b,k):=c1;rw [g1]at c1';simpa using c1'
 subst hbk
 have hlen:=aH.length c5
 rw [dT]at hlen
 have hsub: ∀j b o,gs j b=some o→p b=some o:=by
  intro j b o hh;rw [g7];exact WD g6 hh
 refine⟨cs,T,rs,tail,?_,c3,c4,hlen,?_⟩
 ·refine hsub 0 b _ ?_
  rw [c2];simp [PHeap.one]
 intro x q b' k' cs' T' v tail' hx hqd hv hcs hk hb' hqb
 have htb:=R.tbRow (ws++ [y])
 let V':Val:=fun m=>match m with
  | 0=>some (b',k')
  | j+1=>if j<ws.length then V (j+1)else if j=ws.length then some x else none
 let gs':Nat→PHeap:=fun m=>match m with
  | 0=>.one b' (.cells cs' T')
  | j+1=>if j<ws.length then gs (j+1)else if j=ws.length then q else .emp
 have hV1: ∀j,j<ws.length→V' (j+1)=V (j+1):=fun j hj=>if_pos hj
 have hV2:V' (ws.length+1)=some x:=by
  show(if ws.length<ws.length then _ else if ws.length=ws.length then some x else none)=_
  rw [if_neg (Nat.lt_irrefl _),if_pos rfl]
 have char: ∀m c o,gs' m c=some o→(m=0∧c=b'∧o=.cells cs' T')∨(∃j,m=j+1∧j<ws.length∧gs (j+1) c=some o)∨(m=ws.length+1∧q c=some o):=by
  intro m c o hh
  match m,hh with
  | 0,hh=>
    left
    have hh:PHeap.one b' (.cells cs' T') c=some o:=hh
    unfold PHeap.one at hh
    split at hh
    ·rename_i e;cases hh;exact⟨rfl,e,rfl⟩
    ·cases hh
  | j+1,hh=>
    right
    have hh2:(if j<ws.length then gs (j+1)else if j=ws.length then q else PHeap.emp) c=some o:=hh
    clear hh
    split at hh2
    ·rename_i hj;exact .inl ⟨j,rfl,hj,hh2⟩
    ·split at hh2
     ·rename_i hj;exact .inr ⟨by rw [hj],hh2⟩
     ·cases hh2
 have ne0: ∀j c o,gs (j+1) c=some o→c≠b:=by
  intro j c o hh e
  subst e
  rcases g6 0 (j+1) (by omega) c with d | d
  ·rw [c2]at d;simp [PHeap.one]at d
  ·rw [d]at hh;cases hh
 have nb: ∀j o,gs (j+1) b'=some o→False:=by
  intro j o hh
  rcases hb' with e | e
  ·exact ne0 j b' o hh e
  ·rw [hsub _ _ _ hh]at e;cases e
 have nq: ∀j c o o2,gs (j+1) c=some o→q c=some o2→False:=by
  intro j c o o2 h1 h2
  rcases hqd c with d | d
  ·rw [d]at h2;cases h2
  ·rw [hsub _ _ _ h1]at d;cases d
 have gdis: ∀l m,l≠m→(gs' l).disj (gs' m):=by
  intro l m hlm c
  cases h1:gs' l c with
  | none=>exact .inl rfl
  | some o=>
    right
    cases h2:gs' m c with
    | none=>rfl
    | some o2=>
      exfalso
      rcases char l c o h1 with⟨a1,a2,_⟩ | ⟨j,a1,a2,a3⟩ | ⟨a1,a2⟩
      ·rcases char m c o2 h2 with⟨e1,_⟩ | ⟨j2,e1,e2,e3⟩ | ⟨e1,e2⟩
       ·omega
       ·subst a2;exact nb _ _ e3
       ·rw [a2,hqb]at e2;cases e2
      ·rcases char m c o2 h2 with⟨e1,e2,_⟩ | ⟨j2,e1,e2,e3⟩ | ⟨e1,e2⟩
       ·subst e2;exact nb _ _ a3
       ·rcases g6 (j+1) (j2+1) (by omega) c with d | d
        ·rw [d]at a3;cases a3
        ·rw [d]at e3;cases e3
       ·exact nq _ _ _ _ a3 e2
      ·rcases char m c o2 h2 with⟨e1,e2,_⟩ | ⟨j2,e1,e2,e3⟩ | ⟨e1,e2⟩
       ·rw [e2,hqb]at a2;cases a2
       ·exact nq _ _ _ _ e3 a2
       ·omega
 have hget1: ∀j,aJ (iM E (ws++ [y])) (j+1)=if j<ws.length then(ws[j]?).map E.en else if j=ws.length then some (E.en y)else none:=by
  intro j
  rw [cT]
  split
  ·rename_i hj;rw [List.getElem?_append_left hj]
  ·rename_i hj
   split
   ·rename_i e;subst e;rw [List.getElem?_append_right (Nat.le_refl _),Nat.sub_self];rfl
   ·rename_i e
    rw [List.getElem?_eq_none (by rw [List.length_append];show ws.length+1≤j;omega)];rfl
 refine⟨VZ gs',⟨V',gs',rfl,?_,?_,⟨?_,?_,gdis⟩,rfl⟩,?_⟩
 ·intro j hj
  rw [htb]at hj
  dsimp only at hj;omega
 ·rw [htb];rfl
 ·intro l e he
  rw [htb]at he
  match l,he with
  | 0,he=>
    have he':some (aI.cells (gS E 1 (ws++ [y])))=some e:=he
    simp only [sI']at he'
    subst he'
    refine⟨b',k',rfl,cs',T',rfl,hk,rs++ [v],tail',hcs,?_⟩
    refine WX (by rw [dT,List.length_append,List.length_append,hlen];rfl) ?_
    intro j a v2 ha hv2
    rw [eT]at ha
    by_cases hj:j<ws.length
    ·rw [List.getElem?_append_left hj]at ha
     rw [List.getElem?_append_left (by omega)]at hv2
     cases hwj:ws[j]? with
     | none=>rw [hwj]at ha;cases ha
     | some o=>
       rw [hwj]at ha
       simp only [Option.map_some,sI']at ha
       subst ha
       have hr:=aH.at c5 (i:=j) (a:=E.hd (1+j) o) (v:=v2) (by rw [eT,hwj];rfl) hv2
       refine R.hdRep V V' (1+j) (1+j) o v2 ?_ hr
       rw [Nat.add_comm 1 j,hV1 j hj]
    ·have hjl:j<ws.length+1:=by
      rcases Nat.lt_or_ge j (ws.length+1)with g | g
      ·exact g
      ·rw [List.getElem?_eq_none (by rw [List.length_append];exact g)]at ha;cases ha
     have hjw:j=ws.length:=by omega
     subst hjw
     rw [List.getElem?_append_right (Nat.le_refl _),Nat.sub_self]at ha
     rw [List.getElem?_append_right (by omega),hlen,Nat.sub_self]at hv2
     have ha:some (E.hd (1+ws.length) y)=some a:=ha
     have hv2:some v=some v2:=hv2
     cases ha
     cases hv2
     exact hv V' _ (by rw [Nat.add_comm];exact hV2)
  | j+1,he=>
    have he':aJ (iM E (ws++ [y])) (j+1)=some e:=he
    rw [hget1]at he'
    show aI.interp (lM tb N) V' (j+1) e (if j<ws.length then gs (j+1)else if j=ws.length then q else PHeap.emp)
    split at he'
    ·rename_i hj
     rw [if_pos hj]
     have hj2:aJ (iM E ws) (j+1)=some e:=by rw [cT];exact he'
     have hin:=g4 _ _ hj2
     cases hwj:ws[j]? with
     | none=>rw [hwj]at he';cases he'
     | some s=>
       rw [hwj]at he'
       simp only [Option.map_some,sI']at he'
       subst he'
       exact R.enLoc N V V' (j+1) (j+1) s _ (hV1 j hj).symm hin
    ·rename_i hj
     split at he'
     ·rename_i e2
      subst e2
      simp only [sI']at he'
      subst he'
      rw [if_neg hj,if_pos rfl]
      exact hx V' _ hV2
     ·cases he'
 ·intro l he
  rw [htb]at he
  match l,he with
  | 0,he=>cases he
  | j+1,he=>
    have he':aJ (iM E (ws++ [y])) (j+1)=none:=he
    rw [hget1]at he'
    show(if j<ws.length then gs (j+1)else if j=ws.length then q else PHeap.emp)=_
    split at he'
    ·rename_i hj
     rw [gE' hj]at he';cases he'
    ·rename_i hj
     split at he'
     ·cases he'
     ·rename_i e2
      rw [if_neg hj,if_neg e2]
 ·intro c o hh
  obtain⟨m,hm⟩:=WG hh
  rcases char m c o hm with⟨_,a2,a3⟩ | ⟨j,_,_,a3⟩ | ⟨_,a2⟩
  ·exact .inl ⟨a2,a3⟩
  ·exact .inr (.inl ⟨ne0 j c o a3,hsub _ _ _ a3⟩)
  ·exact .inr (.inr a2)
end Go.Sh
namespace Go.Sh
open Go
variable [Con] {A:Type} {P:Program} {E:CC A} {tb:A→Nat×aB A}
theorem Inv.snocS(R:RowS tb E){V:Val}{h:aB A}{hR:PHeap}{w:World}{l q:Nat}{ws:List E.X}{y:E.X}(hi:Inv (obI tb) V (toF h) hR w)(hn:V h.length=none)
 (hl:aJ h l=some (.abs (R.row ws) [])) (hq:aJ h q=some (E.en y)) (hql:q≠l):
 ∃b k cs T rs tail,V l=some (b,k)∧w.heap[b]? =some (.cells cs T)∧cs.size=k∧cs.toList=rs++tail∧rs.length=ws.length∧
  ∀(v:Value) (w':World) (b' k':Nat) (cs':Array Value) (T':TypeId) (tail':List Value),Rep V (E.hd q y) v→
   cs'.toList=(rs++ [v])++tail'→cs'.size=k'→w'.heap[b']? =some (.cells cs' T')→(b'=b∨w.heap[b']? =none)→(∀c o,c≠b'→w.heap[c]? =some o→w'.heap[c]? =some o)→
   Inv (obI tb) (V.add h.length (b',k')) ((((toF h).put l none).put q none).put h.length (some (.abs (R.row (ws++ [y])) []))) hR w':=by
 have hll:=cB hl
 have hqq:=cB hq
 obtain⟨hs,h1,h2,h3,h4,h5,h6⟩:=hi
 obtain⟨b,k,hV,bs,hlo,N,hob⟩:=h1 l _ hl
 have hbs:bs=[]:=hlo
 subst hbs
 have hinq:=h1 q _ hq
 obtain⟨N2,hinq2⟩:=nW hinq
 obtain⟨x,hx⟩:=rI hinq2
 cases N with
 | zero=>exact hob.elim
 | succ N=>
 have hob2:=lN tb (show N+1≤max N N2+1 by omega) hob
 have hen:EnAt tb (max N N2) (E.en y) x (hs q):=fun V2 l2 e2=>R.enLoc _ V V2 q l2 y _ (hx.trans e2.symm) (WE (fun t r bs p h=>lN tb (Nat.le_max_right N N2) h) hinq2)
 obtain⟨cs,T,rs,tail,a1,a2,a3,a4,a5⟩:=R.snoc (y:=y) hob2
 refine⟨b,k,cs,T,rs,tail,hV,h5 l b _ a1,a2,a3,a4,?_⟩
 intro v w' b' k' cs' T' tail' hv e1 e2 e3 e4 e5
 have out: ∀m,m≠l→hs m b'=none:=by
  intro m hm
  rcases e4 with e | e
  ·subst e
   rcases h3 l m (fun e=>hm e.symm) b' with d | d
   ·have a1':hs l b'=some (.cells cs T):=a1
    rw [d]at a1';cases a1'
   ·exact d
  ·cases hh:hs m b' with
   | none=>rfl
   | some o=>have:=h5 m b' o hh;rw [e]at this;cases this
 have outR:hR b'=none:=by
  rcases e4 with e | e
  ·subst e
   rcases h4 l b' with d | d
   ·have a1':hs l b'=some (.cells cs T):=a1
    rw [d]at a1';cases a1'
   ·exact d
  ·cases hh:hR b' with
   | none=>rfl
   | some o=>have:=h6.1 b' o hh;rw [e]at this;cases this
 have hbp:b'=b∨hs l b'=none:=by
  rcases e4 with e | e
  ·exact .inl e
  ·right
   cases hh:hs l b' with
   | none=>rfl
   | some o=>have:=h5 l b' o hh;rw [e]at this;cases this
 obtain⟨p',p1,p2⟩:=a5 x (hs q) b' k' cs' T' v tail' hen (h3 q l hql)
  (fun V2 l2 e=>R.hdRep V V2 q l2 y v (hx.trans e.symm) hv) e1 e2 hbp (out q hql)
 have hle:=V8 (x:=(b',k')) hn
 let hs':Nat→PHeap:=fun m=>if m=h.length then p' else if m=l then .emp else if m=q then .emp else hs m
 have hsO: ∀m,m≠h.length→m≠l→m≠q→hs' m=hs m:=by
  intro m m1 m2 m3
  show(if m=h.length then p' else if m=l then .emp else if m=q then .emp else hs m)=_
  rw [if_neg m1,if_neg m2,if_neg m3]
 have hsN:hs' h.length=p':=if_pos rfl
 have hsE: ∀m,m≠h.length→(m=l∨m=q)→hs' m=.emp :=by
  intro m m1 m2
  show(if m=h.length then p' else if m=l then .emp else if m=q then .emp else hs m)=_
  rw [if_neg m1]
  rcases m2 with m2 | m2
  ·rw [if_pos m2]
  ·by_cases m3:m=l
   ·rw [if_pos m3]
   ·rw [if_neg m3,if_pos m2]
 have part: ∀m,m≠h.length→(hs' m).disj p':=by
  intro m m1 c
  by_cases m2:m=l∨m=q
  ·rw [hsE m m1 m2];exact .inl rfl
  ·have m3:m≠l:=fun e=>m2 (.inl e)
   have m4:m≠q:=fun e=>m2 (.inr e)
   rw [hsO m m1 m3 m4]
   cases hp:p' c with
   | none=>exact .inr rfl
   | some o=>
     left
     rcases p2 c o hp with⟨d,_⟩ | ⟨_,d⟩ | d
     ·rw [d];exact out m m3
     ·rcases h3 l m (fun e=>m3 e.symm) c with f | f
      ·rw [f]at d;cases d
      ·exact f
     ·rcases h3 q m (fun e=>m4 e.symm) c with f | f
      ·rw [f]at d;cases d
      ·exact f
 refine⟨hs',?_,?_,?_,?_,?_,?_,h6.2⟩
 ·intro m e he
  by_cases m1:m=h.length
  ·subst m1
   simp only [aY.put,if_pos,sI']at he
   subst he
   rw [hsN]
   exact⟨b',k',VX _ _ _,[],rfl,_,p1⟩
  ·by_cases m2:m=q
   ·subst m2;simp [aY.put,m1]at he
   ·by_cases m3:m=l
    ·subst m3;simp [aY.put,m1]at he
    ·simp only [aY.put,m1,m2,m3,if_false]at he
     rw [hsO m m1 m3 m2]
     exact WA hle (h1 m e he)
 ·intro m he
  by_cases m1:m=h.length
  ·subst m1;simp [aY.put]at he
  ·by_cases m2:m=l∨m=q
   ·exact hsE m m1 m2
   ·have m3:m≠l:=fun e=>m2 (.inl e)
    have m4:m≠q:=fun e=>m2 (.inr e)
    simp only [aY.put,m1,m3,m4,if_false]at he
    rw [hsO m m1 m3 m4]
    exact h2 m he
 ·intro m m' hmm
  by_cases m1:m=h.length
  ·have m2:m'≠h.length:=fun e=>hmm (m1.trans e.symm)
   rw [m1,hsN]
   exact(part m' m2).symm
  ·by_cases m2:m'=h.length
   ·rw [m2,hsN];exact part m m1
   ·by_cases m3:m=l∨m=q
    ·rw [hsE m m1 m3];exact fun c=>.inl rfl
    ·by_cases m4:m'=l∨m'=q
     ·rw [hsE m' m2 m4];exact fun c=>.inr rfl
     ·rw [hsO m m1 (fun e=>m3 (.inl e)) (fun e=>m3 (.inr e)),hsO m' m2 (fun e=>m4 (.inl e)) (fun e=>m4 (.inr e))]
      exact h3 m m' hmm
 ·intro m c
  by_cases m1:m=h.length
  ·rw [m1,hsN]
   cases hp:p' c with
   | none=>exact .inl rfl
   | some o=>
     right
     rcases p2 c o hp with⟨d,_⟩ | ⟨_,d⟩ | d
     ·rw [d];exact outR
     ·rcases h4 l c with f | f
      ·rw [f]at d;cases d
      ·exact f
     ·rcases h4 q c with f | f
      ·rw [f]at d;cases d
      ·exact f
  ·by_cases m2:m=l∨m=q
   ·rw [hsE m m1 m2];exact .inl rfl
   ·rw [hsO m m1 (fun e=>m2 (.inl e)) (fun e=>m2 (.inr e))]
    exact h4 m c
 ·intro m c o hh
  by_cases m1:m=h.length
  ·rw [m1,hsN]at hh
   rcases p2 c o hh with⟨d,d2⟩ | ⟨d0,d⟩ | d
   ·rw [d,d2];exact e3
   ·refine e5 c o ?_ (h5 l c o d)
    intro ec
    rcases hbp with f | f
    ·exact d0 (ec.trans f)
    ·rw [←ec]at f;rw [f]at d;cases d
   ·refine e5 c o ?_ (h5 q c o d)
    intro ec
    have:=out q hql
    rw [←ec]at this;rw [this]at d;cases d
  ·by_cases m2:m=l∨m=q
   ·rw [hsE m m1 m2]at hh;cases hh
   ·have m3:m≠l:=fun e=>m2 (.inl e)
    rw [hsO m m1 m3 (fun e=>m2 (.inr e))]at hh
    refine e5 c o ?_ (h5 m c o hh)
    intro ec
    have:=out m m3
    rw [←ec]at this;rw [this]at hh;cases hh
 ·intro c o hh
  refine e5 c o ?_ (h6.1 c o hh)
  intro ec
  rw [ec,outR]at hh;cases hh
end Go.Sh
