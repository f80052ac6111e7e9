import Derived.WideKeyArgs
import Derived.OpenShut
import Derived.RangeFuncRecord
import Derived.Below
import Derived.Test.YtedeloeobocpiaaGreatZSh14toSh22
set_option linter.all false
set_option maxHeartbeats 8000000
namespace Go.Sh
open Go
inductive Shp where
 | code (c:Code1)
 | str
 | ints (c:Code1)
 | rows (r:List Shp)
mutual
def Den:Shp→Type
 | .code _=>Int
 | .str =>ByteArray
 | .ints _=>List Int
 | .rows r=>List (DenL r)
def DenL:List Shp→Type
 | []=>Unit
 | s::r=>Den s×DenL r
end
mutual
def dfl:(s:Shp)→Den s
 | .code _=>(0:Int)
 | .str =>ByteArray.empty
 | .ints _=>([]:List Int)
 | .rows r=>([]:List (DenL r))
def RL:(r:List Shp)→DenL r
 | []=>()
 | s::r=>(dfl s,RL r)
end
mutual
def toA:(s:Shp)→Den s→AVal
 | .code c,n=>Code1.aval c n
 | .str,s=>.str s
 | .ints c,xs=>.iview c xs
 | .rows r,xs=>.view (List.length (α:=DenL r) xs) r.length (fun i=>iJ r (List.getD (α:=DenL r) xs i (RL r)))
def iJ:(r:List Shp)→DenL r→List AVal
 | [],_=>[]
 | s::r,x=>toA s x.1::iJ r x.2
end
def yN:Code1→Int→Prop
 | some k,n=>(Lit.int k n).wf =true
 | none,n=>n=0∨n=1
mutual
def okS:(s:Shp)→Den s→Prop
 | .code c,n=>yN c n
 | .str,s=>ByteArray.size s≤maxLen
 | .ints c,xs=>List.length (α:=Int) xs≤maxLen∧ ∀x:Int,List.Mem x xs→yN c x
 | .rows r,xs=>List.length (α:=DenL r) xs≤maxLen∧ ∀x:DenL r,List.Mem x xs→KW r x
def KW:(r:List Shp)→DenL r→Prop
 | [],_=>True
 | s::r,x=>okS s x.1∧KW r x.2
end
def i5(P:Program)(rec:TypeId→Option (List Shp)):Nat→List Field→Option (List Shp)
 | _,[]=>some []
 | off,f::fs=>match rec f.type with
   | some r=>if f.offset=off∧P.cellsOf f.type=r.length then(i5 P rec (off+r.length) fs).map (r++ ·)else none
   | none=>none
def PS(P:Program):Nat→TypeId→Option (List Shp)
 | 0,_=>none
 | d+1,t=>match P.underlying t with
   | some .bool =>some [.code none]
   | some (.int k)=>some [.code (some k)]
   | some .string =>some [.str]
   | some (.slice e)=>match PS P d e with
     | some [.code c]=>if P.cellsOf e=1 then some [.ints c]else none
     | some r=>if P.cellsOf e=r.length∧0<r.length then some [.rows r]else none
     | none=>none
   | some (.struct fs)=>match i5 P (PS P d) 0 fs.toList with
     | some r=>if P.cellsOf t=r.length then some r else none
     | none=>none
   | some (.array n e)=>match PS P d e with
     | some r=>if P.cellsOf e=r.length∧P.cellsOf t=n*r.length then some ((List.replicate n r).flatten)else none
     | none=>none
   | _=>none
theorem s6: ∀(r:List Shp) (x:DenL r),(iJ r x).length =r.length
 | [],_=>rfl
 | s::r,x=>by show(toA s x.1::iJ r x.2).length =_;simp [s6 r x.2]
def IV:(r q:List Shp)→DenL r→DenL q→DenL (r++q)
 | [],_,_,y=>y
 | _::r,q,x,y=>(x.1,IV r q x.2 y)
theorem vL: ∀(r q:List Shp) (x:DenL r) (y:DenL q),iJ (r++q) (IV r q x y)=iJ r x++iJ q y
 | [],_,_,_=>rfl
 | s::r,q,x,y=>by
   show toA s x.1::iJ (r++q) (IV r q x.2 y)=toA s x.1::(iJ r x.2++iJ q y)
   rw [vL r q]
theorem zH: ∀(r q:List Shp) (x:DenL r) (y:DenL q),KW r x→KW q y→KW (r++q) (IV r q x y)
 | [],_,_,_,_,h=>h
 | s::r,q,x,y,hx,hy=>⟨hx.1,zH r q x.2 y hx.2 hy⟩
theorem mZ{α:Type}{p:Nat→α→Prop} : ∀(n:Nat),(∀i,i<n→ ∃x,p i x)→ ∃l:List α,l.length=n∧ ∀i (h:i<l.length),p i l[i]
 | 0,_=>⟨[],rfl,fun i h=>by simp at h⟩
 | n+1,h=>by
   obtain⟨l,h1,h2⟩:=mZ n (fun i hi=>h i (by omega))
   obtain⟨x,hx⟩:=h n (by omega)
   refine⟨l++ [x],by simp [h1],?_⟩
   intro i hi
   by_cases hc:i<l.length
   ·rw [List.getElem_append_left hc];exact h2 i hc
   ·have:i=n:=by simp at hi;omega
    subst this
    rw [List.getElem_append_right (by omega)]
    simpa [h1]using hx
section
variable {H:Type} {enc:TypeId×Value→H} {P:Program} {w:World}
theorem add_zero(a:Addr):a.add 0=a:=by simp [Addr.add]
theorem wE(a:Addr)(n:Nat):(a.add n).block =a.block:=by unfold Addr.add;split<;>rfl
theorem GC(a:Addr)(n:Nat):(a.add n).off =a.off+n:=by
 unfold Addr.add
 split<;>simp_all
theorem qR{a:Addr}{n:Nat}{cs:List Value}(h:w.cells? 0 a n=some cs)(hn:0<n):
 ∃c T fz,a.spot=none∧w.heap[a.block]? =some (.cells c T fz)∧(c.toList.drop a.off).take n=cs:=by
 obtain⟨_,hl,hc⟩:=World.cells?_some h
 have h0:=hc 0 hn
 obtain⟨v0,hv0⟩: ∃v,cs[0]? =some v:=⟨cs[0],gE' (by omega)⟩
 rw [hv0]at h0
 have ha0:a.add 0=a:=by simp [Addr.add]
 rw [ha0]at h0
 have hs:=World.cell?_spot h0
 obtain⟨b,off,sp⟩:=a
 simp only at hs
 subst hs
 unfold World.cell? at h0
 split at h0
 ·rename_i c T fz hb
  refine⟨c,T,fz,rfl,hb,?_⟩
  apply List.ext_getElem?
  intro j
  rw [List.getElem?_take]
  by_cases hj:j<n
  ·rw [if_pos hj,List.getElem?_drop,←hc j hj,Addr.add_lit,Array.getElem?_toList]
   exact(cell_of_row w b (off+j) c T fz hb).symm
  ·rw [if_neg hj,List.getElem?_eq_none (by omega)]
 ·cases h0
theorem MY{V:Val} [Con]{r:List Shp}{x:DenL r}{c:Code1}{cs:List Value}(hr:r=[.code c])(h:aH V (iJ r x) cs)(ho:KW r x): ∃n,cs=[Code1.val c n]∧yN c n:=by
 subst hr
 obtain⟨v,vs,rfl,h1,h2⟩:=h
 have h2':vs=[]:=h2
 subst h2'
 refine⟨x.1,?_,ho.1⟩
 have h1':Rep V (Code1.aval c x.1) v:=h1
 cases c with
 | some k=>have:v=.int k x.1:=h1';rw [this];rfl
 | none=>have:v=Code1.val none x.1:=h1';rw [this]
theorem oR [Con]{rec:TypeId→Option (List Shp)}{cs:List Value}{rd:TypeId→List Value→Prop}
 (hrec: ∀t r l,rec t=some r→rd t l→ ∃x:DenL r,KW r x∧aH (fun _=>none) (iJ r x) l):
 ∀(fs:List Field) (off:Nat) (r:List Shp),i5 P rec off fs=some r→off+r.length≤cs.length→(∀f∈fs,rd f.type ((cs.drop f.offset).take (P.cellsOf f.type)))→
  ∃x:DenL r,KW r x∧aH (fun _=>none) (iJ r x) ((cs.drop off).take r.length)
 | [],off,r,h,_,_=>by
   simp [i5]at h;subst h
   exact⟨(),trivial,by simp [iJ,aH]⟩
 | f::fs,off,r,h,hl,hrd=>by
   simp only [i5]at h
   cases hf:rec f.type with
   | none=>rw [hf]at h;cases h
   | some q=>
     rw [hf]at h
     simp only at h
     split at h
     ·rename_i hc
      obtain⟨ho,hq⟩:=hc
      cases hfs:i5 P rec (off+q.length) fs with
      | none=>rw [hfs]at h;cases h
      | some r'=>
        rw [hfs]at h
        simp at h;subst h
        rw [List.length_append]at hl
        obtain⟨x,ox,rx⟩:=hrec f.type q _ hf (hrd f (by simp))
        obtain⟨y,oy,ry⟩:=oR hrec fs _ r' hfs (by omega) (fun g hg=>hrd g (by simp [hg]))
        refine⟨IV q r' x y,zH q r' x y ox oy,?_⟩
        rw [vL,List.length_append,List.take_add,List.drop_drop]
        rw [ho,hq]at rx
        exact aH.append rx ry
     ·cases h
theorem p9 [Con]{P':List Value→Prop}{r:List Shp}(hr: ∀l,P' l→ ∃x:DenL r,KW r x∧aH (fun _=>none) (iJ r x) l):
 ∀(n:Nat) (cs:List Value),cs.length=n*r.length→(∀i,i<n→P' ((cs.drop (i*r.length)).take r.length))→
  ∃x:DenL ((List.replicate n r).flatten),KW _ x∧aH (fun _=>none) (iJ _ x) cs
 | 0,cs,hl,_=>by
   have:cs=[]:=List.length_eq_zero_iff.1 (by omega)
   subst this
   exact⟨(),trivial,by simp [iJ,aH]⟩
 | n+1,cs,hl,h=>by
   obtain⟨x,ox,rx⟩:=hr _ (h 0 (by omega))
   rw [Nat.zero_mul,List.drop_zero]at rx
   obtain⟨y,oy,ry⟩:=p9 hr n (cs.drop r.length) (by rw [List.length_drop,hl,Nat.succ_mul];omega) (by
    intro i hi
    have:=h (i+1) (by omega)
    rw [List.drop_drop]
    rw [show r.length+i*r.length=(i+1)*r.length from by rw [Nat.succ_mul];omega]
    exact this)
   refine⟨IV r _ x y,zH r _ x y ox oy,?_⟩
   show aH _ (iJ (r++(List.replicate n r).flatten) _) cs
   rw [vL]
   have:=aH.append rx ry
   rwa [List.take_append_drop]at this
theorem P7 [Con](hcon: ∀b o,w.heap[b]? =some o→Con.con b=some o): ∀(m n:Nat) (t:TypeId) (cs:List Value) (x:DataW H×List MemPlace) (held:Bool) (r:List Shp),
 DataW.trod enc P w 0 (fun _=>true) held n t cs=some x→PS P m t=some r→ ∃x:DenL r,KW r x∧aH (fun _=>none) (iJ r x) cs:=by
 intro m
 induction m with
 | zero=>intro n t cs x held r _ h;simp [PS]at h
 | succ m ih=>
   intro n t cs x held r h hs
   unfold PS at hs
   split at hs
   ·rename_i ht
    obtain⟨b,rfl,_⟩:=DataW.trod_bool ht h
    simp at hs;subst hs
    refine⟨((cond b 1 0:Int),()),⟨?_,trivial⟩,?_⟩
    ·show(cond b 1 0:Int)=0∨(cond b 1 0:Int)=1
     cases b<;>simp
    ·refine⟨.bool b,[],rfl,?_,rfl⟩
     show Value.bool b=.bool ((cond b 1 0:Int) !=0)
     cases b<;>rfl
   ·rename_i k ht
    obtain⟨v,rfl,_,hw⟩:=DataW.trod_int ht h
    simp at hs;subst hs
    exact⟨(v,()),⟨hw,trivial⟩,.int k v,[],rfl,rfl,rfl⟩
   ·rename_i ht
    obtain⟨s,rfl,_,hw⟩:=DataW.trod_string ht h
    simp at hs;subst hs
    exact⟨(s,()),⟨hw,trivial⟩,.string s,[],rfl,rfl,rfl⟩
   ·rename_i e ht
    have sl:=DataW.trod_slice ht h
    split at hs
    ·rename_i c he
     split at hs
     case isFalse=>cases hs
     rename_i hce
     simp at hs;subst hs
     rcases sl with⟨rfl,_⟩ | ⟨a,len,cap,elems,rest,k,_,rfl,_,_,h1,h2,h3,h4,_⟩
     ·refine⟨(([]:List Int),()),⟨⟨Nat.zero_le _,fun x h=>by cases h⟩,trivial⟩,.slice none 0 0,[],rfl,?_,rfl⟩
      exact⟨none,0,rfl,Nat.le_refl _,.inr rfl⟩
     ·have hel: ∀i,i<len→ ∃v:Int,yN c v∧ ∃c' T fz,(i=0→a.spot=none)∧w.heap[a.block]? =some (.cells c' T fz)∧(c'.toList.drop (a.off+i)).take 1=[Code1.val c v]:=by
       intro i hi
       have hb:=h4 i hi
       rw [hce,Nat.mul_one]at hb
       cases hc:w.cells? 0 (a.add i) 1 with
       | none=>rw [hc,gE' (by omega)]at hb;cases hb
       | some l=>
         rw [hc,gE' (by omega)]at hb
         simp only [Option.bind_some]at hb
         obtain⟨y,oy,ry⟩:=ih k e l _ held [.code c] hb he
         obtain⟨v,rfl,hv⟩:=MY rfl ry oy
         obtain⟨c',T,fz,q1,q2,q3⟩:=qR hc (by omega)
         have e1:(a.add i).block =a.block:=wE a _
         rw [e1]at q2
         have e2:(a.add i).off =a.off+i:=GC a i
         rw [e2]at q3
         exact⟨v,hv,c',T,fz,fun h0=>by subst h0;rw [add_zero]at q1;exact q1,q2,q3⟩
      obtain⟨xs,hxl,hx⟩:=mZ len hel
      refine⟨(xs,()),⟨⟨by show xs.length≤_;omega,?_⟩,trivial⟩,.slice (some a) len cap,[],rfl,?_,rfl⟩
      ·intro v hv
       obtain⟨i,hi,rfl⟩:=List.getElem_of_mem hv
       exact(hx i hi).1
      ·show Rep _ (.iview c xs) _
       refine⟨some a,cap,by rw [hxl],by rw [hxl];exact h1,?_⟩
       by_cases h0:len=0
       ·right;exact List.length_eq_zero_iff.1 (by omega)
       ·left
        obtain⟨_,c',T,fz,q1,q2,_⟩:=hx 0 (by omega)
        obtain⟨b,off,sp⟩:=a
        simp only at q1 q2;have q1:=q1 trivial;subst q1
        refine⟨b,off,c',T,fz,rfl,hcon _ _ q2,(c'.toList.drop off).drop len,?_⟩
        have:xs.map (Code1.val c)=(c'.toList.drop off).take len:=by
         apply List.ext_getElem?
         intro i
         rw [List.getElem?_map,List.getElem?_take]
         by_cases hi:i<len
         ·rw [if_pos hi,gE' (by omega)]
          obtain⟨_,c2,T2,fz2,_,p2,p3⟩:=hx i (by omega)
          simp only at p2 p3
          rw [q2]at p2
          simp only [sI',Obj.cells.injEq]at p2
          obtain⟨rfl,_⟩:=p2
          have:=congrArg (fun l=>l[0]?) p3
          simp only [List.getElem?_take,List.getElem?_drop]at this
          rw [List.getElem?_drop]
          simpa using this.symm
         ·rw [if_neg hi,List.getElem?_eq_none (by omega)];rfl
        rw [this,List.take_append_drop]
    ·rename_i q hq he
     split at hs
     case isFalse=>cases hs
     rename_i hce
     simp at hs;subst hs
     rcases sl with⟨rfl,_⟩ | ⟨a,len,cap,elems,rest,k,_,rfl,_,_,h1,h2,h3,h4,_⟩
     ·refine⟨(([]:List (DenL q)),()),⟨⟨Nat.zero_le _,fun x h=>by cases h⟩,trivial⟩,.slice none 0 0,[],rfl,?_,rfl⟩
      exact⟨none,0,rfl,Nat.le_refl _,.inr rfl⟩
     ·have hel: ∀i,i<len→ ∃y:DenL q,KW q y∧ ∃c' T fz,(i=0→a.spot=none)∧w.heap[a.block]? =some (.cells c' T fz)∧aH (fun _=>none) (iJ q y) ((c'.toList.drop (a.off+i*q.length)).take q.length):=by
       intro i hi
       have hb:=h4 i hi
       rw [hce.1]at hb
       cases hc:w.cells? 0 (a.add (i*q.length)) q.length with
       | none=>rw [hc,gE' (by omega)]at hb;cases hb
       | some l=>
         rw [hc,gE' (by omega)]at hb
         simp only [Option.bind_some]at hb
         obtain⟨y,oy,ry⟩:=ih k e l _ held q hb he
         obtain⟨c',T,fz,q1,q2,q3⟩:=qR hc hce.2
         have e1:(a.add (i*q.length)).block =a.block:=wE a _
         rw [e1]at q2
         have e2:(a.add (i*q.length)).off =a.off+i*q.length:=GC a _
         rw [e2]at q3
         exact⟨y,oy,c',T,fz,fun h0=>by subst h0;rw [Nat.zero_mul,add_zero]at q1;exact q1,q2,by rw [q3];exact ry⟩
      obtain⟨xs,hxl,hx⟩:=mZ len hel
      refine⟨(xs,()),⟨⟨by show xs.length≤_;omega,?_⟩,trivial⟩,.slice (some a) len cap,[],rfl,?_,rfl⟩
      ·intro v hv
       obtain⟨i,hi,rfl⟩:=List.getElem_of_mem hv
       exact(hx i hi).1
      ·show Rep _ (.view xs.length q.length fun i=>iJ q (xs.getD i (RL q))) _
       refine⟨some a,cap,by rw [hxl],by rw [hxl];exact h1,?_⟩
       by_cases h0:len=0
       ·right;omega
       ·left
        obtain⟨_,c',T,fz,q1,q2,_⟩:=hx 0 (by omega)
        obtain⟨b,off,sp⟩:=a
        simp only at q1 q2;have q1:=q1 trivial;subst q1
        refine⟨b,off,c',T,fz,rfl,hcon _ _ q2,?_⟩
        intro i hi
        refine⟨s6 _ _,?_⟩
        show aH _ (iJ q (xs.getD i (RL q))) _
        rw [gD',gE' hi]
        obtain⟨_,c2,T2,fz2,_,p2,p3⟩:=hx i hi
        simp only at p2 p3
        rw [q2]at p2
        simp only [sI',Obj.cells.injEq]at p2
        obtain⟨rfl,_⟩:=p2
        exact p3
    ·cases hs
   ·rename_i fs ht
    split at hs
    ·rename_i q hq
     split at hs
     case isFalse=>cases hs
     rename_i hct
     simp at hs;subst hs
     obtain⟨xs,k,_,_,hl,hxl,hf⟩:=DataW.trod_struct ht h
     obtain⟨y,oy,ry⟩:=oR (P:=P) (cs:=cs) (rec:=PS P m) (rd:=fun t l=> ∃z,DataW.trod enc P w 0 (fun _=>true) held k t l=some z)
      (fun t r l ht' ⟨z,hz⟩=>ih k t l z held r hz ht') fs.toList 0 q hq (by omega) (by
        intro f hf'
        obtain⟨i,hi,rfl⟩:=List.getElem_of_mem hf'
        have hi':i<fs.size:=by simpa using hi
        have:=hf i fs[i] (Array.getElem?_eq_getElem hi')
        rw [gE' (by omega)]at this
        exact⟨_,by simpa using this⟩)
     refine⟨y,oy,?_⟩
     rw [List.drop_zero,List.take_of_length_le (by omega)]at ry
     exact ry
    ·cases hs
   ·rename_i k e ht
    split at hs
    ·rename_i q hq
     split at hs
     case isFalse=>cases hs
     rename_i hce
     simp at hs;subst hs
     obtain⟨xs,j,_,_,hl,hxl,hf⟩:=DataW.trod_array ht h
     refine p9 (P':=fun l=> ∃z,DataW.trod enc P w 0 (fun _=>true) held j e l=some z) (r:=q) (fun l ⟨z,hz⟩=>ih j e l z held q hz hq) k cs (by omega) ?_
     intro i hi
     have:=hf i hi
     rw [hce.1,gE' (by omega)]at this
     exact⟨_,this⟩
    ·cases hs
   ·cases hs
end
end Go.Sh
namespace Go.Sh
open Go Go.ChangeShapes Go.RowKit
def t9(P:Program):List TypeId→Option (List (Bool×List Shp))
 | []=>some []
 | t::ts=>match iF P t,PS P 40 t,t9 P ts with
   | some b,some r,some l=>if b=true∨r.length=1 then some ((b,r)::l)else none
   | _,_,_=>none
def DenA:List (Bool×List Shp)→Type
 | []=>Unit
 | (_,r)::l=>DenL r×DenA l
def sG:(l:List (Bool×List Shp))→DenA l→List AVal
 | [],_=>[]
 | (true,r)::l,x=>.agg (iJ r x.1)::sG l x.2
 | (false,r)::l,x=>(iJ r x.1).headD .O ::sG l x.2
def okA:(l:List (Bool×List Shp))→DenA l→Prop
 | [],_=>True
 | (_,r)::l,x=>KW r x.1∧okA l x.2
section
variable {H:Type} {enc:TypeId×Value→H} {P:Program} {w:World}
theorem zW{t:TypeId}{v:Value}{base:Nat}(hb:iF P t=some false)(ho:Value.okWide P w .any base t v)(hs: ∃m r,PS P m t=some r):v.cells= #[v]:=by
 obtain⟨m,r,hs⟩:=hs
 cases m with
 | zero=>simp [PS]at hs
 | succ m=>
   unfold PS at hs
   unfold iF at hb
   unfold Value.okWide at ho
   cases hu:P.underlying t with
   | none=>rw [hu]at hs;cases hs
   | some d=>
     rw [hu]at ho hb hs
     cases v with
     | agg cs=>
       exfalso
       cases d<;>simp at hb hs<;>simp [Cell.okWide,hu,Cell.ok]at ho
     | _=>rfl
theorem AW [Con](hcon: ∀b o,w.heap[b]? =some o→Con.con b=some o){base:Nat} : ∀(ts:List TypeId) (vs:List Value) (ds:List (DataW H)) (ps:List MemPlace) (l:List (Bool×List Shp)),
 DataW.TrodAll enc P w 0 (fun _=>true) true ts vs ds ps→(∀(j:Nat) t v,ts[j]? =some t→vs[j]? =some v→Value.okWide P w .any base t v)→t9 P ts=some l→
 ∃x:DenA l,okA l x∧aH (fun _=>none) (sG l x) vs
 | [],vs,ds,ps,l,h,_,hl=>by
   obtain⟨rfl,rfl,rfl⟩:=trodAll_nil h
   simp [t9]at hl;subst hl
   exact⟨(),trivial,by simp [sG,aH]⟩
 | t::ts,vs,ds,ps,l,h,hv,hl=>by
   obtain⟨v,vs',d,ds',p,q,rfl,rfl,rfl,h1,h2⟩:=trodAll_cons h
   simp only [t9]at hl
   split at hl
   ·rename_i b r l' hb hr hl'
    split at hl
    case isFalse=>cases hl
    rename_i hc
    simp at hl;subst hl
    obtain⟨y,oy,ry⟩:=AW hcon ts vs' ds' q l' h2 (fun j t v a b=>hv (j+1) t v (by simpa using a) (by simpa using b)) hl'
    obtain⟨n,hn⟩:=h1
    obtain⟨x,ox,rx⟩:=P7 hcon 40 n t _ _ true r hn hr
    have hok:=hv 0 t v rfl rfl
    cases b with
    | true=>
      refine⟨(x,y),⟨ox,oy⟩,v,vs',rfl,?_,ry⟩
      have: ∃cs,v=.agg cs:=by
       unfold Value.okWide at hok
       unfold iF at hb
       cases hu:P.underlying t with
       | none=>rw [hu]at hb;cases hb
       | some d=>
         rw [hu]at hok hb
         cases d<;>simp at hb<;>(obtain⟨cs,e,_⟩:=hok;exact⟨cs,e⟩)
      obtain⟨cs,rfl⟩:=this
      exact⟨cs,rfl,rx⟩
    | false=>
      refine⟨(x,y),⟨ox,oy⟩,v,vs',rfl,?_,ry⟩
      rw [zW hb hok ⟨40,r,hr⟩]at rx
      have hr1:r.length=1:=by simpa using hc
      show Rep _ ((iJ r x).headD .O) v
      match r,hr1,x,rx with
      | [s],_,x,rx=>
        obtain⟨u,us,e,r1,_⟩:=rx
        simp only [lI']at e
        rw [e.1];exact r1
   ·cases hl
theorem oS{W W':World}(hl:laidOutB P=true){sp:Nat→Bool} : ∀(ts:List TypeId) (vs:List Value) (ds:List (DataW H)) (ps:List MemPlace),
 (∀t∈ts,P.readableRec t=true∧t<P.types.size)→DataW.TrodAll enc P W 0 (fun _=>true) true ts vs ds ps→(∀p∈ps,W.sameAt W' p)→(∀p∈ps,sp p.block=true)→DataW.TrodAll enc P W' 0 sp true ts vs ds ps
 | [],vs,ds,ps,_,h,_,_=>by
   obtain⟨rfl,rfl,rfl⟩:=trodAll_nil h
   exact trodAll_mk0
 | t::ts,vs,ds,ps,ht,h,hs,hp=>by
   obtain⟨v,vs',d,ds',p,q,rfl,rfl,rfl,h1,h2⟩:=trodAll_cons h
   exact trodAll_cons_mk (WideElems.Trod_stays hl (ht t (by simp)).1 (ht t (by simp)).2 h1 (fun x hx=>hs x (by simp [hx])) (fun x hx=>hp x (by simp [hx])))
    (oS hl ts vs' ds' q (fun u hu=>ht u (by simp [hu])) h2 (fun x hx=>hs x (by simp [hx])) (fun x hx=>hp x (by simp [hx])))
theorem nZ{w:World}{sp:Nat→Bool}{b:Nat}{hd:Bool} : ∀(ts:List TypeId) (vs:List Value) (ds:List (DataW H)) (ps:List MemPlace),DataW.TrodAll enc P w b sp hd ts vs ds ps→ds.length=ts.length
 | [],vs,ds,ps,h=>by obtain⟨rfl,rfl,rfl⟩:=trodAll_nil h;rfl
 | t::ts,vs,ds,ps,h=>by
   obtain⟨v,vs',d,ds',p,q,rfl,rfl,rfl,h1,h2⟩:=trodAll_cons h
   simp [nZ ts vs' ds' q h2]
abbrev aDX(W:World):Con:=⟨fun b=>W.heap[b]?⟩
theorem LA{f:Func}{s:ChangeSpec}{apart fresh handsOn again:Bool}{W W':World}{args:Array Value}{v:Value}{ds gs:List (DataW H)}{before pa pv:List MemPlace}
 (hW:DataW.Whole enc P f.params.toList s.vars apart W args.toList ds gs before)
 (h1: ∀(b:Nat) (sp:Nat→Bool) (hd:Bool),DataW.TrodAll enc P W' b sp hd f.resultTypes.toList (v.resultList f.resultTypes.size) (s.fn H (ds++gs)).results [])
 (h2: ∀sp:Nat→Bool,(∀p∈before,sp p.block=true)→DataW.TrodAll enc P W' 0 sp true f.params.toList args.toList (s.fn H (ds++gs)).args pa)
 (h3: ∀sp:Nat→Bool,(∀p∈before,sp p.block=true)→DataW.TrodVars enc P W' sp s.vars (s.fn H (ds++gs)).vars pv)
 (hb:before=pa++pv) (hk:W.keptBut W' (· ∈before)) (hz: ∀a:Addr,a.block<W.heap.size→W'.frozen? a=W.frozen? a)
 (ho: ∀(j:Nat) (t:TypeId) (r:Value),f.resultTypes[j]? =some t→(v.resultList f.resultTypes.size)[j]? =some r→Value.okWide P W' .any 0 t r):
 s.post enc P f apart fresh handsOn again W args v W':=by
 have lt: ∀p∈before,p.block<W.heap.size:=fun p hp=>hW.lt p hp
 refine⟨ds,gs,before,[],pa,pv,hW,h1 _ _ _,h2 _ (fun p hp=>by simpa using lt p hp),h3 _ (fun p hp=>by simpa using lt p hp),World.keptBut_mono (fun p hp=>⟨hp,.inr (List.mem_append.1 (hb▸hp))⟩) hk,fun _=>⟨ho,_,_,([]++pa)++pv,⟨[]++pa,pv,trodAll_append (h2 _ (fun _ _=>rfl)) (h1 _ _ _),h3 _ (fun _ _=>rfl),rfl,?_,?_⟩,?_⟩⟩
 ·intro b off hp
  have hp':MemPlace.cell b off∈before:=by rw [hb];simpa using hp
  obtain⟨_,_,_,_,_,q,_⟩:=hW
  rw [hz _ (lt _ hp')]
  exact q b off hp'
 ·intro ha
  obtain⟨_,_,_,_,_,_,q⟩:=hW
  have:=q ha
  rw [hb]at this
  simpa using this
 ·intro p hp _
  rw [hb]
  simpa using hp
theorem OM{A:Type}{F:Func}{f:FuncId}{s:ChangeSpec}{tb:TypeId}{l:List (Bool×List Shp)}(hl:laidOutB P=true)
 (hpar:F.params.toList.all (fun t=>P.readableRec t&&decide (t<P.types.size))=true) (hsh:t9 P F.params.toList=some l) (hv:s.vars=[]) (hres:F.resultTypes= #[tb]) (htb:P.underlying tb=some .bool)
 (hfn: ∀ds:List (DataW H),ds.length=F.params.toList.length→s.fn H ds= {results:=[.lit (.bool true)],args:=ds})
 (law: ∀W0:World,∃I:Itp A,∀x:DenA l,okA l x→ @aC (aDX W0) A I P f (sG l x) ([]:aD A) (fun v _=>v=.bool true))
 (W:World) (base:Nat) (args:Array Value) (ds gs:List (DataW H)) (before:List MemPlace)
 (hval: ∀(j:Nat) t v,F.params[j]? =some t→args[j]? =some v→Value.okWide P W .any base t v)
 (hW:DataW.Whole enc P F.params.toList s.vars false W args.toList ds gs before):
 Calls P f args W fun e W'=> ∃v,e=.returned v∧s.post enc P F false true false false W args v W':=by
 have hW':=hW
 obtain⟨p,q,hA,hV,rfl,hfz,hnd⟩:=hW
 rw [hv]at hV
 obtain⟨rfl,rfl⟩:=trodVars_none hV
 obtain⟨I,hI⟩:=law W
 letI:Con:=aDX W
 obtain⟨x,ox,rx⟩:=AW (enc:=enc) (P:=P) (w:=W) (base:=base) (fun b o h=>h) F.params.toList args.toList ds p l hA (fun j t v a b=>hval j t v (by simpa using a) (by simpa using b)) hsh
 have hlen:=nZ _ _ _ _ hA
 refine(aC.law (hI x ox) rx W (fun b o h=>h)).mono ?_
 rintro e W' ⟨rfl,hg⟩
 have hsame: ∀p'∈p,W.sameAt W' p':=by
  intro p' hp
  have hlt:p'.block<W.heap.size:=hW'.lt p' (by simpa using hp)
  have hk:=hg.1.2.2 p'.block hlt
  cases p' with
  | cell b off=>
    show W'.cell? ⟨b,off,none⟩=W.cell? ⟨b,off,none⟩
    simp only [MemPlace.block]at hk hlt
    unfold World.cell?
    simp only
    cases h1:W.heap[b]? with
    | none=>rw [Array.getElem?_eq_getElem hlt]at h1;cases h1
    | some o=>
      rw [h1]at hk
      cases h2:W'.heap[b]? with
      | none=>rw [h2]at hk;cases o<;>simp at hk
      | some o'=>
        rw [h2]at hk
        cases o<;>cases o'<;>simp at hk<;>first | rfl | skip
        rename_i c t fr c' t' fr'
        obtain⟨_,_,hsz,hc⟩:=hk
        exact hc off
  | map b=>
    show W'.heap[b]? =W.heap[b]?
    simp only [MemPlace.block]at hk hlt
    cases h1:W.heap[b]? with
    | none=>rw [Array.getElem?_eq_getElem hlt]at h1;cases h1
    | some o=>
      rw [h1]at hk
      cases h2:W'.heap[b]? with
      | none=>rw [h2]at hk;cases o<;>simp at hk
      | some o'=>
        rw [h2]at hk
        cases o<;>cases o'<;>simp at hk<;>first | (simp_all;done) | skip
        rename_i c t fr c' t' fr'
        obtain⟨rfl,rfl,hsz,hc⟩:=hk
        have:c=c':=by
         apply Array.ext_getElem?
         intro i
         exact(hc i).symm
        rw [this]
 have hpar': ∀t∈F.params.toList,P.readableRec t=true∧t<P.types.size:=by
  intro t ht
  have:=List.all_eq_true.1 hpar t ht
  simpa using this
 have hf0:s.fn H (ds++ [])= {results:=[.lit (.bool true)],args:=ds} :=by rw [List.append_nil];exact hfn ds hlen
 refine⟨_,rfl,LA (pa:=p) (pv:=[]) hW' ?_ ?_ ?_ rfl (World.keptBut_mono (fun _ h=>h.elim) hg.1) hg.2.1 ?_⟩
 ·intro b sp hd
  rw [hf0,hres]
  exact trodAll_cons_mk (shut_bool htb _) trodAll_mk0
 ·intro sp hsp
  rw [hf0]
  exact oS hl _ _ _ _ hpar' hA hsame (fun p' hp=>hsp p' (by simpa using hp))
 ·intro sp _
  rw [hf0,hv]
  rfl
 ·exact ok_one hres rfl (okWide_bool_mk htb _)
end
end Go.Sh
namespace Go.Sh
open Go
variable [Con] {A:Type} (tb:A→Nat×aD A)
structure tR (I:Itp A) (V:Val) (h:bJ A) (hs:Nat→PHeap):Prop where
 ent: ∀l e,h l=some e→e.interp I V l (hs l)
 non: ∀l,h l=none→hs l=.emp
 dis: ∀l m,l≠m→(hs l).disj (hs m)
def UC:Nat→Itp A
 | 0,_,_,_,_=>False
 | n+1,t,r,bs,p=> ∃V hs,V 0=some r∧(∀i,i<(tb t).1→V (1+i)=bs[i]?)∧bs.length=(tb t).1∧tR (UC n) V (toF (tb t).2) hs∧p=aDj hs
def obI:Itp A:=fun t r bs p=> ∃n,UC tb n t r bs p
theorem aDu{I I':Itp A}(hI: ∀t r bs p,I t r bs p→I' t r bs p){V:Val}{l:Nat}{e:aK A}{p:PHeap}(h:e.interp I V l p):e.interp I' V l p:=by
 cases e with
 | abs t ps=>
   obtain⟨b,k,h1,bs,h2,h3⟩:=h
   exact⟨b,k,h1,bs,h2,hI _ _ _ _ h3⟩
 | cells vs=>exact h
 | ints c xs=>exact h
 | tab ks rows=>exact h
 | imap kk vc m=>exact h
theorem tR.mono_I{I I':Itp A}(hI: ∀t r bs p,I t r bs p→I' t r bs p){V:Val}{h:bJ A}{hs:Nat→PHeap}(q:tR I V h hs):tR I' V h hs:=
 ⟨fun l e he=>aDu hI (q.ent l e he),q.non,q.dis⟩
theorem CV: ∀(n:Nat) (t:A) (r:Nat×Nat) (bs:List (Nat×Nat)) (p:PHeap),UC tb n t r bs p→UC tb (n+1) t r bs p
 | 0,_,_,_,_,h=>h.elim
 | n+1,t,r,bs,p,⟨V,hs,h1,h2,h3,h4,h5⟩=>⟨V,hs,h1,h2,h3,h4.mono_I (CV n),h5⟩
theorem OT{n m:Nat}(hnm:n≤m){t:A}{r:Nat×Nat}{bs:List (Nat×Nat)}{p:PHeap}(h:UC tb n t r bs p):UC tb m t r bs p:=by
 induction hnm with
 | refl=>exact h
 | step _ ih=>exact CV tb _ _ _ _ _ ih
theorem A8{V:Val}{hs:Nat→PHeap} : ∀(g:aD A) (k:Nat),(∀l e,aU g l=some e→e.interp (obI tb) V (k+l) (hs (k+l)))→ ∃n,∀l e,aU g l=some e→e.interp (UC tb n) V (k+l) (hs (k+l))
 | [],k,_=>⟨0,fun l e h=>by simp [aU]at h⟩
 | x::g,k,h=>by
   obtain⟨n,hn⟩:=A8 g (k+1) (fun l e he=>by
    have:=h (l+1) e (by simpa [aU]using he)
    rw [show k+(l+1)=k+1+l from by omega]at this
    exact this)
   have h0: ∃m,∀e,x=some e→e.interp (UC tb m) V k (hs k):=by
    cases x with
    | none=>exact⟨0,fun e he=>by cases he⟩
    | some e=>
      have:=h 0 e rfl
      cases e with
      | abs t ps=>
        obtain⟨b,q,h1,bs,h2,m,h3⟩:=this
        exact⟨m,fun e he=>by cases he;exact⟨b,q,h1,bs,h2,h3⟩⟩
      | cells vs=>exact⟨0,fun e he=>by cases he;exact this⟩
      | ints c xs=>exact⟨0,fun e he=>by cases he;exact this⟩
      | tab ks rows=>exact⟨0,fun e he=>by cases he;exact this⟩
      | imap kk vc mm=>exact⟨0,fun e he=>by cases he;exact this⟩
   obtain⟨m,hm⟩:=h0
   refine⟨max n m,fun l e he=>?_⟩
   cases l with
   | zero=>
     have hx:x=some e:=by simpa [aU]using he
     exact aDu (fun t r bs p=>OT tb (Nat.le_max_right n m)) (hm e hx)
   | succ l=>
     have:=aDu (fun t r bs p=>OT tb (Nat.le_max_left n m)) (hn l e (by simpa [aU]using he))
     rw [show k+1+l=k+(l+1)from by omega]at this
     exact this
theorem aDR{I:Itp A}{V V':Val}{pl:List Nat}(hV: ∀l,pl.elem l=true→V l=V' l){l:Nat}{e:aK A}{p:PHeap}(q1:V l=V' l)(q2:e.within pl=true)(hi:e.interp I V l p):e.interp I V' l p:=by
 cases e with
 | cells vs=>
   obtain⟨b,k,hl,cs,T,e1,e2,rs,tail,e3,r⟩:=hi
   exact⟨b,k,by rw [←q1];exact hl,cs,T,e1,e2,rs,tail,e3,aDr hV _ _ q2 r⟩
 | ints c xs=>
   rcases hi with⟨e1,e2,b,hl⟩ | ⟨b,k,hl,r⟩
   ·exact .inl ⟨e1,e2,b,by rw [←q1];exact hl⟩
   ·exact .inr ⟨b,k,by rw [←q1];exact hl,r⟩
 | abs t ps=>
   obtain⟨b,k,hl,bs,hb,r⟩:=hi
   exact⟨b,k,by rw [←q1];exact hl,bs,fK.congr (fun m hm=>hV m (rD q2 m hm)) hb,r⟩
 | tab ks rows=>
   rcases hi with⟨e1,e2,b,hl⟩ | ⟨b,k,hl,r⟩
   ·exact .inl ⟨e1,e2,b,by rw [←q1];exact hl⟩
   ·exact .inr ⟨b,k,by rw [←q1];exact hl,r⟩
 | imap kk vc m=>
   obtain⟨b,k,hl,r⟩:=hi
   exact⟨b,k,by rw [←q1];exact hl,r⟩
theorem i3{n l:Nat} :(upto 0 n).elem l=true↔l<n:=by rw [n5];omega
theorem fK.len{V:Val} : ∀ {ls:List Nat} {bs:List (Nat×Nat)},fK V ls bs→bs.length=ls.length
 | [],_,e=>by rw [e];rfl
 | _::_,_,⟨x,r,h1,h2,h3⟩=>by rw [h2];simp [fK.len h3]
theorem fK.get{V:Val} : ∀ {ls:List Nat} {bs:List (Nat×Nat)},fK V ls bs→ ∀i,i<ls.length→V (ls.getD i 0)=bs[i]?
 | [],_,_,i,hi=>by cases hi
 | l::ls,_,⟨x,r,h1,h2,h3⟩,i,hi=>by
   subst h2
   cases i with
   | zero=>simpa using h1
   | succ i=>simpa using fK.get h3 i (by simpa using hi)
theorem fK.mk{V:Val} : ∀ {ls:List Nat},(∀l∈ls,∃x,V l=some x)→ ∃bs,fK V ls bs
 | [],_=>⟨[],rfl⟩
 | l::ls,h=>by
   obtain⟨x,hx⟩:=h l List.mem_cons_self
   obtain⟨r,hr⟩:=fK.mk (fun m hm=>h m (List.mem_cons_of_mem _ hm))
   exact⟨x::r,x,r,hx,rfl,hr⟩
def unI(l:Nat)(ps:List Nat)(n np:Nat)(i:Nat):Nat:=match i with
 | 0=>l
 | j+1=>if j<np then ps.getD j 0 else n+(j - np)
def a7(h:aD A)(l np:Nat)(g:aD A)(ps:List Nat):aD A:=
 h.set l ((aU g 0).map (aK.ren (unI l ps h.length np)))++(g.drop (1+np)).map (Option.map (aK.ren (unI l ps h.length np)))
theorem fR(h:aD A)(l np:Nat)(g:aD A)(ps:List Nat):(a7 h l np g ps).length =h.length+(g.length - (1+np)):=by
 unfold a7;simp
def tA(np:Nat)(g:aD A):Bool:=d0 g.length g&&Nat.ble (1+np) g.length&&(g.drop 1 |>.take np).all (·.isNone)&&(aU g 0).isSome
theorem xJ{np:Nat}{g:aD A}(h:tA np g=true):d0 g.length g=true∧1+np≤g.length∧(∀i,i<np→aU g (1+i)=none)∧ ∃e,aU g 0=some e:=by
 unfold tA at h
 simp only [Bool.and_eq_true]at h
 obtain⟨⟨⟨h1,h2⟩,h3⟩,h4⟩:=h
 refine⟨h1,Nat.le_of_ble_eq_true h2,?_,Option.isSome_iff_exists.1 h4⟩
 intro i hi
 have hlen:=Nat.le_of_ble_eq_true h2
 rw [List.all_eq_true]at h3
 have hx:=h3 (aU g (1+i)) (by
  rw [List.mem_iff_getElem?]
  refine⟨i,?_⟩
  rw [List.getElem?_take,if_pos hi,List.getElem?_drop]
  simp only [aU,gD']
  rw [gE' (by omega)]
  rfl)
 simpa using hx
theorem yA{g:aD A}(h:d0 g.length g=true){l:Nat}{e:aK A}(he:aU g l=some e):e.within (upto 0 g.length)=true:=by
 unfold d0 at h
 rw [List.all_eq_true]at h
 simp only [aU,gD']at he
 have hl:l<g.length:=by
  cases Nat.lt_or_ge l g.length with
  | inl q=>exact q
  | inr q=>rw [List.getElem?_eq_none q]at he;cases he
 rw [gE' hl]at he
 have:=h (g[l]) (List.getElem_mem hl)
 simp only [Option.getD_some]at he
 rw [he]at this
 exact this
theorem mE{h:aD A}{l np:Nat}{g:aD A}{ps:List Nat}(hl:l<h.length):aU (a7 h l np g ps) l=(aU g 0).map (aK.ren (unI l ps h.length np)):=by
 unfold a7
 rw [dK (by simpa using hl)]
 simp only [aU,gD']
 rw [List.getElem?_set_self hl];rfl
theorem fI{h:aD A}{l np:Nat}{g:aD A}{ps:List Nat}{m:Nat}(hm:m<h.length)(hlm:m≠l):aU (a7 h l np g ps) m=aU h m:=by
 unfold a7
 rw [dK (by simpa using hm)]
 simp only [aU,gD']
 rw [List.getElem?_set_ne (fun e=>hlm e.symm)]
theorem kB{h:aD A}{l np:Nat}{g:aD A}{ps:List Nat}{j:Nat} :aU (a7 h l np g ps) (h.length+j)=(aU g (1+np+j)).map (aK.ren (unI l ps h.length np)):=by
 unfold a7
 simp only [aU,gD']
 rw [List.getElem?_append_right (by simp),List.length_set,List.getElem?_map,List.getElem?_drop,Nat.add_sub_cancel_left]
 cases g[1+np+j]? <;>rfl
theorem Inv.unpack{V:Val}{h:aD A}{hR:PHeap}{w:World}{t:A}{l np:Nat}{g:aD A}{ps:List Nat}(hi:Inv (obI tb) V (toF h) hR w)(hf:cE V h.length)(hl:aU h l=some (.abs t ps))(ht:tb t=(np,g))(ho:tA np g=true)(hnp:ps.length=np):
 ∃V',V.le V'∧cE V' (a7 h l np g ps).length ∧Inv (obI tb) V' (toF (a7 h l np g ps)) hR w:=by
 obtain⟨o1,o2,o3,e0,o4⟩:=xJ ho
 have hll:=d7 hl
 obtain⟨hs,h1,h2,h3,h4,h5,h6⟩:=hi
 obtain⟨b,k,hV,bs,hlo,n,hob⟩:=h1 l _ hl
 cases n with
 | zero=>exact hob.elim
 | succ n=>
 obtain⟨Vg,gs,g1,g2,g3,⟨g4,g5,g6⟩,g7⟩:=hob
 rw [ht]at g2 g3 g4 g5
 dsimp only at g2 g3 g4 g5
 let V':Val:=fun m=>if m<h.length then V m else if m<(a7 h l np g ps).length then Vg (m - h.length+1+np)else none
 have hlen:=fR h l np g ps
 have hle:V.le V':=by
  intro m x hm
  have hlt:m<h.length:=by
   cases Nat.lt_or_ge m h.length with
   | inl q=>exact q
   | inr q=>rw [hf m q]at hm;cases hm
  show(if m<h.length then V m else _)=some x
  rw [if_pos hlt];exact hm
 have hVι: ∀i,(upto 0 g.length).elem i=true→Vg i=V' (unI l ps h.length np i):=by
  intro i hi
  rw [i3]at hi
  cases i with
  | zero=>
    show _=V' l
    rw [hle l _ hV];exact g1
  | succ j=>
    show _=V' (if j<np then ps.getD j 0 else h.length+(j - np))
    by_cases hj:j<np
    ·rw [if_pos hj]
     have hg:=hlo.get j (by omega)
     have hj2:j<bs.length:=by omega
     rw [gE' hj2]at hg
     rw [hle _ _ hg,Nat.add_comm,g2 j hj,gE' hj2]
    ·rw [if_neg hj]
     show _=if h.length+(j - np)<h.length then _ else _
     rw [if_neg (by omega),if_pos (by omega)]
     congr 1;omega
 have hent: ∀i e,aU g i=some e→(e.ren (unI l ps h.length np)).interp (obI tb) V' (unI l ps h.length np i) (gs i):=by
  intro i e he
  refine aK.interp_ren.2 ?_
  have q1:=aDu (I':=(obI tb)) (fun t r bs p hh=>⟨n,hh⟩) (g4 i e he)
  exact aDR hVι (hVι i (i3.2 (d7 he))) (yA o1 he) q1
 have hsub: ∀i b' o,gs i b'=some o→hs l b'=some o:=by
  intro i b' o hh
  rw [g7];exact aDI g6 hh
 let hs':Nat→PHeap:=fun m=>if m<h.length then(if m=l then gs 0 else hs m)else gs (m - h.length+1+np)
 refine⟨V',hle,?_,hs',?_,?_,?_,?_,?_,h6⟩
 ·intro m hm
  show(if m<h.length then _ else _)=none
  rw [if_neg (by omega),if_neg (by omega)]
 ·intro m e he
  by_cases hm:m<h.length
  ·by_cases hml:m=l
   ·subst hml
    have he':aU (a7 h m np g ps) m=some e:=he
    rw [mE hm,o4]at he'
    simp only [Option.map_some,sI']at he'
    show e.interp (obI tb) V' m (if m<h.length then(if m=m then gs 0 else hs m)else _)
    rw [if_pos hm,if_pos rfl,←he']
    exact hent 0 e0 o4
   ·have he':aU (a7 h l np g ps) m=some e:=he
    rw [fI hm hml]at he'
    show e.interp (obI tb) V' m (if m<h.length then(if m=l then gs 0 else hs m)else _)
    rw [if_pos hm,if_neg hml]
    exact aDo hle (h1 m e he')
  ·have he':aU (a7 h l np g ps) m=some e:=he
   have hm2:m=h.length+(m - h.length):=by omega
   rw [hm2,kB]at he'
   cases hq:aU g (1+np+(m - h.length))with
   | none=>rw [hq]at he';cases he'
   | some e1=>
     rw [hq]at he'
     simp only [Option.map_some,sI']at he'
     have:=hent _ e1 hq
     show e.interp (obI tb) V' m (if m<h.length then _ else gs (m - h.length+1+np))
     rw [if_neg hm,←he']
     have e3:unI l ps h.length np (1+np+(m - h.length))=m:=by
      have:1+np+(m - h.length)=(np+(m - h.length))+1:=by omega
      rw [this]
      show(if np+(m - h.length)<np then _ else h.length+(np+(m - h.length) - np))=m
      rw [if_neg (by omega)];omega
     rw [e3]at this
     have e4:m - h.length+1+np=1+np+(m - h.length):=by omega
     rw [e4];exact this
 ·intro m he
  by_cases hm:m<h.length
  ·by_cases hml:m=l
   ·subst hml
    have he':aU (a7 h m np g ps) m=none:=he
    rw [mE hm,o4]at he';cases he'
   ·have he':aU (a7 h l np g ps) m=none:=he
    rw [fI hm hml]at he'
    show(if m<h.length then(if m=l then gs 0 else hs m)else _)=_
    rw [if_pos hm,if_neg hml]
    exact h2 m he'
  ·have he':aU (a7 h l np g ps) m=none:=he
   have hm2:m=h.length+(m - h.length):=by omega
   rw [hm2,kB]at he'
   show(if m<h.length then _ else gs (m - h.length+1+np))=_
   rw [if_neg hm]
   have e4:m - h.length+1+np=1+np+(m - h.length):=by omega
   rw [e4]
   refine g5 _ ?_
   cases hq:aU g (1+np+(m - h.length))with
   | none=>exact hq
   | some e1=>rw [hq]at he';cases he'
 ·intro m m' hmm
  intro b'
  show(if m<h.length then(if m=l then gs 0 else hs m)else gs (m - h.length+1+np)) b'=none∨(if m'<h.length then(if m'=l then gs 0 else hs m')else gs (m' - h.length+1+np)) b'=none
  have out: ∀i m,m≠l→gs i b'=none∨hs m b'=none:=by
   intro i m hml
   cases hq:gs i b' with
   | none=>exact .inl rfl
   | some o=>
     right
     have:=hsub i b' o hq
     rcases h3 l m (fun e=>hml e.symm) b' with q | q
     ·rw [q]at this;cases this
     ·exact q
  by_cases hm:m<h.length
  ·by_cases hm':m'<h.length
   ·rw [if_pos hm,if_pos hm']
    by_cases hml:m=l
    ·have hml':m'≠l:=fun e=>hmm (hml.trans e.symm)
     rw [if_pos hml,if_neg hml'];exact out 0 m' hml'
    ·rw [if_neg hml]
     by_cases hml':m'=l
     ·rw [if_pos hml'];exact(out 0 m hml).symm
     ·rw [if_neg hml'];exact h3 m m' hmm b'
   ·rw [if_pos hm,if_neg hm']
    by_cases hml:m=l
    ·rw [if_pos hml];exact g6 0 _ (by omega) b'
    ·rw [if_neg hml];exact(out _ m hml).symm
  ·by_cases hm':m'<h.length
   ·rw [if_neg hm,if_pos hm']
    by_cases hml':m'=l
    ·rw [if_pos hml'];exact g6 _ 0 (by omega) b'
    ·rw [if_neg hml'];exact out _ m' hml'
   ·rw [if_neg hm,if_neg hm'];exact g6 _ _ (by omega) b'
 ·intro m b'
  have out: ∀i,gs i b'=none∨hR b'=none:=by
   intro i
   cases hq:gs i b' with
   | none=>exact .inl rfl
   | some o=>
     right
     have:=hsub i b' o hq
     rcases h4 l b' with q | q
     ·rw [q]at this;cases this
     ·exact q
  show(if m<h.length then(if m=l then gs 0 else hs m)else gs (m - h.length+1+np)) b'=none∨hR b'=none
  split
  ·split
   ·exact out 0
   ·exact h4 m b'
  ·exact out _
 ·intro m b' o hq
  have hq':(if m<h.length then(if m=l then gs 0 else hs m)else gs (m - h.length+1+np)) b'=some o:=hq
  split at hq'
  ·split at hq'
   ·exact h5 l b' o (hsub 0 b' o hq')
   ·exact h5 m b' o hq'
  ·exact h5 l b' o (hsub _ b' o hq')
def u3(h:aD A)(l:Nat)(ps:List Nat):Bool:=d0 h.length h&&ps.all (fun p=>Nat.blt p h.length&& !Nat.beq p l&&(aU h p).isSome)
theorem Inv.pack{V:Val}{h:aD A}{hR:PHeap}{w:World}{t:A}{l np:Nat}{g:aD A}{ps:List Nat}(hi:Inv (obI tb) V (toF (a7 h l np g ps)) hR w)(hl:aU h l=some (.abs t ps))(ht:tb t=(np,g))(ho:tA np g=true)(hnp:ps.length=np)(hp:u3 h l ps=true):
 Inv (obI tb) (fun m=>if m<h.length then V m else none) (toF h) hR w:=by
 obtain⟨o1,o2,o3,e0,o4⟩:=xJ ho
 have hll:=d7 hl
 unfold u3 at hp
 rw [Bool.and_eq_true,List.all_eq_true]at hp
 obtain⟨p1,p2⟩:=hp
 have hdom: ∀m e,aU (a7 h l np g ps) m=some e→ ∃x,V m=some x:=fun m e he=>hi.dom he
 obtain⟨hs,h1,h2,h3,h4,h5,h6⟩:=hi
 have hlen:=fR h l np g ps
 have hps: ∀p∈ps,p<h.length∧p≠l∧ ∃x,V p=some x:=by
  intro p hp
  have:=p2 p hp
  simp only [Bool.and_eq_true,Bool.not_eq_true',Nat.blt_eq]at this
  obtain⟨⟨q1,q2⟩,q3⟩:=this
  have q2':p≠l:=by intro e;rw [e]at q2;simp at q2
  obtain⟨e,he⟩:=Option.isSome_iff_exists.1 q3
  exact⟨q1,q2',hdom p e (by rw [fI q1 q2'];exact he)⟩
 have hV0: ∃x,V l=some x:=hdom l (e0.ren (unI l ps h.length np)) (by rw [mE hll,o4];rfl)
 obtain⟨⟨b,k⟩,hVl⟩:=hV0
 obtain⟨bs,hbs⟩:=fK.mk (V:=V) (ls:=ps) (fun p hp=>(hps p hp).2.2)
 let gs:Nat→PHeap:=fun j=>match j with
  | 0=>hs l
  | i+1=>if i<np then .emp else hs (h.length+(i - np))
 have gs_sub: ∀j,gs j=.emp ∨ ∃m,(m=l∨h.length≤m)∧gs j=hs m:=by
  intro j
  cases j with
  | zero=>exact .inr ⟨l,.inl rfl,rfl⟩
  | succ i=>
    show(if i<np then PHeap.emp else hs (h.length+(i - np)))=.emp ∨_
    by_cases hi:i<np
    ·rw [if_pos hi];exact .inl rfl
    ·right
     refine⟨h.length+(i - np),.inr (by omega),?_⟩
     show(if i<np then PHeap.emp else hs (h.length+(i - np)))=_
     rw [if_neg hi]
 have gdis: ∀i j,i≠j→(gs i).disj (gs j):=by
  intro i j hij
  cases i with
  | zero=>
    cases j with
    | zero=>exact(hij rfl).elim
    | succ j=>
      show PHeap.disj (hs l) (if j<np then .emp else hs (h.length+(j - np)))
      split
      ·exact aDd _
      ·exact h3 _ _ (by omega)
  | succ i=>
    cases j with
    | zero=>
      show PHeap.disj (if i<np then .emp else hs (h.length+(i - np))) (hs l)
      split
      ·exact(aDd _).symm
      ·exact h3 _ _ (by omega)
    | succ j=>
      show PHeap.disj (if i<np then .emp else hs (h.length+(i - np))) (if j<np then .emp else hs (h.length+(j - np)))
      split
      ·exact(aDd _).symm
      ·split
       ·exact aDd _
       ·exact h3 _ _ (by omega)
 have gent: ∀i e,aU g i=some e→e.interp (obI tb) (fun i=>V (unI l ps h.length np i)) i (gs i):=by
  intro i e he
  refine aK.interp_ren.1 ?_
  cases i with
  | zero=>
    show(e.ren _).interp (obI tb) V l (hs l)
    exact h1 l _ (by show aU _ _=_;rw [mE hll,he];rfl)
  | succ i=>
    have hi: ¬i<np:=by
     intro hi
     have:=o3 i hi
     rw [Nat.add_comm,he]at this;cases this
    have e3:unI l ps h.length np (i+1)=h.length+(i - np):=by
     show(if i<np then _ else _)=_
     rw [if_neg hi]
    show(e.ren _).interp (obI tb) V (unI l ps h.length np (i+1)) (if i<np then PHeap.emp else hs (h.length+(i - np)))
    rw [if_neg hi,e3]
    refine h1 _ _ ?_
    show aU _ _=_
    rw [kB]
    have:1+np+(i - np)=i+1:=by omega
    rw [this,he];rfl
 obtain⟨n,hn⟩:=A8 tb (hs:=gs) g 0 (by simpa using gent)
 have gnon: ∀i,toF g i=none→gs i=.emp :=by
  intro i he
  cases i with
  | zero=>have:aU g 0=none:=he;rw [o4]at this;cases this
  | succ i=>
    show(if i<np then PHeap.emp else hs (h.length+(i - np)))=.emp
    by_cases hi:i<np
    ·rw [if_pos hi]
    ·rw [if_neg hi]
     refine h2 _ ?_
     show aU _ _=_
     rw [kB]
     have:1+np+(i - np)=i+1:=by omega
     have he':aU g (i+1)=none:=he
     rw [this,he'];rfl
 have hbig: ∀b' o,aDj gs b'=some o→ ∃m,(m=l∨h.length≤m)∧hs m b'=some o:=by
  intro b' o hh
  obtain⟨j,hj⟩:=aDx hh
  rcases gs_sub j with q | ⟨m,q1,q2⟩
  ·rw [q]at hj;cases hj
  ·exact⟨m,q1,by rw [←q2];exact hj⟩
 have own: ∀m,m<h.length→(fun m=>if m<h.length then V m else none) m=V m:=fun m hm=>if_pos hm
 refine⟨fun m=>if m=l then aDj gs else if m<h.length then hs m else .emp,?_,?_,?_,?_,?_,h6⟩
 ·intro m e he
  have hm:m<h.length:=d7 he
  by_cases hml:m=l
  ·subst hml
   have he':aU h m=some e:=he
   rw [hl]at he'
   simp only [sI']at he'
   subst he'
   show aK.interp (obI tb) _ m _ (if m=m then aDj gs else _)
   rw [if_pos rfl]
   refine⟨b,k,by show(if m<h.length then V m else none)=_;rw [if_pos hm];exact hVl,bs,hbs.congr (fun p hp=>(own p (hps p hp).1).symm),n+1,?_⟩
   show∃V1 hs1,V1 0=some (b,k)∧(∀i,i<(tb t).1→V1 (1+i)=bs[i]?)∧bs.length=(tb t).1∧tR (UC tb n) V1 (toF (tb t).2) hs1∧aDj gs=aDj hs1
   rw [ht]
   refine⟨(fun i=>V (unI m ps h.length np i)),gs,hVl,?_,by rw [hbs.len];exact hnp,⟨fun l e he=>by have:=hn l e he;simpa using this,gnon,gdis⟩,rfl⟩
   intro i hi
   have:=hbs.get i (by omega)
   rw [←this]
   show V (unI m ps h.length np (1+i))=_
   rw [Nat.add_comm]
   show V (if i<np then _ else _)=_
   rw [if_pos hi]
  ·show e.interp (obI tb) _ m (if m=l then _ else if m<h.length then hs m else .emp)
   rw [if_neg hml,if_pos hm]
   have he':aU h m=some e:=he
   refine aDR (pl:=upto 0 h.length) (V:=V) (fun i hi=>(own i (i3.1 hi)).symm) (own m hm).symm (yA p1 he') ?_
   exact h1 m e (by show aU _ _=_;rw [fI hm hml];exact he')
 ·intro m he
  have he':aU h m=none:=he
  by_cases hml:m=l
  ·subst hml;rw [hl]at he';cases he'
  ·show(if m=l then _ else if m<h.length then hs m else .emp)=_
   rw [if_neg hml]
   by_cases hm:m<h.length
   ·rw [if_pos hm]
    exact h2 m (by show aU _ _=_;rw [fI hm hml];exact he')
   ·rw [if_neg hm]
 ·intro m m' hmm b'
  show(if m=l then aDj gs else if m<h.length then hs m else .emp) b'=none∨(if m'=l then aDj gs else if m'<h.length then hs m' else .emp) b'=none
  have out: ∀m,m≠l→aDj gs b'=none∨(if m<h.length then hs m else PHeap.emp) b'=none:=by
   intro m hml
   by_cases hm:m<h.length
   ·rw [if_pos hm]
    cases hq:aDj gs b' with
    | none=>exact .inl rfl
    | some o=>
      right
      obtain⟨m2,q1,q2⟩:=hbig b' o hq
      rcases h3 m2 m (by rcases q1 with q | q<;>omega) b' with q | q
      ·rw [q]at q2;cases q2
      ·exact q
   ·rw [if_neg hm];exact .inr rfl
  by_cases hml:m=l
  ·have hml':m'≠l:=fun e=>hmm (hml.trans e.symm)
   rw [if_pos hml,if_neg hml'];exact out m' hml'
  ·rw [if_neg hml]
   by_cases hml':m'=l
   ·rw [if_pos hml'];exact(out m hml).symm
   ·rw [if_neg hml']
    by_cases hm:m<h.length
    ·rw [if_pos hm]
     by_cases hm':m'<h.length
     ·rw [if_pos hm'];exact h3 m m' hmm b'
     ·rw [if_neg hm'];exact .inr rfl
    ·rw [if_neg hm];exact .inl rfl
 ·intro m b'
  show(if m=l then aDj gs else if m<h.length then hs m else .emp) b'=none∨hR b'=none
  by_cases hml:m=l
  ·rw [if_pos hml]
   cases hq:aDj gs b' with
   | none=>exact .inl rfl
   | some o=>
     right
     obtain⟨m2,q1,q2⟩:=hbig b' o hq
     rcases h4 m2 b' with q | q
     ·rw [q]at q2;cases q2
     ·exact q
  ·rw [if_neg hml]
   by_cases hm:m<h.length
   ·rw [if_pos hm];exact h4 m b'
   ·rw [if_neg hm];exact .inl rfl
 ·intro m b' o hq
  have hq':(if m=l then aDj gs else if m<h.length then hs m else .emp) b'=some o:=hq
  by_cases hml:m=l
  ·rw [if_pos hml]at hq'
   obtain⟨m2,q1,q2⟩:=hbig b' o hq'
   exact h5 m2 b' o q2
  ·rw [if_neg hml]at hq'
   by_cases hm:m<h.length
   ·rw [if_pos hm]at hq';exact h5 m b' o hq'
   ·rw [if_neg hm]at hq';cases hq'
variable {P:Program}
theorem aC.unpack{f:FuncId}{args:List AVal}{h:aD A}{K:AVal→aD A→Prop}(t:A)(l np:Nat)(g:aD A)(ps:List Nat)(hl:aU h l=some (.abs t ps))(ht:tb t=(np,g))(ho:tA np g=true)(hnp:ps.length=np)
 (h0:aC (obI tb) P f args (a7 h l np g ps) K):aC (obI tb) P f args h K:=by
 intro V hR w args' hi hf hr
 obtain⟨V1,v1,v2,v3⟩:=hi.unpack tb hf hl ht ho hnp
 refine(h0 V1 hR w args' v3 v2 (aH.mono v1 _ _ hr)).mono ?_
 rintro e w' ⟨v,v',V',h',k1,k2,k3,k4,k5,k6,k7,k8⟩
 exact⟨v,v',V',h',k1,k2,k3,Val.le_trans v1 k4,k5,Nat.le_trans (by rw [fR];omega) k6,k7,k8⟩
structure AI (n:Nat) (K:AVal→aD A→Prop) (v:AVal) (g':aD A):Prop where
 ex: ∃(pl:List Nat) (h2:aD A) (t:A) (l np:Nat) (g:aD A) (ps:List Nat),(eU pl g'.length&&jV pl 0 n&&Nat.ble n h2.length&&tA np g&&u3 h2 l ps&&(lQ pl v).within (upto 0 h2.length)&&Nat.beq ps.length np)=true∧gI pl g'=a7 h2 l np g ps∧tb t=(np,g)∧aU h2 l=some (.abs t ps)∧K (lQ pl v) h2
theorem aC.pack{f:FuncId}{args:List AVal}{h:aD A}{K:AVal→aD A→Prop}(h0:aC (obI tb) P f args h (AI tb h.length K)):aC (obI tb) P f args h K:=by
 intro V hR w args' hi hf hr
 refine(h0 V hR w args' hi hf hr).mono ?_
 rintro e w' ⟨v,v',V',g',⟨pl,h2,t,l,np,g,ps,hb,hT,ht,hl,hK⟩,k2,k3,k4,k5,k6,k7,k8⟩
 simp only [Bool.and_eq_true]at hb
 obtain⟨⟨⟨⟨⟨⟨b1,b2⟩,b3⟩,b4⟩,b5⟩,b6⟩,b7⟩:=hb
 obtain⟨e1,e2⟩:=l7 b2
 have hp:=nY (h:=g') b1
 have hi2:=k7.pick hp
 rw [hT]at hi2
 have hi3:=hi2.pack tb hl ht b4 (Nat.eq_of_beq_eq_true b7) b5
 have hn:h.length≤h2.length:=Nat.le_of_ble_eq_true b3
 refine⟨lQ pl v,v',_,h2,hK,k2,?_,?_,?_,hn,hi3,k8⟩
 ·have:=oK (n:=g'.length) (pl:=pl) k3
  exact aDA (pl:=upto 0 h2.length) (fun i hi=>by
   show _=if i<h2.length then _ else none
   rw [if_pos (i3.1 hi)]) _ _ b6 this
 ·intro m x hm
  have hlt:m<h.length:=by
   cases Nat.lt_or_ge m h.length with
   | inl q=>exact q
   | inr q=>rw [hf m q]at hm;cases hm
  show(if m<h2.length then V' (lab pl g'.length m)else none)=some x
  rw [if_pos (by omega)]
  have:lab pl g'.length m=m:=by unfold lab;rw [e2 m hlt];simp
  rw [this];exact k4 m x hm
 ·intro m hm
  show(if m<h2.length then _ else none)=none
  rw [if_neg (by omega)]
def farI(n k i:Nat):Nat:=if i<n then i else i+k
def EK(n k:Nat)(g:aD A):aD A:=(g.take n).map (Option.map (aK.ren (farI n k)))++List.replicate k none++(g.drop n).map (Option.map (aK.ren (farI n k)))
theorem NO{n k:Nat}{g:aD A}(hn:n≤g.length)(i:Nat):aU (EK n k g) (farI n k i)=(aU g i).map (aK.ren (farI n k)):=by
 have hl:((g.take n).map (Option.map (aK.ren (farI n k)))).length =n:=by rw [List.length_map,List.length_take];omega
 unfold EK aU
 simp only [gD']
 by_cases hi:i<n
 ·have e:farI n k i=i:=if_pos hi
  rw [e,List.append_assoc,List.getElem?_append_left (by rw [hl];exact hi),List.getElem?_map,List.getElem?_take,if_pos hi]
  rw [gE' (by omega)]
  rfl
 ·have e:farI n k i=i+k:=if_neg hi
  rw [e,List.getElem?_append_right (by rw [List.length_append,hl,List.length_replicate];omega),List.getElem?_map,List.getElem?_drop]
  have e2:n+(i+k - ((g.take n).map (Option.map (aK.ren (farI n k)))++List.replicate k (none:Option (aK A))).length)=i:=by
   rw [List.length_append,hl,List.length_replicate];omega
  rw [e2]
  cases g[i]? <;>rfl
theorem BX{n k:Nat}{g:aD A}(hn:n≤g.length):(EK n k g).length =g.length+k:=by
 unfold EK
 rw [List.length_append,List.length_append,List.length_map,List.length_take,List.length_replicate,List.length_map,List.length_drop];omega
theorem JR{n k:Nat}{g:aD A}(hn:n≤g.length){m:Nat}(h1:n≤m)(h2:m<n+k):aU (EK n k g) m=none:=by
 have hl:((g.take n).map (Option.map (aK.ren (farI n k)))).length =n:=by rw [List.length_map,List.length_take];omega
 unfold EK aU
 simp only [gD']
 rw [List.append_assoc,List.getElem?_append_right (by rw [hl];exact h1),hl,List.getElem?_append_left (by rw [List.length_replicate];omega),List.getElem?_replicate,if_pos (by omega)]
 rfl
theorem NP{n k:Nat} : ∀i j,farI n k i=farI n k j→i=j:=by
 intro i j h
 unfold farI at h
 split at h<;>split at h<;>omega
theorem aDU{f:FuncId}{args:List AVal}{h':aD A}{K:AVal→aD A→Prop}(h:aD A)(t:A)(l np:Nat)(g:aD A)(ps:List Nat)(he:h'=a7 h l np g ps)(hl:aU h l=some (.abs t ps))(ht:tb t=(np,g))
 (hb:(tA np g&&u3 h l ps&&aDf (upto 0 h.length) args&&Nat.beq ps.length np)=true)
 (h0:aC (obI tb) P f args h (fun v g2=>K (v.ren (farI h.length (h'.length - h.length))) (EK h.length (h'.length - h.length) g2))):aC (obI tb) P f args h' K:=by
 subst he
 simp only [Bool.and_eq_true]at hb
 obtain⟨⟨⟨b1,b2⟩,b3⟩,b4⟩:=hb
 have hlen:=fR h l np g ps
 generalize hk:(a7 h l np g ps).length - h.length=k at h0
 intro V hR w args' hi hf hr
 have hi2:=hi.pack tb hl ht b1 (Nat.eq_of_beq_eq_true b4) b2
 have hf2:cE (fun m=>if m<h.length then V m else none) h.length:=by
  intro m hm
  show(if m<h.length then _ else none)=none
  rw [if_neg (by omega)]
 have hr2:aH (fun m=>if m<h.length then V m else none) args args'.toList:=aDr (pl:=upto 0 h.length) (fun i hi=>by
  show _=if i<h.length then _ else none
  rw [if_pos (i3.1 hi)]) _ _ b3 hr
 refine(h0 _ hR w args' hi2 hf2 hr2).mono ?_
 rintro e w' ⟨v,v',V',g2,hK,k2,k3,k4,k5,k6,k7,k8⟩
 let V1:Val:=fun m=>if m<h.length then V' m else if m<h.length+k then V m else V' (m - k)
 have hV1:(fun i=>V1 (farI h.length k i))=V':=by
  funext i
  show(if farI h.length k i<h.length then _ else _)=_
  by_cases hi:i<h.length
  ·have e:farI h.length k i=i:=if_pos hi
   rw [e,if_pos hi]
  ·have e:farI h.length k i=i+k:=if_neg hi
   rw [e,if_neg (by omega),if_neg (by omega),Nat.add_sub_cancel]
 refine⟨_,v',V1,_,hK,k2,?_,?_,?_,?_,?_,k8⟩
 ·refine(Rep.ren _ _).2 ?_
  rw [hV1];exact k3
 ·intro m x hm
  show(if m<h.length then _ else _)=some x
  by_cases h1:m<h.length
  ·rw [if_pos h1]
   exact k4 m x (by show(if m<h.length then V m else none)=some x;rw [if_pos h1];exact hm)
  ·rw [if_neg h1]
   have h2:m<h.length+k:=by
    cases Nat.lt_or_ge m (h.length+k)with
    | inl q=>exact q
    | inr q=>rw [hf m (by omega)]at hm;cases hm
   rw [if_pos h2];exact hm
 ·intro m hm
  rw [BX k6]at hm
  show(if m<h.length then _ else _)=none
  rw [if_neg (by omega),if_neg (by omega)]
  exact k5 _ (by omega)
 ·rw [BX k6];omega
 ·refine(aDw (ι:=farI h.length k) (h0:=toF g2) NP (fun i=>NO k6 i) ?_).2 (by rw [hV1];exact k7)
  intro m hm
  by_cases h1:m<h.length
  ·exact(hm m (if_pos h1)).elim
  ·by_cases h2:m<h.length+k
   ·exact JR k6 (by omega) h2
   ·refine(hm (m - k) ?_).elim
    show(if m - k<h.length then _ else _)=m
    rw [if_neg (by omega)];omega
end Go.Sh
namespace Go.Sh
open Go
variable [Con] {A:Type} {P:Program}
def n6:List AVal→List AVal→Prop
 | [],[]=>True
 | v::vs,w::ws=>(w=v∨w=.O)∧n6 vs ws
 | _,_=>False
theorem x9{V:Val} : ∀ {vs ws:List AVal} {xs:List Value},n6 vs ws→aH V vs xs→aH V ws xs
 | [],[],_,_,r=>r
 | v::vs,w::ws,_,⟨h,h2⟩,⟨x,xs,e,r,r2⟩=>⟨x,xs,e,by rcases h with rfl | rfl;exact r;exact trivial,x9 h2 r2⟩
def oT:Option (aK A)→Option (aK A)→Prop
 | _,none=>True
 | some (.cells vs),some (.cells ws)=>n6 vs ws
 | x,y=>x=y
def kC:aD A→aD A→Prop
 | [],[]=>True
 | x::g,y::g2=>oT x y∧kC g g2
 | _,_=>False
theorem gO: ∀ {g g2:aD A},kC g g2→g2.length=g.length
 | [],[],_=>rfl
 | x::g,y::g2,h=>by simp [gO h.2]
theorem x8: ∀ {g g2:aD A},kC g g2→ ∀l,oT (aU g l) (aU g2 l)
 | [],[],_,l=>by simp [aU,oT]
 | x::g,y::g2,h,0=>by simpa [aU]using h.1
 | x::g,y::g2,h,l+1=>by
   have:=x8 h.2 l
   simpa [aU]using this
theorem Inv.weak{I:Itp A}{V:Val}{g g2:aD A}{hR:PHeap}{w:World}(hw:kC g g2)(hi:Inv I V (toF g) hR w):Inv I V (toF g2) hR w:=by
 classical
 obtain⟨hs,h1,h2,h3,h4,h5,h6⟩:=hi
 refine⟨fun l=>if aU g2 l=none then .emp else hs l,?_,?_,?_,?_,?_,h6⟩
 ·intro l e he
  have he':aU g2 l=some e:=he
  have hq:=x8 hw l
  rw [he']at hq
  show e.interp I V l (if aU g2 l=none then PHeap.emp else hs l)
  rw [if_neg (by rw [he'];simp)]
  cases hg:aU g l with
  | none=>rw [hg]at hq;cases e<;>cases hq
  | some e1=>
    rw [hg]at hq
    have hi1:=h1 l e1 hg
    cases e1 with
    | cells vs=>
      cases e with
      | cells ws=>
        obtain⟨b,k,q1,cs,T,q2,q3,rs,tail,q4,q5⟩:=hi1
        exact⟨b,k,q1,cs,T,q2,q3,rs,tail,q4,x9 hq q5⟩
      | _=>simp [oT]at hq
    | _=>
      simp only [oT,sI']at hq
      subst hq
      exact hi1
 ·intro l he
  have he':aU g2 l=none:=he
  show(if aU g2 l=none then PHeap.emp else hs l)=_
  rw [if_pos he']
 ·intro l m hlm
  show PHeap.disj (if aU g2 l=none then .emp else hs l) (if aU g2 m=none then .emp else hs m)
  split
  ·exact(aDd _).symm
  ·split
   ·exact aDd _
   ·exact h3 l m hlm
 ·intro l
  show PHeap.disj (if aU g2 l=none then .emp else hs l) hR
  split
  ·exact(aDd _).symm
  ·exact h4 l
 ·intro l
  show PHeap.sub (if aU g2 l=none then .emp else hs l) w
  split
  ·exact aDs _
  ·exact h5 l
structure LY (K:AVal→aD A→Prop) (v:AVal) (g:aD A):Prop where
 ex: ∃g2,kC g g2∧K v g2
theorem aDM{I:Itp A}{f:FuncId}{args:List AVal}{h:aD A}{K:AVal→aD A→Prop}(h0:aC I P f args h (LY K)):aC I P f args h K:=by
 intro V hR w args' hi hf hr
 refine(h0 V hR w args' hi hf hr).mono ?_
 rintro e w' ⟨v,v',V',g',⟨g2,hw,hK⟩,k2,k3,k4,k5,k6,k7,k8⟩
 exact⟨v,v',V',g2,hK,k2,k3,k4,by rw [gO hw];exact k5,by rw [gO hw];exact k6,k7.weak hw,k8⟩
end Go.Sh
namespace Go.Sh
open Go
variable [Con] {A:Type} {P:Program}
def aF(I:Itp A)(n:Nat)(v:AVal)(g:aD A)(v2:AVal)(g2:aD A):Prop:=
 ∀V hR w x,Inv I V (toF g) hR w→cE V g.length→n≤g.length→Rep V v x→
  ∃V',(∀l y,l<n→V l=some y→V' l=some y)∧cE V' g2.length∧n≤g2.length∧Rep V' v2 x∧Inv I V' (toF g2) hR w
theorem aF.refl{I:Itp A}(n:Nat)(v:AVal)(g:aD A):aF I n v g v g:=fun V hR w x h1 h2 h3 h4=>⟨V,fun _ _ _ h=>h,h2,h3,h4,h1⟩
theorem aF.trans{I:Itp A}{n:Nat}{v v2 v3:AVal}{g g2 g3:aD A}(a:aF I n v g v2 g2)(b:aF I n v2 g2 v3 g3):aF I n v g v3 g3:=by
 intro V hR w x h1 h2 h3 h4
 obtain⟨V1,a1,a2,a3,a4,a5⟩:=a V hR w x h1 h2 h3 h4
 obtain⟨V2,b1,b2,b3,b4,b5⟩:=b V1 hR w x a5 a2 a3 a4
 exact⟨V2,fun l y hl hy=>b1 l y hl (a1 l y hl hy),b2,b3,b4,b5⟩
theorem aF.weak{I:Itp A}{n:Nat}{v:AVal}{g g2:aD A}(h:kC g g2):aF I n v g v g2:=fun V hR w x h1 h2 h3 h4=>⟨V,fun _ _ _ h=>h,by rw [gO h];exact h2,by rw [gO h];exact h3,h4,h1.weak h⟩
theorem aF.pick{I:Itp A}{n:Nat}{v:AVal}{g:aD A}(pl:List Nat)(h:(eU pl g.length&&jV pl 0 n)=true):aF I n v g (lQ pl v) (gI pl g):=by
 intro V hR w x h1 h2 h3 h4
 obtain⟨q1,q2⟩:=Bool.and_eq_true_iff.1 h
 obtain⟨p1,p2,p3,p4⟩:=wB.elim q1 q2 h1 h2
 exact⟨_,fun l y hl hy=>(p1 l hl).trans hy,p2,p3,oK h4,p4⟩
theorem aF.unpack{tb:A→Nat×aD A}{n:Nat}{v:AVal}{g:aD A}(t:A)(l np:Nat)(e:aD A)(ps:List Nat)(hl:aU g l=some (.abs t ps))(ht:tb t=(np,e))(ho:tA np e=true)(hnp:ps.length=np):aF (obI tb) n v g v (a7 g l np e ps):=by
 intro V hR w x h1 h2 h3 h4
 obtain⟨V1,v1,v2,v3⟩:=h1.unpack tb h2 hl ht ho hnp
 exact⟨V1,fun l y _ hy=>v1 l y hy,v2,by rw [fR];omega,Rep.mono v1 _ _ h4,v3⟩
theorem aF.pack{tb:A→Nat×aD A}{n:Nat}{v:AVal}{g:aD A}(h2:aD A)(t:A)(l np:Nat)(e:aD A)(ps:List Nat)(hg:g=a7 h2 l np e ps)(hl:aU h2 l=some (.abs t ps))(ht:tb t=(np,e))
 (hb:(Nat.ble n h2.length&&tA np e&&u3 h2 l ps&&v.within (upto 0 h2.length)&&Nat.beq ps.length np)=true):aF (obI tb) n v g v h2:=by
 subst hg
 simp only [Bool.and_eq_true]at hb
 obtain⟨⟨⟨⟨b3,b4⟩,b5⟩,b6⟩,b7⟩:=hb
 have hn:n≤h2.length:=Nat.le_of_ble_eq_true b3
 intro V hR w x h1 hf h3 h4
 refine⟨_,?_,?_,hn,?_,h1.pack tb hl ht b4 (Nat.eq_of_beq_eq_true b7) b5⟩
 ·intro m y hm hy
  show(if m<h2.length then V m else none)=some y
  rw [if_pos (by omega)];exact hy
 ·intro m hm
  show(if m<h2.length then _ else none)=none
  rw [if_neg (by omega)]
 ·exact aDA (pl:=upto 0 h2.length) (fun i hi=>by
   show _=if i<h2.length then _ else none
   rw [if_pos (i3.1 hi)]) _ _ b6 h4
theorem aF.eq{I:Itp A}{n:Nat}{v v2:AVal}{g g2:aD A}(h1:v=v2)(h2:g=g2):aF I n v g v2 g2:=by subst h1 h2;exact aF.refl _ _ _
theorem aF.less{I:Itp A}{n m:Nat}{v v2:AVal}{g g2:aD A}(h:aF I n v g v2 g2)(hm:m≤n)(hn:n≤g.length):aF I m v g v2 g2:=by
 intro V hR w x h1 hf h3 h4
 obtain⟨V1,a1,a2,a3,a4,a5⟩:=h V hR w x h1 hf hn h4
 exact⟨V1,fun l y hl hy=>a1 l y (by omega) hy,a2,by omega,a4,a5⟩
structure iE (I:Itp A) (n:Nat) (K:AVal→aD A→Prop) (v:AVal) (g:aD A):Prop where
 ex: ∃v2 g2,aF I n v g v2 g2∧K v2 g2
theorem aDz{I:Itp A}{f:FuncId}{args:List AVal}{h:aD A}{K:AVal→aD A→Prop}(h0:aC I P f args h (iE I h.length K)):aC I P f args h K:=by
 intro V hR w args' hi hf hr
 refine(h0 V hR w args' hi hf hr).mono ?_
 rintro e w' ⟨v,v',V',g',⟨v2,g2,ht,hK⟩,k2,k3,k4,k5,k6,k7,k8⟩
 obtain⟨V1,a1,a2,a3,a4,a5⟩:=ht V' hR w' v' k7 k5 k6 k3
 refine⟨v2,v',V1,g2,hK,k2,a4,?_,a2,a3,a5,k8⟩
 intro l y hl
 have hlt:l<h.length:=by
  cases Nat.lt_or_ge l h.length with
  | inl q=>exact q
  | inr q=>rw [hf l q]at hl;cases hl
 exact a1 l y hlt (k4 l y hl)
inductive Tr (X:Type) where
 | ret (x:X)
 | ite (b:Bool) (l r:Tr X)
 | pre (p:Prop) (t:Tr X)
def Tr.run{X:Type} :Tr X→(X→Prop)→Prop
 | .ret x,K=>K x
 | .ite b l r,K=>cond b (l.run K) (r.run K)
 | .pre p t,K=>p∧t.run K
def Tr.val{X:Type} :Tr X→X
 | .ret x=>x
 | .ite b l r=>bif b then l.val else r.val
 | .pre _ t=>t.val
def Tr.ok{X:Type} :Tr X→Prop
 | .ret _=>True
 | .ite b l r=>cond b l.ok r.ok
 | .pre p t=>p∧t.ok
theorem aDe{X:Type}{K:X→Prop} : ∀ {t:Tr X},t.ok→K t.val→t.run K
 | .ret x,_,k=>k
 | .ite b l r,o,k=>by
   cases b with
   | true=>exact aDe (t:=l) o k
   | false=>exact aDe (t:=r) o k
 | .pre p t,o,k=>⟨o.1,aDe (t:=t) o.2 k⟩
def WP{X:Type}(n:Nat)(parse:AVal→aD A→Option (Prop×X))(K:X→Prop)(v:AVal)(g:aD A):Prop:=
 dH (eU (dZ n g v.labels) g.length&&jV (dZ n g v.labels) 0 n) (match parse (lQ (dZ n g v.labels) v) (gI (dZ n g v.labels) g)with
  | some (p,x)=>p∧K x
  | none=>False)
def cA{X:Type}(I:Itp A)(n:Nat)(parse:AVal→aD A→Option (Prop×X))(fin:X→Out A):Prop:=
 ∀v g p x,parse v g=some (p,x)→p→ ∀K,(fin x).run K→iE I n K v g
theorem aC.leaf{X:Type}{I:Itp A}{f:FuncId}{args:List AVal}{h:aD A}{K:AVal→aD A→Prop}{parse:AVal→aD A→Option (Prop×X)}{fin:X→Out A}(n:Nat)(hn:n≤h.length)(hr:cA I n parse fin)
 (h0:aC I P f args h (WP n parse fun x=>(fin x).run K)): ∀V hR w (args':Array Value),Inv I V (toF h) hR w→cE V h.length→aH V args args'.toList→Calls P f args' w (fun e w'=> ∃v v' V' h',K v h'∧e=.returned v'∧Rep V' v v'∧(∀l y,l<n→V l=some y→V' l=some y)∧cE V' h'.length∧n≤h'.length∧Inv I V' (toF h') hR w'∧cM w w'):=by
 intro V hR w args' hi hf hrp
 refine(h0 V hR w args' hi hf hrp).mono ?_
 rintro e w' ⟨v,v',V',g',hL,k2,k3,k4,k5,k6,k7,k8⟩
 unfold WP at hL
 obtain⟨hg,hL⟩:=bZ.1 hL
 have ht:=aF.pick (I:=I) (v:=v) _ hg
 split at hL
 ·rename_i p x hp
  obtain⟨v2,g2,ht2,hK⟩:=(hr _ _ p x hp hL.1 K hL.2).ex
  obtain⟨V1,a1,a2,a3,a4,a5⟩:=(ht.trans ht2) V' hR w' v' k7 k5 (by omega) k3
  exact⟨v2,v',V1,g2,hK,k2,a4,fun l y hl hy=>a1 l y hl (k4 l y hy),a2,a3,a5,k8⟩
 ·exact hL.elim
theorem aC.plain{X:Type}{I:Itp A}{f:FuncId}{args:List AVal}{h:aD A}{K:AVal→aD A→Prop}{parse:AVal→aD A→Option (Prop×X)}{fin:X→Out A}(hr:cA I h.length parse fin)
 (h0:aC I P f args h (WP h.length parse fun x=>(fin x).run K)):aC I P f args h K:=by
 intro V hR w args' hi hf hrp
 refine(aC.leaf h.length (Nat.le_refl _) hr h0 V hR w args' hi hf hrp).mono ?_
 rintro e w' ⟨v,v',V',h',k1,k2,k3,k4,k5,k6,k7,k8⟩
 refine⟨v,v',V',h',k1,k2,k3,?_,k5,k6,k7,k8⟩
 intro l y hy
 have hlt:l<h.length:=by
  cases Nat.lt_or_ge l h.length with
  | inl q=>exact q
  | inr q=>rw [hf l q]at hy;cases hy
 exact k4 l y hlt hy
end Go.Sh
namespace Go.Sh
open Go
variable [Con] {A:Type} {P:Program}
def WL(g:aD A):AVal→Bool
 | .ptr l 0=>(match aU g l with
   | some (.abs _ _)=>false
   | _=>true)
 | _=>true
def P4(g:aD A)(pos:List Nat):Nat→List AVal→List AVal
 | _,[]=>[]
 | i,v::vs=>cond (pos.elem i&&WL g v) .O v::P4 g pos (i+1) vs
theorem vM(g:aD A)(pos:List Nat): ∀(i:Nat) (vs:List AVal),n6 vs (P4 g pos i vs)
 | _,[]=>trivial
 | i,v::vs=>by
   refine⟨?_,vM g pos (i+1) vs⟩
   cases pos.elem i&&WL g v with
   | true=>exact .inr rfl
   | false=>exact .inl rfl
theorem vP: ∀(vs:List AVal),n6 vs vs
 | []=>trivial
 | _::vs=>⟨.inl rfl,vP vs⟩
theorem vO(e:Option (aK A)):oT e e:=by
 cases e with
 | none=>trivial
 | some e=>cases e with
   | cells vs=>exact vP vs
   | _=>rfl
theorem mF: ∀(g:aD A),kC g g
 | []=>trivial
 | _::g=>⟨vO _,mF g⟩
theorem sH: ∀(g:aD A) (l:Nat) (e2:Option (aK A)),oT (aU g l) e2→kC g (g.set l e2)
 | [],_,_,_=>trivial
 | x::g,0,e2,h=>⟨by simpa [aU]using h,mF g⟩
 | x::g,l+1,e2,h=>⟨vO x,sH g l e2 (by simpa [aU]using h)⟩
def z8(g:aD A)(root:Nat)(pos:List Nat):aD A:=match aU g root with
 | some (.cells vs)=>g.set root (some (.cells (P4 g pos 0 vs)))
 | _=>g
theorem z9(g:aD A)(root:Nat)(pos:List Nat):kC g (z8 g root pos):=by
 unfold z8
 split
 ·rename_i vs h
  refine sH g root _ ?_
  rw [h]
  exact vM g pos 0 vs
 ·exact mF g
theorem aF.cast{I:Itp A}{n:Nat}{cs:List (Place×gW)}{v v2:AVal}{g g2:aD A}(h:gP cs [v] g=some ([v2],g2)):aF I n v g v2 g2:=by
 intro V hR w x h1 h2 h3 h4
 obtain⟨V',⟨c1,c2,c3,c4⟩,r⟩:=fM h h1 h2 (xs:=[x]) ⟨x,[],rfl,h4,rfl⟩
 obtain⟨y,ys,e,r1,_⟩:=r
 simp only [lI']at e
 obtain⟨rfl,_⟩:=e
 exact⟨V',fun l y _ hy=>c1 l y hy,c2,by omega,r1,c4⟩
def cC{X:Type}(n root:Nat)(pos:List Nat)(cs:List (Place×gW))(parse:AVal→aD A→Option (Prop×X))(K:X→Prop)(v:AVal)(g:aD A):Prop:=
 let pl:=dZ n g v.labels
 dH (eU pl g.length&&jV pl 0 n) (
  match gP cs [lQ pl v] (z8 (gI pl g) root pos)with
  | some ([v3],g3)=>
    let pl2:=dZ n g3 v3.labels
    dH (eU pl2 g3.length&&jV pl2 0 n) (match parse (lQ pl2 v3) (gI pl2 g3)with
     | some (p,x)=>p∧K x
     | none=>False)
  | _=>False)
theorem cC.sees{X:Type}{I:Itp A}{n root:Nat}{pos:List Nat}{cs:List (Place×gW)}{parse:AVal→aD A→Option (Prop×X)}{fin:X→Out A}(hr:cA I n parse fin){K:AVal→aD A→Prop}{v:AVal}{g:aD A}
 (h:cC n root pos cs parse (fun x=>(fin x).run K) v g):iE I n K v g:=by
 unfold cC at h
 obtain⟨h1,h⟩:=bZ.1 h
 have t1:=aF.pick (I:=I) (v:=v) _ h1
 split at h
 ·rename_i v3 g3 hc
  obtain⟨h2,h⟩:=bZ.1 h
  have t2:aF I n (lQ (dZ n g v.labels) v) (gI (dZ n g v.labels) g) v3 g3:=(aF.weak (z9 _ root pos)).trans (aF.cast hc)
  have t3:=aF.pick (I:=I) (v:=v3) _ h2
  split at h
  ·rename_i p x hp
   obtain⟨v4,g4,t4,hK⟩:=(hr _ _ p x hp h.1 K h.2).ex
   exact⟨v4,g4,((t1.trans t2).trans t3).trans t4,hK⟩
  ·exact h.elim
 ·exact h.elim
theorem aDQ{X:Type}{I:Itp A}{f:FuncId}{args:List AVal}{h:aD A}{K:AVal→aD A→Prop}{parse:AVal→aD A→Option (Prop×X)}{fin:X→Out A}(n:Nat)(hn:n≤h.length){root:Nat}{pos:List Nat}{cs:List (Place×gW)}(hr:cA I n parse fin)
 (h0:aC I P f args h (cC n root pos cs parse fun x=>(fin x).run K)): ∀V hR w (args':Array Value),Inv I V (toF h) hR w→cE V h.length→aH V args args'.toList→Calls P f args' w (fun e w'=> ∃v v' V' h',K v h'∧e=.returned v'∧Rep V' v v'∧(∀l y,l<n→V l=some y→V' l=some y)∧cE V' h'.length∧n≤h'.length∧Inv I V' (toF h') hR w'∧cM w w'):=by
 intro V hR w args' hi hf hrp
 refine(h0 V hR w args' hi hf hrp).mono ?_
 rintro e w' ⟨v,v',V',g',hL,k2,k3,k4,k5,k6,k7,k8⟩
 obtain⟨v2,g2,ht2,hK⟩:=(cC.sees hr hL).ex
 obtain⟨V1,a1,a2,a3,a4,a5⟩:=ht2 V' hR w' v' k7 k5 (by omega) k3
 exact⟨v2,v',V1,g2,hK,k2,a4,fun l y hl hy=>a1 l y hl (k4 l y hy),a2,a3,a5,k8⟩
theorem aDh{X:Type}{I:Itp A}{f:FuncId}{args:List AVal}{h:aD A}{K:AVal→aD A→Prop}{parse:AVal→aD A→Option (Prop×X)}{fin:X→Out A}{root:Nat}{pos:List Nat}{cs:List (Place×gW)}(hr:cA I h.length parse fin)
 (h0:aC I P f args h (cC h.length root pos cs parse fun x=>(fin x).run K)):aC I P f args h K:=by
 intro V hR w args' hi hf hrp
 refine(aDQ h.length (Nat.le_refl _) hr h0 V hR w args' hi hf hrp).mono ?_
 rintro e w' ⟨v,v',V',h',k1,k2,k3,k4,k5,k6,k7,k8⟩
 refine⟨v,v',V',h',k1,k2,k3,?_,k5,k6,k7,k8⟩
 intro l y hy
 have hlt:l<h.length:=by
  cases Nat.lt_or_ge l h.length with
  | inl q=>exact q
  | inr q=>rw [hf l q]at hy;cases hy
 exact k4 l y hlt hy
end Go.Sh
namespace Go.Sh
open Go
variable [Con] {A:Type} {P:Program}
def bE(I:Itp A)(h h2:aD A):Prop:= ∀V hR w,Inv I V (toF h) hR w→cE V h.length→ ∃V',V.le V'∧cE V' h2.length∧h.length≤h2.length∧Inv I V' (toF h2) hR w
theorem bE.refl{I:Itp A}(h:aD A):bE I h h:=fun V hR w h1 h2=>⟨V,V.le_refl,h2,Nat.le_refl _,h1⟩
theorem bE.trans{I:Itp A}{h h2 h3:aD A}(a:bE I h h2)(b:bE I h2 h3):bE I h h3:=by
 intro V hR w h1 hf
 obtain⟨V1,a1,a2,a3,a4⟩:=a V hR w h1 hf
 obtain⟨V2,b1,b2,b3,b4⟩:=b V1 hR w a4 a2
 exact⟨V2,Val.le_trans a1 b1,b2,Nat.le_trans a3 b3,b4⟩
theorem bE.unpack{tb:A→Nat×aD A}{h:aD A}(t:A)(l np:Nat)(g:aD A)(ps:List Nat)(hl:aU h l=some (.abs t ps))(ht:tb t=(np,g))(ho:tA np g=true)(hnp:ps.length=np):bE (obI tb) h (a7 h l np g ps):=by
 intro V hR w h1 hf
 obtain⟨V1,v1,v2,v3⟩:=h1.unpack tb hf hl ht ho hnp
 exact⟨V1,v1,v2,by rw [fR];omega,v3⟩
theorem bE.weak{I:Itp A}{h h2:aD A}(hw:kC h h2):bE I h h2:=fun V hR w h1 hf=>⟨V,V.le_refl,by rw [gO hw];exact hf,by rw [gO hw];exact Nat.le_refl _,h1.weak hw⟩
theorem bE.eq{I:Itp A}{h h2:aD A}(e:h=h2):bE I h h2:=by subst e;exact bE.refl h
theorem aC9{X:Type}{I:Itp A}{f:FuncId}{args:List AVal}{h h2:aD A}{K:AVal→aD A→Prop}{parse:AVal→aD A→Option (Prop×X)}{fin:X→Out A}{root:Nat}{pos:List Nat}{cs:List (Place×gW)}(hr:cA I h.length parse fin)(ho:bE I h h2)
 (h0:aC I P f args h2 (cC h.length root pos cs parse fun x=>(fin x).run K)):aC I P f args h K:=by
 intro V hR w args' hi hf hrp
 obtain⟨V1,v1,v2,v3,v4⟩:=ho V hR w hi hf
 refine(aDQ h.length v3 hr h0 V1 hR w args' v4 v2 (aH.mono v1 _ _ hrp)).mono ?_
 rintro e w' ⟨v,v',V',h',k1,k2,k3,k4,k5,k6,k7,k8⟩
 refine⟨v,v',V',h',k1,k2,k3,?_,k5,k6,k7,k8⟩
 intro l y hy
 have hlt:l<h.length:=by
  cases Nat.lt_or_ge l h.length with
  | inl q=>exact q
  | inr q=>rw [hf l q]at hy;cases hy
 exact k4 l y hlt (v1 l y hy)
def aJ.or(F G:aJ A):aJ A:=fun args h=>match F args h with
 | some o=>some o
 | none=>G args h
theorem aDn{I:Itp A}{f:FuncId}{F G:aJ A}(hF:aJ.ok I P f F)(hG:aJ.ok I P f G):aJ.ok I P f (F.or G):=by
 intro args h o ho K hK
 unfold aJ.or at ho
 split at ho
 ·rename_i o' h1
  simp only [sI']at ho;subst ho
  exact hF args h _ h1 K hK
 ·exact hG args h o ho K hK
def aAF(pos:List Nat):Nat→List AVal→List AVal
 | _,[]=>[]
 | i,v::vs=>cond (pos.elem i) .O v::aAF pos (i+1) vs
theorem x5(pos:List Nat): ∀(i:Nat) (vs:List AVal),n6 vs (aAF pos i vs)
 | _,[]=>trivial
 | i,v::vs=>by
   refine⟨?_,x5 pos (i+1) vs⟩
   cases pos.elem i with
   | true=>exact .inr rfl
   | false=>exact .inl rfl
def aBW(g:aD A)(root:Nat)(pos:List Nat):aD A:=match aU g root with
 | some (.cells vs)=>g.set root (some (.cells (aAF pos 0 vs)))
 | _=>g
theorem b9(g:aD A)(root:Nat)(pos:List Nat):kC g (aBW g root pos):=by
 unfold aBW
 split
 ·rename_i vs h
  refine sH g root _ ?_
  rw [h]
  exact x5 pos 0 vs
 ·exact mF g
theorem qQ{I:Itp A}{n:Nat}{K:AVal→aD A→Prop}{d:Bool}{a b g:aD A}(hK:(Out.ite d (.ret (.bool true) a) (.ret (.bool false) b)).run K)(h1:K (.bool true) a→iE I n K (.bool true) g)(h2:K (.bool false) b→iE I n K (.bool false) g):iE I n K (.bool d) g:=by
 cases d with
 | true=>exact h1 hK
 | false=>exact h2 hK
end Go.Sh
namespace Go.Sh
open Go
variable [Con]
def PHeap.less(h g:PHeap):PHeap:=fun b=>match g b with | some _=>none | none=>h b
theorem PHeap.join_some{h g:PHeap}{b:Nat}{o:Obj}(e:h.join g b=some o):h b=some o∨(h b=none∧g b=some o):=by
 unfold PHeap.join at e
 cases hh:h b with
 | some o'=>rw [hh]at e;exact .inl (by simpa using e)
 | none=>rw [hh]at e;exact .inr ⟨rfl,e⟩
section
variable {P:Program}
end
end Go.Sh
namespace Go.Sh
open Go
variable [Con] {A:Type}
section
variable {P:Program} {E:pJ A P}
def LZ(E:pJ A P)(ds:List Deferred)(V:Val)(n:Nat)(hR:PHeap)(w:World)(K:List AVal→aD A→Prop)(a:Act)(w':World):Prop:=
 ∃tm V' h',K tm h'∧aH V' tm a.tmps.toList∧V.le V'∧cE V' h'.length∧n≤h'.length∧Inv E.I V' (toF h') hR w'∧cM w w'∧a.defers=ds
theorem LZ.chain{ds:List Deferred}{V V1:Val}{n n1:Nat}{hR:PHeap}{w w1:World}{K:List AVal→aD A→Prop}{a:Act}{w':World}(h:LZ E ds V1 n1 hR w1 K a w')(hV:V.le V1)(hn:n≤n1)(hg:cM w w1):LZ E ds V n hR w K a w':=by
 obtain⟨tm,V',h',h1,h2,h3,h4,h5,h6,h7,h8⟩:=h
 exact⟨tm,V',h',h1,h2,Val.le_trans hV h3,h4,by omega,h6,hg.trans h7,h8⟩
end
section
variable {P:Program} {E:pJ A P}
end
end Go.Sh
namespace Go.Sh
open Go Go.RowKit
variable [Con] {A:Type}
theorem Inv.put{I:Itp A}{V:Val}{h:bJ A}{hX hY:PHeap}{w:World}{l:Nat}{o o':Obj}(hi:Inv I V h hX w)(hl:hX l=some o)(hY1:hY l=some o')(hY2: ∀b,b≠l→hY b=hX b)(hc:Con.con l=none):Inv I V h hY (w.putObj l o'):=by
 obtain⟨hs,h1,h2,h3,h4,h5,h6,h7⟩:=hi
 have hlt:l<w.heap.size:=(Array.getElem?_eq_some_iff.1 (h6 l o hl)).1
 have nl: ∀m,hs m l=none:=fun m=>by
  rcases h4 m l with e | e
  ·exact e
  ·rw [hl]at e;cases e
 refine⟨hs,h1,h2,h3,?_,?_,?_,?_⟩
 ·intro m b
  by_cases e:b=l
  ·subst e;exact .inl (nl m)
  ·rw [hY2 b e];exact h4 m b
 ·intro m b x e
  have hb:b≠l:=fun e2=>by subst e2;rw [nl m]at e;cases e
  rw [World.putObj_heap_other hb];exact h5 m b x e
 ·intro b x e
  by_cases hb:b=l
  ·subst hb;rw [hY1]at e;cases e;exact World.putObj_heap_same hlt
  ·rw [World.putObj_heap_other hb];rw [hY2 b hb]at e;exact h6 b x e
 ·intro b x e
  have hb:b≠l:=fun e2=>by subst e2;rw [hc]at e;cases e
  rw [hY2 b hb];exact h7 b x e
theorem cM.put{w:World}{l:Nat}{r r':Loop}(h:w.heap[l]? =some (.loop r)):cM w (w.putObj l (.loop r')):=by
 have hlt:l<w.heap.size:=(Array.getElem?_eq_some_iff.1 h).1
 refine⟨rfl,rfl,?_,?_⟩
 ·show w.heap.size≤(w.heap.setIfInBounds l _).size
  simp
 ·intro a _
  unfold World.frozen?
  by_cases e:a.block=l
  ·rw [e,h,World.putObj_heap_same hlt]
  ·rw [World.putObj_heap_other e]
section
variable {P:Program} {E:pJ A P}
end
end Go.Sh
namespace Go.Sh
open Go Go.RowKit
variable [Con] {A:Type}
section
variable {P:Program} {E:pJ A P}
end
end Go.Sh
namespace Go.Sh
open Go
variable {A:Type}
def Con.sub(c c':Con):Prop:= ∀b o,c.con b=some o→c'.con b=some o
mutual
theorem Rep.con{c c':Con}(h:Con.sub c c'){V:Val} : ∀(a:AVal) (v:Value),@Rep c V a v→ @Rep c' V a v
 | .bool _,_,r=>r
 | .int _ _,_,r=>r
 | .str _,_,r=>r
 | .ptr _ _,_,r=>r
 | .slice _ _ _ _,_,r=>r
 | .map _,_,r=>r
 | .func _ f g,_,⟨fs,cs,hv,r,s⟩=>⟨fs,cs,hv,aH.con h f _ r,aH.con h g _ s⟩
 | .iface _ a,_,⟨x,hv,r⟩=>⟨x,hv,Rep.con h a _ r⟩
 | .agg av,_,⟨cs,hv,r⟩=>⟨cs,hv,aH.con h av _ r⟩
 | .tup av,_,⟨cs,hv,r⟩=>⟨cs,hv,aH.con h av _ r⟩
 | .raw _,_,r=>r
 | .any,_,r=>r
 | .O,_,r=>r
 | .iview _ _,_,⟨base,cap,hv,hc,r⟩=>⟨base,cap,hv,hc,r.imp (fun⟨b,off,cs,T,fz,e,f,g⟩=>⟨b,off,cs,T,fz,e,h _ _ f,g⟩) id⟩
 | .view _ _ row,_,⟨base,cap,hv,hc,r⟩=>⟨base,cap,hv,hc,r.imp (fun⟨b,off,cs,T,fz,e,f,g⟩=>⟨b,off,cs,T,fz,e,h _ _ f,fun i hi=>⟨(g i hi).1,aH.con h (row i) _ (g i hi).2⟩⟩) id⟩
 | .tslice _ _ _ _,_,r=>r
 | .tptr _ _ _ _,_,r=>r
 | .empty,_,r=>r
 | .cptr av,_,⟨b,off,cs,T,fz,e,f,g⟩=>⟨b,off,cs,T,fz,e,h _ _ f,aH.con h av _ g⟩
theorem aH.con{c c':Con}(h:Con.sub c c'){V:Val} : ∀(a:List AVal) (v:List Value),@aH c V a v→ @aH c' V a v
 | [],_,r=>r
 | a::av,_,⟨v,vs,e,r,s⟩=>⟨v,vs,e,Rep.con h a v r,aH.con h av vs s⟩
end
section
variable {tb:A→Nat×aD A}
end
def aCl(S:Nat→Bool):Nat→aD A→aD A→aD A
 | _,[],g=>g
 | i,e::h,[]=>e::h
 | i,e::h,x::g=>(cond (S i) x e)::aCl S (i+1) h g
end Go.Sh
namespace Go.Sh
open Go
variable [Con] {A:Type} {tb:A→Nat×aD A} {P:Program}
end Go.Sh
