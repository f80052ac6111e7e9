import Derived.Orders
import Derived.KernelRfl
import Derived.Laws.Cells
import Derived.Laws.World
import Derived.Laws.StructEq
import Derived.Laws.Build
import Derived.Laws.Rows
import Derived.Laws.Append
import Derived.IntWalk
import Derived.MapKept
import Derived.Tactics
import Derived.RangeFuncSeq
set_option linter.all false
set_option maxHeartbeats 8000000
namespace Go.Sh
theorem sI'{α:Type _}{a b:α}:(some a=some b)=(a=b):=Option.some.injEq a b
theorem pI'{α:Type _}{β:Type _}{a c:α}{b d:β}:((a,b)=(c,d))=(a=c/\b=d):=Prod.mk.injEq a b c d
theorem lI'{α:Type _}{a b:α}{l m:List α}:(a::l=b::m)=(a=b/\l=m):=List.cons.injEq a l b m
theorem gD'{α:Type _}{l:List α}{i:Nat}{a:α}:l.getD i a=(l[i]?).getD a:=List.getD_eq_getElem?_getD
theorem gE'{α:Type _}{l:List α}{i:Nat}(h:i<l.length):l[i]?=some l[i]:=List.getElem?_eq_getElem h
theorem dF'{p:Prop}{x:Decidable p}:decide p=false↔¬p:=decide_eq_false_iff_not
theorem dT'{p:Prop}[Decidable p]:(decide p=true)=p:=decide_eq_true_eq
open Go
inductive AVal where
 | bool (b:Bool)
 | int (k:IntKind) (n:Int)
 | str (s:ByteArray)
 | ptr (l:Nat) (off:Nat)
 | slice (l off len sz:Nat)
 | map (l:Nat)
 | func (fn:Fn) (first caps:List AVal)
 | iface (t:TypeId) (v:AVal)
 | agg (cs:List AVal)
 | tup (vs:List AVal)
 | raw (v:Value)
 | any
 | O
 | iview (c:Option IntKind) (xs:List Int)
 | view (n w:Nat) (row:Nat->List AVal)
 | cptr (cs:List AVal)
 | tslice (l r n w:Nat)
 | tptr (l r w j:Nat)
 | empty
abbrev Code1:=Option IntKind
def Code1.val:Code1->Int->Value
 | some k,n=>.int k n
 | none,n=>.bool (n !=0)
def Code1.aval:Code1->Int->AVal
 | some k,n=>.int k n
 | none,n=>.bool (n !=0)
abbrev PHeap:=Nat->Option Obj
class Con where
 con:PHeap
abbrev Val:=Nat->Option (Nat×Nat)
def Val.le(V V':Val):Prop:= ∀l x,V l=some x->V' l=some x
variable [Con]
mutual
def Rep(V:Val):AVal->Value->Prop
 | .bool b,v=>v=.bool b
 | .int k n,v=>v=.int k n
 | .str s,v=>v=.string s
 | .ptr l off,v=> ∃b k,V l=some (b,k)/\v=.pointer (some ⟨b,off,none⟩)
 | .slice l off len sz,v=> ∃base cap,v=.slice base len cap/\len<=cap/\
    ((∃b k,V l=some (b,k)/\base=some ⟨b,off,none⟩/\off+cap*sz<=k)\/(len=0/\cap=0))
 | .map l,v=> ∃b k,V l=some (b,k)/\v=.map (some b)
 | .func fn first caps,v=> ∃fs cs,v=.func fn fs cs/\aH V first fs.toList/\aH V caps cs.toList
 | .iface t a,v=> ∃x,v=.iface t x/\Rep V a x
 | .agg as,v=> ∃cs,v=.agg cs/\aH V as cs.toList
 | .tup as,v=> ∃cs,v=.tuple cs/\aH V as cs.toList
 | .raw v',v=>v=v'
 | .any,v=>v.oneCell'=true
 | .O,_=>True
 | .iview c xs,v=> ∃base cap,v=.slice base xs.length cap/\xs.length<=cap/\
    ((∃b off cs T fz,base=some ⟨b,off,none⟩/\Con.con b=some (.cells cs T fz)/\ ∃tail,cs.toList.drop off=xs.map (Code1.val c)++tail)\/xs=[])
 | .view n w row,v=> ∃base cap,v=.slice base n cap/\n<=cap/\
    ((∃b off cs T fz,base=some ⟨b,off,none⟩/\Con.con b=some (.cells cs T fz)/\ ∀i,i<n->(row i).length =w/\aH (fun _=>none) (row i) ((cs.toList.drop (off+i*w)).take w))\/n=0)
 | .tslice l r n w,v=> ∃base cap,v=.slice base n cap/\n<=cap/\
    ((∃b k,V l=some (b,k)/\base=some ⟨b,r*w,none⟩/\r*w+cap*w<=k)\/(n=0/\cap=0))
 | .tptr l r w j,v=> ∃b k,V l=some (b,k)/\v=.pointer (some ⟨b,r*w+j,none⟩)
 | .empty,v=> ∃base,v=.slice base 0 0
 | .cptr as,v=> ∃b off cs T fz,v=.pointer (some ⟨b,off,none⟩)/\Con.con b=some (.cells cs T fz)/\aH (fun _=>none) as ((cs.toList.drop off).take as.length)
def aH(V:Val):List AVal->List Value->Prop
 | [],l=>l=[]
 | a::as,l=> ∃v vs,l=v::vs/\Rep V a v/\aH V as vs
end
mutual
theorem Rep.mono{V V':Val}(h:V.le V'): ∀(a:AVal) (v:Value),Rep V a v->Rep V' a v
 | .bool _,_,r=>r
 | .int _ _,_,r=>r
 | .str _,_,r=>r
 | .ptr _ _,_,⟨b,k,hl,hv⟩=>⟨b,k,h _ _ hl,hv⟩
 | .slice _ _ _ _,_,⟨base,cap,hv,hc,r⟩=>⟨base,cap,hv,hc,r.imp (fun⟨b,k,hl,e⟩=>⟨b,k,h _ _ hl,e⟩) id⟩
 | .map _,_,⟨b,k,hl,hv⟩=>⟨b,k,h _ _ hl,hv⟩
 | .func _ f c,_,⟨fs,cs,hv,r,s⟩=>⟨fs,cs,hv,aH.mono h f _ r,aH.mono h c _ s⟩
 | .iface _ a,_,⟨x,hv,r⟩=>⟨x,hv,Rep.mono h a _ r⟩
 | .agg as,_,⟨cs,hv,r⟩=>⟨cs,hv,aH.mono h as _ r⟩
 | .tup as,_,⟨cs,hv,r⟩=>⟨cs,hv,aH.mono h as _ r⟩
 | .raw _,_,r=>r
 | .any,_,r=>r
 | .O,_,r=>r
 | .iview _ _,_,r=>r
 | .view _ _ _,_,r=>r
 | .tslice _ _ _ _,_,⟨base,cap,hv,hc,r⟩=>⟨base,cap,hv,hc,r.imp (fun⟨b,k,hl,e⟩=>⟨b,k,h _ _ hl,e⟩) id⟩
 | .tptr _ _ _ _,_,⟨b,k,hl,hv⟩=>⟨b,k,h _ _ hl,hv⟩
 | .empty,_,r=>r
 | .cptr _,_,r=>r
theorem aH.mono{V V':Val}(h:V.le V'): ∀(a:List AVal) (v:List Value),aH V a v->aH V' a v
 | [],_,r=>r
 | a::as,_,⟨v,vs,e,r,s⟩=>⟨v,vs,e,Rep.mono h a v r,aH.mono h as vs s⟩
end
theorem aH.length{V:Val} : ∀ {a:List AVal} {v:List Value},aH V a v->v.length=a.length
 | [],_,r=>by rw [r];rfl
 | _::_,_,⟨_,_,e,_,s⟩=>by rw [e];simp [aH.length s]
theorem aH.get{V:Val} : ∀ {a:List AVal} {v:List Value} (_:aH V a v) (i:Nat) (x:AVal),a[i]? =some x-> ∃y,v[i]? =some y/\Rep V x y
 | [],_,_,i,x,h=>by simp at h
 | a::as,_,⟨v,vs,e,r,s⟩,i,x,h=>by
   subst e;cases i with
   | zero=>simp at h;subst h;exact⟨v,by simp,r⟩
   | succ i=>simp at h;obtain⟨y,hy,hr⟩:=aH.get s i x h;exact⟨y,by simpa using hy,hr⟩
theorem aH.append{V:Val} : ∀ {a b:List AVal} {v w:List Value},aH V a v->aH V b w->aH V (a++b) (v++w)
 | [],_,_,_,r,s=>by rw [r];exact s
 | _::_,_,_,_,⟨v,vs,e,r,t⟩,s=>⟨v,_,by rw [e];rfl,r,aH.append t s⟩
theorem aH.take{V:Val} : ∀ {a:List AVal} {v:List Value} (_:aH V a v) (n:Nat),aH V (a.take n) (v.take n)
 | [],_,r,n=>by rw [r];simp [aH]
 | a::as,_,⟨v,vs,e,r,s⟩,n=>by
   subst e;cases n with
   | zero=>simp [aH]
   | succ n=>exact⟨v,vs.take n,by simp,r,aH.take s n⟩
theorem aH.drop{V:Val} : ∀ {a:List AVal} {v:List Value} (_:aH V a v) (n:Nat),aH V (a.drop n) (v.drop n)
 | [],_,r,n=>by rw [r];simp [aH]
 | a::as,_,⟨v,vs,e,r,s⟩,n=>by
   subst e;cases n with
   | zero=>exact⟨v,vs,by simp,r,s⟩
   | succ n=>simpa using aH.drop s n
theorem aH.set{V:Val} : ∀ {a:List AVal} {v:List Value} (_:aH V a v) (i:Nat) (x:AVal) (y:Value),Rep V x y->aH V (a.set i x) (v.set i y)
 | [],_,r,i,x,y,_=>by rw [r];simp [aH]
 | a::as,_,⟨v,vs,e,r,s⟩,i,x,y,h=>by
   subst e;cases i with
   | zero=>exact⟨y,vs,by simp,h,s⟩
   | succ i=>exact⟨v,vs.set i y,by simp,r,aH.set s i x y h⟩
def PHeap.emp:PHeap:=fun _=>none
def PHeap.one(b:Nat)(o:Obj):PHeap:=fun x=>if x=b then some o else none
def PHeap.sub(h:PHeap)(w:World):Prop:= ∀b o,h b=some o->w.heap[b]? =some o
def PHeap.disj(h g:PHeap):Prop:= ∀b,h b=none\/g b=none
theorem PHeap.disj.symm{h g:PHeap}(d:PHeap.disj h g):PHeap.disj g h:=fun b=>(d b).symm
theorem aLb(h:PHeap):PHeap.disj h .emp :=fun _=>.inr rfl
theorem aLy(w:World):PHeap.emp.sub w:=fun _ _ h=>by cases h
def cN:List Code1->List Int->List Value
 | [],_=>[]
 | k::ks,xs=>Code1.val k (xs.headD 0)::cN ks xs.tail
def bL(ks:List Code1)(rows:List (List Int)):List Value:=(rows.map (cN ks)).flatten
inductive aG (A:Type) where
 | cells (vs:List AVal)
 | ints (c:Code1) (xs:List Int)
 | abs (t:A) (ps:List Nat)
 | tab (ks:List Code1) (rows:List (List Int))
 | imap (kk:IntKind) (vc:Code1) (m:List (Int×Int))
 | iter (lm:Nat) (kk:IntKind) (vc:Code1) (m left:List (Int×Int)) (cur:Option (Int×Int))
variable {A:Type}
abbrev Itp(A:Type):=A->Nat×Nat->List (Nat×Nat)->PHeap->Prop
def fX(V:Val):List Nat->List (Nat×Nat)->Prop
 | [],bs=>bs=[]
 | l::ls,bs=> ∃x r,V l=some x/\bs=x::r/\fX V ls r
theorem fX.mono{V V':Val}(h:V.le V'): ∀ {ls:List Nat} {bs:List (Nat×Nat)},fX V ls bs->fX V' ls bs
 | [],_,e=>e
 | _::_,_,⟨x,r,h1,h2,h3⟩=>⟨x,r,h _ _ h1,h2,fX.mono h h3⟩
theorem fX.congr{V V':Val} : ∀ {ls:List Nat} {bs:List (Nat×Nat)},(∀l∈ls,V l=V' l)->fX V ls bs->fX V' ls bs
 | [],_,_,e=>e
 | l::ls,_,h,⟨x,r,h1,h2,h3⟩=>⟨x,r,by rw [<-h l List.mem_cons_self];exact h1,h2,fX.congr (fun m hm=>h m (List.mem_cons_of_mem _ hm)) h3⟩
theorem fX.ren{V:Val}{ι:Nat->Nat} : ∀ {ls:List Nat} {bs:List (Nat×Nat)},fX V (ls.map ι) bs↔fX (fun l=>V (ι l)) ls bs
 | [],_=>Iff.rfl
 | _::_,_=>⟨fun⟨x,r,h1,h2,h3⟩=>⟨x,r,h1,h2,fX.ren.1 h3⟩,fun⟨x,r,h1,h2,h3⟩=>⟨x,r,h1,h2,fX.ren.2 h3⟩⟩
def PHeap.two(b:Nat)(o:Obj)(c:Nat)(q:Obj):PHeap:=fun x=>if x=b then some o else if x=c then some q else none
def aCz(b bm:Nat)(kk:IntKind)(vc:Code1)(m left:List (Int×Int))(cur:Option (Int×Int))(h:PHeap):Prop:=
 b≠bm/\ ∃es clock since seen c0,h=.two b (.mapIter (some bm) since seen c0) bm (.map es clock)/\es.toList.map (fun e=>(e.key,e.val))=m.map (fun x=>(Value.int kk x.1,Code1.val vc x.2))/\
  (∀e∈es.toList,e.born<since)/\since<=c0/\since<=clock/\(es.filter fun e=>!seen.contains e.born).toList.map (fun e=>(e.key,e.val))=left.map (fun x=>(Value.int kk x.1,Code1.val vc x.2))/\
  (es.toList.map (·.born)).Nodup /\ ∀y,cur=some y->c0=clock/\ ∃e∈es.toList,e.key=.int kk y.1/\e.val=Code1.val vc y.2/\seen.back?=some e.born
def aG.interp(I:Itp A)(V:Val)(l:Nat):aG A->PHeap->Prop
 | .cells vs,h=> ∃b k,V l=some (b,k)/\ ∃cs T,h=.one b (.cells cs T)/\cs.size=k/\ ∃rs tail,cs.toList=rs++tail/\aH V vs rs
 | .ints c xs,h=>(xs=[]/\h=.emp /\ ∃b,V l=some (b,0))\/ ∃b k,V l=some (b,k)/\ ∃cs T tail,h=.one b (.cells cs T)/\cs.size=k/\cs.toList=xs.map c.val++tail
 | .abs t ps,h=> ∃b k,V l=some (b,k)/\ ∃bs,fX V ps bs/\I t (b,k) bs h
 | .tab ks rows,h=>(rows=[]/\h=.emp /\ ∃b,V l=some (b,0))\/ ∃b k,V l=some (b,k)/\ ∃cs T tail,h=.one b (.cells cs T)/\cs.size=k/\cs.toList=bL ks rows++tail
 | .imap kk vc m,h=> ∃b k,V l=some (b,k)/\ ∃es clock,h=.one b (.map es clock)/\es.toList.map (fun e=>(e.key,e.val))=m.map (fun x=>(Value.int kk x.1,Code1.val vc x.2))/\(∀e∈es.toList,e.born<clock)/\(es.toList.map (·.born)).Nodup
 | .iter lm kk vc m left cur,h=> ∃b k,V l=some (b,k)/\ ∃bm km,V lm=some (bm,km)/\aCz b bm kk vc m left cur h
theorem aLs{I:Itp A}{V V':Val}(hV:V.le V'){l:Nat}{e:aG A}{h:PHeap}(hi:e.interp I V l h):e.interp I V' l h:=by
 cases e with
 | cells vs=>
   obtain⟨b,k,hl,cs,T,e1,g,rs,tail,e3,r⟩:=hi;exact⟨b,k,hV _ _ hl,cs,T,e1,g,rs,tail,e3,aH.mono hV _ _ r⟩
 | ints c xs=>
   rcases hi with⟨e1,g,b,hl⟩ | ⟨b,k,hl,r⟩
   ·exact .inl ⟨e1,g,b,hV _ _ hl⟩
   ·exact .inr ⟨b,k,hV _ _ hl,r⟩
 | abs t ps=>
   obtain⟨b,k,hl,bs,hb,r⟩:=hi;exact⟨b,k,hV _ _ hl,bs,fX.mono hV hb,r⟩
 | tab ks rows=>
   rcases hi with⟨e1,g,b,hl⟩ | ⟨b,k,hl,r⟩
   ·exact .inl ⟨e1,g,b,hV _ _ hl⟩
   ·exact .inr ⟨b,k,hV _ _ hl,r⟩
 | imap kk vc m=>
   obtain⟨b,k,hl,r⟩:=hi;exact⟨b,k,hV _ _ hl,r⟩
 | iter lm kk vc m left cur=>
   obtain⟨b,k,hl,bm,km,hm,r⟩:=hi;exact⟨b,k,hV _ _ hl,bm,km,hV _ _ hm,r⟩
abbrev aY(A:Type):=Nat->Option (aG A)
def aJz(hR:PHeap)(w:World):Prop:=hR.sub w/\ ∀b o,Con.con b=some o->hR b=some o
def Inv(I:Itp A)(V:Val)(h:aY A)(hR:PHeap)(w:World):Prop:=
 ∃hs:Nat->PHeap,(∀l e,h l=some e->e.interp I V l (hs l))/\(∀l,h l=none->hs l=.emp)/\
  (∀l m,l≠m->(hs l).disj (hs m))/\(∀l,(hs l).disj hR)/\(∀l,(hs l).sub w)/\aJz hR w
structure bN (w w':World):Prop where
 os:w'.os=w.os
 output:w'.output=w.output
 size:w.heap.size<=w'.heap.size
 frz: ∀a:Addr,a.block<w.heap.size->w'.frozen? a=w.frozen? a
theorem dW(w:World)(c:Array Value)(t:TypeId)(a:Addr):(w.alloc (.cells c t)).frozen? a=w.frozen? a:=by
 unfold World.frozen? World.alloc;simp only [Array.getElem?_push]
 by_cases h:a.block=w.heap.size
 ·have e:w.heap[a.block]? =none:=by rw [h];simp
  rw [if_pos h,e];simp
 ·rw [if_neg h]
theorem aLu(w:World):bN w w:=⟨rfl,rfl,Nat.le_refl _,fun _ _=>rfl⟩
theorem bN.trans{a b c:World}(h:bN a b)(k:bN b c):bN a c:=⟨k.os.trans h.os,k.output.trans h.output,Nat.le_trans h.size k.size,fun x hx=>(k.frz x (Nat.lt_of_lt_of_le hx h.size)).trans (h.frz x hx)⟩
theorem Inv.mono{I:Itp A}{V V':Val}{h:aY A}{hR:PHeap}{w:World}(hV:V.le V')(hi:Inv I V h hR w):Inv I V' h hR w:=by
 obtain⟨hs,h1,h2,h3,h4,h5,g⟩:=hi;exact⟨hs,fun l e he=>aLs hV (h1 l e he),h2,h3,h4,h5,g⟩
theorem Inv.drew{I:Itp A}{V:Val}{h:aY A}{hR:PHeap}{w:World}(n:Nat)(hi:Inv I V h hR w):Inv I V h hR {w with drawn:=n} :=by
 obtain⟨hs,h1,h2,h3,h4,h5,g⟩:=hi;exact⟨hs,h1,h2,h3,h4,h5,g⟩
theorem Val.le_refl(V:Val):V.le V:=fun _ _ h=>h
theorem Val.le_trans{a b c:Val}(h:a.le b)(k:b.le c):a.le c:=fun l x e=>k l x (h l x e)
def Val.add(V:Val)(l:Nat)(x:Nat×Nat):Val:=fun m=>if m=l then some x else V m
theorem aLp{V:Val}{l:Nat}{x:Nat×Nat}(h:V l=none):V.le (V.add l x):=by
 intro m y e;unfold Val.add;split
 ·rename_i hm;subst hm;rw [h]at e;cases e
 ·exact e
theorem aLj(V:Val)(l:Nat)(x:Nat×Nat):V.add l x l=some x:=by simp [Val.add]
theorem aLH(V:Val){l m:Nat}(x:Nat×Nat)(h:m≠l):V.add l x m=V m:=by simp [Val.add,h]
def aY.put(h:aY A)(l:Nat)(e:Option (aG A)):aY A:=fun m=>if m=l then e else h m
end Go.Sh
namespace Go.Sh
open Go
variable [Con] {A:Type} {I:Itp A}
theorem aLP(b:Nat)(o:Obj):PHeap.one b o b=some o:=by simp [PHeap.one]
theorem aLW{b c:Nat}(o:Obj)(h:c≠b):PHeap.one b o c=none:=by simp [PHeap.one,h]
theorem PHeap.one_sub{b:Nat}{o:Obj}{w:World} :(PHeap.one b o).sub w↔w.heap[b]? =some o:=by
 constructor
 ·intro h;exact h b o (aLP b o)
 ·intro h c p e
  by_cases hc:c=b
  ·subst hc;rw [aLP]at e;cases e;exact h
  ·rw [aLW _ hc]at e;cases e
theorem Inv.cells{V:Val}{h:aY A}{hR:PHeap}{w:World}(hi:Inv I V h hR w){l:Nat}{vs:List AVal}(hl:h l=some (.cells vs)):
 ∃b k cs T rs tail,V l=some (b,k)/\w.heap[b]? =some (.cells cs T)/\cs.size=k/\cs.toList=rs++tail/\aH V vs rs:=by
 obtain⟨hs,h1,h2,h3,h4,g,h6⟩:=hi;obtain⟨b,k,e1,cs,T,e2,e3,rs,tail,e4,r⟩:=h1 l _ hl;have:=g l;rw [e2]at this;exact⟨b,k,cs,T,rs,tail,e1,PHeap.one_sub.1 this,e3,e4,r⟩
theorem Inv.ints{V:Val}{h:aY A}{hR:PHeap}{w:World}(hi:Inv I V h hR w){l:Nat}{c:Code1}{xs:List Int}(hl:h l=some (.ints c xs))(hne:xs≠ []):
 ∃b k cs T tail,V l=some (b,k)/\w.heap[b]? =some (.cells cs T)/\cs.size=k/\cs.toList=xs.map c.val++tail:=by
 obtain⟨hs,h1,h2,h3,h4,g,h6⟩:=hi;rcases h1 l _ hl with⟨e,_⟩ | ⟨b,k,e1,cs,T,tail,e2,e3,e4⟩
 ·exact(hne e).elim
 ·have:=g l;rw [e2]at this;exact⟨b,k,cs,T,tail,e1,PHeap.one_sub.1 this,e3,e4⟩
theorem Inv.replace{V:Val}{h:aY A}{hR:PHeap}{w w':World}(hi:Inv I V h hR w){l:Nat}{e e':aG A}(hl:h l=some e){b:Nat}{o':Obj}
 (hb: ∀g,e.interp I V l g-> ∃o,g=.one b o) (he':e'.interp I V l (.one b o')) (hw:w'.heap[b]? =some o') (hne: ∀c,c≠b->w'.heap[c]? =w.heap[c]?):
 Inv I V (h.put l (some e')) hR w':=by
 obtain⟨hs,h1,h2,h3,h4,h5,h6⟩:=hi;obtain⟨o,ho⟩:=hb _ (h1 l e hl)
 have key: ∀g:PHeap,PHeap.disj (hs l) g->g b=none:=by
  intro g d;rcases d b with d | d
  ·rw [ho,aLP]at d;cases d
  ·exact d
 have dis: ∀g:PHeap,PHeap.disj (hs l) g->PHeap.disj (.one b o') g:=by
  intro g d c
  by_cases hc:c=b
  ·subst hc;exact .inr (key g d)
  ·exact .inl (aLW _ hc)
 refine⟨fun m=>if m=l then .one b o' else hs m,?_,?_,?_,?_,?_,?_⟩
 ·intro m x hm
  by_cases aa:m=l
  ·subst aa;simp [aY.put]at hm;subst hm;simpa using he'
  ·simp [aY.put,aa]at hm;simpa [aa]using h1 m x hm
 ·intro m hm
  by_cases aa:m=l
  ·subst aa;simp [aY.put]at hm
  ·simp [aY.put,aa]at hm;simpa [aa]using h2 m hm
 ·intro m n ad
  by_cases aa:m=l
  ·have ac:n≠l:=fun e=>ad (aa.trans e.symm);simp only [aa,if_true,ac,if_false];exact dis _ (h3 l n (fun e=>ac e.symm))
  ·by_cases ac:n=l
   ·simp only [ac,if_true,aa,if_false];exact(dis _ (h3 l m (fun e=>aa e.symm))).symm
   ·simp only [aa,ac,if_false];exact h3 m n ad
 ·intro m
  by_cases aa:m=l
  ·simp only [aa,if_true];exact dis _ (h4 l)
  ·simp only [aa,if_false];exact h4 m
 ·intro m
  by_cases aa:m=l
  ·simp only [aa,if_true];exact PHeap.one_sub.2 hw
  ·simp only [aa,if_false];intro c p hc
   have:c≠b:=by
    intro e;subst e;rw [key _ (h3 l m (fun e=>aa e.symm))]at hc;cases hc
   rw [hne c this];exact h5 m c p hc
 ·refine⟨?_,h6.2⟩;intro c p hc
  have:c≠b:=by
   intro e;subst e;rw [key _ (h4 l)]at hc;cases hc
  rw [hne c this];exact h6.1 c p hc
theorem aMa{h:PHeap}{w:World}(hs:h.sub w){b:Nat}(hb:w.heap.size<=b):h b=none:=by
 cases e:h b with
 | none=>rfl
 | some o=>
   have:=hs b o e;rw [Array.getElem?_eq_none (by omega)]at this
   cases this
theorem aL0{h:PHeap}{w:World}(hs:h.sub w)(o:Obj):h.sub {w with heap:=w.heap.push o} :=by
 intro b p e;have:=hs b p e
 have g:b<w.heap.size:=by
  cases Nat.lt_or_ge b w.heap.size with
  | inl h=>exact h
  | inr h=>rw [aMa hs h]at e;cases e
 show(w.heap.push o)[b]? =_;rw [Array.getElem?_push,if_neg (by omega)]
 exact this
theorem Inv.push{V:Val}{h:aY A}{hR:PHeap}{w:World}(hi:Inv I V h hR w){l:Nat}(hV:V l=none)(hl:h l=none){o:Obj}{k:Nat}{e:aG A}
 (he:e.interp I (V.add l (w.heap.size,k)) l (.one w.heap.size o)):
 Inv I (V.add l (w.heap.size,k)) (h.put l (some e)) hR {w with heap:=w.heap.push o} :=by
 obtain⟨hs,h1,h2,h3,h4,h5,h6⟩:=hi
 have dis: ∀g:PHeap,g.sub w->PHeap.disj (.one w.heap.size o) g:=by
  intro g d c
  by_cases hc:c=w.heap.size
  ·subst hc;exact .inr (aMa d (Nat.le_refl _))
  ·exact .inl (aLW _ hc)
 refine⟨fun m=>if m=l then .one w.heap.size o else hs m,?_,?_,?_,?_,?_,⟨aL0 h6.1 o,h6.2⟩⟩
 ·intro m x hm
  by_cases aa:m=l
  ·subst aa;simp [aY.put]at hm;subst hm;simpa using he
  ·simp [aY.put,aa]at hm;simpa [aa]using aLs (aLp hV) (h1 m x hm)
 ·intro m hm
  by_cases aa:m=l
  ·subst aa;simp [aY.put]at hm
  ·simp [aY.put,aa]at hm;simpa [aa]using h2 m hm
 ·intro m n ad
  by_cases aa:m=l
  ·have ac:n≠l:=fun e=>ad (aa.trans e.symm);simp only [aa,if_true,ac,if_false];exact dis _ (h5 n)
  ·by_cases ac:n=l
   ·simp only [ac,if_true,aa,if_false];exact(dis _ (h5 m)).symm
   ·simp only [aa,ac,if_false];exact h3 m n ad
 ·intro m
  by_cases aa:m=l
  ·simp only [aa,if_true];exact dis _ h6.1
  ·simp only [aa,if_false];exact h4 m
 ·intro m
  by_cases aa:m=l
  ·simp only [aa,if_true];refine PHeap.one_sub.2 ?_;show(w.heap.push o)[w.heap.size]? =_
   simp
  ·simp only [aa,if_false];exact aL0 (h5 m) o
theorem Inv.kill{V:Val}{h:aY A}{hR:PHeap}{w:World}(hi:Inv I V h hR w)(l:Nat):Inv I V (h.put l none) hR w:=by
 obtain⟨hs,h1,h2,h3,h4,h5,h6⟩:=hi;refine⟨fun m=>if m=l then .emp else hs m,?_,?_,?_,?_,?_,h6⟩
 ·intro m x hm
  by_cases g:m=l
  ·subst g;simp [aY.put]at hm
  ·simp [aY.put,g]at hm;simpa [g]using h1 m x hm
 ·intro m hm
  by_cases g:m=l
  ·simp [g]
  ·simp [aY.put,g]at hm;simpa [g]using h2 m hm
 ·intro m n ac
  by_cases g:m=l
  ·simp only [g,if_true];exact(aLb _).symm
  ·by_cases aa:n=l
   ·simp only [aa,if_true];exact aLb _
   ·simp only [g,aa,if_false];exact h3 m n ac
 ·intro m
  by_cases g:m=l
  ·simp only [g,if_true];exact(aLb _).symm
  ·simp only [g,if_false];exact h4 m
 ·intro m
  by_cases g:m=l
  ·simp only [g,if_true];exact aLy _
  ·simp only [g,if_false];exact h5 m
theorem Inv.move{V V':Val}{h:aY A}{hR:PHeap}{w:World}(hi:Inv I V h hR w){l m:Nat}(hne:m≠l){e e':aG A}(hl:h l=some e)(hm:h m=none)(hV:V.le V')
 (hc: ∀g,e.interp I V l g->e'.interp I V' m g):Inv I V' ((h.put l none).put m (some e')) hR w:=by
 obtain⟨hs,h1,h2,h3,h4,h5,h6⟩:=hi;refine⟨fun n=>if n=m then hs l else if n=l then .emp else hs n,?_,?_,?_,?_,?_,h6⟩
 ·intro n x hn
  by_cases aa:n=m
  ·subst aa;simp [aY.put]at hn;subst hn;simpa using hc _ (h1 l e hl)
  ·by_cases ac:n=l
   ·subst ac;simp [aY.put,aa]at hn
   ·simp [aY.put,aa,ac]at hn;simpa [aa,ac]using aLs hV (h1 n x hn)
 ·intro n hn
  by_cases aa:n=m
  ·subst aa;simp [aY.put]at hn
  ·by_cases ac:n=l
   ·simp [ac,hne.symm]
   ·simp [aY.put,aa,ac]at hn;simpa [aa,ac]using h2 n hn
 ·intro n p af;have em:hs m=.emp :=h2 m hm
  by_cases aa:n=m
  ·have ae:p≠m:=fun e=>af (aa.trans e.symm);simp only [aa,if_true,ae,if_false]
   by_cases ad:p=l
   ·simp only [ad,if_true];exact aLb _
   ·simp only [ad,if_false];exact h3 l p (fun e=>ad e.symm)
  ·simp only [aa,if_false]
   by_cases ac:n=l
   ·simp only [ac,if_true];exact(aLb _).symm
   ·simp only [ac,if_false]
    by_cases ae:p=m
    ·simp only [ae,if_true];exact h3 n l ac
    ·simp only [ae,if_false]
     by_cases ad:p=l
     ·simp only [ad,if_true];exact aLb _
     ·simp only [ad,if_false];exact h3 n p af
 ·intro n
  by_cases aa:n=m
  ·simp only [aa,if_true];exact h4 l
  ·by_cases ac:n=l
   ·have: ∀g:PHeap,(if n=m then hs l else if n=l then PHeap.emp else g)=.emp :=fun g=>by rw [if_neg aa,if_pos ac]
    show(if n=m then hs l else if n=l then PHeap.emp else hs n).disj hR
    rw [this];exact(aLb _).symm
   ·simp only [aa,ac,if_false];exact h4 n
 ·intro n
  by_cases aa:n=m
  ·simp only [aa,if_true];exact h5 l
  ·by_cases ac:n=l
   ·have: ∀g:PHeap,(if n=m then hs l else if n=l then PHeap.emp else g)=.emp :=fun g=>by rw [if_neg aa,if_pos ac]
    show(if n=m then hs l else if n=l then PHeap.emp else hs n).sub w
    rw [this];exact aLy _
   ·simp only [aa,ac,if_false];exact h5 n
theorem Inv.empty{V:Val}{h:aY A}{hR:PHeap}{w:World}(hi:Inv I V h hR w){l:Nat}(hV:V l=none)(hl:h l=none)(c:Code1):Inv I (V.add l (0,0)) (h.put l (some (.ints c []))) hR w:=by
 obtain⟨hs,h1,h2,h3,h4,h5,h6⟩:=hi;refine⟨hs,?_,?_,h3,h4,h5,h6⟩
 ·intro m x hm
  by_cases g:m=l
  ·subst g;simp [aY.put]at hm;subst hm;exact .inl ⟨rfl,h2 m hl,0,aLj _ _ _⟩
  ·simp [aY.put,g]at hm;exact aLs (aLp hV) (h1 m x hm)
 ·intro m hm
  by_cases g:m=l
  ·subst g;exact h2 m hl
  ·simp [aY.put,g]at hm;exact h2 m hm
noncomputable def aLd(hs:Nat->PHeap):PHeap:=fun b=>
 open Classical in if h: ∃l,hs l b≠none then hs (Classical.choose h) b else none
theorem aLt{hs:Nat->PHeap}(d: ∀l m,l≠m->(hs l).disj (hs m)){l b:Nat}{o:Obj}(h:hs l b=some o):aLd hs b=some o:=by
 have hex: ∃l,hs l b≠none:=⟨l,by rw [h];simp⟩
 unfold aLd;rw [dif_pos hex];have hc:=Classical.choose_spec hex
 by_cases hl:Classical.choose hex=l
 ·rw [hl];exact h
 ·rcases d _ _ hl b with d | d
  ·exact(hc d).elim
  ·rw [h]at d;cases d
theorem aLr{hs:Nat->PHeap}{b:Nat}{o:Obj}(h:aLd hs b=some o): ∃l,hs l b=some o:=by
 unfold aLd at h;split at h
 ·rename_i hex;exact⟨_,h⟩
 ·cases h
theorem aLJ{hs:Nat->PHeap}{b:Nat}(h: ∀l,hs l b=none):aLd hs b=none:=by
 cases e:aLd hs b with
 | none=>rfl
 | some o=>obtain⟨l,hl⟩:=aLr e;rw [h l]at hl;cases hl
def PHeap.join(h g:PHeap):PHeap:=fun b=>match h b with | some o=>some o | none=>g b
theorem PHeap.join_none{h g:PHeap}{b:Nat} :PHeap.join h g b=none↔h b=none/\g b=none:=by
 unfold PHeap.join;cases h b<;>simp
theorem aLD{h g:PHeap}{b:Nat}{o:Obj}(e:h b=some o):PHeap.join h g b=some o:=by simp [PHeap.join,e]
theorem aLL{h g:PHeap}{b:Nat}(e:h b=none):PHeap.join h g b=g b:=by simp [PHeap.join,e]
theorem Inv.split{V:Val}{h:aY A}{hR:PHeap}{w:World}(hi:Inv I V h hR w)(S:Nat->Bool):
 ∃hR',Inv I V (fun l=>if S l then h l else none) hR' w/\
  ∀V' g w',V.le V'->Inv I V' g hR' w'->(∀l,S l=false->h l≠none->g l=none)->
   Inv I V' (fun l=>if S l=false/\h l≠none then h l else g l) hR w':=by
 obtain⟨hs,h1,h2,h3,h4,h5,h6⟩:=hi
 let rs:Nat->PHeap:=fun l=>if S l then .emp else hs l
 have rd: ∀l m,l≠m->(rs l).disj (rs m):=by
  intro l m ac;show PHeap.disj (if S l then .emp else hs l) (if S m then .emp else hs m)
  split
  ·exact(aLb _).symm
  ·split
   ·exact aLb _
   ·exact h3 l m ac
 have ah: ∀b,aLd rs b=none\/hR b=none:=by
  intro b;cases e:aLd rs b with
  | none=>exact .inl rfl
  | some o=>
    obtain⟨l,hl⟩:=aLr e
    have:hs l b≠none:=by
     have aa:(if S l then PHeap.emp else hs l) b=some o:=hl
     split at aa
     ·cases aa
     ·rw [aa];simp
    rcases h4 l b with d | d
    ·exact(this d).elim
    ·exact .inr d
 refine⟨PHeap.join hR (aLd rs),⟨fun l=>if S l then hs l else .emp,?_,?_,?_,?_,?_,?_⟩,?_⟩
 ·intro l e he;cases hS:S l with
  | true=>simp [hS]at he⊢;exact h1 l e he
  | false=>simp [hS]at he
 ·intro l hl;cases hS:S l with
  | true=>simp [hS]at hl⊢;exact h2 l hl
  | false=>simp [hS]
 ·intro l m ac;show PHeap.disj (if S l then hs l else .emp) (if S m then hs m else .emp)
  split
  ·split
   ·exact h3 l m ac
   ·exact aLb _
  ·exact(aLb _).symm
 ·intro l b;show(if S l then hs l else PHeap.emp) b=none\/_
  cases hS:S l with
  | false=>exact .inl rfl
  | true=>
    simp only [if_true];cases e:hs l b with
    | none=>exact .inl rfl
    | some o=>
      refine .inr (PHeap.join_none.2 ⟨?_,aLJ fun m=>?_⟩)
      ·rcases h4 l b with d | d
       ·rw [e]at d;cases d
       ·exact d
      ·show(if S m then PHeap.emp else hs m) b=none
       by_cases hm:S m=true
       ·rw [if_pos hm];rfl
       ·rw [if_neg hm];have:l≠m:=fun e'=>hm (e'▸hS);rcases h3 l m this b with d | d
        ·rw [e]at d;cases d
        ·exact d
 ·intro l;show(if S l then hs l else PHeap.emp).sub w
  split
  ·exact h5 l
  ·exact aLy _
 ·refine⟨?_,fun b o e=>aLD (h6.2 b o e)⟩;intro b o e;unfold PHeap.join at e;cases er:hR b with
  | some p=>rw [er]at e;cases e;exact h6.1 b _ er
  | none=>
    rw [er]at e;obtain⟨l,hl⟩:=aLr e;have aa:(if S l then PHeap.emp else hs l) b=some o:=hl
    split at aa
    ·cases aa
    ·exact h5 l b o aa
 ·intro V' g w' hV hg hz;obtain⟨gs,g1,g2,g3,g4,g5,g6⟩:=hg
  have ae: ∀l,(rs l).sub w':=by
   intro l b o e;have:=aLt rd e;refine g6.1 b o ?_;rcases ah b with d | d
   ·rw [this]at d;cases d
   ·rw [aLL d];exact this
  have ad:hR.sub w':=fun b o e=>g6.1 b o (aLD e)
  have ag: ∀l m,(gs l).disj (rs m):=by
   intro l m b;rcases g4 l b with d | d
   ·exact .inl d
   ·cases e:rs m b with
    | none=>exact .inr rfl
    | some o=>rw [(PHeap.join_none.1 d).2.symm,aLt rd e];exact .inr rfl
  have ai: ∀l,(gs l).disj hR:=fun l b=>(g4 l b).imp id (fun d=>(PHeap.join_none.1 d).1)
  have af: ∀l,(rs l).disj hR:=by
   intro l;show PHeap.disj (if S l then .emp else hs l) hR
   split
   ·exact(aLb _).symm
   ·exact h4 l
  classical
  refine⟨fun l=>if S l=false/\h l≠none then rs l else gs l,?_,?_,?_,?_,?_,⟨ad,h6.2⟩⟩
  ·intro l e he
   by_cases hc:S l=false/\h l≠none
   ·simp only [if_pos hc]at he⊢;show e.interp I V' l (if S l then .emp else hs l)
    rw [if_neg (by simp [hc.1])]
    exact aLs hV (h1 l e he)
   ·simp only [if_neg hc]at he⊢;exact g1 l e he
  ·intro l hl
   by_cases hc:S l=false/\h l≠none
   ·simp only [if_pos hc]at hl;exact(hc.2 hl).elim
   ·simp only [if_neg hc]at hl⊢;exact g2 l hl
  ·intro l m ac
   by_cases hc:S l=false/\h l≠none
   ·simp only [if_pos hc]
    by_cases hd:S m=false/\h m≠none
    ·simp only [if_pos hd];exact rd l m ac
    ·simp only [if_neg hd];exact(ag m l).symm
   ·simp only [if_neg hc]
    by_cases hd:S m=false/\h m≠none
    ·simp only [if_pos hd];exact ag l m
    ·simp only [if_neg hd];exact g3 l m ac
  ·intro l
   by_cases hc:S l=false/\h l≠none
   ·simp only [if_pos hc];exact af l
   ·simp only [if_neg hc];exact ai l
  ·intro l
   by_cases hc:S l=false/\h l≠none
   ·simp only [if_pos hc];exact ae l
   ·simp only [if_neg hc];exact g5 l
mutual
def AVal.ren(ι:Nat->Nat):AVal->AVal
 | .bool b=>.bool b
 | .int k n=>.int k n
 | .str s=>.str s
 | .ptr l off=>.ptr (ι l) off
 | .slice l off len sz=>.slice (ι l) off len sz
 | .map l=>.map (ι l)
 | .func fn f c=>.func fn (aLn ι f) (aLn ι c)
 | .iface t a=>.iface t (AVal.ren ι a)
 | .agg as=>.agg (aLn ι as)
 | .tup as=>.tup (aLn ι as)
 | .raw v=>.raw v
 | .any =>.any
 | .O =>.O
 | .iview c xs=>.iview c xs
 | .view n w row=>.view n w row
 | .cptr as=>.cptr as
 | .tslice l r n w=>.tslice (ι l) r n w
 | .tptr l r w j=>.tptr (ι l) r w j
 | .empty =>.empty
def aLn(ι:Nat->Nat):List AVal->List AVal
 | []=>[]
 | a::as=>AVal.ren ι a::aLn ι as
end
mutual
theorem Rep.ren{V:Val}{ι:Nat->Nat} : ∀(a:AVal) (v:Value),Rep V (a.ren ι) v↔Rep (fun l=>V (ι l)) a v
 | .bool _,_=>Iff.rfl
 | .int _ _,_=>Iff.rfl
 | .str _,_=>Iff.rfl
 | .ptr _ _,_=>Iff.rfl
 | .slice _ _ _ _,_=>Iff.rfl
 | .map _,_=>Iff.rfl
 | .func fn f c,v=>by
   simp only [AVal.ren,Rep];constructor
   ·rintro⟨fs,cs,e,r,s⟩;exact⟨fs,cs,e,(aH.ren f _).1 r,(aH.ren c _).1 s⟩
   ·rintro⟨fs,cs,e,r,s⟩;exact⟨fs,cs,e,(aH.ren f _).2 r,(aH.ren c _).2 s⟩
 | .iface t a,v=>by
   simp only [AVal.ren,Rep];constructor
   ·rintro⟨x,e,r⟩;exact⟨x,e,(Rep.ren a _).1 r⟩
   ·rintro⟨x,e,r⟩;exact⟨x,e,(Rep.ren a _).2 r⟩
 | .agg as,v=>by
   simp only [AVal.ren,Rep];constructor
   ·rintro⟨x,e,r⟩;exact⟨x,e,(aH.ren as _).1 r⟩
   ·rintro⟨x,e,r⟩;exact⟨x,e,(aH.ren as _).2 r⟩
 | .tup as,v=>by
   simp only [AVal.ren,Rep];constructor
   ·rintro⟨x,e,r⟩;exact⟨x,e,(aH.ren as _).1 r⟩
   ·rintro⟨x,e,r⟩;exact⟨x,e,(aH.ren as _).2 r⟩
 | .raw _,_=>Iff.rfl
 | .any,_=>Iff.rfl
 | .O,_=>Iff.rfl
 | .iview _ _,_=>Iff.rfl
 | .view _ _ _,_=>Iff.rfl
 | .cptr _,_=>Iff.rfl
 | .tslice _ _ _ _,_=>Iff.rfl
 | .tptr _ _ _ _,_=>Iff.rfl
 | .empty,_=>Iff.rfl
theorem aH.ren{V:Val}{ι:Nat->Nat} : ∀(a:List AVal) (v:List Value),aH V (aLn ι a) v↔aH (fun l=>V (ι l)) a v
 | [],_=>Iff.rfl
 | a::as,v=>by
   simp only [aLn,aH];constructor
   ·rintro⟨x,xs,e,r,s⟩;exact⟨x,xs,e,(Rep.ren a _).1 r,(aH.ren as _).1 s⟩
   ·rintro⟨x,xs,e,r,s⟩;exact⟨x,xs,e,(Rep.ren a _).2 r,(aH.ren as _).2 s⟩
end
def aG.ren(ι:Nat->Nat):aG A->aG A
 | .cells vs=>.cells (aLn ι vs)
 | .ints c xs=>.ints c xs
 | .abs t ps=>.abs t (ps.map ι)
 | .tab ks rows=>.tab ks rows
 | .imap kk vc m=>.imap kk vc m
 | .iter lm kk vc m left cur=>.iter (ι lm) kk vc m left cur
theorem aG.interp_ren{V:Val}{ι:Nat->Nat}{l:Nat}{e:aG A}{g:PHeap} :
 (e.ren ι).interp I V (ι l) g↔e.interp I (fun l=>V (ι l)) l g:=by
 cases e with
 | cells vs=>
   simp only [aG.ren,aG.interp];constructor
   ·rintro⟨b,k,e1,cs,T,e2,e3,rs,tail,e4,r⟩;exact⟨b,k,e1,cs,T,e2,e3,rs,tail,e4,(aH.ren vs _).1 r⟩
   ·rintro⟨b,k,e1,cs,T,e2,e3,rs,tail,e4,r⟩;exact⟨b,k,e1,cs,T,e2,e3,rs,tail,e4,(aH.ren vs _).2 r⟩
 | ints c xs=>exact Iff.rfl
 | abs t ps=>
   simp only [aG.ren,aG.interp];constructor
   ·rintro⟨b,k,e1,bs,hb,r⟩;exact⟨b,k,e1,bs,fX.ren.1 hb,r⟩
   ·rintro⟨b,k,e1,bs,hb,r⟩;exact⟨b,k,e1,bs,fX.ren.2 hb,r⟩
 | tab ks rows=>exact Iff.rfl
 | imap kk vc m=>exact Iff.rfl
 | iter lm kk vc m left cur=>exact Iff.rfl
theorem aLE{V:Val}{h h0:aY A}{hR:PHeap}{w:World}{ι:Nat->Nat}(hinj: ∀l m,ι l=ι m->l=m)
 (he: ∀l,h (ι l)=(h0 l).map (aG.ren ι)) (hz: ∀m,(∀l,ι l≠m)->h m=none):
 Inv I V h hR w↔Inv I (fun l=>V (ι l)) h0 hR w:=by
 constructor
 ·rintro⟨hs,h1,h2,h3,h4,h5,h6⟩;refine⟨fun l=>hs (ι l),?_,?_,?_,fun l=>h4 _,fun l=>h5 _,h6⟩
  ·intro l e hl;exact aG.interp_ren.1 (h1 (ι l) (e.ren ι) (by rw [he,hl];rfl))
  ·intro l hl;exact h2 (ι l) (by rw [he,hl];rfl)
  ·intro l m af;exact h3 _ _ (fun e=>af (hinj _ _ e))
 ·rintro⟨hs,h1,h2,h3,h4,h5,h6⟩
  classical
  let gs:Nat->PHeap:=fun m=>if hm: ∃l,ι l=m then hs (Classical.choose hm)else .emp
  have aa: ∀l,gs (ι l)=hs l:=by
   intro l;have hm: ∃k,ι k=ι l:=⟨l,rfl⟩;show(if hm: ∃k,ι k=ι l then hs (Classical.choose hm)else PHeap.emp)=hs l
   rw [dif_pos hm,hinj _ _ (Classical.choose_spec hm)]
  have ad: ∀m,(∀l,ι l≠m)->gs m=.emp :=by
   intro m hm;show(if hm: ∃k,ι k=m then hs (Classical.choose hm)else PHeap.emp)=.emp
   rw [dif_neg (by rintro⟨l,hl⟩;exact hm l hl)]
  have g: ∀m,(∃l,ι l=m)\/(∀l,ι l≠m):=by
   intro m
   by_cases hm: ∃l,ι l=m
   ·exact .inl hm
   ·exact .inr fun l hl=>hm ⟨l,hl⟩
  refine⟨gs,?_,?_,?_,?_,?_,h6⟩
  ·intro m e hm;rcases g m with⟨l,rfl⟩ | hn
   ·rw [he]at hm;cases ac:h0 l with
    | none=>rw [ac]at hm;cases hm
    | some e0=>
      rw [ac]at hm;cases hm;rw [aa];exact aG.interp_ren.2 (h1 l e0 ac)
   ·rw [hz m hn]at hm;cases hm
  ·intro m hm;rcases g m with⟨l,rfl⟩ | hn
   ·rw [he]at hm;cases ac:h0 l with
    | none=>rw [aa];exact h2 l ac
    | some e0=>rw [ac]at hm;cases hm
   ·exact ad m hn
  ·intro m n ae;rcases g m with⟨l,rfl⟩ | hm
   ·rcases g n with⟨k,rfl⟩ | hn
    ·rw [aa,aa];exact h3 l k (fun e=>ae (e▸rfl))
    ·rw [ad n hn];exact aLb _
   ·rw [ad m hm];exact(aLb _).symm
  ·intro m;rcases g m with⟨l,rfl⟩ | hm
   ·rw [aa];exact h4 l
   ·rw [ad m hm];exact(aLb _).symm
  ·intro m;rcases g m with⟨l,rfl⟩ | hm
   ·rw [aa];exact h5 l
   ·rw [ad m hm];exact aLy _
end Go.Sh
namespace Go.Sh
open Go
def ilt(a b:Int):Bool:=decide (a<b)
def ile(a b:Int):Bool:=decide (a<=b)
def ieq(a b:Int):Bool:=a == b
def seq(a b:ByteArray):Bool:=a.toList == b.toList
theorem bD(a b:Int):ilt a b=decide (a<b):=rfl
theorem bY(a b:Int):ile a b=decide (a<=b):=rfl
theorem cA(a b:Int):ieq a b=(a == b):=rfl
theorem IT(a b:ByteArray):seq a b=(a.toList == b.toList):=rfl
end Go.Sh
namespace Go.Sh
open Go
variable {A:Type} {I:Itp A}
abbrev aB(A:Type):=List (Option (aG A))
def aK(h:aB A)(l:Nat):Option (aG A):=h.getD l none
def toF(h:aB A):aY A:=fun l=>aK h l
structure ORes (A:Type) where
 v:AVal
 upd:List (Nat×Option (aG A))
 new:List (aG A)
 foot:List Nat
 need:Option Prop
abbrev onp:Option Prop->Prop
 | none=>True
 | some p=>p
def ORes.obl(r:ORes A):Prop:=onp r.need
def AK:Option Prop->Prop->Prop
 | none,q=>q
 | some p,q=>p/\q
theorem n9{p:Option Prop}{q:Prop} :AK p q↔onp p/\q:=by
 cases p with
 | none=>exact⟨fun h=>⟨trivial,h⟩,fun h=>h.2⟩
 | some p=>exact Iff.rfl
def cL(b:Bool)(q:Prop):Prop:=cond b q False
theorem bK{b:Bool}{q:Prop} :cL b q↔b=true/\q:=by
 cases b with
 | true=>exact⟨fun h=>⟨rfl,h⟩,fun h=>h.2⟩
 | false=>exact⟨fun h=>h.elim,fun h=>Bool.noConfusion h.1⟩
def n8:Option Prop->Prop->Option Prop
 | none,q=>some q
 | some p,q=>some (p/\q)
theorem eL{p:Option Prop}{q:Prop} :onp (n8 p q)↔onp p/\q:=by
 cases p with
 | none=>exact⟨fun h=>⟨trivial,h⟩,fun h=>h.2⟩
 | some p=>exact Iff.rfl
def hupd(h:aB A)(u:List (Nat×Option (aG A))):aB A:=u.foldl (fun h x=>h.set x.1 x.2) h
def ORes.apply(r:ORes A)(h:aB A):aB A:=hupd h r.upd++r.new.map some
def ORes.applyF(r:ORes A)(h:aB A):aB A:=match r.upd,r.new with
 | [],[]=>h
 | u,[]=>hupd h u
 | u,n=>hupd h u++n.map some
theorem sE(r:ORes A)(h:aB A):r.applyF h=r.apply h:=by
 obtain⟨v,upd,new,foot,need⟩:=r;cases upd<;>cases new<;>simp [ORes.applyF,ORes.apply,hupd]
def sR:Value->AVal
 | .bool b=>.bool b
 | .int k n=>.int k n
 | .string s=>.str s
 | v=>.raw v
def gA:Value->AVal
 | .agg cs=>.agg (cs.toList.map sR)
 | .bool b=>.bool b
 | .int k n=>.int k n
 | .string s=>.str s
 | .func fn fs cs=>.func fn (fs.toList.map sR) (cs.toList.map sR)
 | v=>.raw v
def AVal.cells:AVal->List AVal
 | .agg cs=>cs
 | .raw v=>v.cells.toList.map .raw
 | a=>[a]
def AVal.told:AVal->Bool
 | .O =>false
 | _=>true
def AVal.atom:AVal->Bool
 | .O =>false
 | .agg _=>false
 | .tup _=>false
 | .raw v=>v.oneCell'
 | _=>true
def dM(tm:List AVal):Operand->AVal
 | .tmp t=>tm.getD t (.raw undef)
 | .const v=>gA v
 | .global g=>.raw (.pointer (some ⟨g,0,none⟩))
 | .func f=>.func (.func f) [] []
def eA(P:Program)(t:TypeId):Option Bool:=
 match P.underlying t with
 | some (.struct _)=>some true
 | some (.array _ _)=>some true
 | some _=>some false
 | none=>none
def bX(P:Program)(t:TypeId):Option Nat:=(P.info? t).map (·.size)
def apart(P:Program)(t:TypeId)(cs:List AVal)(off:Nat):Option AVal:=
 match eA P t,bX P t with
 | some true,some n=>some (.agg ((cs.drop off).take n))
 | some false,_=>cs[off]?
 | _,_=>none
def over:List AVal->Nat->List AVal->List AVal
 | cs,_,[]=>cs
 | cs,off,x::xs=>over (cs.set off x) (off+1) xs
def l7(place:Nat->Option (Nat×Nat))(cells:List AVal):List (Nat×AVal)->Option (List AVal)
 | []=>some cells
 | (i,v)::rest=>
   match place i with
   | none=>none
   | some (off,size)=>
     if (v.cells.length=size/\off+v.cells.length<=cells.length)/\v.told=true then l7 place (over cells off v.cells) rest else none
def lK(P:Program)(fs:Array Field)(i:Nat):Option (Nat×Nat):=
 match fs[i]? with
 | some f=>(bX P f.type).map fun n=>(f.offset,n)
 | none=>none
def ORes.pure(v:AVal):ORes A:= {v,upd:=[],new:=[],foot:=[],need:=none}
def ORes.pureIf(v:AVal)(p:Option Prop):ORes A:= {v,upd:=[],new:=[],foot:=[],need:=p}
def aeqF(P:Program)(rec:TypeId->AVal->AVal->Option Bool)(xs ys:List AVal):List Field->Option Bool
 | []=>some true
 | f::fs=>
   if f.name= "_" then aeqF P rec xs ys fs else
   match apart P f.type xs f.offset,apart P f.type ys f.offset with
   | some a,some b=>
     match rec f.type a b with
     | some r=>match aeqF P rec xs ys fs with
       | some q=>some (r&&q)
       | none=>none
     | none=>none
   | _,_=>none
def aeq(P:Program):Nat->TypeId->AVal->AVal->Option Bool
 | 0,_,_,_=>none
 | d+1,t,x,y=>
   match P.underlying t,x,y with
   | some .bool,.bool a,.bool b=>some (cond a b (!b))
   | some (.int _),.int k a,.int k' b=>if k=k' then some (ieq a b)else none
   | some .string,.str a,.str b=>some (seq a b)
   | some (.pointer _),.raw (.pointer none),.raw (.pointer none)=>some true
   | some (.pointer _),.raw (.pointer none),.ptr _ _=>some false
   | some (.pointer _),.ptr _ _,.raw (.pointer none)=>some false
   | some (.struct fs),.agg xs,.agg ys=>
     if P.stoodInHeld t then none else aeqF P (aeq P d) xs ys fs.toList
   | _,_,_=>none
def aCE(P:Program)(op:BinOp)(t:TypeId)(x y:AVal):Option (AVal×Option Prop):=
 match x,y with
 | .int k a,.int k' b=>
   match op with
   | .shl =>some (.int k (k.wrap (a*2^(min b.toNat k.bits))),some (0<=b))
   | .shr =>some (.int k (a.fdiv (2^(min b.toNat k.bits))),some (0<=b))
   | .add =>if k=k' then some (.int k (k.wrap (a+b)),none)else none
   | .sub =>if k=k' then some (.int k (k.wrap (a - b)),none)else none
   | .mul =>if k=k' then some (.int k (k.wrap (a*b)),none)else none
   | .quo =>if k=k' then some (.int k (k.wrap (a.tdiv b)),some (b≠0))else none
   | .rem =>if k=k' then some (.int k (a.tmod b),some (b≠0))else none
   | .and =>if k=k' then some (.int k (k.wrap (BitVec.ofInt k.bits a&&&BitVec.ofInt k.bits b).toNat),none)else none
   | .or =>if k=k' then some (.int k (k.wrap (BitVec.ofInt k.bits a|||BitVec.ofInt k.bits b).toNat),none)else none
   | .xor =>if k=k' then some (.int k (k.wrap (BitVec.ofInt k.bits a ^^^ BitVec.ofInt k.bits b).toNat),none)else none
   | .andNot =>if k=k' then some (.int k (k.wrap (BitVec.ofInt k.bits a&&& ~~~ BitVec.ofInt k.bits b).toNat),none)else none
   | .eql =>if k=k' then some (.bool (ieq a b),none)else none
   | .neq =>if k=k' then some (.bool (!ieq a b),none)else none
   | .lss =>if k=k' then some (.bool (ilt a b),none)else none
   | .leq =>if k=k' then some (.bool (ile a b),none)else none
   | .gtr =>if k=k' then some (.bool (ilt b a),none)else none
   | .geq =>if k=k' then some (.bool (ile b a),none)else none
 | .str a,.str b=>
   match op with
   | .add =>some (.str (a++b),some (a.size+b.size<=9223372036854775807))
   | .eql =>some (.bool (seq a b),none)
   | .neq =>some (.bool (!(seq a b)),none)
   | _=>none
 | x,y=>
   if P.eqGuardType P.depth t=true then none else
   match op with
   | .eql =>(aeq P 50 t x y).map fun r=>(.bool r,none)
   | .neq =>(aeq P 50 t x y).map fun r=>(.bool (!r),none)
   | _=>none
def rowA:List Code1->List Int->List AVal
 | [],_=>[]
 | k::ks,xs=>Code1.aval k (xs.headD 0)::rowA ks xs.tail
def lA(w:Nat)(row:List Int)(j:Nat)(ns:List Int):List Int:=
 (List.range w).map fun i=>if j<=i/\i<j+ns.length then ns.getD (i - j) 0 else row.getD i 0
def fP:Code1->AVal->Option Int
 | some k,.int k' n=>if k=k' then some n else none
 | none,.bool b=>some (cond b 1 0)
 | _,_=>none
def pI:List Code1->List AVal->Option (List Int)
 | [],[]=>some []
 | k::ks,v::vs=>match fP k v,pI ks vs with
   | some n,some ns=>some (n::ns)
   | _,_=>none
 | _,_=>none
def mZ(ks:List Code1):Nat->List AVal->Option (List (List Int))
 | 0,[]=>some []
 | 0,_::_=>none
 | n+1,vs=>match pI ks (vs.take ks.length),mZ ks n (vs.drop ks.length)with
   | some r,some rs=>some (r::rs)
   | _,_=>none
def F3(P:Program)(t:TypeId)(l r w j:Nat)(h:aB A):Option (ORes A):=
 match aK h l,eA P t,bX P t with
 | some (.tab ks rows),some true,some n=>
   if ks.length=w/\j+n<=w then some {v:=.agg (((rowA ks (rows.getD r [])).drop j).take n),upd:=[],new:=[],foot:=[l],need:=some (r<rows.length) } else none
 | some (.tab ks rows),some false,_=>
   if ks.length=w then
    match (rowA ks (rows.getD r []))[j]? with
    | some v=>some {v,upd:=[],new:=[],foot:=[l],need:=some (r<rows.length) }
    | none=>none
   else none
 | _,_,_=>none
def zL(P:Program)(t:TypeId)(l r w j:Nat)(x:AVal)(h:aB A):Option (ORes A):=
 match aK h l with
 | some (.tab ks rows)=>
   if bX P t=some x.cells.length/\ks.length=w/\j+x.cells.length<=w then
    match pI ((ks.drop j).take x.cells.length) x.cells with
    | some ns=>some {v:=.raw undef,upd:=[(l,some (.tab ks (rows.set r (lA w (rows.getD r []) j ns))))],new:=[],foot:=[l],need:=some (r<rows.length) }
    | none=>none
   else none
 | _=>none
def xY(P:Program)(t:TypeId)(l off:Nat)(h:aB A):Option (ORes A):=
 match aK h l,eA P t,bX P t with
 | some (.cells vs),some true,some n=>
   if off+n<=vs.length then some {v:=.agg ((vs.drop off).take n),upd:=[],new:=[],foot:=[l],need:=none} else none
 | some (.cells vs),some false,_=>
   match vs[off]? with
   | some v=>some {v,upd:=[],new:=[],foot:=[l],need:=none}
   | none=>none
 | some (.ints c xs),some false,_=>some {v:=c.aval (xs.getD off 0),upd:=[],new:=[],foot:=[l],need:=some (off<xs.length) }
 | _,_,_=>none
def F9(P:Program)(t:TypeId)(l off:Nat)(x:AVal)(h:aB A):Option (ORes A):=
 match aK h l with
 | some (.cells vs)=>
   if bX P t=some x.cells.length/\x.cells.all AVal.atom=true/\off+x.cells.length<=vs.length then
    some {v:=.raw undef,upd:=[(l,some (.cells (over vs off x.cells)))],new:=[],foot:=[l],need:=none}
   else none
 | some (.ints c xs)=>
   if bX P t=some 1 then
    match fP c x with
    | some n=>some {v:=.raw undef,upd:=[(l,some (.ints c (xs.set off n)))],new:=[],foot:=[l],need:=some (off<xs.length) }
    | none=>none
   else none
 | _=>none
def pQ(P:Program)(t:TypeId)(x i:AVal):Option (AVal×Option Prop):=
 match P.underlying t,x,i with
 | some (.slice e),.slice l off len _,.int _ n=>
   match bX P e with
   | some s=>some (.ptr l (off+n.toNat*s),some (0<=n/\n<len))
   | none=>none
 | some (.array len e),.ptr l off,.int _ n=>
   match bX P e with
   | some s=>some (.ptr l (off+n.toNat*s),some (0<=n/\n<len))
   | none=>none
 | some (.slice e),.iview c xs,.int _ n=>if bX P e=some 1 then some (.cptr [Code1.aval c (xs.getD n.toNat 0)],some (0<=n/\n<xs.length))else none
 | some (.slice e),.view m w row,.int _ n=>if bX P e=some w then some (.cptr (row n.toNat),some (0<=n/\n<m))else none
 | some (.slice e),.tslice l r m w,.int _ n=>if bX P e=some w then some (.tptr l (r+n.toNat) w 0,some (0<=n/\n<m))else none
 | some (.array len e),.tptr l r w j,.int _ n=>
   match bX P e with
   | some s=>some (.tptr l r w (j+n.toNat*s),some (0<=n/\n<len))
   | none=>none
 | some (.array len e),.cptr cs,.int _ n=>
   match bX P e with
   | some s=>some (.cptr (cs.drop (n.toNat*s)),some (0<=n/\n<len))
   | none=>none
 | _,_,_=>none
def eM(P:Program)(t:TypeId)(cs:List AVal):Option AVal:=
 match eA P t,bX P t with
 | some true,some n=>if n<=cs.length then some (.agg (cs.take n))else none
 | some false,_=>cs[0]?
 | _,_=>none
def F0(P:Program)(t:TypeId)(x i:AVal):Option (AVal×Option Prop):=
 match P.underlying t,x,i with
 | some (.array len e),.agg cs,.int _ n=>
   match bX P e with
   | some s=>(apart P e cs (n.toNat*s)).map fun v=>(v,some (0<=n/\n<len))
   | none=>none
 | some .string,.str s,.int _ n=>some (.int .u8 ((s.data.getD n.toNat 0).toNat :Int),some (0<=n/\n.toNat<s.size))
 | _,_,_=>none
def AVal.isSlice:AVal->Bool
 | .slice _ _ _ _=>true
 | .tslice _ _ _ _=>true
 | .iview _ _=>true
 | .view _ _ _=>true
 | .empty =>true
 | .raw (.slice none 0 0)=>true
 | _=>false
def F7(P:Program)(t:TypeId)(x:AVal)(lo hi mx:Option AVal):Option (AVal×Option Prop):=
 match P.underlying t,x,mx with
 | some (.slice e),x,some (.int _ m)=>
   match bX P e,lo,hi with
   | some _,none,some (.int _ b)=>if x.isSlice=true then some (.empty,some (b=0/\m=0))else none
   | _,_,_=>none
 | some (.slice e),.tslice l r n w,none=>
   if bX P e=some w then
    match lo,hi with
    | none,none=>some (.tslice l r n w,none)
    | some (.int _ a),none=>some (.tslice l (r+a.toNat) (n - a.toNat) w,some (0<=a/\a.toNat<=n))
    | none,some (.int _ b)=>some (.tslice l r b.toNat w,some (0<=b/\b.toNat<=n))
    | some (.int _ a),some (.int _ b)=>some (.tslice l (r+a.toNat) (b.toNat - a.toNat) w,some (0<=a/\a.toNat<=b.toNat/\0<=b/\b.toNat<=n))
    | _,_=>none
   else none
 | some (.slice e),.slice l off len sz,none=>
   match bX P e,lo,hi with
   | some s,none,none=>if s=sz then some (.slice l off len sz,none)else none
   | some s,some (.int _ a),none=>if s=sz then some (.slice l (off+a.toNat*sz) (len - a.toNat) sz,some (0<=a/\a.toNat<=len))else none
   | some s,none,some (.int _ b)=>if s=sz then some (.slice l off b.toNat sz,some (0<=b/\b.toNat<=len))else none
   | some s,some (.int _ a),some (.int _ b)=>if s=sz then some (.slice l (off+a.toNat*sz) (b.toNat - a.toNat) sz,some (0<=a/\a.toNat<=b.toNat/\0<=b/\b.toNat<=len))else none
   | _,_,_=>none
 | some (.slice e),.iview c xs,none=>
   if bX P e=some 1 then
    match lo,hi with
    | none,none=>some (.iview c xs,none)
    | some (.int _ a),none=>some (.iview c (xs.drop a.toNat),some (0<=a/\a.toNat<=xs.length))
    | none,some (.int _ b)=>some (.iview c (xs.take b.toNat),some (0<=b/\b.toNat<=xs.length))
    | some (.int _ a),some (.int _ b)=>some (.iview c ((xs.take b.toNat).drop a.toNat),some (0<=a/\a.toNat<=b.toNat/\0<=b/\b.toNat<=xs.length))
    | _,_=>none
   else none
 | some (.slice e),.view m w row,none=>
   if bX P e=some w then
    match lo,hi with
    | none,none=>some (.view m w row,none)
    | some (.int _ a),none=>some (.view (m - a.toNat) w (fun i=>row (a.toNat+i)),some (0<=a/\a.toNat<=m))
    | none,some (.int _ b)=>some (.view b.toNat w row,some (0<=b/\b.toNat<=m))
    | some (.int _ a),some (.int _ b)=>some (.view (b.toNat - a.toNat) w (fun i=>row (a.toNat+i)),some (0<=a/\a.toNat<=b.toNat/\0<=b/\b.toNat<=m))
    | _,_=>none
   else none
 | some .string,.str s,none=>
   match lo,hi with
   | none,none=>some (.str (s.extract 0 s.size),none)
   | some (.int _ a),none=>some (.str (s.extract a.toNat s.size),some (0<=a/\a.toNat<=s.size))
   | none,some (.int _ b)=>some (.str (s.extract 0 b.toNat),some (0<=b/\b.toNat<=s.size))
   | some (.int _ a),some (.int _ b)=>some (.str (s.extract a.toNat b.toNat),some (0<=a/\a.toNat<=b.toNat/\0<=b/\b.toNat<=s.size))
   | _,_=>none
 | _,_,_=>none
def sF(P:Program)(t:TypeId)(x:AVal)(lo hi mx:Option AVal)(h:aB A):Option (ORes A):=
 match P.underlying t,x,mx with
 | some (.array n e),.ptr l off,none=>
   match bX P e,aK h l with
   | some s,some (.cells vs)=>
     if off+n*s<=vs.length then
      match lo,hi with
      | none,none=>some {v:=.slice l off n s,upd:=[],new:=[],foot:=[l],need:=none}
      | none,some (.int _ b)=>some {v:=.slice l off b.toNat s,upd:=[],new:=[],foot:=[l],need:=some (0<=b/\b.toNat<=n) }
      | some (.int _ a),none=>some {v:=.slice l (off+a.toNat*s) (n - a.toNat) s,upd:=[],new:=[],foot:=[l],need:=some (0<=a/\a.toNat<=n) }
      | _,_=>none
     else none
   | _,_=>none
 | _,_,_=>none
def aBE(P:Program)(src dst:TypeId)(x:AVal):Option AVal:=
 match P.underlying src,P.underlying dst,x with
 | some _,some (.int k),.int _ n=>some (.int k (k.wrap n))
 | some _,some .string,.str s=>some (.str s)
 | _,_,_=>none
def aun(op:UnOp)(x:AVal):Option AVal:=
 match op,x with
 | .not,.bool b=>some (.bool !b)
 | .neg,.int k n=>some (.int k (k.wrap (0 - n)))
 | _,_=>none
def aBJ(c x y:AVal):Option AVal:=
 match c,x,y with
 | .bool b,.bool p,.bool q=>some (.bool (cond b p q))
 | .bool b,x,y=>some (cond b x y)
 | _,_,_=>none
def oO(x:AVal):Option AVal:=
 match x with
 | .ptr l off=>some (.ptr l off)
 | .cptr cs=>some (.cptr cs)
 | .tptr l r w j=>some (.tptr l r w j)
 | .iface t v=>some (.iface t v)
 | .func (.func f) a b=>some (.func (.func f) a b)
 | _=>none
def x5(P:Program)(t:TypeId):Option AVal:=((P.info? t).bind (·.zero)).map gA
def FY(P:Program)(t:TypeId)(parts:List (Nat×AVal)):Option AVal:=
 match x5 P t,P.underlying t with
 | some z,some (.struct fs)=>if fs.toList.all (fun f=>(bX P f.type).isSome)=true then(l7 (lK P fs) z.cells parts).map .agg else none
 | some z,some (.array _ e)=>
   match bX P e with
   | some s=>(l7 (fun i=>some (i*s,s)) z.cells parts).map .agg
   | none=>none
 | _,_=>none
def nK(P:Program)(t:TypeId)(len:Nat)(parts:List (Nat×AVal))(h:aB A):Option (ORes A):=
 match P.underlying t with
 | some (.slice e)=>
   match bX P e,x5 P e with
   | some s,some z=>
     if len*s<=16777216/\z.cells.length=s/\0<s then
      match l7 (fun i=>some (i*s,s)) ((List.range (len*s)).map fun j=>z.cells.getD (j%s) (.raw undef)) parts with
      | some cs=>some {v:=cond (Nat.beq len 0) .empty (.slice h.length 0 len s),upd:=[],new:=[.cells cs],foot:=[],need:=none}
      | none=>none
     else none
   | _,_=>none
 | _=>none
def oP(r:Option (AVal×Option Prop)):Option (ORes A):=r.map fun x=>ORes.pureIf x.1 x.2
def fN(r:Option AVal):Option (ORes A):=r.map fun x=>ORes.pure x
def uW(P:Program)(s:TypeId)(x:AVal)(f:Nat):Option AVal:=
 match P.underlying s,x with
 | some (.struct fs),.ptr l off=>
   match fs[f]? with
   | some fd=>match bX P fd.type with
     | some (_+1)=>some (.ptr l (off+fd.offset))
     | _=>none
   | none=>none
 | some (.struct fs),.cptr cs=>
   match fs[f]? with
   | some fd=>match bX P fd.type with
     | some (_+1)=>some (.cptr (cs.drop fd.offset))
     | _=>none
   | none=>none
 | some (.struct fs),.tptr l r w j=>
   match fs[f]? with
   | some fd=>match bX P fd.type with
     | some (_+1)=>some (.tptr l r w (j+fd.offset))
     | _=>none
   | none=>none
 | _,_=>none
def PW(P:Program)(s:TypeId)(x:AVal)(f:Nat):Option AVal:=
 match P.underlying s,x with
 | some (.struct fs),.agg cs=>
   match fs[f]? with
   | some fd=>apart P fd.type cs fd.offset
   | none=>none
 | _,_=>none
def fZ:AVal->Bool
 | .raw (.slice none 0 0)=>true
 | _=>false
def jR(lt:Int->Int->Bool):AVal->List AVal->Option AVal
 | .int k n,[]=>some (.int k n)
 | .int k n,.int k' m::rest=>if k=k' then jR lt (.int k (cond (lt m n) m n)) rest else none
 | _,_=>none
def gU(c:Code1):List AVal->Option (List Int)
 | []=>some []
 | x::xs=>match fP c x,gU c xs with
   | some n,some ns=>some (n::ns)
   | _,_=>none
def lG(x:AVal)(sz:Nat)(h:aB A):Option (aG A×Nat×List Nat×Option Prop):=
 match x with
 | .slice l off n s=>
   if s=sz then
    match aK h l with
    | some (.ints c xs)=>if sz=1 then some (.ints c ((xs.drop off).take n),n,[l],some (off+n<=xs.length))else none
    | some (.cells vs)=>if off+n*sz<=vs.length/\((vs.drop off).take (n*sz)).all AVal.atom=true then some (.cells ((vs.drop off).take (n*sz)),n,[l],none)else none
    | _=>none
   else none
 | .iview c xs=>if sz=1 then some (.ints c xs,xs.length,[],none)else none
 | .tslice l r n w=>if w=sz then
    match aK h l with
    | some (.tab ks rows)=>if ks.length=w then some (.tab ks ((rows.drop r).take n),n,[l],some (r+n<=rows.length))else none
    | _=>none
   else none
 | .empty =>some (.cells [],0,[],none)
 | x=>if fZ x then some (.cells [],0,[],none)else none
def nL:aG A->aG A->Option (aG A)
 | .ints c xs,.ints c' ys=>if c=c' then some (.ints c (xs++ys))else none
 | .ints c xs,.cells vs=>(gU c vs).map fun ys=>.ints c (xs++ys)
 | .cells vs,.ints c ys=>(gU c vs).map fun xs=>.ints c (xs++ys)
 | .cells vs,.cells ws=>some (.cells (vs++ws))
 | .tab ks xs,.tab ks' ys=>if ks=ks' then some (.tab ks (xs++ys))else none
 | .tab ks xs,.cells vs=>(mZ ks (vs.length / ks.length) vs).map fun ys=>.tab ks (xs++ys)
 | _,_=>none
def zF(P:Program)(st xt:TypeId)(s x:AVal)(h:aB A):Option (ORes A):=
 match P.underlying st,P.underlying xt with
 | some (.slice e),some (.slice _)=>
   match P.info? e with
   | some i=>
     if 0<i.size/\i.bytes<=4096/\(i.zero.map fun z=>(gA z).cells.length)=some i.size then
      match lG x i.size h with
      | some (ey,m,lx,p)=>
        match s with
        | .slice l off n sz=>
          if sz=i.size/\lx.contains l=false then
           match aK h l with
           | some (.ints c xs)=>
             match nL (.ints c xs) ey with
             | some e'=>some {v:=.slice h.length 0 (n+m) sz,upd:=[(l,none)],new:=[e'],foot:=l::lx,need:=n8 p (off=0/\n=xs.length/\sz=1/\n+m<=4294967296) }
             | none=>none
           | some (.cells vs)=>
             if off=0/\n*sz=vs.length then
              match nL (.cells vs) ey with
              | some e'=>some {v:=.slice h.length 0 (n+m) sz,upd:=[(l,none)],new:=[e'],foot:=l::lx,need:=n8 p (n+m<=4294967296) }
              | none=>none
             else none
           | _=>none
          else none
        | .tslice l r n w=>
          if w=i.size/\lx.contains l=false then
           match aK h l with
           | some (.tab ks rows)=>
             if ks.length=w then
              match nL (.tab ks rows) ey with
              | some e'=>some {v:=.tslice h.length 0 (n+m) w,upd:=[(l,none)],new:=[e'],foot:=l::lx,need:=n8 p (r=0/\n=rows.length/\n+m<=4294967296) }
              | none=>none
             else none
           | _=>none
          else none
        | .empty =>
           match ey with
           | .cells []=>some {v:=.empty,upd:=[],new:=[],foot:=lx,need:=n8 p (m=0) }
           | .tab ks ys=>if ks.length=i.size then some {v:=.tslice h.length 0 m i.size,upd:=[],new:=[.tab ks ys],foot:=lx,need:=n8 p (m<=4294967296) } else none
           | ey=>some {v:=.slice h.length 0 m i.size,upd:=[],new:=[ey],foot:=lx,need:=n8 p (m<=4294967296) }
        | s=>if fZ s then
           match ey with
           | .cells []=>some {v:=.raw (.slice none 0 0),upd:=[],new:=[],foot:=lx,need:=n8 p (m=0) }
           | .tab ks ys=>if ks.length=i.size then some {v:=.tslice h.length 0 m i.size,upd:=[],new:=[.tab ks ys],foot:=lx,need:=n8 p (m<=4294967296) } else none
           | ey=>some {v:=.slice h.length 0 m i.size,upd:=[],new:=[ey],foot:=lx,need:=n8 p (m<=4294967296) }
          else none
      | none=>none
     else none
   | none=>none
 | _,_=>none
def aCI(P:Program)(t:TypeId)(x:AVal):Option AVal:=
 match P.underlying t,x with
 | some .string,.str s=>some (.int .i64 (s.size:Int))
 | some (.slice _),.slice _ _ n _=>some (.int .i64 (n:Int))
 | some (.slice _),.raw (.slice _ n _)=>some (.int .i64 (n:Int))
 | some (.slice _),.iview _ xs=>some (.int .i64 (xs.length:Int))
 | some (.slice _),.view n _ _=>some (.int .i64 (n:Int))
 | some (.slice _),.tslice _ _ n _=>some (.int .i64 (n:Int))
 | some (.slice _),.empty =>some (.int .i64 0)
 | some (.array n _),_=>some (.int .i64 (n:Int))
 | _,_=>none
def oB(xs:List Int)(off:Nat)(ys:List Int):List Int:=xs.take off++ys++xs.drop (off+ys.length)
def PU(P:Program)(dt:TypeId)(d x:AVal)(h:aB A):Option (ORes A):=
 match P.underlying dt with
 | some (.slice e)=>
   match bX P e,d with
   | some 1,.slice l off n 1=>
     match aK h l,lG x 1 h with
     | some (.ints c xs),some (.ints c' ys,m,lx,p)=>
       if c=c'/\lx.contains l=false then
        some {v:=.int .i64 (min m n:Nat),upd:=[(l,some (.ints c (oB xs off (ys.take (min m n)))))],new:=[],foot:=l::lx,need:=n8 p (off+n<=xs.length) }
       else none
     | some (.ints _ _),some (.cells [],0,_,_)=>some {v:=.int .i64 0,upd:=[],new:=[],foot:=[l],need:=none}
     | _,_=>none
   | _,_=>none
 | _=>none
def PY(P:Program)(t:TypeId)(x:AVal)(h:aB A):Option (ORes A):=
 match P.underlying t,x with
 | some (.map _ _),.map l=>(match aK h l with
   | some (.imap _ _ m)=>some {v:=.int .i64 (m.length:Int),upd:=[],new:=[],foot:=[l],need:=none}
   | _=>none)
 | _,_=>none
def I8(s x:AVal)(h:aB A):Bool:=cond (fZ s) (match x with
 | .slice lx _ _ _=>match aK h lx with
   | some (.cells [v])=>v.isSlice
   | _=>false
 | _=>false) false
def BH(P:Program)(b:Builtin)(ts:List TypeId)(xs:List AVal)(h:aB A):Option (ORes A):=
 match b,ts,xs with
 | .len,[t],[x]=>(match aCI P t x with
   | some v=>fN (some v)
   | none=>PY P t x h)
 | .min,_,x::xs=>fN (jR (fun m n=>ilt m n) x xs)
 | .max,_,x::xs=>fN (jR (fun m n=>ilt n m) x xs)
 | .append,[st,xt],[s,x]=>cond (I8 s x h) none (zF P st xt s x h)
 | .copy,[dt,_],[d,x]=>PU P dt d x h
 | _,_,_=>none
def sL:Value->Option Code1
 | .int k 0=>some (some k)
 | .bool false=>some none
 | _=>none
def DW:Value->Bool
 | .pointer none=>true
 | .slice none 0 0=>true
 | _=>false
def pR(P:Program)(t:TypeId)(n m:AVal)(h:aB A):Option (ORes A):=
 match P.underlying t,n,m with
 | some (.slice e),.int _ n,.int _ m=>
   match P.info? e with
   | some i=>
     if i.bytes<=4096/\0<i.size then
      match i.zero with
      | some z=>
        match sL z with
        | some c=>if i.size=1 then some {v:=.slice h.length 0 n.toNat 1,upd:=[],new:=[.ints c (List.replicate n.toNat 0)],foot:=[],need:=some (0<=n/\n=m/\n<=4294967296) } else none
        | none=>cond (DW z) none (some {v:=.slice h.length 0 n.toNat i.size,upd:=[],new:=[.cells ((List.replicate n.toNat (gA z).cells).flatten)],foot:=[],need:=some ((0<=n/\n=m/\n<=4294967296)/\(gA z).cells.length =i.size) })
      | none=>none
     else none
   | none=>none
 | _,_,_=>none
def mget(m:List (Int×Int))(k:Int):Option Int:=(m.find? fun x=>x.1 == k).map (·.2)
def dV:List (Int×Int)->Int->Int->List (Int×Int)
 | [],k,v=>[(k,v)]
 | x::m,k,v=>if x.1=k then(k,v)::m else x::dV m k v
def zH(P:Program)(t:TypeId)(x i:AVal)(ck:Bool)(h:aB A):Option (ORes A):=
 match P.underlying t,x,i with
 | some (.map kt vt),.map l,.int kk n=>
   match P.underlying kt,aK h l with
   | some (.int _),some (.imap kk' vc m)=>
     if kk=kk'/\((P.info? vt).bind (·.zero)).bind sL=some vc then
      some {v:=if ck then .tup [Code1.aval vc ((mget m n).getD 0),.bool (mget m n).isSome]else Code1.aval vc ((mget m n).getD 0),upd:=[],new:=[],foot:=[l],need:=none}
     else none
   | _,_=>none
 | _,_,_=>none
def pS(P:Program)(t:TypeId)(x i y:AVal)(h:aB A):Option (ORes A):=
 match P.underlying t,x,i with
 | some (.map kt _),.map l,.int kk n=>
   match P.underlying kt,aK h l with
   | some (.int _),some (.imap kk' vc m)=>
     if kk=kk' then
      match fP vc y with
      | some v=>some {v:=.raw undef,upd:=[(l,some (.imap kk vc (dV m n v)))],new:=[],foot:=[l],need:=none}
      | none=>none
     else none
   | _,_=>none
 | _,_,_=>none
def u4(P:Program)(t:TypeId)(h:aB A):Option (ORes A):=
 match P.underlying t with
 | some (.map kt vt)=>
   match P.underlying kt,(P.info? vt).bind (·.zero)with
   | some (.int kk),some z=>match sL z with
     | some vc=>some {v:=.map h.length,upd:=[],new:=[.imap kk vc []],foot:=[],need:=none}
     | none=>none
   | _,_=>none
 | _=>none
def aop(P:Program)(Z:Operand->AVal)(op:Op)(h:aB A):Option (ORes A):=
 match op with
 | .move x=>some (.pure (Z x))
 | .assign x=>some (.pure (Z x))
 | .pick c a b=>fN (aBJ (Z c) (Z a) (Z b))
 | .alloc e=>match x5 P e with
   | some z=>some {v:=.ptr h.length 0,upd:=[],new:=[.cells z.cells],foot:=[],need:=none}
   | none=>none
 | .box _ x=>if (Z x).told =true then some {v:=.ptr h.length 0,upd:=[],new:=[.cells (Z x).cells],foot:=[],need:=none} else none
 | .build t parts=>fN (FY P t (parts.toList.map fun x=>(x.1,Z x.2)))
 | .buildSlice t len parts=>nK P t len (parts.toList.map fun x=>(x.1,Z x.2)) h
 | .load t a=>match Z a with
   | .ptr l off=>xY P t l off h
   | .cptr cs=>fN (eM P t cs)
   | .tptr l r w j=>F3 P t l r w j h
   | _=>none
 | .store t a x=>match Z a with
   | .ptr l off=>F9 P t l off (Z x) h
   | .tptr l r w j=>zL P t l r w j (Z x) h
   | _=>none
 | .nilCheck x=>fN (oO (Z x))
 | .binOp op t x y _=>oP (aCE P op t (Z x) (Z y))
 | .unOp op _ x=>fN (aun op (Z x))
 | .convert src dst x=>fN (aBE P src dst (Z x))
 | .makeInterface t x=>match P.underlying t with
   | some (.interface _)=>none
   | some _=>some (.pure (.iface t (Z x)))
   | none=>none
 | .makeFunc fn first caps=>some (.pure (.func fn (first.toList.map Z) (caps.toList.map Z)))
 | .slice t x lo hi mx=>match P.underlying t with
   | some (.array _ _)=>sF P t (Z x) (lo.map Z) (hi.map Z) (mx.map Z) h
   | _=>oP (F7 P t (Z x) (lo.map Z) (hi.map Z) (mx.map Z))
 | .fieldAddr s x f=>fN (uW P s (Z x) f)
 | .field s x f=>fN (PW P s (Z x) f)
 | .indexAddr t x i=>oP (pQ P t (Z x) (Z i))
 | .index t x i=>oP (F0 P t (Z x) (Z i))
 | .extract x i=>match Z x with
   | .tup vs=>fN vs[i]?
   | _=>none
 | .makeSlice t n m=>pR P t (Z n) (Z m) h
 | .makeMap t none=>u4 P t h
 | .lookup t x i ck=>zH P t (Z x) (Z i) ck h
 | .mapUpdate t m k v=>pS P t (Z m) (Z k) (Z v) h
 | .call c=>match c.callee with
   | .builtin b=>BH P b c.argTypes.toList (c.args.toList.map Z) h
   | _=>none
 | _=>none
end Go.Sh
namespace Go.Sh
open Go
variable [Con] {A:Type} {I:Itp A}
theorem IB(V:Val)(v:Value):Rep V (sR v) v:=by
 cases v<;>simp [sR,Rep]
theorem jW(V:Val): ∀l:List Value,aH V (l.map sR) l
 | []=>by simp [aH]
 | v::l=>⟨v,l,rfl,IB V v,jW V l⟩
theorem yT(V:Val)(v:Value):Rep V (gA v) v:=by
 cases v with
 | agg cs=>exact⟨cs,rfl,jW V _⟩
 | func fn fs cs=>exact⟨fs,cs,rfl,jW V _,jW V _⟩
 | _=>simp [gA,Rep]
theorem ES(V:Val): ∀l:List Value,aH V (l.map .raw) l
 | []=>by simp [aH]
 | v::l=>⟨v,l,rfl,by simp [Rep],ES V l⟩
theorem mD{V:Val}{a:AVal}{v:Value}(h:Rep V a v)(ht:a.told=true):aH V a.cells v.cells.toList:=by
 have one: ∀(a:AVal) (v:Value),Rep V a v->v.cells= #[v]->aH V [a] v.cells.toList:=by
  intro a v h e;rw [e];exact⟨v,[],rfl,h,by simp [aH]⟩
 cases a with
 | agg as=>obtain⟨cs,e,r⟩:=h;subst e;exact r
 | raw v'=>have:v=v':=h;subst this;exact ES V _
 | tup as=>have h':=h;obtain⟨cs,e,r⟩:=h;subst e;exact one _ _ h' rfl
 | bool b=>have h':=h;have:v=.bool b:=h;subst this;exact one _ _ h' rfl
 | int k n=>have h':=h;have:v=.int k n:=h;subst this;exact one _ _ h' rfl
 | str s=>have h':=h;have:v=.string s:=h;subst this;exact one _ _ h' rfl
 | ptr l off=>have h':=h;obtain⟨b,k,_,e⟩:=h;subst e;exact one _ _ h' rfl
 | slice l off len sz=>have h':=h;obtain⟨b,c,e,_⟩:=h;subst e;exact one _ _ h' rfl
 | map l=>have h':=h;obtain⟨b,k,_,e⟩:=h;subst e;exact one _ _ h' rfl
 | func fn f c=>have h':=h;obtain⟨b,k,e,_⟩:=h;subst e;exact one _ _ h' rfl
 | iface t x=>have h':=h;obtain⟨b,e,_⟩:=h;subst e;exact one _ _ h' rfl
 | iview c xs=>have h':=h;obtain⟨b,c,e,_⟩:=h;subst e;exact one _ _ h' rfl
 | view n w row=>have h':=h;obtain⟨b,c,e,_⟩:=h;subst e;exact one _ _ h' rfl
 | cptr as=>have h':=h;obtain⟨b,off,cs,T,g,e,_⟩:=h;subst e;exact one _ _ h' rfl
 | tslice l r n w=>have h':=h;obtain⟨b,c,e,_⟩:=h;subst e;exact one _ _ h' rfl
 | tptr l r w j=>have h':=h;obtain⟨b,k,_,e⟩:=h;subst e;exact one _ _ h' rfl
 | empty=>have h':=h;obtain⟨b,e⟩:=h;subst e;exact one _ _ h' rfl
 | any=>
   have h':v.oneCell'=true:=h;refine one _ _ h ?_;cases v<;>first | rfl | cases h'
 | O=>cases ht
theorem H1(v:Value):(gA v).told =true:=by cases v<;>rfl
theorem dC(V:Val)(v:Value):aH V (gA v).cells v.cells.toList:=mD (yT V v) (H1 v)
theorem UG{V:Val}{a:AVal}{v:Value}(h:Rep V a v)(ha:a.atom=true):v.oneCell'=true:=by
 cases a with
 | agg as=>cases ha
 | tup as=>cases ha
 | raw v'=>have:v=v':=h;subst this;exact ha
 | bool b=>have:v=.bool b:=h;subst this;rfl
 | int k n=>have:v=.int k n:=h;subst this;rfl
 | str s=>have:v=.string s:=h;subst this;rfl
 | ptr l off=>obtain⟨b,k,_,e⟩:=h;subst e;rfl
 | slice l off len sz=>obtain⟨b,c,e,_⟩:=h;subst e;rfl
 | map l=>obtain⟨b,k,_,e⟩:=h;subst e;rfl
 | func fn f c=>obtain⟨b,k,e,_⟩:=h;subst e;rfl
 | iface t x=>obtain⟨b,e,_⟩:=h;subst e;rfl
 | any=>exact h
 | iview c xs=>obtain⟨b,c,e,_⟩:=h;subst e;rfl
 | view n w row=>obtain⟨b,c,e,_⟩:=h;subst e;rfl
 | cptr as=>obtain⟨b,off,cs,T,g,e,_⟩:=h;subst e;rfl
 | tslice l r n w=>obtain⟨b,c,e,_⟩:=h;subst e;rfl
 | tptr l r w j=>obtain⟨b,k,_,e⟩:=h;subst e;rfl
 | empty=>obtain⟨b,e⟩:=h;subst e;rfl
 | O=>cases ha
theorem aLR(V:Val)(c:Code1)(n:Int):Rep V (c.aval n) (c.val n):=by
 cases c<;>simp [Code1.aval,Code1.val,Rep]
theorem cG{h:aB A}{k:aB A}{l:Nat}(hl:l<h.length):aK (h++k) l=aK h l:=by
 simp [aK,List.getD,List.getElem?_append_left hl]
theorem cC{h:aB A}{l:Nat}(hl:h.length<=l):aK h l=none:=by
 simp [aK,List.getD,List.getElem?_eq_none hl]
theorem cD{h:aB A}{l:Nat}{e:aG A}(hl:aK h l=some e):l<h.length:=by
 cases Nat.lt_or_ge l h.length with
 | inl h=>exact h
 | inr g=>rw [cC g]at hl;cases hl
theorem fS(h:aB A)(e:aG A):toF (h++ [some e])=(toF h).put h.length (some e):=by
 funext l;show aK (h++ [some e]) l=if l=h.length then some e else aK h l
 by_cases hl:l=h.length
 ·subst hl;simp [aK,List.getD]
 ·rw [if_neg hl];cases Nat.lt_or_ge l h.length with
  | inl g=>exact cG g
  | inr g=>rw [cC (by simp;omega),cC g]
theorem fW{h:aB A}{l:Nat}(e:Option (aG A))(hl:l<h.length):toF (h.set l e)=(toF h).put l e:=by
 funext m;show aK (h.set l e) m=if m=l then e else aK h m
 by_cases hm:m=l
 ·subst hm;simp [aK,List.getD,hl]
 ·rw [if_neg hm];simp [aK,List.getD,List.getElem?_set_ne (Ne.symm hm)]
def dL(I:Itp A)(P:Program)(V:Val)(n:Nat)(hR:PHeap)(w:World)(v:AVal)(h':aY A)(k:Nat)(s:Sem Next):Prop:=
 ∃nx w' V' v',s.run P w=.ok nx w'/\(nx=.value v'\/nx=.skip /\v'=undef)/\V.le V'/\
  (∀l,V l=none->V' l≠none->n<=l/\l<n+k)/\Rep V' v v'/\Inv I V' h' hR w'/\bN w w'
theorem dL.pure{P:Program}{V:Val}{n:Nat}{hR:PHeap}{w:World}{v:AVal}{h:aY A}{s:Sem Next}{v':Value}
 (hi:Inv I V h hR w) (hr:Rep V v v') (hs:s.run P w=.ok (.value v') w):dL I P V n hR w v h 0 s:=
 ⟨_,w,V,v',hs,.inl rfl,V.le_refl,fun l e h=>(h e).elim,hr,hi,aLu w⟩
section
variable {P:Program} {V:Val} {w:World}
theorem aV{t:TypeId}{n:Nat}(h:bX P t=some n):(sizeOf t).run P w=.ok n w:=by
 unfold bX at h;cases e:P.info? t with
 | none=>rw [e]at h;cases h
 | some i=>
   rw [e]at h;simp at h;simp [sizeOf,typeInfo,e,h]
theorem eB{t:TypeId}{b:Bool}(h:eA P t=some b):(isAgg t).run P w=.ok b w:=by
 unfold eA at h;simp only [isAgg,underlying];cases e:P.underlying t with
 | none=>rw [e]at h;cases h
 | some d=>
   rw [e]at h;cases d<;>simp at h<;>subst h<;>simp [e]
theorem oS{t:TypeId}{z:AVal}(h:x5 P t=some z): ∃v,z=gA v/\(zeroValue t).run P w=.ok v w:=by
 unfold x5 at h;cases e:P.info? t with
 | none=>rw [e]at h;cases h
 | some i=>
   rw [e]at h;cases g:i.zero with
   | none=>simp [g]at h
   | some v=>
     simp [g]at h;exact⟨v,h.symm,by simp [zeroValue,typeInfo,e,g]⟩
theorem oR{t:TypeId}{cs:List AVal}{off:Nat}{v:AVal}{xs:Array Value}(hp:apart P t cs off=some v)(hr:aH V cs xs.toList):
 ∃v',(part t xs off).run P w=.ok v' w/\Rep V v v':=by
 unfold apart at hp;cases e1:eA P t with
 | none=>simp [e1]at hp
 | some b=>
   cases b with
   | true=>
     cases g:bX P t with
     | none=>simp [e1,g]at hp
     | some n=>
       simp [e1,g]at hp;subst hp;refine⟨.agg (xs.extract off (off+n)),by simp [part,eB e1,aV g],?_⟩
       refine⟨_,rfl,?_⟩;rw [Array.toList_extract];have:=(aH.take (aH.drop hr off) n)
       have e:xs.toList.extract off (off+n)=List.take n (List.drop off xs.toList):=by
        simp [List.extract]
       rw [e];exact this
   | false=>
     simp [e1]at hp;obtain⟨y,hy,r⟩:=aH.get hr off v hp;refine⟨y,?_,r⟩;have:xs[off]? =some y:=by rw [<-Array.getElem?_toList];exact hy
     simp [part,eB e1,this]
theorem tS: ∀(xs cs:List AVal) (off:Nat),(over cs off xs).length =cs.length
 | [],_,_=>rfl
 | x::xs,cs,off=>by simp [over,tS xs]
def dT:List Value->Nat->List Value->List Value
 | cs,_,[]=>cs
 | cs,off,x::xs=>dT (cs.set off x) (off+1) xs
theorem wJ: ∀ {xs:List AVal} {ys:List Value} {cs:List AVal} {ds:List Value} (off:Nat),aH V xs ys->aH V cs ds->aH V (over cs off xs) (dT ds off ys)
 | [],_,_,_,_,r,s=>by rw [r];exact s
 | x::xs,_,cs,ds,off,⟨v,vs,e,r,s⟩,t=>by
   subst e;exact wJ (off+1) s (aH.set t off x v r)
theorem gN: ∀(ys ds tl:List Value) (off:Nat),off+ys.length<=ds.length->dT (ds++tl) off ys=dT ds off ys++tl
 | [],_,_,_,_=>rfl
 | y::ys,ds,tl,off,h=>by
   simp only [List.length_cons]at h;simp only [dT];rw [List.set_append_left _ _ (by omega)]
   exact gN ys (ds.set off y) tl (off+1) (by simp;omega)
theorem eF: ∀(ys ds:List Value) (off:Nat),(dT ds off ys).length =ds.length
 | [],_,_=>rfl
 | y::ys,ds,off=>by simp [dT,eF ys]
theorem D9(ys:List Value): ∀(j:Nat) (cs:Array Value) (off:Nat),
 ((ys.zipIdx j).foldl (fun cs (c,i)=>cs.setIfInBounds (off+i) c) cs).toList =dT cs.toList (off+j) ys:=by
 induction ys with
 | nil=>intro j cs off;rfl
 | cons y ys ih=>
   intro j cs off;simp only [List.zipIdx_cons,List.foldl_cons,dT];rw [ih (j+1) _ off];simp [Nat.add_assoc]
theorem G6(v:Value)(cells:Array Value)(off:Nat):
 (v.cells.zipIdx.foldl (fun cs (c,j)=>cs.setIfInBounds (off+j) c) cells).toList =dT cells.toList off v.cells.toList:=by
 have:=D9 v.cells.toList 0 cells off;simp only [Nat.add_zero]at this;rw [<-this,<-Array.foldl_toList]
 simp
inductive FV (V:Val):List (Nat×AVal)->List (Nat×Value)->Prop
 | nil:FV V [] []
 | cons {i:Nat} {a:AVal} {v:Value} {as vs} :Rep V a v->FV V as vs->FV V ((i,a)::as) ((i,v)::vs)
theorem oN{place:Nat->Option (Nat×Nat)} : ∀ {ps:List (Nat×AVal)} {qs:List (Nat×Value)} {cs:List AVal} {ds:Array Value} {out:List AVal},
 FV V ps qs->aH V cs ds.toList->l7 place cs ps=some out-> ∃out',Instr.fill place ds qs=some out'/\aH V out out'.toList
 | [],_,cs,ds,out,.nil,r,h=>by
   simp [l7]at h;subst h;exact⟨ds,rfl,r⟩
 | (i,a)::ps,_,cs,ds,out,.cons (v:=v) (vs:=vs) ra rp,r,h=>by
   simp only [l7]at h;cases hp:place i with
   | none=>rw [hp]at h;cases h
   | some x=>
     obtain⟨off,size⟩:=x;rw [hp]at h;simp only at h;split at h
     ·rename_i hc;obtain⟨hc,hct⟩:=hc;have rc:=mD ra hct;have hlen:v.cells.size=a.cells.length:=by rw [<-Array.length_toList];exact aH.length rc
      have g:ds.size=cs.length:=by rw [<-Array.length_toList];exact aH.length r
      have r2:=wJ (cs:=cs) off rc r;rw [<-G6 v ds off]at r2;obtain⟨out',h1,h2⟩:=oN rp r2 h;refine⟨out',?_,h2⟩;simp only [Instr.fill,hp];rw [if_neg (by simp;omega)]
      exact h1
     ·cases h
end
end Go.Sh
namespace Go.Sh
open Go
variable [Con] {A:Type} {I:Itp A}
section
variable {P:Program} {V:Val}
theorem I6: ∀(d:Nat) (t:TypeId) (x y:AVal) (r:Bool) (x' y':Value) (w:World),aeq P d t x y=some r->Rep V x x'->Rep V y y'->
 ∀D,d<=D->(Op.equalIn D t x' y').run P w=.ok r w:=by
 intro d
 induction d with
 | zero=>intro t x y r x' y' w h;simp [aeq]at h
 | succ d ih=>
   intro t x y r x' y' w h hx hy D hD;obtain⟨D,rfl⟩: ∃E,D=E+1:=⟨D - 1,by omega⟩
   have ah:d<=D:=by omega
   have hgo: ∀(fs:List Field) (xs ys:List AVal) (r:Bool) (aa g:Array Value) (w:World),aeqF P (aeq P d) xs ys fs=some r->aH V xs aa.toList->aH V ys g.toList->
    (Op.eqFields D aa g fs).run P w=.ok r w:=by
    intro fs
    induction fs with
    | nil=>intro xs ys r aa g w h _ _;simp [aeqF]at h;subst h;simp [Op.eqFields]
    | cons f fs ihf=>
      intro xs ys r aa g w h ad ac;unfold aeqF at h
      by_cases hf:f.name= "_"
      ·rw [if_pos hf]at h;simp only [Op.eqFields,hf,ne_eq,not_true_eq_false,if_false];exact ihf xs ys r aa g w h ad ac
      ·rw [if_neg hf]at h;simp only [Op.eqFields,ne_eq,hf,not_false_eq_true,if_true];cases ha:apart P f.type xs f.offset with
       | none=>rw [ha]at h;cases h
       | some a=>
         cases hb:apart P f.type ys f.offset with
         | none=>rw [ha,hb]at h;cases h
         | some b=>
           rw [ha,hb]at h;simp only at h;cases hq:aeq P d f.type a b with
           | none=>rw [hq]at h;cases h
           | some q=>
             rw [hq]at h;simp only at h;cases hg:aeqF P (aeq P d) xs ys fs with
             | none=>rw [hg]at h;cases h
             | some q2=>
               rw [hg]at h;simp only [sI']at h;obtain⟨a',ra,ag⟩:=oR (w:=w) ha ad;obtain⟨b',rb,af⟩:=oR (w:=w) hb ac;have e:=ih f.type a b q a' b' w hq ag af D ah;simp only [Sem.run_bind,ra,rb,Result.andThen_ok,e,Sem.run_ite];cases q with
               | false=>simp at h;subst h;simp
               | true=>
                 simp at h;subst h;simp only [Bool.not_true,Bool.false_eq_true,if_false];exact ihf xs ys _ aa g w hg ad ac
   unfold aeq at h;split at h
   ·rename_i hu;simp at h;subst h;have e1:x'=.bool _:=hx;have e2:y'=.bool _:=hy;subst e1 e2;rw [show∀a b:Bool,cond a b (!b)=(a == b)from by decide];exact run_equalIn_bool' w D t _ _ hu
   ·rename_i hu;split at h
    ·simp at h;subst h;have e1:x'=.int _ _:=hx;have e2:y'=.int _ _:=hy;rename_i hk;subst hk;subst e1 e2;rw [cA];exact run_equalIn_int w D t _ _ _ _ hu
    ·cases h
   ·rename_i hu;simp at h;subst h;have e1:x'=.string _:=hx;have e2:y'=.string _:=hy;subst e1 e2;rw [IT];exact run_equalIn_string w D t _ _ hu
   ·rename_i hu;simp at h;subst h;have e1:x'=.pointer none:=hx;have e2:y'=.pointer none:=hy;subst e1 e2;simp [Op.equalIn,underlying,hu]
   ·rename_i hu;simp at h;subst h;have e1:x'=.pointer none:=hx;obtain⟨b,k,_,e2⟩:=hy;subst e1 e2;simp [Op.equalIn,underlying,hu]
   ·rename_i hu;simp at h;subst h;have e1:y'=.pointer none:=hy;obtain⟨b,k,_,e2⟩:=hx;subst e1 e2;simp [Op.equalIn,underlying,hu]
   ·rename_i fs xs ys hu;split at h
    ·cases h
    ·rename_i hs;obtain⟨aa,e1,rx⟩:=hx;obtain⟨g,e2,ry⟩:=hy;subst e1 e2;have ae:P.fieldsOf t=fs:=by simp [Program.fieldsOf,hu]
     rw [run_equalIn_struct w D t aa g (by rw [ae];exact hu) (by simpa using hs),ae]
     exact hgo fs.toList xs ys r aa g w h rx ry
   ·cases h
theorem tF{op:BinOp}{t:TypeId}{X Y:Operand}{x y:Value}{w:World}(h:P.eqGuardType P.depth t=false)(hn:x≠ .nilIface \/y≠ .nilIface):
 (eqGuard op t X Y x y).run P w=.ok () w:=by
 have key: ∀op:BinOp,(op=.eql \/op=.neq)->(eqGuard op t X Y x y).run P w=.ok () w:=by
  intro op ho
  have aa: ∀cs g,(eqGuard op t X Y (.agg cs) (.agg g)).run P w=.ok () w:=by
   intro cs g
   obtain⟨u,hu⟩: ∃u:Sem Unit,eqGuard op t X Y (.agg cs) (.agg g)=(do
    if !(<-program).eqGuardType (<-program).depth t then return
    if<-Op.eqGuardIn Op.maxDepth t (.agg cs) (.agg g)then u:Sem Unit):=by
    rcases ho with rfl | rfl<;>exact⟨_,rfl⟩
   rw [hu];simp [h]
  cases x with
  | agg cs=>
    cases y with
    | agg g=>exact aa cs g
    | _=>rcases ho with rfl | rfl<;>rfl
  | nilIface=>
    cases y with
    | nilIface=>simp at hn
    | _=>rcases ho with rfl | rfl<;>rfl
  | _=>rcases ho with rfl | rfl<;>rfl
 cases op<;>first | rfl | exact key _ (.inl rfl) | exact key _ (.inr rfl)
theorem KV{d:Nat}{t:TypeId}{a b:AVal}{r:Bool}(h:aeq P d t a b=some r):
 (∃p q,a=.bool p/\b=.bool q)\/(∃k n k' m,a=.int k n/\b=.int k' m)\/(∃p q,a=.str p/\b=.str q)\/
 (a=.raw (.pointer none)/\b=.raw (.pointer none))\/(∃l o,a=.raw (.pointer none)/\b=.ptr l o)\/(∃l o,a=.ptr l o/\b=.raw (.pointer none))\/
 (∃xs ys,a=.agg xs/\b=.agg ys):=by
 cases d with
 | zero=>simp [aeq]at h
 | succ d=>
   unfold aeq at h;split at h
   ·exact .inl ⟨_,_,rfl,rfl⟩
   ·exact .inr (.inl ⟨_,_,_,_,rfl,rfl⟩)
   ·exact .inr (.inr (.inl ⟨_,_,rfl,rfl⟩))
   ·exact .inr (.inr (.inr (.inl ⟨rfl,rfl⟩)))
   ·exact .inr (.inr (.inr (.inr (.inl ⟨_,_,rfl,rfl⟩))))
   ·exact .inr (.inr (.inr (.inr (.inr (.inl ⟨_,_,rfl,rfl⟩)))))
   ·exact .inr (.inr (.inr (.inr (.inr (.inr ⟨_,_,rfl,rfl⟩)))))
   ·cases h
theorem B0{op:BinOp}(ho:op=.eql \/op=.neq){d:Nat}{t:TypeId}{a b:AVal}{r:Bool}{x y:Value}(h:aeq P d t a b=some r)(hx:Rep V a x)(hy:Rep V b y)
 (h1: ∀k n k' m,a=.int k n->b=.int k' m->False) (h2: ∀p q,a=.str p->b=.str q->False):
 binOp op t x y=(do let e<-Op.equal t x y;Pure.pure (.bool (if op=.neq then !e else e))):=by
 rcases KV h with⟨p,q,rfl,rfl⟩ | ⟨k,n,k',m,rfl,rfl⟩ | ⟨p,q,rfl,rfl⟩ | ⟨rfl,rfl⟩ | ⟨l,o,rfl,rfl⟩ | ⟨l,o,rfl,rfl⟩ | ⟨xs,ys,rfl,rfl⟩
 ·have e1:x=.bool p:=hx;have g:y=.bool q:=hy;subst e1 g;rcases ho with rfl | rfl<;>rfl
 ·exact(h1 _ _ _ _ rfl rfl).elim
 ·exact(h2 _ _ rfl rfl).elim
 ·have e1:x=.pointer none:=hx;have g:y=.pointer none:=hy;subst e1 g;rcases ho with rfl | rfl<;>rfl
 ·have e1:x=.pointer none:=hx;obtain⟨b,k,_,g⟩:=hy;subst e1 g;rcases ho with rfl | rfl<;>rfl
 ·have e1:y=.pointer none:=hy;obtain⟨b,k,_,g⟩:=hx;subst e1 g;rcases ho with rfl | rfl<;>rfl
 ·obtain⟨x',e1,_⟩:=hx;obtain⟨y',g,_⟩:=hy;subst e1 g;rcases ho with rfl | rfl<;>rfl
theorem mE{a b:AVal}{r:Bool}{d:Nat}{t:TypeId}{x y:Value}(h:aeq P d t a b=some r)(hx:Rep V a x):x≠ .nilIface :=by
 cases d with
 | zero=>simp [aeq]at h
 | succ d=>
   unfold aeq at h;split at h
   ·rintro rfl;cases hx
   ·rintro rfl;cases hx
   ·rintro rfl;cases hx
   ·rintro rfl;cases hx
   ·rintro rfl;cases hx
   ·rintro rfl;obtain⟨_,_,_,e⟩:=hx;cases e
   ·rintro rfl;obtain⟨_,e,_⟩:=hx;cases e
   ·cases h
theorem PT{op:BinOp}{t:TypeId}{X Y:Operand}{a b v:AVal}{p:Option Prop}{x y:Value}{w:World}(h:aCE P op t a b=some (v,p))(hp:onp p)(hx:Rep V a x)(hy:Rep V b y):
 ∃v',(do eqGuard op t X Y x y;binOp op t x y:Sem Value).run P w=.ok v' w/\Rep V v v':=by
 unfold aCE at h;split at h
 ·rename_i k n k' m;have e1:x=.int k n:=hx;have e2:y=.int k' m:=hy;subst e1 e2;have hg: ∀op,eqGuard op t X Y (.int k n) (.int k' m)=Pure.pure ():=fun op=>eqGuard_at_int ..;split at h
  ·simp only [sI',pI']at h;obtain⟨rfl,rfl⟩:=h;refine⟨.int k (k.wrap (n*2^(min m.toNat k.bits))),?_,rfl⟩;have: ¬m<0:=by omega
   simp [hg,binOp,Op.shift,this]
  ·simp only [sI',pI']at h;obtain⟨rfl,rfl⟩:=h;refine⟨.int k (n.fdiv (2^(min m.toNat k.bits))),?_,rfl⟩;have: ¬m<0:=by omega
   simp [hg,binOp,Op.shift,this]
  all_goals (split at h)
  all_goals first
   | (cases h;done)
   | (simp only [sI',pI']at h
      obtain⟨rfl,rfl⟩:=h;rename_i hk;subst hk;simp [hg,binOp,Op.intArith,Op.intDiv,Op.intBits,Op.intCmp,hp,Rep,bD,bY,cA,bne])
 ·rename_i n m;have e1:x=.string n:=hx;have e2:y=.string m:=hy;subst e1 e2;have hg: ∀op,eqGuard op t X Y (.string n) (.string m)=Pure.pure ():=fun op=>eqGuard_at_string ..;split at h
  ·simp only [sI',pI']at h;obtain⟨rfl,rfl⟩:=h;have ae:IntKind.i64.max=9223372036854775807:=by decide
   have: ¬(((n.size+m.size:Nat):Int)>IntKind.i64.max):=by rw [ae];omega
   simp only [hg,binOp,Op.stringOp,Sem.run_bind,Sem.run_pure,Result.andThen_ok];rw [if_neg this];exact⟨_,rfl,rfl⟩
  ·simp only [sI',pI']at h;obtain⟨rfl,rfl⟩:=h;simp [hg,binOp,Op.stringOp,Rep,IT]
  ·simp only [sI',pI']at h;obtain⟨rfl,rfl⟩:=h;simp [hg,binOp,Op.stringOp,Rep,IT]
  ·cases h
 ·rename_i ad ac;split at h
  ·cases h
  ·rename_i af;have aa:P.eqGuardType P.depth t=false:=by simpa using af
   have h1: ∀k n k' m,a=.int k n->b=.int k' m->False:=fun k n k' m e1 e2=>ad k n k' m e1 e2;have h2: ∀p q,a=.str p->b=.str q->False:=fun p q e1 e2=>ac p q e1 e2;split at h
   ·cases he:aeq P 50 t a b with
    | none=>rw [he]at h;cases h
    | some r=>
      rw [he]at h;simp only [Option.map_some,sI',pI']at h;obtain⟨rfl,rfl⟩:=h;have g:=I6 (V:=V) 50 t a b r x y w he hx hy Op.maxDepth (by decide)
      refine⟨.bool r,?_,rfl⟩;simp only [Sem.run_bind,tF aa (.inl (mE (y:=y) he hx)),Result.andThen_ok,B0 (.inl rfl) he hx hy h1 h2,Op.equal,g];rfl
   ·cases he:aeq P 50 t a b with
    | none=>rw [he]at h;cases h
    | some r=>
      rw [he]at h;simp only [Option.map_some,sI',pI']at h;obtain⟨rfl,rfl⟩:=h;have g:=I6 (V:=V) 50 t a b r x y w he hx hy Op.maxDepth (by decide)
      refine⟨.bool (!r),?_,rfl⟩;simp only [Sem.run_bind,tF aa (.inl (mE (y:=y) he hx)),Result.andThen_ok,B0 (.inr rfl) he hx hy h1 h2,Op.equal,g];rfl
   ·cases h
end
end Go.Sh
namespace Go.Sh
open Go
variable [Con] {A:Type} {I:Itp A}
section
variable {P:Program} {V:Val}
theorem iK{w:World}{b off:Nat}{cs:Array Value}{T:TypeId}{fz:Nat×Nat}(hb:w.heap[b]? =some (.cells cs T fz))(l:List Value)(h: ∀j v,l[j]? =some v->cs[off+j]? =some v):
 (loadCells ⟨b,off,none⟩ l.length).run P w=.ok l.toArray w:=by
 refine run_loadCells_list w _ l fun j v hj=>?_;rw [Addr.add_lit,cell_of_row w b (off+j) cs T fz hb];exact h j v hj
theorem d7: ∀(l:List Value) (i:Nat) (w:World) (b off:Nat) (cs:Array Value) (T:TypeId),w.heap[b]? =some (.cells cs T)->(∀v∈l,v.oneCell'=true)->off+i+l.length<=cs.size->
 ∃w' cs',(storeCells ⟨b,off,none⟩ l i).run P w=.ok () w'/\w'.heap[b]? =some (.cells cs' T)/\cs'.toList=dT cs.toList (off+i) l/\(∀c,c≠b->w'.heap[c]? =w.heap[c]?)/\bN w w':=by
 intro l
 induction l with
 | nil=>intro i w b off cs T hb _ _;exact⟨w,cs,by simp [storeCells],hb,rfl,fun _ _=>rfl,aLu w⟩
 | cons v l ih=>
   intro i w b off cs T hb ho g;simp only [List.length_cons]at g
   have hc:w.cell? ⟨b,off+i,none⟩=some cs[off+i]:=by
    rw [cell_of_row w b (off+i) cs T (0,0) hb];exact Array.getElem?_eq_getElem (by omega)
   have hf:w.frozen? ⟨b,off+i,none⟩=false:=frozen_of_row w b (off+i) cs T hb;have aa:=heap_setCell_same w b (off+i) cs T v hb;obtain⟨w',cs',h1,h2,h3,h4,h5⟩:=ih (i+1) (w.setCell ⟨b,off+i,none⟩ v) b off (cs.setIfInBounds (off+i) v) T aa (fun v hv=>ho v (by simp [hv])) (by simp;omega)
   refine⟨w',cs',?_,h2,?_,?_,?_⟩
   ·simp only [storeCells,Sem.run_bind,Addr.add_lit,run_store P w _ v .plain (ho v (by simp)),hc,hf]
    exact h1
   ·rw [h3];simp [dT,Nat.add_assoc]
   ·intro c hc;rw [h4 c hc,heap_setCell_other w ⟨b,off+i,none⟩ c v hc]
   ·exact bN.trans (b:=w.setCell ⟨b,off+i,none⟩ v) ⟨rfl,rfl,by simp,fun _ _=>by simp⟩ h5
theorem xZ{t:TypeId}{l off:Nat}{h:aB A}{r:ORes A}{hR:PHeap}{w:World}{x:Value}(hr:xY P t l off h=some r)(ho:r.obl)(hi:Inv I V (toF h) hR w)(hx:Rep V (.ptr l off) x):
 ∃v',(Instr.loadAt t x).run P w=.ok v' w/\Rep V r.v v'/\r.upd=[]/\r.new=[]:=by
 obtain⟨b,k,hl,rfl⟩:=hx;unfold xY at hr;split at hr
 ·rename_i vs n hh e1 e2;split at hr
  ·rename_i af;simp at hr;subst hr;obtain⟨b',k',cs,T,rs,tail,g,hb,hk,ac,aa⟩:=hi.cells (l:=l) hh;rw [hl]at g;cases g;have ag:=aH.length aa;refine⟨.agg ((rs.drop off).take n).toArray,?_,⟨_,rfl,by simpa using aH.take (aH.drop aa off) n⟩,rfl,rfl⟩
   have:=iK (P:=P) hb ((rs.drop off).take n) (off:=off) (fun j v hj=>by
    rw [<-Array.getElem?_toList,ac];rw [List.getElem?_take]at hj;split at hj
    ·rw [List.getElem?_drop]at hj;rw [List.getElem?_append_left]
     ·exact hj
     ·cases Nat.lt_or_ge (off+j) rs.length with
      | inl h=>exact h
      | inr h=>rw [List.getElem?_eq_none h]at hj;cases hj
    ·cases hj)
   have ae:((rs.drop off).take n).length =n:=by simp;omega
   rw [ae]at this;simp [Instr.loadAt,Instr.sureAddr,loadVar,eB e1,aV e2,this]
  ·cases hr
 ·rename_i vs e0 hh e1;split at hr
  ·rename_i v hv;simp at hr;subst hr;obtain⟨b',k',cs,T,rs,tail,g,hb,hk,ac,aa⟩:=hi.cells (l:=l) hh;rw [hl]at g;cases g;obtain⟨y,hy,ry⟩:=aH.get aa off v hv;refine⟨y,?_,ry,rfl,rfl⟩
   have hc:w.cell? ⟨b,off,none⟩=some y:=by
    rw [cell_of_row w b off cs T (0,0) hb,<-Array.getElem?_toList,ac,List.getElem?_append_left]
    ·exact hy
    ·cases Nat.lt_or_ge off rs.length with
     | inl h=>exact h
     | inr h=>rw [List.getElem?_eq_none h]at hy;cases hy
   simp [Instr.loadAt,Instr.sureAddr,loadVar,eB e1,hc]
  ·cases hr
 ·rename_i c xs hh e1;simp at hr;subst hr;have ad:off<xs.length:=ho;obtain⟨b',k',cs,T,tail,g,hb,hk,ac⟩:=hi.ints (l:=l) hh (by intro e;subst e;simp at ad)
  rw [hl]at g;cases g;refine⟨c.val (xs.getD off 0),?_,aLR V c _,rfl,rfl⟩
  have hc:w.cell? ⟨b,off,none⟩=some (c.val (xs.getD off 0)):=by
   rw [cell_of_row w b off cs T (0,0) hb,<-Array.getElem?_toList,ac,List.getElem?_append_left (by simpa using ad)]
   simp [List.getD,ad]
  simp [Instr.loadAt,Instr.sureAddr,loadVar,eB e1,hc]
 ·cases hr
theorem Inv.conW{h:aY A}{hR:PHeap}{w:World}(hi:Inv I V h hR w){b:Nat}{o:Obj}(hb:Con.con b=some o):w.heap[b]? =some o:=by
 obtain⟨_,_,_,_,_,_,g⟩:=hi;exact g.1 b o (g.2 b o hb)
theorem KH(V:Val):Val.le (fun _=>none) V:=fun _ _ h=>by cases h
theorem F2{t:TypeId}{as:List AVal}{v:AVal}{h:aY A}{hR:PHeap}{w:World}{x:Value}(hr:eM P t as=some v)(hi:Inv I V h hR w)(hx:Rep V (.cptr as) x):
 ∃v',(Instr.loadAt t x).run P w=.ok v' w/\Rep V v v':=by
 obtain⟨b,off,cs,T,fz,rfl,ae,g⟩:=hx;have hb:=hi.conW ae;unfold eM at hr;split at hr
 ·rename_i n e1 e2;split at hr
  ·rename_i af;simp at hr;subst hr;have ac:=aH.length g;have aa:=aH.take g n;refine⟨.agg (((cs.toList.drop off).take as.length).take n).toArray,?_,⟨_,rfl,by simpa using aH.mono (KH V) _ _ aa⟩⟩
   have:=iK (P:=P) hb (((cs.toList.drop off).take as.length).take n) (off:=off) (fun j v hj=>by
    rw [List.getElem?_take]at hj;split at hj
    ·rw [List.getElem?_take]at hj;split at hj
     ·rw [List.getElem?_drop]at hj;rw [<-Array.getElem?_toList];exact hj
     ·cases hj
    ·cases hj)
   have ad:(((cs.toList.drop off).take as.length).take n).length =n:=by rw [List.length_take,ac];omega
   rw [ad]at this;simp [Instr.loadAt,Instr.sureAddr,loadVar,eB e1,aV e2,this]
  ·cases hr
 ·rename_i e0 e1;obtain⟨y,hy,ry⟩:=aH.get g 0 v hr;refine⟨y,?_,Rep.mono (KH V) _ _ ry⟩
  have hc:w.cell? ⟨b,off,none⟩=some y:=by
   rw [cell_of_row w b off cs T fz hb,<-Array.getElem?_toList];rw [List.getElem?_take]at hy;split at hy
   ·rw [List.getElem?_drop]at hy;exact hy
   ·cases hy
  simp [Instr.loadAt,Instr.sureAddr,loadVar,eB e1,hc]
 ·cases hr
theorem x7{as:List AVal}{b off k:Nat}{cs:Array Value}{T:TypeId}{fz:Nat×Nat}(hb:Con.con b=some (.cells cs T fz))(hr:aH (fun _=>none) as ((cs.toList.drop off).take as.length)):
 Rep V (.cptr (as.drop k)) (.pointer (some ⟨b,off+k,none⟩)):=by
 refine⟨b,off+k,cs,T,fz,rfl,hb,?_⟩;have:=aH.drop hr k
 have e:List.drop k (List.take as.length (List.drop off cs.toList))=List.take (as.drop k).length (List.drop (off+k) cs.toList):=by
  rw [List.drop_take,List.drop_drop,List.length_drop]
 rw [<-e];exact this
theorem aH.all{V:Val} : ∀ {a:List AVal} {v:List Value},aH V a v->a.all AVal.atom=true-> ∀x∈v,x.oneCell'=true
 | [],_,r,_=>by rw [r];simp
 | a::as,_,⟨v,vs,e,r,s⟩,h=>by
   subst e;simp only [List.all_cons,Bool.and_eq_true]at h;intro x hx;rcases List.mem_cons.1 hx with rfl | hx
   ·exact UG r h.1
   ·exact aH.all s h.2 x hx
theorem jV{c:Code1}{x:AVal}{n:Int}{x':Value}(h:fP c x=some n)(hx:Rep V x x'):x'=c.val n:=by
 cases c with
 | some k=>
   cases x<;>simp [fP]at h
   obtain⟨rfl,rfl⟩:=h;exact hx
 | none=>
   cases x<;>simp [fP]at h
   rename_i b;subst h;have:x'=.bool b:=hx;subst this;cases b<;>rfl
theorem OF(ds:List Value)(off:Nat)(v:Value):dT ds off [v]=ds.set off v:=rfl
theorem GA{t:TypeId}{l off:Nat}{x:AVal}{h:aB A}{r:ORes A}{hR:PHeap}{w:World}{p y:Value}(hr:F9 P t l off x h=some r)(ho:r.obl)(hi:Inv I V (toF h) hR w)(hp:Rep V (.ptr l off) p)(hy:Rep V x y):
 ∃w',(Instr.storeAt t p y).run P w=.ok () w'/\Inv I V (toF (r.apply h)) hR w'/\bN w w'/\r.v=.raw undef/\r.new=[]:=by
 obtain⟨b,k,hl,rfl⟩:=hp;unfold F9 at hr;split at hr
 ·rename_i vs hh;split at hr
  ·rename_i hc;obtain⟨e1,e2,e3⟩:=hc;simp at hr;subst hr;obtain⟨b',k',cs,T,rs,tail,ac,hb,hk,ad,ag⟩:=hi.cells (l:=l) hh;rw [hl]at ac;cases ac;have av:=aH.length ag;have rc:=mD hy (by cases x<;>first | rfl | (simp [AVal.cells,AVal.atom]at e2))
   have al:y.cells.toList.length=x.cells.length:=aH.length rc;have ao:cs.size=rs.length+tail.length:=by rw [<-Array.length_toList,ad];simp
   obtain⟨w',ae,h1,h2,h3,h4,h5⟩:=d7 (P:=P) y.cells.toList 0 w b off cs T hb (aH.all rc e2) (by omega)
   refine⟨w',?_,?_,h5,rfl,rfl⟩
   ·have:y.cells.size=x.cells.length:=by rw [<-Array.length_toList];exact al
    simp [Instr.storeAt,Instr.sureAddr,storeVar,aV e1,this,h1]
   ·have ai:=cD hh;show Inv I V (toF (hupd h [(l,some (.cells (over vs off x.cells)))]++ [])) hR w';simp only [hupd,List.foldl_cons,List.foldl_nil,List.append_nil];rw [fW _ ai];refine hi.replace (e:=.cells vs) hh (b:=b) (o':=.cells ae T) ?_ ?_ h2 h4
    ·rintro g ⟨b1,k1,aa,ar,T1,e4,_⟩;rw [hl]at aa;cases aa;exact⟨_,e4⟩
    ·refine⟨b,k,hl,ae,T,rfl,?_,dT rs off y.cells.toList,tail,?_,wJ off rc ag⟩
     ·rw [<-Array.length_toList,h3,eF,Array.length_toList];exact hk
     ·rw [h3,ad];simp only [Nat.add_zero];exact gN _ _ _ _ (by omega)
  ·cases hr
 ·rename_i c xs hh;split at hr
  ·rename_i e1;cases aj:fP c x with
   | none=>rw [aj]at hr;cases hr
   | some n=>
     rw [aj]at hr;simp at hr;subst hr;have ah:off<xs.length:=ho;obtain⟨b',k',cs,T,tail,ac,hb,hk,ad⟩:=hi.ints (l:=l) hh (by intro e;subst e;simp at ah)
     rw [hl]at ac;cases ac;have am:=jV aj hy;have af:y.cells= #[c.val n]:=by rw [am];cases c<;>rfl
     have ak:(c.val n).oneCell' =true:=by cases c<;>rfl
     have ao:cs.size=xs.length+tail.length:=by rw [<-Array.length_toList,ad];simp
     obtain⟨w',ae,h1,h2,h3,h4,h5⟩:=d7 (P:=P) [c.val n] 0 w b off cs T hb (by simpa using ak) (by simp;omega)
     refine⟨w',?_,?_,h5,rfl,rfl⟩
     ·simp [Instr.storeAt,Instr.sureAddr,storeVar,aV e1,af,h1]
     ·have ai:=cD hh;show Inv I V (toF (hupd h [(l,some (.ints c (xs.set off n)))]++ [])) hR w';simp only [hupd,List.foldl_cons,List.foldl_nil,List.append_nil];rw [fW _ ai];have ap:xs≠ []:=by intro e;subst e;simp at ah
      obtain⟨hs,g1,g2,g3,g4,g5,g6⟩:=hi;have aq:Inv I V (toF h) hR w:=⟨hs,g1,g2,g3,g4,g5,g6⟩;refine aq.replace (e:=.ints c xs) hh (b:=b) (o':=.cells ae T) ?_ ?_ h2 h4
      ·intro g hg;rcases hg with⟨e,_⟩ | ⟨b1,k1,aa,ar,T1,au,e4,_⟩
       ·exact(ap e).elim
       ·rw [hl]at aa;cases aa;exact⟨_,e4⟩
      ·refine .inr ⟨b,k,hl,ae,T,tail,rfl,?_,?_⟩
       ·rw [<-Array.length_toList,h3,eF,Array.length_toList];exact hk
       ·rw [h3,ad];simp only [Nat.add_zero,OF];rw [List.set_append_left _ _ (by simpa using ah),List.map_set]
  ·cases hr
 ·cases hr
theorem yH{h:aB A}{hR:PHeap}{w:World}(hi:Inv I V (toF h) hR w)(hV:V h.length=none){vs:List AVal}{cs:Array Value}{T:TypeId}(hr:aH V vs cs.toList):
 Inv I (V.add h.length (w.heap.size,cs.size)) (toF (h++ [some (.cells vs)])) hR {w with heap:=w.heap.push (.cells cs T) } :=by
 rw [fS];refine hi.push hV (cC (Nat.le_refl _)) ?_;exact⟨_,_,aLj _ _ _,cs,T,rfl,rfl,cs.toList,[],by simp,aH.mono (aLp hV) _ _ hr⟩
theorem jQ{V:Val}{n:Nat}{x:Nat×Nat} : ∀l,V l=none->(V.add n x) l≠none->n<=l/\l<n+1:=by
 intro l h1 h2
 by_cases e:l=n
 ·subst e;omega
 ·rw [aLH V x e]at h2;exact(h2 h1).elim
theorem aL5{h:aB A}{hR:PHeap}{w:World}{s:Sem Next}(hi:Inv I V (toF h) hR w)(hV:V h.length=none){vs:List AVal}{cs:Array Value}{T:TypeId}(hr:aH V vs cs.toList)
 (hs:s.run P w=.ok (.value (.pointer (some ⟨w.heap.size,0,none⟩))) {w with heap:=w.heap.push (.cells cs T) }):
 dL I P V h.length hR w (.ptr h.length 0) (toF (h++ [some (.cells vs)])) 1 s:=by
 refine⟨_,_,V.add h.length (w.heap.size,cs.size),_,hs,.inl rfl,aLp hV,jQ,?_,yH hi hV hr,⟨rfl,rfl,by simp,fun _ _=>dW _ _ _ _⟩⟩
 exact⟨_,_,aLj _ _ _,rfl⟩
end
end Go.Sh
namespace Go.Sh
open Go
variable [Con] {A:Type} {I:Itp A}
theorem cF: ∀(ks:List Code1) (xs:List Int),(cN ks xs).length =ks.length
 | [],_=>rfl
 | k::ks,xs=>by simp [cN,cF ks]
theorem oD: ∀(ks:List Code1) (xs:List Int),(rowA ks xs).length =ks.length
 | [],_=>rfl
 | k::ks,xs=>by simp [rowA,oD ks]
theorem jD: ∀(ks:List Code1) (xs:List Int) (i:Nat),(cN ks xs)[i]? =ks[i]?.map fun k=>Code1.val k (xs.getD i 0)
 | [],_,i=>by simp [cN]
 | k::ks,xs,0=>by cases xs<;>simp [cN]
 | k::ks,xs,i+1=>by
   simp only [cN,List.getElem?_cons_succ];rw [jD ks xs.tail i];congr 1;funext k;cases xs<;>simp
theorem EX(V:Val): ∀(ks:List Code1) (xs:List Int),aH V (rowA ks xs) (cN ks xs)
 | [],_=>rfl
 | k::ks,xs=>⟨_,_,rfl,aLR V k _,EX V ks xs.tail⟩
theorem cS(ks:List Code1): ∀rows:List (List Int),(bL ks rows).length =rows.length*ks.length
 | []=>by simp [bL]
 | r::rows=>by
   have:=cS ks rows;simp only [bL]at this;simp only [bL,List.map_cons,List.flatten_cons,List.length_append,cF,List.length_cons,this,Nat.succ_mul];omega
theorem gT(ks:List Code1)(a b:List (List Int)):bL ks (a++b)=bL ks a++bL ks b:=by simp [bL]
theorem rW(ks:List Code1)(rows:List (List Int))(r:Nat):(bL ks rows).drop (r*ks.length)=bL ks (rows.drop r):=by
 induction r generalizing rows with
 | zero=>simp
 | succ r ih=>
   cases rows with
   | nil=>simp [bL]
   | cons x rows=>
     rw [Nat.succ_mul,Nat.add_comm,<-List.drop_drop]
     have:(bL ks (x::rows)).drop ks.length=bL ks rows:=by
      simp only [bL,List.map_cons,List.flatten_cons];rw [List.drop_append_of_le_length (by rw [cF];exact Nat.le_refl _),List.drop_of_length_le (by rw [cF];exact Nat.le_refl _)]
      rfl
     rw [this,ih];rfl
theorem A1(ks:List Code1)(rows:List (List Int))(r:Nat):(bL ks rows).take (r*ks.length)=bL ks (rows.take r):=by
 induction r generalizing rows with
 | zero=>simp [bL]
 | succ r ih=>
   cases rows with
   | nil=>simp [bL]
   | cons x rows=>
     rw [Nat.succ_mul,Nat.add_comm];simp only [bL,List.map_cons,List.flatten_cons,List.take_succ_cons]
     rw [List.take_add,List.take_append_of_le_length (by rw [cF];exact Nat.le_refl _),List.take_of_length_le (by rw [cF];exact Nat.le_refl _),
      List.drop_append_of_le_length (by rw [cF];exact Nat.le_refl _),List.drop_of_length_le (by rw [cF];exact Nat.le_refl _)]
     have:=ih rows;simp only [bL]at this;simp [this]
theorem aF3{ks:List Code1}{rows:List (List Int)}{r j:Nat}(hr:r<rows.length)(hj:j<=ks.length):
 ∃rest,(bL ks rows).drop (r*ks.length+j)=(cN ks (rows.getD r [])).drop j++rest:=by
 refine⟨bL ks (rows.drop (r+1)),?_⟩;rw [<-List.drop_drop,rW,List.drop_eq_getElem_cons hr,gD',gE' hr];simp only [bL,List.map_cons,List.flatten_cons,Option.getD_some];rw [List.drop_append_of_le_length (by rw [cF];exact hj)]
theorem Inv.tab{V:Val}{h:aY A}{hR:PHeap}{w:World}(hi:Inv I V h hR w){l:Nat}{ks:List Code1}{rows:List (List Int)}(hl:h l=some (.tab ks rows))(hne:rows≠ []):
 ∃b k cs T tail,V l=some (b,k)/\w.heap[b]? =some (.cells cs T)/\cs.size=k/\cs.toList=bL ks rows++tail:=by
 obtain⟨hs,h1,h2,h3,h4,g,h6⟩:=hi;rcases h1 l _ hl with⟨e,_⟩ | ⟨b,k,e1,cs,T,tail,e2,e3,e4⟩
 ·exact(hne e).elim
 ·have:=g l;rw [e2]at this;exact⟨b,k,cs,T,tail,e1,PHeap.one_sub.1 this,e3,e4⟩
theorem Inv.emptyE{V:Val}{h:aY A}{hR:PHeap}{w:World}(hi:Inv I V h hR w){l:Nat}(hV:V l=none)(hl:h l=none){e:aG A}(he: ∀V':Val,(∃b,V' l=some (b,0))->e.interp I V' l .emp):Inv I (V.add l (0,0)) (h.put l (some e)) hR w:=by
 obtain⟨hs,h1,h2,h3,h4,h5,h6⟩:=hi;refine⟨hs,?_,?_,h3,h4,h5,h6⟩
 ·intro m x hm
  by_cases g:m=l
  ·subst g;simp [aY.put]at hm;subst hm;rw [h2 m hl];exact he _ ⟨0,aLj _ _ _⟩
  ·simp [aY.put,g]at hm;exact aLs (aLp hV) (h1 m x hm)
 ·intro m hm
  by_cases g:m=l
  ·subst g;exact h2 m hl
  ·simp [aY.put,g]at hm;exact h2 m hm
section
variable {P:Program} {V:Val}
theorem fR{t:TypeId}{b off:Nat}{cs:Array Value}{T:TypeId}{w:World}{seg rest:List Value}{av:List AVal}{v:AVal}(hb:w.heap[b]? =some (.cells cs T))(hseg:cs.toList.drop off=seg++rest)(hr:aH V av seg)
 (hv:eM P t av=some v): ∃v',(Instr.loadAt t (.pointer (some ⟨b,off,none⟩))).run P w=.ok v' w/\Rep V v v':=by
 have ad:=aH.length hr;unfold eM at hv;split at hv
 ·rename_i n e1 e2;split at hv
  ·rename_i ac;simp at hv;subst hv;refine⟨.agg (seg.take n).toArray,?_,⟨_,rfl,by simpa using aH.take hr n⟩⟩
   have:=iK (P:=P) hb (seg.take n) (off:=off) (fun j v hj=>by
    rw [List.getElem?_take]at hj;split at hj
    ·rw [<-Array.getElem?_toList,<-List.getElem?_drop,hseg,List.getElem?_append_left]
     ·exact hj
     ·cases Nat.lt_or_ge j seg.length with
      | inl h=>exact h
      | inr h=>rw [List.getElem?_eq_none h]at hj;cases hj
    ·cases hj)
   have aa:(seg.take n).length =n:=by rw [List.length_take];omega
   rw [aa]at this;simp [Instr.loadAt,Instr.sureAddr,loadVar,eB e1,aV e2,this]
  ·cases hv
 ·rename_i e0 e1;obtain⟨y,g,ry⟩:=aH.get hr 0 v hv;refine⟨y,?_,ry⟩
  have hc:w.cell? ⟨b,off,none⟩=some y:=by
   rw [cell_of_row w b off cs T (0,0) hb,<-Array.getElem?_toList];have:cs.toList[off]? =(cs.toList.drop off)[0]? :=by rw [List.getElem?_drop];rfl
   rw [this,hseg,List.getElem?_append_left]
   ·exact g
   ·cases Nat.lt_or_ge 0 seg.length with
    | inl h=>exact h
    | inr h=>rw [List.getElem?_eq_none h]at g;cases g
  simp [Instr.loadAt,Instr.sureAddr,loadVar,eB e1,hc]
 ·cases hv
theorem F4{t:TypeId}{l r0 w0 j:Nat}{h:aB A}{r:ORes A}{hR:PHeap}{w:World}{x:Value}(hr:F3 P t l r0 w0 j h=some r)(ho:r.obl)(hi:Inv I V (toF h) hR w)(hx:Rep V (.tptr l r0 w0 j) x):
 ∃v',(Instr.loadAt t x).run P w=.ok v' w/\Rep V r.v v'/\r.upd=[]/\r.new=[]:=by
 obtain⟨b,k,hl,rfl⟩:=hx;unfold F3 at hr
 have go: ∀(ks:List Code1) (rows:List (List Int)) (v:AVal),aK h l=some (.tab ks rows)->ks.length=w0->r0<rows.length->j<=w0->eM P t ((rowA ks (rows.getD r0 [])).drop j)=some v->
  ∃v',(Instr.loadAt t (.pointer (some ⟨b,r0*w0+j,none⟩))).run P w=.ok v' w/\Rep V v v':=by
  intro ks rows v hh hw g hj hv;obtain⟨b',k',cs,T,tail,ac,hb,hk,ad⟩:=hi.tab (l:=l) hh (by intro e;subst e;simp at g)
  rw [hl]at ac;cases ac;obtain⟨rest,aa⟩:=aF3 (ks:=ks) (j:=j) g (by omega)
  rw [hw]at aa;refine fR hb (seg:=(cN ks (rows.getD r0 [])).drop j) (rest:=rest++tail) ?_ (aH.drop (EX V ks _) j) hv;rw [ad,List.drop_append_of_le_length,aa,List.append_assoc];rw [cS,hw];have:(r0+1)*w0<=rows.length*w0:=Nat.mul_le_mul_right _ g;rw [Nat.succ_mul]at this;omega
 split at hr
 ·rename_i ks rows n hh e1 e2;split at hr
  ·rename_i hc;simp at hr;subst hr;have g:r0<rows.length:=ho
   obtain⟨v',g1,g2⟩:=go ks rows (.agg (((rowA ks (rows.getD r0 [])).drop j).take n)) hh hc.1 g (by omega) (by
    unfold eM;rw [e1,e2];simp only;rw [if_pos];rw [List.length_drop,oD];omega)
   exact⟨v',g1,g2,rfl,rfl⟩
  ·cases hr
 ·rename_i e0 ks rows hh e1;split at hr
  ·rename_i hw;split at hr
   ·rename_i v hv;simp at hr;subst hr;have g:r0<rows.length:=ho
    have hj:j<(rowA ks (rows.getD r0 [])).length :=by
     cases Nat.lt_or_ge j (rowA ks (rows.getD r0 [])).length with
     | inl h=>exact h
     | inr h=>rw [List.getElem?_eq_none h]at hv;cases hv
    rw [oD]at hj
    obtain⟨v',g1,g2⟩:=go ks rows v hh hw g (by omega) (by
     unfold eM;rw [e1];simp only [List.getElem?_drop,Nat.add_zero];exact hv)
    exact⟨v',g1,g2,rfl,rfl⟩
   ·cases hr
  ·cases hr
 ·cases hr
theorem qF: ∀ {ks:List Code1} {vs:List AVal} {ns:List Int} {l:List Value},pI ks vs=some ns->aH V vs l->l=cN ks ns/\ns.length=ks.length
 | [],[],ns,l,h,r=>by simp [pI]at h;subst h;exact⟨r,rfl⟩
 | k::ks,v::vs,ns,l,h,⟨x,xs,e,r,s⟩=>by
   simp only [pI]at h;split at h
   ·rename_i n ns' h1 h2;simp at h;subst h;subst e;obtain⟨q1,q2⟩:=qF h2 s;rw [jV h1 r,q1];exact⟨rfl,by simp [q2]⟩
   ·cases h
 | [],_::_,_,_,h,_=>by simp [pI]at h
 | _::_,[],_,_,h,_=>by simp [pI]at h
theorem yL: ∀(ys ds:List Value) (off i:Nat),off+ys.length<=ds.length->(dT ds off ys)[i]? =if off<=i/\i<off+ys.length then ys[i - off]? else ds[i]?
 | [],ds,off,i,_=>by
   simp only [dT,List.length_nil,Nat.add_zero];rw [if_neg (by omega)]
 | y::ys,ds,off,i,h=>by
   simp only [List.length_cons]at h;simp only [dT];rw [yL ys (ds.set off y) (off+1) i (by simp;omega)]
   simp only [List.length_cons]
   by_cases h1:off+1<=i/\i<off+1+ys.length
   ·rw [if_pos h1,if_pos (by omega),show i - off=(i - (off+1))+1 from by omega,List.getElem?_cons_succ]
   ·rw [if_neg h1]
    by_cases h2:i=off
    ·subst h2;rw [if_pos (by omega),Nat.sub_self]
     simp [List.getElem?_set];omega
    ·rw [if_neg (by omega),List.getElem?_set_ne (by omega)]
theorem yM(A:List Value): ∀(N R:List Value) (j:Nat),dT (A++R) (A.length+j) N=A++dT R j N
 | [],R,j=>rfl
 | x::N,R,j=>by
   simp only [dT];rw [List.set_append_right _ _ (by omega),show A.length+j - A.length=j from by omega,show A.length+j+1=A.length+(j+1)from rfl]
   exact yM A N (R.set j x) (j+1)
theorem OE(A R S N:List Value)(j:Nat)(h:j+N.length<=R.length):dT (A++(R++S)) (A.length+j) N=A++(dT R j N++S):=by
 rw [yM,gN _ _ _ _ h]
theorem EZ{ks:List Code1}{row ns:List Int}{j:Nat}(hj:j+ns.length<=ks.length):
 cN ks (lA ks.length row j ns)=dT (cN ks row) j (cN ((ks.drop j).take ns.length) ns):=by
 have g:(cN ((ks.drop j).take ns.length) ns).length =ns.length:=by rw [cF,List.length_take,List.length_drop];omega
 apply List.ext_getElem?;intro i;rw [yL _ _ _ _ (by rw [g,cF];exact hj),g,jD]
 by_cases hi:i<ks.length
 ·have e:(lA ks.length row j ns).getD i 0=if j<=i/\i<j+ns.length then ns.getD (i - j) 0 else row.getD i 0:=by
   unfold lA;rw [gD',List.getElem?_map,List.getElem?_range hi];rfl
  rw [e]
  by_cases hc:j<=i/\i<j+ns.length
  ·rw [if_pos hc,if_pos hc,jD,List.getElem?_take,if_pos (by omega),List.getElem?_drop,show j+(i - j)=i from by omega]
  ·rw [if_neg hc,if_neg hc,jD]
 ·have e:ks[i]? =none:=List.getElem?_eq_none (by omega)
  rw [e];rw [if_neg (by omega),jD,e]
  rfl
theorem BY{t:TypeId}{l r0 w0 j:Nat}{x:AVal}{h:aB A}{r:ORes A}{hR:PHeap}{w:World}{p y:Value}(hr:zL P t l r0 w0 j x h=some r)(ho:r.obl)(hi:Inv I V (toF h) hR w)(hp:Rep V (.tptr l r0 w0 j) p)(hy:Rep V x y):
 ∃w',(Instr.storeAt t p y).run P w=.ok () w'/\Inv I V (toF (r.apply h)) hR w'/\bN w w'/\r.v=.raw undef/\r.new=[]:=by
 obtain⟨b,k,hl,rfl⟩:=hp;unfold zL at hr;split at hr
 ·rename_i ks rows hh;split at hr
  ·rename_i hc;obtain⟨e1,hw,ax⟩:=hc;subst hw;split at hr
   ·rename_i ns aa;simp at hr;subst hr;have ad:r0<rows.length:=ho;have am:rows≠ []:=by intro e;subst e;simp at ad
    obtain⟨b',k',cs,T,tail,aq,hb,hk,au⟩:=hi.tab (l:=l) hh am;rw [hl]at aq;cases aq
    have af:x.told=true:=by
     cases hq:x.told with
     | true=>rfl
     | false=>
       exfalso;cases x with
       | O=>
         simp only [AVal.cells,List.length_singleton]at aa;cases ar:List.take 1 (List.drop j ks)with
         | nil=>rw [ar]at aa;simp [pI]at aa
         | cons q qs=>
           rw [ar]at aa;cases q<;>simp [pI,fP]at aa
       | _=>cases hq
    have rc:=mD hy af;obtain⟨q1,q2⟩:=qF aa rc;have ah:x.cells.length=ns.length:=by rw [q2,List.length_take,List.length_drop];omega
    rw [ah]at q1 ax e1;have ae:y.cells.toList.length=ns.length:=by rw [aH.length rc,ah]
    have az:cs.size=rows.length*ks.length+tail.length:=by rw [<-Array.length_toList,au,List.length_append,cS]
    have aj:(r0+1)*ks.length<=rows.length*ks.length:=Nat.mul_le_mul_right _ ad;rw [Nat.succ_mul]at aj
    have al: ∀v∈y.cells.toList,v.oneCell'=true:=by
     rw [q1]
     have: ∀(ks:List Code1) (xs:List Int),∀v∈cN ks xs,v.oneCell'=true:=by
      intro ks
      induction ks with
      | nil=>intro xs v hv;cases hv
      | cons k ks ih=>
        intro xs v hv;simp only [cN,List.mem_cons]at hv;rcases hv with rfl | hv
        ·cases k<;>rfl
        ·exact ih _ v hv
     exact this _ _
    obtain⟨w',av,h1,h2,h3,h4,h5⟩:=d7 (P:=P) y.cells.toList 0 w b (r0*ks.length+j) cs T hb al (by omega)
    refine⟨w',?_,?_,h5,rfl,rfl⟩
    ·have:y.cells.size=ns.length:=by rw [<-Array.length_toList];exact ae
     simp [Instr.storeAt,Instr.sureAddr,storeVar,aV e1,this,h1]
    ·have ao:=cD hh;show Inv I V (toF (hupd h [(l,some (.tab ks (rows.set r0 (lA ks.length (rows.getD r0 []) j ns))))]++ [])) hR w';simp only [hupd,List.foldl_cons,List.foldl_nil,List.append_nil];rw [fW _ ao];refine hi.replace (e:=.tab ks rows) hh (b:=b) (o':=.cells av T) ?_ ?_ h2 h4
     ·intro g hg;rcases hg with⟨e,_⟩ | ⟨b1,k1,ap,a6,T1,ay,e4,_⟩
      ·exact(am e).elim
      ·rw [hl]at ap;cases ap;exact⟨_,e4⟩
     ·refine .inr ⟨b,k,hl,av,T,tail,rfl,?_,?_⟩
      ·rw [<-Array.length_toList,h3,eF,Array.length_toList];exact hk
      ·rw [h3,au,Nat.add_zero,q1,gN _ _ _ _ (by rw [<-q1,ae,cS];omega)]
       congr 1
       have ac:rows=rows.take r0++rows.getD r0 []::rows.drop (r0+1):=by
        rw [gD',gE' ad]
        simp
       have ai:rows.set r0 (lA ks.length (rows.getD r0 []) j ns)=rows.take r0++lA ks.length (rows.getD r0 []) j ns::rows.drop (r0+1):=by
        rw [List.set_eq_take_append_cons_drop,if_pos ad]
       generalize hrd:rows.getD r0 []=row at*
       have e2:bL ks (rows.set r0 (lA ks.length row j ns))=bL ks (rows.take r0)++(cN ks (lA ks.length row j ns)++bL ks (rows.drop (r0+1))):=by
        rw [ai,gT];rfl
       have e3:bL ks rows=bL ks (rows.take r0)++(cN ks row++bL ks (rows.drop (r0+1))):=by
        rw(occs:=.pos [1]) [ac]
        rw [gT];rfl
       have ak:(bL ks (rows.take r0)).length =r0*ks.length:=by rw [cS,List.length_take,Nat.min_eq_left (by omega)]
       rw [e2,e3,EZ (by omega)]
       have ag:(cN (List.take ns.length (List.drop j ks)) ns).length =ns.length:=by rw [<-q1];exact ae
       have:=OE (bL ks (rows.take r0)) (cN ks row) (bL ks (rows.drop (r0+1))) (cN (List.take ns.length (List.drop j ks)) ns) j (by rw [ag,cF];omega)
       rw [ak]at this;exact this
   ·cases hr
  ·cases hr
 ·cases hr
end
end Go.Sh
namespace Go.Sh
open Go
variable [Con] {A:Type} {I:Itp A}
section
variable {P:Program} {V:Val}
theorem wQ{Z:Operand->AVal}{Z':Operand->Value}(hZ: ∀x,Rep V (Z x) (Z' x)): ∀l:List (Nat×Operand),FV V (l.map fun x=>(x.1,Z x.2)) (l.map fun x=>(x.1,Z' x.2))
 | []=>.nil
 | x::l=>.cons (hZ x.2) (wQ hZ l)
theorem gO{Z:Operand->AVal}{Z':Operand->Value}(hZ: ∀x,Rep V (Z x) (Z' x)): ∀l:List Operand,aH V (l.map Z) (l.map Z')
 | []=>by simp [aH]
 | x::l=>⟨_,_,rfl,hZ x,gO hZ l⟩
theorem tZ{w:World} : ∀(fs:List Field) (l:List (Nat×Nat)),(∀f∈fs,bX P f.type≠none)->
 ∃out,(fs.mapM (fun f=>do Pure.pure (f.offset,<-sizeOf f.type):Field->Sem (Nat×Nat))).run P w=.ok out w/\ ∀i:Nat,out[i]? =(fs[i]?).bind fun f=>(bX P f.type).map fun n=>(f.offset,n):=by
 intro fs
 induction fs with
 | nil=>intro l h;exact⟨[],by simp,by simp⟩
 | cons f fs ih=>
   intro l h;obtain⟨out,h1,h2⟩:=ih l (fun g hg=>h g (by simp [hg]))
   cases e:bX P f.type with
   | none=>exact(h f (by simp) e).elim
   | some n=>
     refine⟨(f.offset,n)::out,?_,?_⟩
     ·rw [List.mapM_cons];simp only [Sem.run_bind,aV e,Result.andThen_ok,Sem.run_pure,h1]
     ·intro i;cases i with
      | zero=>simp [e]
      | succ i=>simpa using h2 i
theorem FZ{t:TypeId}{ps:List (Nat×AVal)}{qs:List (Nat×Value)}{v:AVal}{w:World}(h:FY P t ps=some v)(hp:FV V ps qs):
 ∃v',(Instr.build t qs.toArray).run P w=.ok v' w/\Rep V v v':=by
 unfold FY at h;split at h
 ·rename_i z fs hz hu
  by_cases g:fs.toList.all (fun f=>(bX P f.type).isSome)=true
  case neg=>rw [if_neg g]at h;cases h
  rw [if_pos g]at h
  have ac: ∀f∈fs.toList,bX P f.type≠none:=by
   intro f hf;have:=List.all_eq_true.1 g f hf;cases e:bX P f.type<;>simp_all
  obtain⟨zv,rfl,aa⟩:=oS (w:=w) hz;cases hf:l7 (lK P fs) (gA zv).cells ps with
  | none=>rw [hf]at h;cases h
  | some out=>
    rw [hf]at h;simp at h;subst h;obtain⟨pl,h1,h2⟩:=tZ (P:=P) (w:=w) fs.toList [] ac
    have ad:(fun i=>pl.toArray[i]?)=lK P fs:=by
     funext i;have e:=h2 i;unfold lK;have e2:pl.toArray[i]? =pl[i]? :=by simp
     rw [e2,e,Array.getElem?_toList];cases fs[i]? <;>rfl
    obtain⟨out',h3,h4⟩:=oN (V:=V) hp (dC V zv) hf;refine⟨.agg out',?_,⟨out',rfl,h4⟩⟩
    have hm:(fs.mapM (fun f=>do Pure.pure (f.offset,<-sizeOf f.type):Field->Sem (Nat×Nat))).run P w=.ok pl.toArray w:=by
     rw [Array.mapM_eq_mapM_toList,Sem.run_map,h1];rfl
    have ae:Instr.fill (fun i=>pl.toArray[i]?) zv.cells qs=some out':=by rw [ad];exact h3
    simp only [Instr.build,Sem.run_bind,aa,Result.andThen_ok,underlying,run_program,hu,Sem.run_pure,hm,ae]
 ·rename_i z len e hz hu;obtain⟨zv,rfl,aa⟩:=oS (w:=w) hz;cases hs:bX P e with
  | none=>rw [hs]at h;cases h
  | some s=>
    rw [hs]at h;simp only at h;cases hf:l7 (fun i=>some (i*s,s)) (gA zv).cells ps with
    | none=>rw [hf]at h;cases h
    | some out=>
      rw [hf]at h;simp at h;subst h;obtain⟨out',h3,h4⟩:=oN (V:=V) hp (dC V zv) hf;refine⟨.agg out',?_,⟨out',rfl,h4⟩⟩;simp only [Instr.build,Sem.run_bind,aa,Result.andThen_ok,underlying,run_program,hu,Sem.run_pure,aV hs,h3]
 ·cases h
theorem tA{place:Nat->Option (Nat×Nat)} : ∀ {ps:List (Nat×AVal)} {cs out:List AVal},l7 place cs ps=some out->out.length=cs.length
 | [],_,_,h=>by simp [l7]at h;rw [h]
 | (i,a)::ps,cs,out,h=>by
   simp only [l7]at h;split at h
   ·cases h
   ·split at h
    ·have:=tA h;rw [this,tS]
    ·cases h
theorem AW{l b k off len sz:Nat}(hl:V l=some (b,k))(h:off+len*sz<=k):Rep V (.slice l off len sz) (.slice (some ⟨b,off,none⟩) len len):=
 ⟨_,_,rfl,Nat.le_refl _,.inl ⟨b,k,hl,rfl,h⟩⟩
theorem OR{z:AVal}{zv:Value}(hz:aH V z.cells zv.cells.toList){s:Nat}(hs:z.cells.length=s)(h0:0<s)(n:Nat):
 aH V ((List.range n).map fun j=>z.cells.getD (j%s) (.raw undef)) ((List.range n).map fun j=>zv.cells[j%zv.cells.size]!):=by
 have g:zv.cells.size=s:=by rw [<-Array.length_toList,aH.length hz,hs]
 have key: ∀l:List Nat,aH V (l.map fun j=>z.cells.getD (j%s) (.raw undef)) (l.map fun j=>zv.cells[j%zv.cells.size]!):=by
  intro l
  induction l with
  | nil=>simp [aH]
  | cons j l ih=>
    refine⟨_,_,rfl,?_,ih⟩;have aa:j%s<s:=Nat.mod_lt _ h0;obtain⟨y,hy,ry⟩:=aH.get hz (j%s) (z.cells.getD (j%s) (.raw undef)) (by rw [gD',gE' (by omega)];rfl)
    rw [Array.getElem?_toList]at hy;have:zv.cells[j%zv.cells.size]! =y:=by rw [g,getElem!_def,hy]
    show Rep V (z.cells.getD (j%s) (AVal.raw undef)) (zv.cells[j%zv.cells.size]!);rw [this];exact ry
 exact key _
theorem uV{t:TypeId}{len:Nat}{ps:List (Nat×AVal)}{qs:List (Nat×Value)}{h:aB A}{r:ORes A}{hR:PHeap}{w:World}{s:Sem Next}(hr:nK P t len ps h=some r)(hp:FV V ps qs)
 (hi:Inv I V (toF h) hR w) (hn: ∀l,h.length<=l->l<h.length+r.new.length->V l=none) (hs:s=(do Pure.pure (.value (<-Instr.buildSlice t len qs.toArray)))):
 dL I P V h.length hR w r.v (toF (r.apply h)) r.new.length s:=by
 subst hs;unfold nK at hr;split at hr
 ·rename_i e hu;split at hr
  ·rename_i sz z ai hz;split at hr
   ·rename_i hc;obtain⟨c1,c2,c3⟩:=hc;obtain⟨zv,rfl,ag⟩:=oS (w:=w) hz;cases hf:l7 (fun i=>some (i*sz,sz)) ((List.range (len*sz)).map fun j=>(gA zv).cells.getD (j%sz) (.raw undef)) ps with
    | none=>rw [hf]at hr;cases hr
    | some cs=>
      rw [hf]at hr;simp at hr;subst hr;have ah:=dC V zv;have h1:=OR ah c2 c3 (len*sz);obtain⟨g,h3,h4⟩:=oN (V:=V) (ds:=(Array.range (len*sz)).map fun j=>zv.cells[j%zv.cells.size]!) hp (by simpa using h1) hf
      have ad:=tA hf;have aj:g.size=len*sz:=by rw [<-Array.length_toList,aH.length h4,ad];simp
      have aa:=hn h.length (Nat.le_refl _) (by simp)
      have ae:=yH (T:=e) hi aa h4
      have ac:Rep (V.add h.length (w.heap.size,g.size)) (cond (Nat.beq len 0) .empty (.slice h.length 0 len sz)) (.slice (some ⟨w.heap.size,0,none⟩) len len):=by
       cases e0:Nat.beq len 0 with
       | true=>
         have:=Nat.eq_of_beq_eq_true e0;subst this;exact⟨_,rfl⟩
       | false=>exact AW (aLj _ _ _) (b:=w.heap.size) (k:=g.size) (by omega)
      refine⟨_,_,V.add h.length (w.heap.size,g.size),_,?_,.inl rfl,aLp aa,jQ,ac,ae,⟨rfl,rfl,by simp,fun _ _=>dW _ _ _ _⟩⟩
      have af: ¬(len*sz>2^24):=by omega
      simp only [Instr.buildSlice,Sem.run_bind,underlying,run_program,hu,Result.andThen_ok,Sem.run_pure,aV ai];rw [if_neg af]
      by_cases h0:len*sz=0
      ·rw [if_pos h0];simp only [Sem.run_pure,Result.andThen_ok,Sem.run_bind];have:((Array.range (len*sz)).map fun j=>(#[]:Array Value)[j%(#[]:Array Value).size]!)=((Array.range (len*sz)).map fun j=>zv.cells[j%zv.cells.size]!):=by rw [h0,Array.range_zero',Array.map_empty,Array.map_empty]
       rw [this,h3];simp [newRow]
      ·rw [if_neg h0];simp only [Sem.run_pure,Result.andThen_ok,Sem.run_bind,ag,h3];simp [newRow]
   ·cases hr
  ·cases hr
 ·cases hr
theorem uX{t:TypeId}{a i v:AVal}{p:Option Prop}{x y:Value}{w:World}(h:pQ P t a i=some (v,p))(hp:onp p)(hx:Rep V a x)(hy:Rep V i y):
 ∃v',(Instr.indexAt t x y).run P w=.ok v' w/\Rep V v v':=by
 unfold pQ at h;split at h
 ·rename_i e l off len sz k n hu;cases hs:bX P e with
  | none=>rw [hs]at h;cases h
  | some s=>
    rw [hs]at h;simp only [sI',pI']at h;obtain⟨rfl,rfl⟩:=h;obtain⟨base,cap,rfl,aa,hb⟩:=hx;have e2:y=.int k n:=hy;subst e2;rcases hb with⟨b,kk,hl,rfl,hk⟩ | ⟨h0,_⟩
    ·refine⟨.pointer (some ⟨b,off+n.toNat*s,none⟩),?_,⟨b,kk,hl,rfl⟩⟩;simp [Instr.indexAt,asIntOf,underlying,hu,hp,aV hs,Addr.add_lit]
    ·subst h0;exact absurd hp.2 (by have:=hp.1;omega)
 ·rename_i len e l off k n hu;cases hs:bX P e with
  | none=>rw [hs]at h;cases h
  | some s=>
    rw [hs]at h;simp only [sI',pI']at h;obtain⟨rfl,rfl⟩:=h;obtain⟨b,kk,hl,rfl⟩:=hx;have e2:y=.int k n:=hy;subst e2;refine⟨.pointer (some ⟨b,off+n.toNat*s,none⟩),?_,⟨b,kk,hl,rfl⟩⟩;simp [Instr.indexAt,asIntOf,underlying,hu,hp,aV hs,Addr.add_lit,Instr.sureAddr]
 ·rename_i e c xs k n hu;split at h
  case isFalse=>cases h
  rename_i hs;simp only [sI',pI']at h;obtain⟨rfl,rfl⟩:=h;obtain⟨base,cap,rfl,aa,hb⟩:=hx;have e2:y=.int k n:=hy;subst e2;have ag:0<=n:=hp.1;have ac:n<xs.length:=hp.2;rcases hb with⟨b,off,cs,T,fz,rfl,g,tail,ah⟩ | h0
  ·refine⟨.pointer (some ⟨b,off+n.toNat,none⟩),?_,b,off+n.toNat,cs,T,fz,rfl,g,?_⟩
   ·simp [Instr.indexAt,asIntOf,underlying,hu,hp,aV hs,Addr.add_lit]
   ·have ad:n.toNat<xs.length:=by omega
    refine⟨Code1.val c (xs.getD n.toNat 0),[],?_,aLR _ c _,rfl⟩
    have:(cs.toList.drop (off+n.toNat))=Code1.val c (xs.getD n.toNat 0)::(xs.drop (n.toNat+1)).map (Code1.val c)++tail:=by
     rw [<-List.drop_drop,ah,List.drop_append_of_le_length (by simpa using Nat.le_of_lt ad),<-List.map_drop,List.drop_eq_getElem_cons ad,gD',gE' ad]
     rfl
    rw [this];rfl
  ·subst h0;simp at ac;omega
 ·rename_i e m w0 row k n hu;split at h
  case isFalse=>cases h
  rename_i hs;simp only [sI',pI']at h;obtain⟨rfl,rfl⟩:=h;obtain⟨base,cap,rfl,aa,hb⟩:=hx;have e2:y=.int k n:=hy;subst e2;have ag:0<=n:=hp.1;have ac:n<m:=hp.2;rcases hb with⟨b,off,cs,T,fz,rfl,g,ae⟩ | h0
  ·obtain⟨g1,g2⟩:=ae n.toNat (by omega)
   refine⟨.pointer (some ⟨b,off+n.toNat*w0,none⟩),?_,b,off+n.toNat*w0,cs,T,fz,rfl,g,by rw [g1];exact g2⟩
   simp [Instr.indexAt,asIntOf,underlying,hu,hp,aV hs,Addr.add_lit]
  ·omega
 ·rename_i e l r m w0 k n hu;split at h
  case isFalse=>cases h
  rename_i hs;simp only [sI',pI']at h;obtain⟨rfl,rfl⟩:=h;obtain⟨base,cap,rfl,aa,hb⟩:=hx;have e2:y=.int k n:=hy;subst e2;have ag:0<=n:=hp.1;have ac:n<m:=hp.2;rcases hb with⟨b,kk,hl,rfl,hk⟩ | ⟨h0,_⟩
  ·refine⟨.pointer (some ⟨b,r*w0+n.toNat*w0,none⟩),?_,b,kk,hl,by rw [Nat.add_mul,Nat.add_zero]⟩
   simp [Instr.indexAt,asIntOf,underlying,hu,hp,aV hs,Addr.add_lit]
  ·omega
 ·rename_i len e l r w0 j k n hu;cases hs:bX P e with
  | none=>rw [hs]at h;cases h
  | some s=>
    rw [hs]at h;simp only [sI',pI']at h;obtain⟨rfl,rfl⟩:=h;obtain⟨b,kk,hl,rfl⟩:=hx;have e2:y=.int k n:=hy;subst e2;refine⟨.pointer (some ⟨b,r*w0+j+n.toNat*s,none⟩),?_,b,kk,hl,by rw [Nat.add_assoc]⟩
    simp [Instr.indexAt,asIntOf,underlying,hu,hp,aV hs,Addr.add_lit,Instr.sureAddr]
 ·rename_i len e as k n hu;cases hs:bX P e with
  | none=>rw [hs]at h;cases h
  | some s=>
    rw [hs]at h;simp only [sI',pI']at h;obtain⟨rfl,rfl⟩:=h;obtain⟨b,off,cs,T,fz,rfl,g,af⟩:=hx;have e2:y=.int k n:=hy;subst e2;refine⟨.pointer (some ⟨b,off+n.toNat*s,none⟩),?_,x7 g af⟩;simp [Instr.indexAt,asIntOf,underlying,hu,hp,aV hs,Addr.add_lit,Instr.sureAddr]
 ·cases h
theorem F1{t:TypeId}{a i v:AVal}{p:Option Prop}{x y:Value}{w:World}(h:F0 P t a i=some (v,p))(hp:onp p)(hx:Rep V a x)(hy:Rep V i y):
 ∃v',(Instr.index t x y).run P w=.ok v' w/\Rep V v v':=by
 unfold F0 at h;split at h
 ·rename_i len e cs k n hu;cases hs:bX P e with
  | none=>rw [hs]at h;cases h
  | some s=>
    rw [hs]at h;simp only at h;cases ha:apart P e cs (n.toNat*s)with
    | none=>rw [ha]at h;cases h
    | some u=>
      rw [ha]at h;simp only [Option.map_some,sI',pI']at h;obtain⟨rfl,rfl⟩:=h;obtain⟨xs,rfl,rx⟩:=hx;have e2:y=.int k n:=hy;subst e2;obtain⟨v',h1,h2⟩:=oR (w:=w) ha rx;refine⟨v',?_,h2⟩;simp [Instr.index,asIntOf,underlying,hu,hp,aV hs,h1]
 ·rename_i s k n hu;simp only [sI',pI']at h;obtain⟨rfl,rfl⟩:=h;have e1:x=.string s:=hx;have e2:y=.int k n:=hy;subst e1 e2;refine⟨.int .u8 ((s.data.getD n.toNat 0).toNat :Int),?_,rfl⟩;have g:n.toNat<s.data.size:=hp.2
  have hg:s[n.toNat]? =some (s.data.getD n.toNat 0):=by
   rw [getElem?_pos s n.toNat hp.2];congr 1;show s.data[n.toNat]=s.data.getD n.toNat 0;rw [Array.getD_eq_getD_getElem?,Array.getElem?_eq_getElem g];rfl
  simp [Instr.index,asIntOf,underlying,hu,hp.1,hg]
 ·cases h
theorem bB{k:IntKind}{n:Int}{y:Nat}{c:BoundsCode}{w:World}(h0:0<=n)(h1:n.toNat<=y):(Instr.sliceBound (.int k n) y c).run P w=.ok n.toNat w:=by
 have:0<=n/\n<=(y:Int):=⟨h0,by omega⟩
 simp [Instr.sliceBound,asIntOf,this]
theorem dK{l off len sz lo hi:Nat}{base:Option Addr}{cap:Nat}(hc:len<=cap)
 (hb:(∃b k,V l=some (b,k)/\base=some ⟨b,off,none⟩/\off+cap*sz<=k)\/(len=0/\cap=0)) (h1:lo<=hi) (h2:hi<=len):
 Rep V (.slice l (off+lo*sz) (hi - lo) sz) (.slice (if cap=lo then base else base.map (·.add (lo*sz))) (hi - lo) (cap - lo)):=by
 refine⟨_,_,rfl,by omega,?_⟩
 by_cases g:cap=lo
 ·right;omega
 ·rw [if_neg g];rcases hb with⟨b,k,hl,rfl,hk⟩ | ⟨e1,e2⟩
  ·left;refine⟨b,k,hl,by simp [Addr.add_lit],?_⟩
   have:off+lo*sz+(cap - lo)*sz=off+cap*sz:=by
    rw [Nat.add_assoc,<-Nat.add_mul];congr 2;omega
   omega
  ·right;omega
theorem iM{c:Code1}{xs:List Int}{lo hi:Nat}{base:Option Addr}{cap:Nat}(hc:xs.length<=cap)
 (hb:(∃b off cs T fz,base=some ⟨b,off,none⟩/\Con.con b=some (.cells cs T fz)/\ ∃tail,cs.toList.drop off=xs.map (Code1.val c)++tail)\/xs=[]) (h1:lo<=hi) (h2:hi<=xs.length):
 Rep V (.iview c ((xs.take hi).drop lo)) (.slice (if cap=lo then base else base.map (·.add (lo*1))) (hi - lo) (cap - lo)):=by
 have hl:((xs.take hi).drop lo).length =hi - lo:=by rw [List.length_drop,List.length_take];omega
 refine⟨_,cap - lo,by rw [hl],by rw [hl];omega,?_⟩
 by_cases aa:cap=lo
 ·right;exact List.length_eq_zero_iff.1 (by rw [hl];omega)
 ·rw [if_neg aa];rcases hb with⟨b,off,cs,T,fz,rfl,g,tail,ht⟩ | e1
  ·left;refine⟨b,off+lo,cs,T,fz,by simp [Addr.add_lit],g,(xs.drop hi).map (Code1.val c)++tail,?_⟩
   rw [<-List.drop_drop,ht,List.drop_append_of_le_length (by simp;omega),<-List.append_assoc,<-List.map_append,<-List.map_drop]
   congr 2;have e:(xs.take hi++xs.drop hi).drop lo=(xs.take hi).drop lo++xs.drop hi:=List.drop_append_of_le_length (by rw [List.length_take];omega)
   rw [List.take_append_drop]at e;exact e
  ·right;rw [e1];simp
theorem jX{n w0:Nat}{row:Nat->List AVal}{lo hi:Nat}{base:Option Addr}{cap:Nat}(hc:n<=cap)
 (hb:(∃b off cs T fz,base=some ⟨b,off,none⟩/\Con.con b=some (.cells cs T fz)/\ ∀i,i<n->(row i).length =w0/\aH (fun _=>none) (row i) ((cs.toList.drop (off+i*w0)).take w0))\/n=0) (h1:lo<=hi) (h2:hi<=n):
 Rep V (.view (hi - lo) w0 (fun i=>row (lo+i))) (.slice (if cap=lo then base else base.map (·.add (lo*w0))) (hi - lo) (cap - lo)):=by
 refine⟨_,cap - lo,rfl,by omega,?_⟩
 by_cases aa:cap=lo
 ·right;omega
 ·rw [if_neg aa];rcases hb with⟨b,off,cs,T,fz,rfl,g,hr⟩ | e1
  ·left;refine⟨b,off+lo*w0,cs,T,fz,by simp [Addr.add_lit],g,?_⟩
   intro i ac;have:=hr (lo+i) (by omega)
   rw [Nat.add_mul,<-Nat.add_assoc]at this;exact this
  ·right;omega
theorem EU{a:AVal}{x:Value}(h:a.isSlice=true)(hx:Rep V a x): ∃base len cap,x=.slice base len cap:=by
 unfold AVal.isSlice at h;split at h
 ·obtain⟨base,cap,e,_⟩:=hx;exact⟨_,_,_,e⟩
 ·obtain⟨base,cap,e,_⟩:=hx;exact⟨_,_,_,e⟩
 ·obtain⟨base,cap,e,_⟩:=hx;exact⟨_,_,_,e⟩
 ·obtain⟨base,cap,e,_⟩:=hx;exact⟨_,_,_,e⟩
 ·obtain⟨base,e⟩:=hx;exact⟨_,_,_,e⟩
 ·exact⟨_,_,_,hx⟩
 ·cases h
theorem gP{l r len sz lo hi:Nat}{base:Option Addr}{cap:Nat}(hc:len<=cap)
 (hb:(∃b k,V l=some (b,k)/\base=some ⟨b,r*sz,none⟩/\r*sz+cap*sz<=k)\/(len=0/\cap=0)) (h1:lo<=hi) (h2:hi<=len):
 Rep V (.tslice l (r+lo) (hi - lo) sz) (.slice (if cap=lo then base else base.map (·.add (lo*sz))) (hi - lo) (cap - lo)):=by
 obtain⟨g,aa,e,c1,c2⟩:=dK hc hb h1 h2;simp only [Value.slice.injEq]at e;obtain⟨e1,e2,e3⟩:=e;subst e3;refine⟨g,_,by rw [e1],c1,?_⟩
 rw [Nat.add_mul];exact c2
theorem F8{t:TypeId}{a v:AVal}{lo hi mx:Option AVal}{p:Option Prop}{x:Value}{lo' hi' mx':Option Value}{w:World}(h:F7 P t a lo hi mx=some (v,p))(hp:onp p)(hx:Rep V a x)
 (hlo: ∀z,lo=some z-> ∃z',lo'=some z'/\Rep V z z') (hlo0:lo=none->lo'=none) (hhi: ∀z,hi=some z-> ∃z',hi'=some z'/\Rep V z z') (hhi0:hi=none->hi'=none) (hmx: ∀z,mx=some z-> ∃z',mx'=some z'/\Rep V z z') (hmx0:mx=none->mx'=none):
 ∃v',(Instr.sliceAt t x lo' hi' mx').run P w=.ok v' w/\Rep V v v':=by
 unfold F7 at h;split at h
 ·rename_i e km m hu;split at h
  ·rename_i s k b hs;split at h
   case isFalse=>cases h
   rename_i ac;simp only [sI',pI']at h;obtain⟨rfl,rfl⟩:=h;obtain⟨rfl,rfl⟩:=hp;obtain⟨base,len,cap,rfl⟩:=EU ac hx;obtain⟨z2,e2,r2⟩:=hhi _ rfl;have:z2=.int k 0:=r2;subst this;obtain⟨z3,e3,r3⟩:=hmx _ rfl;have:z3=.int km 0:=r3;subst this;rw [hlo0 rfl,e2,e3];refine⟨.slice base 0 0,?_,⟨base,rfl⟩⟩;simp [Instr.sliceAt,Instr.slice,underlying,hu,Instr.sliceBounds,aV hs,bB (y:=cap) (n:=0) (by omega) (by omega),bB (y:=0) (n:=0) (by omega) (by omega)]
  ·cases h
 ·rename_i e l r n0 w0 hu;rw [hmx0 rfl];split at h
  case isFalse=>cases h
  rename_i hs;obtain⟨base,cap,rfl,g,hb⟩:=hx;split at h
  ·rw [hlo0 rfl,hhi0 rfl];simp only [sI',pI']at h;obtain⟨rfl,rfl⟩:=h;have hr:=gP (V:=V) g hb (lo:=0) (hi:=n0) (Nat.zero_le _) (Nat.le_refl _);simp only [Nat.zero_mul,Nat.sub_zero,Nat.add_zero]at hr;refine⟨_,?_,hr⟩;simp [Instr.sliceAt,Instr.slice,underlying,hu,Instr.sliceBounds,aV hs]
  ·rename_i k n;obtain⟨z',e1,r1⟩:=hlo _ rfl;have:z'=.int k n:=r1;subst this;rw [e1,hhi0 rfl];simp only [sI',pI']at h;obtain⟨rfl,rfl⟩:=h;refine⟨_,?_,gP (V:=V) g hb (lo:=n.toNat) (hi:=n0) hp.2 (Nat.le_refl _)⟩;simp [Instr.sliceAt,Instr.slice,underlying,hu,Instr.sliceBounds,aV hs,bB hp.1 hp.2]
  ·rename_i k n;obtain⟨z',e1,r1⟩:=hhi _ rfl;have:z'=.int k n:=r1;subst this;rw [e1,hlo0 rfl];simp only [sI',pI']at h;obtain⟨rfl,rfl⟩:=h;have hr:=gP (V:=V) g hb (lo:=0) (hi:=n.toNat) (Nat.zero_le _) hp.2;simp only [Nat.zero_mul,Nat.sub_zero,Nat.add_zero]at hr;refine⟨_,?_,hr⟩;simp [Instr.sliceAt,Instr.slice,underlying,hu,Instr.sliceBounds,aV hs,bB (y:=cap) hp.1 (Nat.le_trans hp.2 g)]
  ·rename_i k n k' m;obtain⟨z',e1,r1⟩:=hlo _ rfl;have:z'=.int k n:=r1;subst this;obtain⟨z2,e2,r2⟩:=hhi _ rfl;have:z2=.int k' m:=r2;subst this;rw [e1,e2];simp only [sI',pI']at h;obtain⟨rfl,rfl⟩:=h;obtain⟨p1,p2,p3,p4⟩:=hp;refine⟨_,?_,gP (V:=V) g hb (lo:=n.toNat) (hi:=m.toNat) p2 p4⟩;simp [Instr.sliceAt,Instr.slice,underlying,hu,Instr.sliceBounds,aV hs,bB (y:=cap) p3 (Nat.le_trans p4 g),bB (y:=m.toNat) p1 p2]
  ·cases h
 ·rename_i e l off len sz hu;rw [hmx0 rfl];obtain⟨base,cap,rfl,g,hb⟩:=hx;split at h
  ·rename_i s hs;rw [hlo0 rfl,hhi0 rfl];split at h
   ·rename_i aa;subst aa;simp only [sI',pI']at h;obtain⟨rfl,rfl⟩:=h;have hr:=dK g hb (Nat.zero_le len) (Nat.le_refl len);simp only [Nat.zero_mul,Nat.add_zero,Nat.sub_zero]at hr;refine⟨_,?_,hr⟩;simp [Instr.sliceAt,Instr.slice,underlying,hu,Instr.sliceBounds,aV hs]
   ·cases h
  ·rename_i s k n hs;obtain⟨z',e1,r1⟩:=hlo _ rfl;have:z'=.int k n:=r1;subst this;rw [e1,hhi0 rfl];split at h
   ·rename_i aa;subst aa;simp only [sI',pI']at h;obtain⟨rfl,rfl⟩:=h;refine⟨_,?_,dK g hb (lo:=n.toNat) (hi:=len) hp.2 (Nat.le_refl len)⟩;simp [Instr.sliceAt,Instr.slice,underlying,hu,Instr.sliceBounds,aV hs,bB hp.1 hp.2]
   ·cases h
  ·rename_i s k n hs;obtain⟨z',e1,r1⟩:=hhi _ rfl;have:z'=.int k n:=r1;subst this;rw [e1,hlo0 rfl];split at h
   ·rename_i aa;subst aa;simp only [sI',pI']at h;obtain⟨rfl,rfl⟩:=h;have hr:=dK g hb (lo:=0) (hi:=n.toNat) (Nat.zero_le _) hp.2;simp only [Nat.zero_mul,Nat.add_zero,Nat.sub_zero]at hr;refine⟨_,?_,hr⟩;simp [Instr.sliceAt,Instr.slice,underlying,hu,Instr.sliceBounds,aV hs,bB (y:=cap) hp.1 (by omega)]
   ·cases h
  ·rename_i s k n k' m hs;obtain⟨z',e1,r1⟩:=hlo _ rfl;have:z'=.int k n:=r1;subst this;obtain⟨z2,e2,r2⟩:=hhi _ rfl;have:z2=.int k' m:=r2;subst this;rw [e1,e2];split at h
   ·rename_i aa;subst aa;simp only [sI',pI']at h;obtain⟨rfl,rfl⟩:=h;obtain⟨p1,p2,p3,p4⟩:=hp;refine⟨_,?_,dK g hb (lo:=n.toNat) (hi:=m.toNat) p2 p4⟩;simp [Instr.sliceAt,Instr.slice,underlying,hu,Instr.sliceBounds,aV hs,bB (y:=cap) p3 (by omega),bB (y:=m.toNat) p1 p2]
   ·cases h
  ·cases h
 ·rename_i e c xs hu;rw [hmx0 rfl];split at h
  case isFalse=>cases h
  rename_i hs;obtain⟨base,cap,rfl,g,hb⟩:=hx;split at h
  ·rw [hlo0 rfl,hhi0 rfl];simp only [sI',pI']at h;obtain⟨rfl,rfl⟩:=h;have hr:=iM (V:=V) g hb (lo:=0) (hi:=xs.length) (Nat.zero_le _) (Nat.le_refl _);simp only [Nat.zero_mul,Nat.sub_zero,List.drop_zero,List.take_length]at hr;refine⟨_,?_,hr⟩;simp [Instr.sliceAt,Instr.slice,underlying,hu,Instr.sliceBounds,aV hs]
  ·rename_i k n;obtain⟨z',e1,r1⟩:=hlo _ rfl;have:z'=.int k n:=r1;subst this;rw [e1,hhi0 rfl];simp only [sI',pI']at h;obtain⟨rfl,rfl⟩:=h;have hr:=iM (V:=V) g hb (lo:=n.toNat) (hi:=xs.length) hp.2 (Nat.le_refl _);rw [List.take_length]at hr;refine⟨_,?_,hr⟩;simp [Instr.sliceAt,Instr.slice,underlying,hu,Instr.sliceBounds,aV hs,bB hp.1 hp.2]
  ·rename_i k n;obtain⟨z',e1,r1⟩:=hhi _ rfl;have:z'=.int k n:=r1;subst this;rw [e1,hlo0 rfl];simp only [sI',pI']at h;obtain⟨rfl,rfl⟩:=h;have hr:=iM (V:=V) g hb (lo:=0) (hi:=n.toNat) (Nat.zero_le _) hp.2;simp only [Nat.zero_mul,Nat.sub_zero,List.drop_zero]at hr;refine⟨_,?_,hr⟩;simp [Instr.sliceAt,Instr.slice,underlying,hu,Instr.sliceBounds,aV hs,bB (y:=cap) hp.1 (Nat.le_trans hp.2 g)]
  ·rename_i k n k' m;obtain⟨z',e1,r1⟩:=hlo _ rfl;have:z'=.int k n:=r1;subst this;obtain⟨z2,e2,r2⟩:=hhi _ rfl;have:z2=.int k' m:=r2;subst this;rw [e1,e2];simp only [sI',pI']at h;obtain⟨rfl,rfl⟩:=h;obtain⟨p1,p2,p3,p4⟩:=hp;refine⟨_,?_,iM (V:=V) g hb (lo:=n.toNat) (hi:=m.toNat) p2 p4⟩;simp [Instr.sliceAt,Instr.slice,underlying,hu,Instr.sliceBounds,aV hs,bB (y:=cap) p3 (Nat.le_trans p4 g),bB (y:=m.toNat) p1 p2]
  ·cases h
 ·rename_i e q w0 row hu;rw [hmx0 rfl];split at h
  case isFalse=>cases h
  rename_i hs;obtain⟨base,cap,rfl,g,hb⟩:=hx;split at h
  ·rw [hlo0 rfl,hhi0 rfl];simp only [sI',pI']at h;obtain⟨rfl,rfl⟩:=h;have hr:=jX (V:=V) g hb (lo:=0) (hi:=q) (Nat.zero_le _) (Nat.le_refl _);simp only [Nat.zero_mul,Nat.sub_zero,Nat.zero_add]at hr;refine⟨_,?_,hr⟩;simp [Instr.sliceAt,Instr.slice,underlying,hu,Instr.sliceBounds,aV hs]
  ·rename_i k n;obtain⟨z',e1,r1⟩:=hlo _ rfl;have:z'=.int k n:=r1;subst this;rw [e1,hhi0 rfl];simp only [sI',pI']at h;obtain⟨rfl,rfl⟩:=h;refine⟨_,?_,jX (V:=V) g hb (lo:=n.toNat) (hi:=q) hp.2 (Nat.le_refl _)⟩;simp [Instr.sliceAt,Instr.slice,underlying,hu,Instr.sliceBounds,aV hs,bB hp.1 hp.2]
  ·rename_i k n;obtain⟨z',e1,r1⟩:=hhi _ rfl;have:z'=.int k n:=r1;subst this;rw [e1,hlo0 rfl];simp only [sI',pI']at h;obtain⟨rfl,rfl⟩:=h;have hr:=jX (V:=V) g hb (lo:=0) (hi:=n.toNat) (Nat.zero_le _) hp.2;simp only [Nat.zero_mul,Nat.sub_zero,Nat.zero_add]at hr;refine⟨_,?_,hr⟩;simp [Instr.sliceAt,Instr.slice,underlying,hu,Instr.sliceBounds,aV hs,bB (y:=cap) hp.1 (Nat.le_trans hp.2 g)]
  ·rename_i k n k' m;obtain⟨z',e1,r1⟩:=hlo _ rfl;have:z'=.int k n:=r1;subst this;obtain⟨z2,e2,r2⟩:=hhi _ rfl;have:z2=.int k' m:=r2;subst this;rw [e1,e2];simp only [sI',pI']at h;obtain⟨rfl,rfl⟩:=h;obtain⟨p1,p2,p3,p4⟩:=hp;refine⟨_,?_,jX (V:=V) g hb (lo:=n.toNat) (hi:=m.toNat) p2 p4⟩;simp [Instr.sliceAt,Instr.slice,underlying,hu,Instr.sliceBounds,aV hs,bB (y:=cap) p3 (Nat.le_trans p4 g),bB (y:=m.toNat) p1 p2]
  ·cases h
 ·rename_i s hu;rw [hmx0 rfl];have e1:x=.string s:=hx;subst e1;split at h
  ·rw [hlo0 rfl,hhi0 rfl];simp only [sI',pI']at h;obtain⟨rfl,rfl⟩:=h;refine⟨_,?_,rfl⟩;simp [Instr.sliceAt,Instr.slice,underlying,hu,Instr.sliceBounds]
  ·rename_i k n;obtain⟨z',e1,r1⟩:=hlo _ rfl;have:z'=.int k n:=r1;subst this;rw [e1,hhi0 rfl];simp only [sI',pI']at h;obtain⟨rfl,rfl⟩:=h;refine⟨_,?_,rfl⟩;simp [Instr.sliceAt,Instr.slice,underlying,hu,Instr.sliceBounds,bB hp.1 hp.2]
  ·rename_i k n;obtain⟨z',e1,r1⟩:=hhi _ rfl;have:z'=.int k n:=r1;subst this;rw [e1,hlo0 rfl];simp only [sI',pI']at h;obtain⟨rfl,rfl⟩:=h;refine⟨_,?_,rfl⟩;simp [Instr.sliceAt,Instr.slice,underlying,hu,Instr.sliceBounds,bB hp.1 hp.2]
  ·rename_i k n k' m;obtain⟨z',e1,r1⟩:=hlo _ rfl;have:z'=.int k n:=r1;subst this;obtain⟨z2,e2,r2⟩:=hhi _ rfl;have:z2=.int k' m:=r2;subst this;rw [e1,e2];simp only [sI',pI']at h;obtain⟨rfl,rfl⟩:=h;obtain⟨p1,p2,p3,p4⟩:=hp;refine⟨_,?_,rfl⟩;simp [Instr.sliceAt,Instr.slice,underlying,hu,Instr.sliceBounds,bB (y:=s.size) p3 p4,bB (y:=m.toNat) p1 p2]
  ·cases h
 ·cases h
end
end Go.Sh
namespace Go.Sh
open Go
variable [Con] {A:Type} {I:Itp A}
section
variable {P:Program} {V:Val}
theorem cU{h:aB A}{r:ORes A}(h1:r.upd=[])(h2:r.new=[]):r.apply h=h:=by
 simp [ORes.apply,h1,h2,hupd]
def cP(V:Val):aG A->List Value->Prop
 | .ints c xs,l=>l=xs.map c.val
 | .cells vs,l=>aH V vs l
 | .abs _ _,_=>False
 | .tab ks rows,l=>l=bL ks rows
 | .imap _ _ _,_=>False
 | .iter _ _ _ _ _ _,_=>False
theorem cP.mono{V V':Val}(hV:V.le V'){e:aG A}{l:List Value}(h:cP V e l):cP V' e l:=by
 cases e with
 | ints c xs=>exact h
 | cells vs=>exact aH.mono hV _ _ h
 | abs t ps=>exact h
 | tab ks rows=>exact h
 | imap kk vc m=>exact h
 | iter lm kk vc m left cur=>exact h
theorem kU{V:Val}{l b k:Nat}{e:aG A}{row tail:List Value}{cs:Array Value}{T:TypeId}(hl:V l=some (b,k))(hr:cP V e row)(hc:cs.toList=row++tail)(hk:cs.size=k):
 e.interp I V l (.one b (.cells cs T)):=by
 cases e with
 | ints c xs=>have g:row=xs.map c.val:=hr;subst g;exact .inr ⟨b,k,hl,cs,T,tail,rfl,hk,hc⟩
 | cells vs=>exact⟨b,k,hl,cs,T,rfl,hk,row,tail,hc,hr⟩
 | abs t ps=>exact hr.elim
 | tab ks rows=>have g:row=_:=hr;subst g;exact .inr ⟨b,k,hl,cs,T,tail,rfl,hk,hc⟩
 | imap kk vc m=>exact hr.elim
 | iter lm kk vc m left cur=>exact hr.elim
theorem rG{V V':Val}{l m:Nat}{e:aG A}{g:PHeap}(hV:V.le V')(h: ∀x,V l=some x->V' m=some x)(hi:e.interp I V l g):e.interp I V' m g:=by
 cases e with
 | cells vs=>
   obtain⟨b,k,e1,cs,T,e2,e3,rs,tl,e4,r⟩:=hi;exact⟨b,k,h _ e1,cs,T,e2,e3,rs,tl,e4,aH.mono hV _ _ r⟩
 | ints c xs=>
   rcases hi with⟨e1,e2,b,hl⟩ | ⟨b,k,e1,r⟩
   ·exact .inl ⟨e1,e2,b,h _ hl⟩
   ·exact .inr ⟨b,k,h _ e1,r⟩
 | abs t ps=>
   obtain⟨b,k,e1,bs,hb,r⟩:=hi;exact⟨b,k,h _ e1,bs,fX.mono hV hb,r⟩
 | tab ks rows=>
   rcases hi with⟨e1,e2,b,hl⟩ | ⟨b,k,e1,r⟩
   ·exact .inl ⟨e1,e2,b,h _ hl⟩
   ·exact .inr ⟨b,k,h _ e1,r⟩
 | imap kk vc m=>
   obtain⟨b,k,e1,r⟩:=hi;exact⟨b,k,h _ e1,r⟩
 | iter lm kk vc m left cur=>
   obtain⟨b,k,e1,bm,km,hm,r⟩:=hi;exact⟨b,k,h _ e1,bm,km,hV _ _ hm,r⟩
theorem iI{a:AVal}(h:fZ a=true):a=.raw (.slice none 0 0):=by
 unfold fZ at h;split at h
 ·rfl
 ·cases h
theorem lS{c:Code1} : ∀ {vs:List AVal} {ns:List Int} {l:List Value},gU c vs=some ns->aH V vs l->l=ns.map c.val
 | [],ns,l,h,r=>by simp [gU]at h;subst h;exact r
 | x::xs,ns,l,h,⟨v,vs',e,rv,rs⟩=>by
   simp only [gU]at h;split at h
   ·rename_i n ns' h1 h2;simp at h;subst h;subst e;rw [jV h1 rv,lS h2 rs];rfl
   ·cases h
theorem oE{ks:List Code1} : ∀ {n:Nat} {vs:List AVal} {rs:List (List Int)} {l:List Value},mZ ks n vs=some rs->aH V vs l->l=bL ks rs
 | 0,[],rs,l,h,r=>by simp [mZ]at h;subst h;exact r
 | 0,_::_,_,_,h,_=>by simp [mZ]at h
 | n+1,vs,rs,l,h,r=>by
   simp only [mZ]at h;split at h
   ·rename_i a as h1 h2;simp at h;subst h;obtain⟨q1,_⟩:=qF h1 (aH.take r ks.length);have q2:=oE h2 (aH.drop r ks.length);rw [<-List.take_append_drop ks.length l,q1,q2];simp [bL]
   ·cases h
theorem xV{e ey e':aG A}{row ws:List Value}(h:nL e ey=some e')(h1:cP V e row)(h2:cP V ey ws):cP V e' (row++ws):=by
 unfold nL at h;split at h
 ·split at h
  ·rename_i hc;subst hc;simp at h;subst h;have e1:row=_:=h1;have e2:ws=_:=h2;subst e1 e2;simp [cP]
  ·cases h
 ·rename_i c xs vs;cases g:gU c vs with
  | none=>rw [g]at h;cases h
  | some ys=>
    rw [g]at h;simp at h;subst h;have e1:row=_:=h1;have e2:=lS g h2;subst e1 e2;simp [cP]
 ·rename_i vs c ys;cases g:gU c vs with
  | none=>rw [g]at h;cases h
  | some xs=>
    rw [g]at h;simp at h;subst h;have e1:=lS g h1;have e2:ws=_:=h2;subst e1 e2;simp [cP]
 ·simp at h;subst h;exact aH.append h1 h2
 ·split at h
  ·rename_i hc;subst hc;simp at h;subst h;have e1:row=_:=h1;have e2:ws=_:=h2;subst e1 e2;exact(gT _ _ _).symm
  ·cases h
 ·rename_i ks xs vs;cases g:mZ ks (vs.length / ks.length) vs with
  | none=>rw [g]at h;cases h
  | some ys=>
    rw [g]at h;simp at h;subst h;have e1:row=_:=h1;have e2:=oE g h2;subst e1 e2;exact(gT _ _ _).symm
 ·cases h
theorem aFK{h:aY A}{hR:PHeap}{w:World}(hi:Inv I V h hR w){l len cap sz:Nat}{e:aG A}(hl:h l=some e){base:Option Addr}(hsz:0<sz)
 (hrow:(∃c xs,e=.ints c xs/\len=xs.length/\sz=1)\/(∃vs,e=.cells vs/\len*sz=vs.length)\/(∃ks rows,e=.tab ks rows/\len=rows.length/\sz=ks.length))
 (hb:(∃b k,V l=some (b,k)/\base=some ⟨b,0,none⟩/\0+cap*sz<=k)\/(len=0/\cap=0)):
 ∃row,cP V e row/\row.length=len*sz/\
  ((∃b k cs T tail,V l=some (b,k)/\base=some ⟨b,0,none⟩/\w.heap[b]? =some (.cells cs T)/\cs.size=k/\cs.toList=row++tail/\cap*sz<=k/\
    ∀g,e.interp I V l g-> ∃o,g=.one b o)\/(len=0/\cap=0)):=by
 have zero: ∀n:Nat,0+n*sz<=0->n=0:=by
  intro n hn;rcases Nat.eq_zero_or_pos n with h | h
  ·exact h
  ·have:=Nat.mul_pos h hsz;omega
 rcases hrow with⟨c,xs,rfl,rfl,rfl⟩ | ⟨vs,rfl,ae⟩ | ⟨ks,rows,rfl,rfl,rfl⟩
 ·refine⟨xs.map c.val,rfl,by simp,?_⟩
  rcases hb with⟨b',k',e5,e6,e7⟩ | hb
  ·by_cases ad:k'=0
   ·subst ad;have hc:=zero cap e7;obtain⟨hs,h1,h2,h3,h4,h5,h6⟩:=hi;rcases h1 l _ hl with⟨q1,_⟩ | ⟨b,k,q1,cs,T,tail,q2,q3,q4⟩
    ·right;exact⟨by simp [q1],hc⟩
    ·rw [e5]at q1;cases q1
     have:xs.length+tail.length=0:=by
      have:=congrArg List.length q4;rw [Array.length_toList,q3]at this;simpa using this.symm
     right;exact⟨by omega,hc⟩
   ·left
    have ac: ∀g,(aG.ints c xs:aG A).interp I V l g-> ∃b k cs T tail,V l=some (b,k)/\g=.one b (.cells cs T)/\cs.size=k/\cs.toList=xs.map c.val++tail:=by
     intro g hg;rcases hg with⟨_,_,b,q⟩ | ⟨b,k,q1,cs,T,tail,q2,q3,q4⟩
     ·rw [e5]at q;cases q;exact(ad rfl).elim
     ·exact⟨b,k,cs,T,tail,q1,q2,q3,q4⟩
    obtain⟨hs,h1,h2,h3,h4,h5,h6⟩:=hi;obtain⟨b,k,cs,T,tail,q1,q2,q3,q4⟩:=ac _ (h1 l _ hl);have aa:=h5 l;rw [q2]at aa;rw [e5]at q1;cases q1;refine⟨b',k',cs,T,tail,e5,e6,PHeap.one_sub.1 aa,q3,q4,by omega,?_⟩
    intro g hg;obtain⟨b,k,cs,T,tail,q1,q2,_,_⟩:=ac g hg;rw [e5]at q1;cases q1;exact⟨_,q2⟩
  ·exact .inr hb
 ·obtain⟨b,k,cs,T,rs,tail,e1,e2,e3,e4,e5⟩:=hi.cells hl;refine⟨rs,e5,by rw [aH.length e5];exact ae.symm,?_⟩
  rcases hb with⟨b',k',e6,e7,e8⟩ | hb
  ·rw [e1]at e6;cases e6;refine .inl ⟨b,k,cs,T,tail,e1,e7,e2,e3,e4,by omega,?_⟩
   rintro g ⟨b1,k1,q1,af,T1,q2,_⟩;rw [e1]at q1;cases q1;exact⟨_,q2⟩
  ·exact .inr hb
 ·refine⟨bL ks rows,rfl,cS ks rows,?_⟩;rcases hb with⟨b',k',e5,e6,e7⟩ | hb
  ·by_cases ad:k'=0
   ·subst ad;have hc:=zero cap e7;obtain⟨hs,h1,h2,h3,h4,h5,h6⟩:=hi;rcases h1 l _ hl with⟨q1,_⟩ | ⟨b,k,q1,cs,T,tail,q2,q3,q4⟩
    ·right;exact⟨by simp [q1],hc⟩
    ·rw [e5]at q1;cases q1
     have:rows.length*ks.length+tail.length=0:=by
      have:=congrArg List.length q4;rw [Array.length_toList,q3,List.length_append,cS]at this;exact this.symm
     have h0:rows.length*ks.length=0:=by omega
     right;exact⟨zero rows.length (by omega),hc⟩
   ·left
    have ac: ∀g,(aG.tab ks rows:aG A).interp I V l g-> ∃b k cs T tail,V l=some (b,k)/\g=.one b (.cells cs T)/\cs.size=k/\cs.toList=bL ks rows++tail:=by
     intro g hg;rcases hg with⟨_,_,b,q⟩ | ⟨b,k,q1,cs,T,tail,q2,q3,q4⟩
     ·rw [e5]at q;cases q;exact(ad rfl).elim
     ·exact⟨b,k,cs,T,tail,q1,q2,q3,q4⟩
    obtain⟨hs,h1,h2,h3,h4,h5,h6⟩:=hi;obtain⟨b,k,cs,T,tail,q1,q2,q3,q4⟩:=ac _ (h1 l _ hl);have aa:=h5 l;rw [q2]at aa;rw [e5]at q1;cases q1;refine⟨b',k',cs,T,tail,e5,e6,PHeap.one_sub.1 aa,q3,q4,by omega,?_⟩
    intro g hg;obtain⟨b,k,cs,T,tail,q1,q2,_,_⟩:=ac g hg;rw [e5]at q1;cases q1;exact⟨_,q2⟩
  ·exact .inr hb
theorem oI{ks:List Code1}{rows:List (List Int)}(hk:0<ks.length)(h: []=bL ks rows):rows=[]:=by
 have:=congrArg List.length h;rw [cS]at this;have h0:rows.length*ks.length=0:=this.symm;cases rows with
 | nil=>rfl
 | cons x xs=>
   simp only [List.length_cons,Nat.succ_mul]at h0;omega
def aG.wide:aG A->Bool
 | .tab ks _=>Nat.blt 0 ks.length
 | _=>true
theorem KW{V V':Val}{l m:Nat}{e ey e':aG A}{g:PHeap}(hwd:e.wide=true)(hj:nL e ey=some e')(h1:cP V e [])(h2:cP V ey [])(hV:V.le V')(h: ∀x,V l=some x->V' m=some x)(hi:e.interp I V l g):e'.interp I V' m g:=by
 have hm:=rG (I:=I) hV h hi;unfold nL at hj;split at hj
 ·split at hj
  ·rename_i hc;subst hc;rename_i c xs ys;simp at hj;subst hj;have e2:([]:List Value)=ys.map c.val:=h2;have:ys=[]:=by cases ys with | nil=>rfl | cons y ys=>cases e2
   subst this
   simpa using hm
  ·cases hj
 ·rename_i c xs vs;have aa:vs=[]:=List.length_eq_zero_iff.1 (aH.length h2).symm;subst aa;simp [gU]at hj;subst hj
  simpa using hm
 ·rename_i vs c ys;have aa:vs=[]:=List.length_eq_zero_iff.1 (aH.length h1).symm;subst aa;simp [gU]at hj;subst hj;have e2:([]:List Value)=ys.map c.val:=h2;have:ys=[]:=by cases ys with | nil=>rfl | cons y ys=>cases e2
  subst this;obtain⟨b,k,q1,cs,T,q2,q3,rs,tl,q4,q5⟩:=hm;have:rs=[]:=List.length_eq_zero_iff.1 (aH.length q5);subst this;exact .inr ⟨b,k,q1,cs,T,tl,q2,q3,by simpa using q4⟩
 ·rename_i vs ws;have aa:vs=[]:=List.length_eq_zero_iff.1 (aH.length h1).symm;have ac:ws=[]:=List.length_eq_zero_iff.1 (aH.length h2).symm;subst aa ac;simp at hj;subst hj;exact hm
 ·rename_i ks xs ad ys;have hk:0<ks.length:=Nat.le_of_ble_eq_true hwd;split at hj
  ·rename_i hc;subst hc;simp at hj;subst hj;have:ys=[]:=oI hk h2;subst this
   simpa using hm
  ·cases hj
 ·rename_i ks xs vs;have hk:0<ks.length:=Nat.le_of_ble_eq_true hwd;have aa:vs=[]:=List.length_eq_zero_iff.1 (aH.length h2).symm;subst aa;simp [mZ]at hj;subst hj
  simpa using hm
 ·cases hj
theorem d5{w:World}{b off n sz len cap:Nat}{cs:Array Value}{T:TypeId}{fz:Nat×Nat}(hb:w.heap[b]? =some (.cells cs T fz))(l:List Value)(hl:l.length=n*sz)(h: ∀j v,l[j]? =some v->cs[off+j]? =some v):
 (Builtin.firstCells sz n (.slice (some ⟨b,off,none⟩) len cap)).run P w=.ok l.toArray w:=by
 simp only [Builtin.firstCells];rw [<-hl];exact iK hb l h
theorem cE{w:World}{sz len cap:Nat}{base:Option Addr} :(Builtin.firstCells sz 0 (.slice base len cap)).run P w=.ok #[] w:=by
 cases base with
 | none=>simp [Builtin.firstCells]
 | some a=>simp [Builtin.firstCells,loadCells,loadCellsFrom]
theorem lH{x:AVal}{sz:Nat}{h:aB A}{ey:aG A}{m:Nat}{lx:List Nat}{p:Option Prop}{hR:PHeap}{w:World}{x':Value}(hs:lG x sz h=some (ey,m,lx,p))(hp:onp p)(hi:Inv I V (toF h) hR w)(hx:Rep V x x'):
 ∃ws base cap,x'=.slice base m cap/\(∀q,q<=m->(Builtin.firstCells sz q x').run P w=.ok (ws.take (q*sz)).toArray w)/\ws.length=m*sz/\cP V ey ws/\ ∀v∈ws,v.oneCell'=true:=by
 unfold lG at hs;split at hs
 ·rename_i l off n s;split at hs
  ·rename_i aj;subst aj;obtain⟨base,cap,rfl,ac,hb⟩:=hx;split at hs
   ·rename_i c xs hh;split at hs
    ·rename_i ad;subst ad;simp only [sI',pI']at hs;obtain⟨rfl,rfl,rfl,rfl⟩:=hs
     by_cases h0:n=0
     ·subst h0;exact⟨[],base,cap,rfl,fun q hq=>by rw [Nat.le_zero.1 hq];simpa using cE,by simp,by simp [cP],by simp⟩
     ·have ae:xs≠ []:=by intro e;subst e;simp at hp;omega
      obtain⟨b,k,cs,T,tail,e1,e2,e3,e4⟩:=hi.ints (l:=l) hh ae;rcases hb with⟨b',k',e5,e6,e7⟩ | ⟨e5,_⟩
      ·rw [e1]at e5;cases e5;subst e6;have aa:((xs.drop off).take n).length =n:=by simp;omega
       refine⟨((xs.drop off).take n).map c.val,_,_,rfl,?_,by simp;omega,rfl,by
        intro v hv;obtain⟨y,_,rfl⟩:=List.mem_map.1 hv;cases c<;>rfl⟩
       intro q hq;refine d5 e2 _ (by simp;omega) ?_
       intro j v hj;rw [<-Array.getElem?_toList,e4];rw [List.getElem?_take]at hj;split at hj
       case isFalse=>cases hj
       rw [List.getElem?_map,List.getElem?_take]at hj;split at hj
       ·rw [List.getElem?_drop]at hj;cases hq:xs[off+j]? with
        | none=>rw [hq]at hj;cases hj
        | some q=>
          have ap:off+j<xs.length:=by
           cases Nat.lt_or_ge (off+j) xs.length with
           | inl g=>exact g
           | inr g=>rw [List.getElem?_eq_none g]at hq;cases hq
          rw [List.getElem?_append_left (by simpa using ap),List.getElem?_map]
          exact hj
       ·cases hj
      ·exact(h0 e5).elim
    ·cases hs
   ·rename_i vs hh;split at hs
    ·rename_i af;obtain⟨aa,ag⟩:=af;simp only [sI',pI']at hs;obtain⟨rfl,rfl,rfl,rfl⟩:=hs;obtain⟨b,k,cs,T,rs,tail,e1,e2,e3,e4,e5⟩:=hi.cells (l:=l) hh;have av:=aH.length e5;rcases hb with⟨b',k',e6,e7,e8⟩ | ⟨e6,_⟩
     ·rw [e1]at e6;cases e6;subst e7;have aq:((rs.drop off).take (n*s)).length =n*s:=by simp;omega
      refine⟨(rs.drop off).take (n*s),_,_,rfl,?_,aq,aH.take (aH.drop e5 off) _,aH.all (aH.take (aH.drop e5 off) _) ag⟩;intro q hq;have am:q*s<=n*s:=Nat.mul_le_mul_right _ hq;refine d5 e2 _ (by rw [List.length_take];omega) ?_
      intro j v hj;rw [<-Array.getElem?_toList,e4];rw [List.getElem?_take]at hj;split at hj
      case isFalse=>cases hj
      rw [List.getElem?_take]at hj;split at hj
      ·rw [List.getElem?_drop]at hj;rw [List.getElem?_append_left]
       ·exact hj
       ·cases Nat.lt_or_ge (off+j) rs.length with
        | inl g=>exact g
        | inr g=>rw [List.getElem?_eq_none g]at hj;cases hj
      ·cases hj
     ·subst e6;exact⟨[],base,cap,rfl,fun q hq=>by rw [Nat.le_zero.1 hq];simpa using cE,by simp,by simp [cP,aH],by simp⟩
    ·cases hs
   ·cases hs
  ·cases hs
 ·rename_i c xs;split at hs
  case isFalse=>cases hs
  rename_i ad;subst ad;simp only [sI',pI']at hs;obtain⟨rfl,rfl,rfl,rfl⟩:=hs;obtain⟨base,cap,rfl,ac,hb⟩:=hx;rcases hb with⟨b,off,cs,T,fz,rfl,ah,tail,ht⟩ | h0
  ·refine⟨xs.map (Code1.val c),_,_,rfl,?_,by simp,rfl,by
    intro v hv;obtain⟨y,_,rfl⟩:=List.mem_map.1 hv;cases c<;>rfl⟩
   intro q hq;refine d5 (hi.conW ah) _ (by simp;omega) ?_
   intro j v hj;rw [<-Array.getElem?_toList,<-List.getElem?_drop,ht];rw [List.getElem?_take]at hj;split at hj
   ·rw [List.getElem?_append_left]
    ·exact hj
    ·cases Nat.lt_or_ge j (xs.map (Code1.val c)).length with
     | inl g=>exact g
     | inr g=>rw [List.getElem?_eq_none g]at hj;cases hj
   ·cases hj
  ·subst h0;exact⟨[],base,cap,rfl,fun q hq=>by rw [Nat.le_zero.1 hq];simpa using cE,by simp,by simp [cP],by simp⟩
 ·rename_i l r n w0;split at hs
  case isFalse=>cases hs
  rename_i hw;subst hw;split at hs
  ·rename_i ks rows hh;split at hs
   ·rename_i ar;subst ar;simp only [sI',pI']at hs;obtain⟨rfl,rfl,rfl,rfl⟩:=hs;have ao:r+n<=rows.length:=hp;obtain⟨base,cap,rfl,ac,hb⟩:=hx
    by_cases h0:n=0
    ·subst h0;exact⟨[],base,cap,rfl,fun q hq=>by rw [Nat.le_zero.1 hq];simpa using cE,by simp,by simp [cP,bL],by simp⟩
    ·have ae:rows≠ []:=by intro e;subst e;simp at ao;omega
     obtain⟨b,k,cs,T,tail,e1,e2,e3,e4⟩:=hi.tab (l:=l) hh ae;rcases hb with⟨b',k',e5,e6,e7⟩ | ⟨e5,_⟩
     ·rw [e1]at e5;cases e5;subst e6
      have ai:bL ks ((rows.drop r).take n)=((bL ks rows).drop (r*ks.length)).take (n*ks.length):=by
       rw [rW,A1]
      have aa:(bL ks ((rows.drop r).take n)).length =n*ks.length:=by
       rw [cS,List.length_take,List.length_drop,Nat.min_eq_left (by omega)]
      refine⟨bL ks ((rows.drop r).take n),_,_,rfl,?_,aa,rfl,?_⟩
      ·intro q hq;have am:q*ks.length<=n*ks.length:=Nat.mul_le_mul_right _ hq;refine d5 e2 _ (by rw [List.length_take];omega) ?_
       intro j v hj;rw [<-Array.getElem?_toList,e4];rw [ai]at hj;rw [List.getElem?_take]at hj;split at hj
       ·rw [List.getElem?_take]at hj;split at hj
        ·rw [List.getElem?_drop]at hj;rw [List.getElem?_append_left]
         ·exact hj
         ·cases Nat.lt_or_ge (r*ks.length+j) (bL ks rows).length with
          | inl g=>exact g
          | inr g=>rw [List.getElem?_eq_none g]at hj;cases hj
        ·cases hj
       ·cases hj
      ·intro v hv;unfold bL at hv;obtain⟨rv,al,ak⟩:=List.mem_flatten.1 hv;obtain⟨au,_,rfl⟩:=List.mem_map.1 al
       have: ∀(ks:List Code1) (xs:List Int),∀v∈cN ks xs,v.oneCell'=true:=by
        intro ks
        induction ks with
        | nil=>intro xs v hv;cases hv
        | cons k ks ih=>
          intro xs v hv;simp only [cN,List.mem_cons]at hv;rcases hv with rfl | hv
          ·cases k<;>rfl
          ·exact ih _ v hv
       exact this _ _ v ak
     ·exact(h0 e5).elim
   ·cases hs
  ·cases hs
 ·simp only [sI',pI']at hs;obtain⟨rfl,rfl,rfl,rfl⟩:=hs;obtain⟨base,rfl⟩:=hx;exact⟨[],base,0,rfl,fun q hq=>by rw [Nat.le_zero.1 hq];simpa using cE,by simp,by simp [cP,aH],by simp⟩
 ·split at hs
  ·rename_i hn;have:=iI hn;subst this;simp only [sI',pI']at hs;obtain⟨rfl,rfl,rfl,rfl⟩:=hs;have:x'=.slice none 0 0:=hx;subst this;exact⟨[],none,0,rfl,fun q hq=>by rw [Nat.le_zero.1 hq];simpa using cE,by simp,by simp [cP,aH],by simp⟩
  ·cases hs
end
end Go.Sh
namespace Go.Sh
open Go
variable [Con] {A:Type} {I:Itp A}
section
variable {P:Program} {V:Val}
theorem jH{st xt ty e e2:TypeId}{base2:Option Addr}{sLen sCap m cap2 sz:Nat}{w:World}{ws:List Value}(h1:P.underlying st=some (.slice e))(h2:P.underlying xt=some (.slice e2))(h3:bX P e=some sz)
 (h4:(Builtin.firstCells sz m (.slice base2 m cap2)).run P w=.ok ws.toArray w) (h5:sLen+m<=sCap):
 (Builtin.append_ #[st,xt] ty #[.slice none sLen sCap,.slice base2 m cap2]).run P w=.ok (.slice none (sLen+m) sCap) w:=by
 simp [Builtin.append_,underlying,h1,h2,aV h3,Builtin.lenOf,h4,h5]
theorem kN{st xt ty e e2:TypeId}{a:Addr}{base2:Option Addr}{sLen sCap m cap2 sz:Nat}{w w':World}{ws:List Value}(h1:P.underlying st=some (.slice e))(h2:P.underlying xt=some (.slice e2))(h3:bX P e=some sz)
 (h4:(Builtin.firstCells sz m (.slice base2 m cap2)).run P w=.ok ws.toArray w) (h5:sLen+m<=sCap) (h6:(storeCells (a.add (sLen*sz)) ws).run P w=.ok () w'):
 (Builtin.append_ #[st,xt] ty #[.slice (some a) sLen sCap,.slice base2 m cap2]).run P w=.ok (.slice (some a) (sLen+m) sCap) w':=by
 simp [Builtin.append_,underlying,h1,h2,aV h3,Builtin.lenOf,h4,h5,h6]
theorem lF{st xt ty e e2:TypeId}{i:TypeInfo}{z:Value}{base base2:Option Addr}{sLen sCap m cap2:Nat}{w:World}{ws row:List Value}(h1:P.underlying st=some (.slice e))(h2:P.underlying xt=some (.slice e2))(h3:P.info? e=some i)(hz:i.zero=some z)
 (h4:(Builtin.firstCells i.size m (.slice base2 m cap2)).run P {w with drawn:=w.drawn+1} =.ok ws.toArray {w with drawn:=w.drawn+1}) (h5:sCap<sLen+m) (hb:i.bytes<=4096) (hm:sLen+m<=4294967296)
 (h6:(Builtin.firstCells i.size sLen (.slice base sLen sCap)).run P {w with drawn:=w.drawn+1} =.ok row.toArray {w with drawn:=w.drawn+1}):
 ∃cap rest,sLen+m<=cap/\rest.length=(cap - (sLen+m))*z.cells.size/\
  (Builtin.append_ #[st,xt] ty #[.slice base sLen sCap,.slice base2 m cap2]).run P w=
    .ok (.slice (some ⟨w.heap.size,0,none⟩) (sLen+m) cap) {w with drawn:=w.drawn+1,heap:=w.heap.push (.cells (row++ws++rest).toArray e) } :=by
 have ae:bX P e=some i.size:=by simp [bX,h3]
 have hn: ¬(sLen+m<=sCap):=by omega
 have aa:IntKind.i64.max=9223372036854775807:=by decide
 have ai: ¬((((sLen+m:Nat):Int)>IntKind.i64.max)/\(false=true\/i.bytes=0)):=by rw [aa];omega
 have ah:=nextslicecap_le h5
 have ag: ¬(Builtin.nextslicecap (sLen+m) sCap*i.bytes>2^48):=by
  have:Builtin.nextslicecap (sLen+m) sCap*i.bytes<=(2*4294967296)*4096:=Nat.mul_le_mul (by omega) hb
  omega
 let q:=Question.appendCap (sLen+m) sCap e
 refine⟨q.cut (w.tape w.drawn q),(Builtin.zeroCells z.cells (q.cut (w.tape w.drawn q) - (sLen+m))).toList,?_,?_,?_⟩
 ·show sLen+m<=sLen+m+_;omega
 ·simp [Builtin.zeroCells]
 ·have hf:Question.forced (.appendCap (sLen+m) sCap e)=false:=rfl;have ad:(typeInfo e).run P w=.ok i w:=by simp [typeInfo,h3]
  have g:(typeInfo e).run P {w with drawn:=w.drawn+1} =.ok i {w with drawn:=w.drawn+1} :=by simp [typeInfo,h3]
  have ac:(zeroValue e).run P {w with drawn:=w.drawn+1} =.ok z {w with drawn:=w.drawn+1} :=by simp [zeroValue,typeInfo,h3,hz]
  unfold Builtin.append_;simp only [List.getElem?_toArray,List.getElem?_cons_zero,List.getElem?_cons_succ,Sem.run_bind,underlying,run_program,Result.andThen_ok,h1,h2,Sem.run_pure,aV ae,Builtin.lenOf,Bool.false_eq_true,if_false,hn,Sem.run_ite];simp only [ad,Result.andThen_ok,ag,if_false,run_choose,hf,Bool.false_eq_true,Sem.run_bind,run_askRoom,h6,h4,ac,Bool.not_false,if_true,Sem.run_pure,newRow,run_newObj,g,false_or];have af: ¬((((sLen+m:Nat):Int)>IntKind.i64.max)/\i.bytes=0):=by rw [aa];omega
  rw [if_neg af];congr 3;apply congrArg (fun c=>Obj.cells c e);apply Array.ext';simp [q]
theorem dZ{s:Sem Value}{v:Value}{w w':World}(h:s.run P w=.ok v w'):(do Pure.pure (.value (<-s)):Sem Next).run P w=.ok (.value v) w':=by
 simp only [Sem.run_bind,h,Result.andThen_ok,Sem.run_pure]
theorem sT: ∀(ws row tail:List Value),ws.length<=tail.length->dT (row++tail) row.length ws=(row++ws)++tail.drop ws.length
 | [],row,tail,_=>by simp [dT]
 | x::ws,row,[],h=>by simp at h
 | x::ws,row,y::tail,h=>by
   simp only [dT,List.length_cons,List.drop_succ_cons]
   have e1:(row++y::tail).set row.length x=(row++ [x])++tail:=by
    rw [List.set_append_right _ _ (Nat.le_refl _),Nat.sub_self];simp
   have g:row.length+1=(row++ [x]).length :=by simp
   rw [e1,g,sT ws (row++ [x]) tail (by simp at h;omega)]
   simp
theorem aL9{P:Program}{V:Val}{n:Nat}{hR:PHeap}{w:World}{v u:AVal}{h:aY A}{k:Nat}{s:Sem Next}(hc: ∀V' x,Rep V' v x->Rep V' u x)(ho:dL I P V n hR w v h k s):dL I P V n hR w u h k s:=by
 obtain⟨nx,g,V',v',h1,h2,h3,h4,h5,h6,h7⟩:=ho;exact⟨nx,g,V',v',h1,h2,h3,h4,hc _ _ h5,h6,h7⟩
theorem lR{V:Val}{l n sz:Nat}{x:Value}(h:Rep V (.slice l 0 n sz) x):Rep V (.tslice l 0 n sz) x:=by
 obtain⟨base,cap,e,hc,hb⟩:=h;refine⟨base,cap,e,hc,?_⟩;rw [Nat.zero_mul];exact hb
theorem FX{st xt ty:TypeId}{s x:AVal}{h:aB A}{r:ORes A}{hR:PHeap}{w:World}{s' x':Value}{sem:Sem Next}(hr:zF P st xt s x h=some r)(ho:r.obl)(hi:Inv I V (toF h) hR w)
 (hn: ∀l,h.length<=l->l<h.length+r.new.length->V l=none) (hs:Rep V s s') (hx:Rep V x x') (hsem:sem=(do Pure.pure (.value (<-Builtin.append_ #[st,xt] ty #[s',x'])))):
 dL I P V h.length hR w r.v (toF (r.apply h)) r.new.length sem:=by
 subst hsem;unfold zF at hr;split at hr
 case h_2=>cases hr
 rename_i e e2 h1 h2;cases ay:P.info? e with
 | none=>rw [ay]at hr;cases hr
 | some i=>
   rw [ay]at hr;simp only at hr;split at hr
   case isFalse=>cases hr
   rename_i bi;obtain⟨bu,ar,ah⟩:=bi;have am:bX P e=some i.size:=by simp [bX,ay]
   obtain⟨z,hz,b5⟩: ∃z,i.zero=some z/\(gA z).cells.length =i.size:=by
    cases hz:i.zero with
    | none=>rw [hz]at ah;cases ah
    | some z=>rw [hz]at ah;exact⟨z,rfl,by simpa using ah⟩
   have bl:z.cells.size=i.size:=by
    have:=aH.length (dC V z);rw [Array.length_toList]at this;rw [this,b5]
   cases az:lG x i.size h with
   | none=>rw [az]at hr;cases hr
   | some q=>
     obtain⟨ey,m,lx,p⟩:=q;rw [az]at hr;simp only at hr
     have src: ∀n,onp p-> ∃ws aa ae,x'=.slice aa m ae/\(Builtin.firstCells i.size m x').run P {w with drawn:=n} =.ok ws.toArray {w with drawn:=n} /\ws.length=m*i.size/\cP V ey ws/\ ∀v∈ws,v.oneCell'=true:=
      fun n hp=>by
       obtain⟨ws,aa,ae,e1,e2,e3,e4,e5⟩:=lH az hp (hi.drew n) hx;refine⟨ws,aa,ae,e1,?_,e3,e4,e5⟩;have:=e2 m (Nat.le_refl _)
       rwa [<-e3,List.take_length]at this
     have main: ∀(l n:Nat) (en e':aG A) (base:Option Addr) (cap:Nat),aK h l=some en->s'=.slice base n cap->n<=cap->nL en ey=some e'->onp p->n+m<=4294967296->
      ((∃c xs,en=.ints c xs/\n=xs.length/\i.size=1)\/(∃vs,en=.cells vs/\n*i.size=vs.length)\/(∃ks rows,en=.tab ks rows/\n=rows.length/\i.size=ks.length))->
      ((∃b k,V l=some (b,k)/\base=some ⟨b,0,none⟩/\0+cap*i.size<=k)\/(n=0/\cap=0))->V h.length=none->
      dL I P V h.length hR w (.slice h.length 0 (n+m) i.size) (toF (hupd h [(l,none)]++ [e'].map some)) 1 (do Pure.pure (.value (<-Builtin.append_ #[st,xt] ty #[s',x']))):=by
      intro l n en e' base cap hl ad al hj hp b1 bf hb hV
      have b7:en.wide=true:=by
       rcases bf with⟨c,xs,rfl,_⟩ | ⟨vs,rfl,_⟩ | ⟨ks,rows,rfl,_,hk⟩
       ·rfl
       ·rfl
       ·show Nat.blt 0 ks.length=true;exact Nat.ble_eq_true_of_le (by omega)
      subst ad;have b8:=cD hl
      have hF:toF (hupd h [(l,none)]++ [e'].map some)=((toF h).put l none).put h.length (some e'):=by
       have h1:hupd h [(l,none)]=h.set l none:=rfl;rw [h1];have h2:(h.set l none).length =h.length:=by simp
       have:=fS (h.set l none) e';rw [h2,fW none b8]at this;exact this
      rw [hF];have af:h.length≠l:=by omega
      obtain⟨ws,aa,ae,rfl,ai,au,ax,bg⟩:=src w.drawn hp;obtain⟨a8,b3,cf,cb,br,bq,bo,ci⟩:=src (w.drawn+1) hp;cases cb
      have grow: ∀row:List Value,cP V en row->row.length=n*i.size->cap<n+m->(∀d,(Builtin.firstCells i.size n (.slice base n cap)).run P {w with drawn:=d} =.ok row.toArray {w with drawn:=d})->
       dL I P V h.length hR w (.slice h.length 0 (n+m) i.size) (((toF h).put l none).put h.length (some e')) 1 (do Pure.pure (.value (<-Builtin.append_ #[st,xt] ty #[.slice base n cap,.slice aa m ae]))):=by
       intro row r1 r2 bx r3;obtain⟨ag,rest,g1,g2,g3⟩:=lF (ty:=ty) h1 h2 ay hz br bx ar b1 (r3 _);have ap:cP V e' (row++a8):=xV hj r1 bo
       have ao:(row++a8++rest).toArray.size =ag*i.size:=by
        simp only [List.size_toArray,List.length_append,r2,bq,g2,bl];rw [<-Nat.add_mul,<-Nat.add_mul];congr 1;omega
       have ak:=Inv.push (e:=e') (k:=ag*i.size) (o:=.cells (row++a8++rest).toArray e) ((hi.drew (w.drawn+1)).kill l) hV (by simp [aY.put,af];exact cC (Nat.le_refl _))
        (kU (aLj _ _ _) (cP.mono (aLp hV) ap) (by simp;rfl) ao)
       have ac:(do Pure.pure (.value (<-Builtin.append_ #[st,xt] ty #[.slice base n cap,.slice aa m ae])):Sem Next).run P w=.ok (.value (.slice (some ⟨w.heap.size,0,none⟩) (n+m) ag)) {w with drawn:=w.drawn+1,heap:=w.heap.push (.cells (row++a8++rest).toArray e) } :=by
        simp only [Sem.run_bind,g3,Result.andThen_ok,Sem.run_pure]
       refine⟨_,_,V.add h.length (w.heap.size,ag*i.size),_,ac,.inl rfl,aLp hV,jQ,?_,ak,⟨rfl,rfl,by simp,fun _ _=>dW _ _ _ _⟩⟩
       exact⟨_,_,rfl,g1,.inl ⟨_,_,aLj _ _ _,rfl,by omega⟩⟩
      have cd: ∃V':Val,V.le V'/\(∀x,V l=some x->V' h.length=some x)/\(∀l,V l=none->V' l≠none->h.length<=l/\l<h.length+1):=by
       cases cj:V l with
       | none=>exact⟨V,V.le_refl,fun x e=>(by cases e),fun l e f=>(f e).elim⟩
       | some x=>exact⟨V.add h.length x,aLp hV,fun y e=>by cases e;exact aLj _ _ _,jQ⟩
      obtain⟨V',v1,v2,v3⟩:=cd;obtain⟨row,r1,r2,r3⟩:=aFK hi hl bu bf hb;rcases r3 with⟨b,k,cs,T,tail,t1,t2,t3,t4,t5,t6,t7⟩ | ⟨t1,t2⟩
      ·subst t2
       have ba: ∀d,(Builtin.firstCells i.size n (.slice (some ⟨b,0,none⟩) n cap)).run P {w with drawn:=d} =.ok row.toArray {w with drawn:=d} :=by
        intro d;refine d5 (w:= {w with drawn:=d}) t3 row r2 ?_
        intro j v hj;rw [<-Array.getElem?_toList,t5,Nat.zero_add,List.getElem?_append_left]
        ·exact hj
        ·cases Nat.lt_or_ge j row.length with
         | inl g=>exact g
         | inr g=>rw [List.getElem?_eq_none g]at hj;cases hj
       by_cases a7:n+m<=cap
       ·have bs:n*i.size+ws.length<=cs.size:=by
         rw [au,<-Nat.add_mul];exact Nat.le_trans (Nat.mul_le_mul_right _ a7) (by omega)
        obtain⟨w',bk,q1,q2,q3,q4,q5⟩:=d7 (P:=P) ws 0 w b (n*i.size) cs T t3 bg (by omega)
        have ac:=kN (ty:=ty) (a:=⟨b,0,none⟩) h1 h2 am ai a7 (w':=w') (by rw [Addr.add_lit,Nat.zero_add];exact q1)
        have ap:cP V e' (row++ws):=xV hj r1 ax
        have b0:bk.toList=(row++ws)++tail.drop ws.length:=by
         rw [q3,t5,Nat.add_zero,<-r2];exact sT ws row tail (by rw [<-Array.length_toList,t5,<-r2]at bs;simp at bs;omega)
        have ca:bk.size=k:=by
         rw [<-Array.length_toList,q3,eF,Array.length_toList];exact t4
        have a6:=hi.replace (e:=en) (e':=e') hl (b:=b) (o':=.cells bk T) t7 (kU t1 ap b0 ca) q2 q4;have bw:=a6.move (m:=h.length) af (e:=e') (e':=e') (by simp [aY.put]) (by simp [aY.put,af];exact cC (Nat.le_refl _)) v1 (fun g hg=>rG v1 v2 hg)
        have bt:(((toF h).put l (some e')).put l none).put h.length (some e')=((toF h).put l none).put h.length (some e'):=by
         funext x;by_cases bm:x=h.length
         ·simp [aY.put,bm]
         ·by_cases b6:x=l<;>simp [aY.put,bm,b6]
        rw [bt]at bw;refine⟨_,w',V',_,dZ ac,.inl rfl,v1,v3,?_,bw,q5⟩;exact⟨_,cap,rfl,a7,.inl ⟨b,k,v2 _ t1,rfl,by omega⟩⟩
       ·exact grow row r1 r2 (by omega) ba
      ·subst t1 t2;have bh:row=[]:=List.length_eq_zero_iff.1 (by simpa using r2)
       subst bh
       by_cases hm:m=0
       ·subst hm;have av:ws=[]:=List.length_eq_zero_iff.1 (by simpa using au)
        subst av
        have ac:(Builtin.append_ #[st,xt] ty #[.slice base 0 0,.slice aa 0 ae]).run P w=.ok (.slice base 0 0) w:=by
         cases base with
         | none=>exact jH h1 h2 am ai (Nat.le_refl _)
         | some a=>exact kN h1 h2 am ai (Nat.le_refl _) (by simp [storeCells])
        refine⟨_,w,V',_,dZ ac,.inl rfl,v1,v3,?_,?_,aLu w⟩
        ·exact⟨base,0,rfl,Nat.le_refl _,.inr ⟨rfl,rfl⟩⟩
        ·exact hi.move af hl (cC (Nat.le_refl _)) v1 (fun g hg=>KW b7 hj r1 ax v1 v2 hg)
       ·exact grow [] r1 r2 (by omega) (fun d=>cE)
     have bc: ∀(base:Option Addr),s'=.slice base 0 0->onp p->m=0->Rep V (r.v) (.slice base 0 0)->dL I P V h.length hR w r.v (toF h) 0 (do Pure.pure (.value (<-Builtin.append_ #[st,xt] ty #[s',x']))):=by
      intro base ad hp hm a6;subst ad hm;obtain⟨ws,aa,ae,rfl,ai,au,ax,bg⟩:=src w.drawn hp;have av:ws=[]:=List.length_eq_zero_iff.1 (by simpa using au)
      subst av
      have ac:(Builtin.append_ #[st,xt] ty #[.slice base 0 0,.slice aa 0 ae]).run P w=.ok (.slice base 0 0) w:=by
       cases base with
       | none=>exact jH h1 h2 am ai (Nat.le_refl _)
       | some a=>exact kN h1 h2 am ai (Nat.le_refl _) (by simp [storeCells])
      exact dL.pure hi a6 (dZ ac)
     have aq: ∀(base:Option Addr),s'=.slice base 0 0->onp p->m<=4294967296->(ey=.cells []->False)->V h.length=none->(cP V ey []-> ∀V':Val,(∃b,V' h.length=some (b,0))->ey.interp I V' h.length .emp)->
      dL I P V h.length hR w (.slice h.length 0 m i.size) (toF (h++ [some ey])) 1 (do Pure.pure (.value (<-Builtin.append_ #[st,xt] ty #[s',x']))):=by
      intro base ad o1 o2 af hV bz;subst ad;obtain⟨ws,aa,ae,rfl,ai,au,ax,bg⟩:=src (w.drawn+1) o1;obtain⟨b4,b2,ce,h0,bd,bp,bn,cg⟩:=src w.drawn o1;cases h0
      by_cases hm:m=0
      ·subst hm;have av:b4=[]:=List.length_eq_zero_iff.1 (by simpa using bp)
       subst av
       have ac:(Builtin.append_ #[st,xt] ty #[.slice base 0 0,.slice aa 0 ae]).run P w=.ok (.slice base 0 0) w:=by
        cases base with
        | none=>exact jH h1 h2 am bd (Nat.le_refl _)
        | some a=>exact kN h1 h2 am bd (Nat.le_refl _) (by simp [storeCells])
       have ak:=hi.emptyE hV (cC (Nat.le_refl _)) (bz bn);refine⟨_,w,V.add h.length (0,0),_,dZ ac,.inl rfl,aLp hV,jQ,⟨_,_,rfl,Nat.le_refl _,.inr ⟨rfl,rfl⟩⟩,?_,aLu w⟩;rw [fS];exact ak
      ·obtain⟨ag,rest,g1,g2,g3⟩:=lF (ty:=ty) (base:=base) (sLen:=0) (sCap:=0) (row:=[]) h1 h2 ay hz ai (by omega) ar (by omega) cE
       have ao:([]++ws++rest).toArray.size =ag*i.size:=by
        simp only [List.size_toArray,List.length_append,au,g2,bl,List.length_nil,Nat.zero_add];rw [<-Nat.add_mul];congr 1;omega
       have ak:=Inv.push (e:=ey) (k:=ag*i.size) (o:=.cells ([]++ws++rest).toArray e) (hi.drew (w.drawn+1)) hV (cC (Nat.le_refl _))
        (kU (aLj _ _ _) (cP.mono (aLp hV) ax) (by simp;rfl) ao)
       have ac:=dZ g3;rw [Nat.zero_add]at ac g1;refine⟨_,_,V.add h.length (w.heap.size,ag*i.size),_,ac,.inl rfl,aLp hV,jQ,?_,?_,⟨rfl,rfl,by simp,fun _ _=>dW _ _ _ _⟩⟩
       ·exact⟨_,_,rfl,g1,.inl ⟨_,_,aLj _ _ _,rfl,by omega⟩⟩
       ·rw [fS];exact ak
     have bb:(ey=.cells []->False)->(∀ks ys,ey=.tab ks ys->False)->cP V ey []-> ∀V':Val,(∃b,V' h.length=some (b,0))->ey.interp I V' h.length .emp :=by
      intro af aj hr V' hb;cases ey with
      | ints c xs=>cases xs with
        | nil=>exact .inl ⟨rfl,rfl,hb⟩
        | cons y ys=>have e2:([]:List Value)=_:=hr;cases e2
      | cells vs=>
        have:vs=[]:=List.length_eq_zero_iff.1 (aH.length hr).symm;subst this;exact(af rfl).elim
      | abs t ps=>exact hr.elim
      | tab ks ys=>exact(aj ks ys rfl).elim
      | imap kk vc m=>exact hr.elim
      | iter lm kk vc m left cur=>exact hr.elim
     split at hr
     ·rename_i l off n sz;split at hr
      case isFalse=>cases hr
      rename_i hc;obtain⟨bj,cc⟩:=hc;subst bj;obtain⟨base,cap,ad,al,hb⟩:=hs;split at hr
      ·rename_i c xs hl;cases hj:nL (.ints c xs) ey with
       | none=>rw [hj]at hr;cases hr
       | some e'=>
         rw [hj]at hr;simp only [sI']at hr;subst hr;obtain⟨o1,o2,o3,o4,o5⟩:=eL.1 ho;subst o2;exact main l n (.ints c xs) e' base cap hl ad al hj o1 o5 (.inl ⟨c,xs,rfl,o3,o4⟩) hb (hn _ (Nat.le_refl _) (by simp))
      ·rename_i vs hl;split at hr
       case isFalse=>cases hr
       rename_i hv;cases hj:nL (.cells vs) ey with
       | none=>rw [hj]at hr;cases hr
       | some e'=>
         rw [hj]at hr;simp only [sI']at hr;subst hr;obtain⟨o1,o5⟩:=eL.1 ho;rw [hv.1]at hb;exact main l n (.cells vs) e' base cap hl ad al hj o1 o5 (.inr (.inl ⟨vs,rfl,hv.2⟩)) hb (hn _ (Nat.le_refl _) (by simp))
      ·cases hr
     ·rename_i l r0 n w0;split at hr
      case isFalse=>cases hr
      rename_i hc;obtain⟨bj,cc⟩:=hc;subst bj;obtain⟨base,cap,ad,al,hb⟩:=hs;split at hr
      ·rename_i ks rows hl;split at hr
       case isFalse=>cases hr
       rename_i b9;cases hj:nL (.tab ks rows) ey with
       | none=>rw [hj]at hr;cases hr
       | some e'=>
         rw [hj]at hr;simp only [sI']at hr;subst hr;obtain⟨o1,o2,o3,o5⟩:=eL.1 ho;subst o2;rw [Nat.zero_mul]at hb;exact aL9 (fun _ _=>lR) (main l n (.tab ks rows) e' base cap hl ad al hj o1 o5 (.inr (.inr ⟨ks,rows,rfl,o3,b9.symm⟩)) hb (hn _ (Nat.le_refl _) (by simp)))
      ·cases hr
     ·obtain⟨base,ad⟩:=hs;split at hr
      ·simp only [sI']at hr;subst hr;obtain⟨o1,o2⟩:=eL.1 ho;subst o2;rw [cU rfl rfl];exact bc base ad o1 rfl ⟨base,rfl⟩
      ·split at hr
       case isFalse=>cases hr
       rename_i ks ys hk;simp only [sI']at hr;subst hr;obtain⟨o1,o2⟩:=eL.1 ho
       exact aL9 (fun _ _=>lR) (aq base ad o1 o2 (fun h=>by cases h) (hn _ (Nat.le_refl _) (by simp)) (fun h=>by
        refine fun V' hb=>?_;have:ys=[]:=oI (by omega) h
        subst this;exact .inl ⟨rfl,rfl,hb⟩))
      ·rename_i af aj;simp only [sI']at hr;subst hr;obtain⟨o1,o2⟩:=eL.1 ho;exact aq base ad o1 o2 (fun h=>af h) (hn _ (Nat.le_refl _) (by simp)) (bb af aj)
     ·split at hr
      case isFalse=>cases hr
      rename_i bv;have:=iI bv;subst this;have ad:s'=.slice none 0 0:=hs;split at hr
      ·simp only [sI']at hr;subst hr;obtain⟨o1,o2⟩:=eL.1 ho;subst o2;rw [cU rfl rfl];exact bc none ad o1 rfl rfl
      ·split at hr
       case isFalse=>cases hr
       rename_i ks ys hk;simp only [sI']at hr;subst hr;obtain⟨o1,o2⟩:=eL.1 ho
       exact aL9 (fun _ _=>lR) (aq none ad o1 o2 (fun h=>by cases h) (hn _ (Nat.le_refl _) (by simp)) (fun h=>by
        refine fun V' hb=>?_;have:ys=[]:=oI (by omega) h
        subst this;exact .inl ⟨rfl,rfl,hb⟩))
      ·rename_i af aj;simp only [sI']at hr;subst hr;obtain⟨o1,o2⟩:=eL.1 ho;exact aq none ad o1 o2 (fun h=>af h) (hn _ (Nat.le_refl _) (by simp)) (bb af aj)
end
end Go.Sh
namespace Go.Sh
open Go
variable [Con] {A:Type} {I:Itp A}
section
variable {P:Program} {V:Val}
theorem P0{t ty:TypeId}{a v:AVal}{x:Value}{w:World}(h:aCI P t a=some v)(hx:Rep V a x): ∃v',(Builtin.len_ #[t] ty #[x]).run P w=.ok v' w/\Rep V v v':=by
 unfold aCI at h;split at h
 ·rename_i s hu;simp at h;subst h;have:x=.string s:=hx;subst this;exact⟨_,by simp [Builtin.len_,underlying,hu,goInt],rfl⟩
 ·rename_i hu;simp at h;subst h;obtain⟨base,cap,rfl,_⟩:=hx;exact⟨_,by simp [Builtin.len_,underlying,hu,goInt],rfl⟩
 ·rename_i hu;simp at h;subst h;have:x=.slice _ _ _:=hx;subst this;exact⟨_,by simp [Builtin.len_,underlying,hu,goInt],rfl⟩
 ·rename_i hu;simp at h;subst h;obtain⟨base,cap,rfl,_⟩:=hx;exact⟨_,by simp [Builtin.len_,underlying,hu,goInt],rfl⟩
 ·rename_i hu;simp at h;subst h;obtain⟨base,cap,rfl,_⟩:=hx;exact⟨_,by simp [Builtin.len_,underlying,hu,goInt],rfl⟩
 ·rename_i hu;simp at h;subst h;obtain⟨base,cap,rfl,_⟩:=hx;exact⟨_,by simp [Builtin.len_,underlying,hu,goInt],rfl⟩
 ·rename_i hu;simp at h;subst h;obtain⟨base,rfl⟩:=hx;exact⟨.int .i64 0,by simp [Builtin.len_,underlying,hu,goInt],rfl⟩
 ·rename_i n e hu;simp at h;subst h;exact⟨_,by simp [Builtin.len_,underlying,hu,goInt],rfl⟩
 ·cases h
theorem P2{w:World} : ∀(xs:List AVal) (x v:AVal) (x':Value) (ys:List Value),jR (fun m n=>ilt m n) x xs=some v->Rep V x x'->aH V xs ys-> ∃v',(ys.foldlM Builtin.min2 x').run P w=.ok v' w/\Rep V v v':=by
 intro xs
 induction xs with
 | nil=>
   intro x v x' ys h hx hr;have:ys=[]:=hr;subst this;cases x<;>simp [jR]at h
   subst h;exact⟨x',by simp,hx⟩
 | cons y xs ih=>
   rintro x v x' _ h hx ⟨g,ys,rfl,ry,rs⟩;cases x<;>cases y<;>simp [jR]at h
   obtain⟨rfl,h⟩:=h;rename_i k n m;have e1:x'=.int k n:=hx;have e2:g=.int k m:=ry;subst e1 e2;obtain⟨v',h1,h2⟩:=ih _ v (.int k (if m<n then m else n)) ys h (by by_cases hc:m<n<;>simp [hc,Rep,bD]) rs
   exact⟨v',by simp only [List.foldlM_cons,Builtin.min2,Sem.run_bind,Sem.run_pure,Result.andThen_ok,h1],h2⟩
theorem P1{w:World} : ∀(xs:List AVal) (x v:AVal) (x':Value) (ys:List Value),jR (fun m n=>ilt n m) x xs=some v->Rep V x x'->aH V xs ys-> ∃v',(ys.foldlM Builtin.max2 x').run P w=.ok v' w/\Rep V v v':=by
 intro xs
 induction xs with
 | nil=>
   intro x v x' ys h hx hr;have:ys=[]:=hr;subst this;cases x<;>simp [jR]at h
   subst h;exact⟨x',by simp,hx⟩
 | cons y xs ih=>
   rintro x v x' _ h hx ⟨g,ys,rfl,ry,rs⟩;cases x<;>cases y<;>simp [jR]at h
   obtain⟨rfl,h⟩:=h;rename_i k n m;have e1:x'=.int k n:=hx;have e2:g=.int k m:=ry;subst e1 e2;obtain⟨v',h1,h2⟩:=ih _ v (.int k (if m>n then m else n)) ys h (by by_cases hc:m>n<;>simp [hc,Rep,bD]) rs
   exact⟨v',by simp only [List.foldlM_cons,Builtin.max2,Sem.run_bind,Sem.run_pure,Result.andThen_ok,h1],h2⟩
theorem vB{z:Value}{c:Code1}(h:sL z=some c):z=c.val 0:=by
 unfold sL at h;split at h
 ·simp at h;subst h;rfl
 ·simp at h;subst h;rfl
 ·cases h
theorem OQ{v:Value}(n:Nat):((Array.range n).map fun i=>(#[v]:Array Value)[i%(#[v]:Array Value).size]!).toList =List.replicate n v:=by
 apply List.ext_getElem
 ·simp
 ·intro i h1 h2;simp at h1;simp [Nat.mod_one]
theorem tI{as:List AVal}{vs:List Value}(h:aH V as vs): ∀n:Nat,aH V (List.replicate n as).flatten (List.replicate n vs).flatten
 | 0=>by simp [aH]
 | n+1=>by
   simp only [List.replicate_succ,List.flatten_cons];exact aH.append h (tI h n)
theorem IA{zs:Array Value}(n:Nat):((Array.range (n*zs.size)).map fun i=>zs[i%zs.size]!).toList =(List.replicate n zs.toList).flatten :=by
 rw [Array.toList_map,Array.toList_range]
 induction n with
 | zero=>simp
 | succ n ih=>
   rw [Nat.succ_mul,Nat.add_comm,List.range_add,List.map_append];simp only [List.replicate_succ,List.flatten_cons];congr 1
   ·apply List.ext_getElem
    ·simp
    ·intro i h1 h2;simp at h1;simp [Nat.mod_eq_of_lt h1,h1]
   ·rw [<-ih,List.map_map];apply List.map_congr_left;intro i _
    simp
theorem pF{t e:TypeId}{i:TypeInfo}{z:Value}{k k':IntKind}{n:Int}{w:World}(hu:P.underlying t=some (.slice e))(hi:P.info? e=some i)(hz:i.zero=some z)(hb:i.bytes<=4096)(h0:0<=n)(hn:n<=4294967296)(hs:z.cells.size=i.size)(hp:0<i.size):
 (Instr.makeSlice t (.int k n) (.int k' n)).run P w=.ok (.slice (some ⟨w.heap.size,0,none⟩) n.toNat n.toNat) {w with heap:=w.heap.push (.cells (((Array.range (n.toNat*i.size)).map fun j=>z.cells[j%z.cells.size]!)) e) } :=by
 have hw:IntKind.i64.wrap n=n:=IntWalk.i64_in n ⟨by omega,by omega⟩
 have ad:(typeInfo e).run P w=.ok i w:=by simp [typeInfo,hi]
 have ah: ¬((i.bytes:Int)*n>2^48):=by
  have:(i.bytes:Int)*n<=4096*4294967296:=Int.mul_le_mul (by omega) hn h0 (by omega)
  omega
 have af: ¬n<0:=by omega
 have ae:bX P e=some i.size:=by simp [bX,hi]
 have ag:(zeroValue e).run P w=.ok z w:=by simp [zeroValue,typeInfo,hi,hz]
 have aa:decide ((i.bytes:Int)*n>2^48)=false:=by simpa using ah
 have g:decide (n<0)=false:=by simpa using af
 by_cases ac:n.toNat*i.size=0
 ·simp only [Instr.makeSlice,underlying,hu,Sem.run_bind,run_program,Result.andThen_ok,Sem.run_pure,asInt,asIntOf,ad,hw,g,aa];simp [aV ae,ac,newRow,Array.range_zero']
 ·simp only [Instr.makeSlice,underlying,hu,Sem.run_bind,run_program,Result.andThen_ok,Sem.run_pure,asInt,asIntOf,ad,hw,g,aa];simp [aV ae,ac,newRow,ag]
theorem xB{t:TypeId}{n m:AVal}{h:aB A}{r:ORes A}{hR:PHeap}{w:World}{n' m':Value}{sem:Sem Next}(hr:pR P t n m h=some r)(ho:r.obl)(hi:Inv I V (toF h) hR w)
 (hn: ∀l,h.length<=l->l<h.length+r.new.length->V l=none) (h1:Rep V n n') (h2:Rep V m m') (hsem:sem=(do Pure.pure (.value (<-Instr.makeSlice t n' m')))):
 dL I P V h.length hR w r.v (toF (r.apply h)) r.new.length sem:=by
 subst hsem;unfold pR at hr;split at hr
 case h_2=>cases hr
 rename_i e k n k' m hu;have e1:n'=.int k n:=h1;have e2:m'=.int k' m:=h2;subst e1 e2;cases ad:P.info? e with
 | none=>rw [ad]at hr;cases hr
 | some i=>
   rw [ad]at hr;simp only at hr;split at hr
   case isFalse=>cases hr
   rename_i hc;obtain⟨hb,hp⟩:=hc;cases hz:i.zero with
   | none=>rw [hz]at hr;cases hr
   | some z=>
     rw [hz]at hr;simp only at hr;have ag:=aH.length (dC V z);rw [Array.length_toList]at ag;cases af:sL z with
     | some c=>
       rw [af]at hr;simp only at hr;split at hr
       case isFalse=>cases hr
       rename_i ah;simp only [sI']at hr;subst hr;obtain⟨o1,rfl,o3⟩:=ho;have ak:=vB af;have ac:z.cells= #[c.val 0]:=by rw [ak];cases c<;>rfl
       have g:=pF (k:=k) (k':=k') (w:=w) hu ad hz hb o1 o3 (by rw [ac,ah];rfl) hp
       have hV:=hn h.length (Nat.le_refl _) (by simp)
       rw [ah,Nat.mul_one,ac]at g
       have aa:=Inv.push (e:=.ints c (List.replicate n.toNat 0)) (k:=n.toNat) (o:=.cells ((Array.range n.toNat).map fun j=>(#[c.val 0]:Array Value)[j%(#[c.val 0]:Array Value).size]!) e) hi hV (cC (Nat.le_refl _))
        (kU (row:=List.replicate n.toNat (c.val 0)) (tail:=[]) (aLj _ _ _) (by simp [cP]) (by rw [OQ];simp) (by simp))
       refine⟨_,_,V.add h.length (w.heap.size,n.toNat),_,dZ g,.inl rfl,aLp hV,jQ,?_,?_,⟨rfl,rfl,by simp,fun _ _=>dW _ _ _ _⟩⟩
       ·exact⟨_,_,rfl,Nat.le_refl _,.inl ⟨_,_,aLj _ _ _,rfl,by omega⟩⟩
       ·show Inv I _ (toF (h++ [some _])) hR _;rw [fS];exact aa
     | none=>
       rw [af]at hr;cases aj:DW z with
       | true=>rw [aj]at hr;cases hr
       | false=>
       rw [aj]at hr;simp only [cond_false,sI']at hr;subst hr;obtain⟨⟨o1,rfl,o3⟩,o4⟩:=ho;have ae:z.cells.size=i.size:=by rw [ag];exact o4
       have g:=pF (k:=k) (k':=k') (w:=w) hu ad hz hb o1 o3 ae hp;have hV:=hn h.length (Nat.le_refl _) (by simp)
       have ai:=tI (dC V z) n.toNat;rw [<-ae]at g
       have aa:=Inv.push (e:=.cells ((List.replicate n.toNat (gA z).cells).flatten)) (k:=n.toNat*i.size) (o:=.cells ((Array.range (n.toNat*z.cells.size)).map fun j=>z.cells[j%z.cells.size]!) e) hi hV (cC (Nat.le_refl _))
        (kU (row:=(List.replicate n.toNat z.cells.toList).flatten) (tail:=[]) (aLj _ _ _) (aH.mono (aLp hV) _ _ ai) (by rw [IA];simp) (by simp [ae]))
       refine⟨_,_,V.add h.length (w.heap.size,n.toNat*i.size),_,dZ g,.inl rfl,aLp hV,jQ,?_,?_,⟨rfl,rfl,by simp,fun _ _=>dW _ _ _ _⟩⟩
       ·exact⟨_,_,rfl,Nat.le_refl _,.inl ⟨_,_,aLj _ _ _,rfl,by omega⟩⟩
       ·show Inv I _ (toF (h++ [some _])) hR _;rw [fS];exact aa
theorem wI(c:Code1): ∀(ys xs:List Int) (off:Nat),off+ys.length<=xs.length->dT (xs.map c.val) off (ys.map c.val)=(oB xs off ys).map c.val
 | [],xs,off,_=>by simp [dT,oB]
 | y::ys,xs,off,h=>by
   simp only [List.length_cons]at h;simp only [List.map_cons,dT];rw [<-List.map_set,wI c ys (xs.set off y) (off+1) (by simp;omega)]
   congr 1;unfold oB;rw [List.take_set,List.drop_set_of_lt (by omega)]
   have hlt:off<xs.length:=by omega
   have e1:(xs.take (off+1)).set off y=xs.take off++ [y]:=by
    rw [List.take_succ_eq_append_getElem hlt,List.set_append_right _ _ (by simp;omega)]
    have:off - (List.take off xs).length =0:=by rw [List.length_take];omega
    rw [this];rfl
   rw [e1];simp [Nat.add_assoc,Nat.add_comm 1 ys.length]
theorem x6{dt xt ty e:TypeId}{base2:Option Addr}{n cap m cap2 sz:Nat}{w:World}{ws:List Value}(h1:P.underlying dt=some (.slice e))(h3:bX P e=some sz)
 (h4:(Builtin.firstCells sz (Nat.min m n) (.slice base2 m cap2)).run P w=.ok ws.toArray w):
 (Builtin.copy_ #[dt,xt] ty #[.slice none n cap,.slice base2 m cap2]).run P w=.ok (.int .i64 ((Nat.min m n:Nat):Int)) w:=by
 generalize hq:Nat.min m n=q at*;simp [Builtin.copy_,underlying,h1,Builtin.lenOf,aV h3,hq,h4,goInt]
theorem sM{dt xt ty e:TypeId}{a:Addr}{base2:Option Addr}{n cap m cap2 sz:Nat}{w w':World}{ws:List Value}(h1:P.underlying dt=some (.slice e))(h3:bX P e=some sz)
 (h4:(Builtin.firstCells sz (Nat.min m n) (.slice base2 m cap2)).run P w=.ok ws.toArray w) (h6:(storeCells a ws).run P w=.ok () w'):
 (Builtin.copy_ #[dt,xt] ty #[.slice (some a) n cap,.slice base2 m cap2]).run P w=.ok (.int .i64 ((Nat.min m n:Nat):Int)) w':=by
 generalize hq:Nat.min m n=q at*;simp [Builtin.copy_,underlying,h1,Builtin.lenOf,aV h3,hq,h4,h6,goInt]
theorem PV{dt xt ty:TypeId}{d x:AVal}{h:aB A}{r:ORes A}{hR:PHeap}{w:World}{d' x':Value}{sem:Sem Next}(hr:PU P dt d x h=some r)(ho:r.obl)(hi:Inv I V (toF h) hR w)
 (h1:Rep V d d') (h2:Rep V x x') (hsem:sem=(do Pure.pure (.value (<-Builtin.copy_ #[dt,xt] ty #[d',x'])))):
 dL I P V h.length hR w r.v (toF (r.apply h)) r.new.length sem:=by
 subst hsem;unfold PU at hr;split at hr
 case h_2=>cases hr
 rename_i e hu;split at hr
 case h_2=>cases hr
 rename_i l off n hs;obtain⟨base,cap,rfl,ax,hb⟩:=h1;split at hr
 ·rename_i c xs c' ys m lx p hl aa;split at hr
  case isFalse=>cases hr
  rename_i hc;obtain⟨rfl,a6⟩:=hc;simp only [sI']at hr;subst hr;obtain⟨o1,o2⟩:=eL.1 ho;obtain⟨ws,ac,cap2,rfl,s2,ap,s3,s4⟩:=lH (V:=V) aa o1 hi h2;have e3:ws=ys.map c.val:=s3;have av:=cD hl;have first:=s2 (Nat.min m n) (Nat.min_le_left _ _)
  rw [Nat.mul_one]at first
  have hF:toF (hupd h [(l,some (.ints c (oB xs off (ys.take (min m n)))))]++([]:List (Option (aG A))))=(toF h).put l (some (.ints c (oB xs off (ys.take (min m n))))):=by
   rw [List.append_nil];exact fW _ av
  have ae:(ws.take (Nat.min m n)).length =min m n:=by
   rw [List.length_take,ap];show min (min m n) (m*1)=min m n;omega
  show dL I P V h.length hR w _ (toF (hupd h [(l,some (.ints c (oB xs off (ys.take (min m n)))))]++ [])) 0 _;rw [hF]
  by_cases al:min m n=0
  ·have af:ys.take (min m n)=[]:=by rw [al];rfl
   have ah:(toF h).put l (some (.ints c (oB xs off (ys.take (min m n)))))=toF h:=by
    rw [af];have:oB xs off []=xs:=by simp [oB]
    rw [this];funext q
    by_cases hq:q=l
    ·subst hq;simp [aY.put];exact hl.symm
    ·simp [aY.put,hq]
   rw [ah];refine dL.pure (v':=.int .i64 ((min m n:Nat):Int)) hi rfl ?_;have ar:ws.take (Nat.min m n)=[]:=List.length_eq_zero_iff.1 (by rw [ae];exact al)
   rw [ar]at first
   refine dZ ?_;cases base with
   | none=>exact x6 hu hs first
   | some a=>exact sM hu hs first (by simp [storeCells])
  ·have au:n≠0:=by omega
   have ag:xs≠ []:=by intro e;subst e;simp at o2;omega
   obtain⟨b,k,cs,T,tail,t1,t2,t3,t4⟩:=hi.ints (l:=l) hl ag;rcases hb with⟨b',k',t5,rfl,t6⟩ | ⟨t5,_⟩
   ·rw [t1]at t5;cases t5;have az:cs.size=xs.length+tail.length:=by rw [<-Array.length_toList,t4];simp
    obtain⟨w',ao,q1,q2,q3,q4,q5⟩:=d7 (P:=P) (ws.take (Nat.min m n)) 0 w b off cs T t2 (fun v hv=>s4 v (List.mem_of_mem_take hv)) (by rw [ae];omega)
    have ak:(Builtin.copy_ #[dt,xt] ty #[.slice (some ⟨b,off,none⟩) n cap,.slice ac m cap2]).run P w=.ok (.int .i64 ((min m n:Nat):Int)) w':=by
     exact sM hu hs first q1
    have e5:ws.take (Nat.min m n)=(ys.take (min m n)).map c.val:=by rw [e3];exact(List.map_take ..).symm
    have aj:(ys.take (min m n)).length =min m n:=by
     have:=congrArg List.length e5;rw [ae,List.length_map]at this;exact this.symm
    have ai:dT (xs.map c.val) off ((ys.take (min m n)).map c.val)=(oB xs off (ys.take (min m n))).map c.val:=wI c _ _ _ (by rw [aj];omega)
    refine⟨_,w',V,_,dZ ak,.inl rfl,V.le_refl,fun l e f=>(f e).elim,rfl,?_,q5⟩;refine hi.replace (e:=.ints c xs) hl (b:=b) (o':=.cells ao T) ?_ ?_ q2 q4
    ·intro g hg;rcases hg with⟨e,_⟩ | ⟨b1,k1,am,a7,T1,ay,e4,_⟩
     ·exact(ag e).elim
     ·rw [t1]at am;cases am;exact⟨_,e4⟩
    ·refine .inr ⟨b,k,t1,ao,T,tail,rfl,?_,?_⟩
     ·rw [<-Array.length_toList,q3,eF,Array.length_toList];exact t3
     ·rw [q3,t4,Nat.add_zero,e5,gN _ _ _ _ (by simp only [List.length_map];rw [aj];omega),ai]
   ·exact(au t5).elim
 ·rename_i c xs lx p hl aa;simp only [sI']at hr;subst hr;rw [cU rfl rfl];refine dL.pure (v':=.int .i64 0) hi rfl (dZ ?_)
  have aq: ∃ac cap2,x'=.slice ac 0 cap2:=by
   unfold lG at aa;split at aa
   ·split at aa
    ·split at aa
     ·split at aa<;>simp at aa
     ·split at aa
      ·simp only [sI',pI']at aa;obtain⟨_,rfl,_⟩:=aa;obtain⟨ac,cap2,e,_⟩:=h2;exact⟨ac,cap2,e⟩
      ·cases aa
     ·cases aa
    ·cases aa
   ·split at aa<;>simp at aa
   ·split at aa
    ·split at aa
     ·split at aa<;>simp at aa
     ·cases aa
    ·cases aa
   ·obtain⟨ac,e⟩:=h2;exact⟨ac,0,e⟩
   ·split at aa
    ·rename_i af;have:=iI af;subst this;exact⟨none,0,h2⟩
    ·cases aa
  obtain⟨ac,cap2,rfl⟩:=aq;have first:(Builtin.firstCells 1 0 (.slice ac 0 cap2)).run P w=.ok #[] w:=cE
  have e0:Nat.min 0 n=0:=Nat.zero_min n;have ad:(Builtin.firstCells 1 (Nat.min 0 n) (.slice ac 0 cap2)).run P w=.ok ([]:List Value).toArray w:=by rw [e0];exact first
  have:(Value.int .i64 0)=.int .i64 ((Nat.min 0 n:Nat):Int):=by rw [e0];rfl
  rw [this];cases base with
  | none=>exact x6 hu hs ad
  | some a=>exact sM hu hs ad (by simp [storeCells])
 ·cases hr
end
end Go.Sh
namespace Go.Sh
open Go
variable [Con] {A:Type} {I:Itp A}
section
variable {P:Program} {V:Val}
theorem t8(w:World)(es:Array MapEntry)(clock:Nat)(a:Addr):(w.alloc (.map es clock)).frozen? a=w.frozen? a:=by
 unfold World.frozen? World.alloc;simp only [Array.getElem?_push]
 by_cases h:a.block=w.heap.size
 ·have e:w.heap[a.block]? =none:=by rw [h];simp
  rw [if_pos h,e]
 ·rw [if_neg h]
theorem BN{t:TypeId}{h:aB A}{r:ORes A}{hR:PHeap}{w:World}{sem:Sem Next}(hr:u4 P t h=some r)(hi:Inv I V (toF h) hR w)
 (hn: ∀l,h.length<=l->l<h.length+r.new.length->V l=none) (hsem:sem=(do Pure.pure (.value (<-Instr.makeMap t none)))):
 dL I P V h.length hR w r.v (toF (r.apply h)) r.new.length sem:=by
 subst hsem;unfold u4 at hr;split at hr
 ·split at hr
  ·split at hr
   ·rename_i kt vt hu _ _ kk z hk hz _ vc aa;simp only [sI']at hr;subst hr;have hV:=hn h.length (Nat.le_refl _) (by simp)
    have g:=Inv.push (e:=.imap kk vc []) (k:=0) (o:=.map #[] 0) hi hV (cC (Nat.le_refl _)) ⟨_,_,aLj _ _ _, #[],0,rfl,rfl,fun e he=>by simp at he,by simp⟩
    refine⟨.value (.map (some w.heap.size)),{w with heap:=w.heap.push (.map #[] 0) },V.add h.length (w.heap.size,0),.map (some w.heap.size),?_,.inl rfl,aLp hV,jQ,⟨_,_,aLj _ _ _,rfl⟩,?_,⟨rfl,rfl,by simp,fun _ _=>t8 _ _ _ _⟩⟩
    ·simp [Instr.makeMap]
    ·show Inv I _ (toF (h++ [some _])) hR _;rw [fS];exact g
   ·cases hr
  ·cases hr
 ·cases hr
theorem Inv.imap{h:aY A}{hR:PHeap}{w:World}(hi:Inv I V h hR w){l:Nat}{kk:IntKind}{vc:Code1}{m:List (Int×Int)}(hl:h l=some (.imap kk vc m)):
 ∃b k es clock,V l=some (b,k)/\w.heap[b]? =some (.map es clock)/\es.toList.map (fun e=>(e.key,e.val))=m.map (fun x=>(Value.int kk x.1,Code1.val vc x.2)):=by
 obtain⟨hs,h1,h2,h3,h4,g,h6⟩:=hi;obtain⟨b,k,e1,es,clock,e2,e3,_⟩:=h1 l _ hl;have:=g l;rw [e2]at this;exact⟨b,k,es,clock,e1,PHeap.one_sub.1 this,e3⟩
theorem Inv.imapB{h:aY A}{hR:PHeap}{w:World}(hi:Inv I V h hR w){l:Nat}{kk:IntKind}{vc:Code1}{m:List (Int×Int)}(hl:h l=some (.imap kk vc m)):
 ∃b k es clock,V l=some (b,k)/\w.heap[b]? =some (.map es clock)/\es.toList.map (fun e=>(e.key,e.val))=m.map (fun x=>(Value.int kk x.1,Code1.val vc x.2))/\(∀e∈es.toList,e.born<clock)/\(es.toList.map (·.born)).Nodup :=by
 obtain⟨hs,h1,h2,h3,h4,g,h6⟩:=hi;obtain⟨b,k,e1,es,clock,e2,e3⟩:=h1 l _ hl;have:=g l;rw [e2]at this;exact⟨b,k,es,clock,e1,PHeap.one_sub.1 this,e3⟩
def lP:List (Int×Int)->Int->Nat->Option (Nat×Int)
 | [],_,_=>none
 | x::m,k,i=>if x.1=k then some (i,x.2)else lP m k (i+1)
theorem yG: ∀(m:List (Int×Int)) (k:Int) (i:Nat),(lP m k i).map (·.2)=mget m k
 | [],k,i=>rfl
 | x::m,k,i=>by
   unfold lP mget
   by_cases h:x.1=k
   ·simp [h]
   ·rw [if_neg h,yG m k (i+1)];simp [mget,h]
theorem v8: ∀(m:List (Int×Int)) (k v:Int) (i:Nat),lP m k i=none->dV m k v=m++ [(k,v)]
 | [],k,v,i,_=>rfl
 | x::m,k,v,i,h=>by
   unfold lP at h
   by_cases hx:x.1=k
   ·rw [if_pos hx]at h;cases h
   ·rw [if_neg hx]at h;unfold dV;rw [if_neg hx,v8 m k v (i+1) h];rfl
theorem wA: ∀(m:List (Int×Int)) (k v:Int) (i j:Nat) (u:Int),lP m k i=some (j,u)->i<=j/\dV m k v=m.set (j - i) (k,v)/\ ∃u,m[j - i]? =some (k,u)
 | [],k,v,i,j,u,h=>by simp [lP]at h
 | x::m,k,v,i,j,u,h=>by
   unfold lP at h
   by_cases hx:x.1=k
   ·rw [if_pos hx]at h;simp only [sI',pI']at h;obtain⟨rfl,_⟩:=h;refine⟨Nat.le_refl _,?_,x.2,?_⟩
    ·unfold dV;rw [if_pos hx,Nat.sub_self];rfl
    ·rw [Nat.sub_self,<-hx];rfl
   ·rw [if_neg hx]at h;obtain⟨h1,h2,u',h3⟩:=wA m k v (i+1) j u h;refine⟨by omega,?_,u',?_⟩
    ·unfold dV;rw [if_neg hx,h2,show j - i=(j - (i+1))+1 from by omega];rfl
    ·rw [show j - i=(j - (i+1))+1 from by omega];exact h3
theorem tH{kk:IntKind}{vc:Code1}{q:IntKind}{n:Int} : ∀(es:List MapEntry) (m:List (Int×Int)) (i:Nat),es.map (fun e=>(e.key,e.val))=m.map (fun x=>(Value.int kk x.1,Code1.val vc x.2))->
 Instr.findNow (.int q) (.int kk n) es i=some ((lP m n i).map fun x=>(x.1,Code1.val vc x.2))
 | [],m,i,h=>by
   have:m=[]:=by cases m<;>simp at h⊢
   subst this;rfl
 | e::es,[],i,h=>by simp at h
 | e::es,x::m,i,h=>by
   simp only [List.map_cons,lI',pI']at h;obtain⟨⟨h1,h2⟩,h3⟩:=h;unfold Instr.findNow;rw [h1];simp only [Instr.sameNow,if_true]
   by_cases hx:x.1=n
   ·have:(n == x.1)=true:=by simp [hx]
    rw [this];unfold lP;rw [if_pos hx,h2];rfl
   ·have:(n == x.1)=false:=by simpa using fun e=>hx e.symm
    rw [this];unfold lP;rw [if_neg hx];exact tH es m (i+1) h3
theorem tG{kt:TypeId}{kk q:IntKind}{vc:Code1}{n:Int}{es:List MapEntry}{m:List (Int×Int)}{w:World}(hk:P.underlying kt=some (.int q))(h:es.map (fun e=>(e.key,e.val))=m.map (fun x=>(Value.int kk x.1,Code1.val vc x.2))):
 (Instr.findKey kt (.int kk n) es).run P w=.ok ((lP m n 0).map fun x=>(x.1,Code1.val vc x.2)) w:=by
 simp [Instr.findKey,underlying,hk,tH (q:=q) es m 0 h]
theorem mM{kt:TypeId}{q:IntKind}{b:Bool}{v:Value}{w:World}(hk:P.underlying kt=some (.int q)):(Instr.checkKey b 10000 kt v).run P w=.ok () w:=by
 show(Instr.checkKey b (9999+1) kt v).run P w=_;unfold Instr.checkKey;simp only [Sem.run_bind,underlying,run_program,hk,Result.andThen_ok,Sem.run_pure]
theorem F5{t:TypeId}{x i:AVal}{ck:Bool}{h:aB A}{r:ORes A}{hR:PHeap}{w:World}{x' i':Value}{sem:Sem Next}(hr:zH P t x i ck h=some r)(ho:r.obl)(hi:Inv I V (toF h) hR w)(hx:Rep V x x')(hy:Rep V i i')
 (hsem:sem=(do Pure.pure (.value (<-Instr.lookup t x' i' ck)))):dL I P V h.length hR w r.v (toF (r.apply h)) r.new.length sem:=by
 subst hsem;unfold zH at hr;split at hr
 ·rename_i kt vt l kk n hu;split at hr
  ·rename_i q af vc m hk hh;split at hr
   ·rename_i hc;obtain⟨rfl,hz⟩:=hc;simp only [sI']at hr;subst hr;rw [cU rfl rfl];obtain⟨b,k,es,clock,e1,e2,e3⟩:=hi.imap (l:=l) hh;obtain⟨b',k',hl,rfl⟩:=hx;rw [e1]at hl;cases hl;have:i'=.int kk n:=hy;subst this
    have aa:(zeroValue vt).run P w=.ok (Code1.val vc 0) w:=by
     cases ad:P.info? vt with
     | none=>rw [ad]at hz;cases hz
     | some inf=>
       rw [ad]at hz;cases ac:inf.zero with
       | none=>simp [ac]at hz
       | some z=>
         simp [ac]at hz;rw [<-vB hz];simp [zeroValue,typeInfo,ad,ac]
    have ae:(Instr.lookup t (.map (some b)) (.int kk n) ck).run P w=.ok (if ck then .tuple #[Code1.val vc ((mget m n).getD 0),.bool (mget m n).isSome]else Code1.val vc ((mget m n).getD 0)) w:=by
     have hg:=yG m n 0;have g:=tG (P:=P) (w:=w) (kk:=kk) (n:=n) hk e3;simp only [Instr.lookup,underlying,Sem.run_bind,run_program,Result.andThen_ok,hu,Sem.run_pure,MapKept.run_getObj_map e2,mM hk];cases hf:lP m n 0 with
     | none=>
       rw [hf]at hg g;rw [<-hg];simp only [Option.map_none]at g;simp only [g,Result.andThen_ok,Sem.run_bind,aa,Sem.run_pure];cases ck<;>rfl
     | some p=>
       rw [hf]at hg g;rw [<-hg];simp only [Option.map_some]at g;simp only [g,Result.andThen_ok,Sem.run_bind,Sem.run_pure];cases ck<;>rfl
    refine dL.pure hi (v':=if ck then .tuple #[Code1.val vc ((mget m n).getD 0),.bool (mget m n).isSome]else Code1.val vc ((mget m n).getD 0)) ?_ (by rw [Sem.run_bind,ae];rfl)
    cases ck with
    | true=>exact⟨_,rfl,_,_,rfl,aLR V vc _,_,_,rfl,rfl,rfl⟩
    | false=>exact aLR V vc _
   ·cases hr
  ·cases hr
 ·cases hr
theorem PZ{t ty:TypeId}{x:AVal}{h:aB A}{r:ORes A}{hR:PHeap}{w:World}{x':Value}{sem:Sem Next}(hr:PY P t x h=some r)(ho:r.obl)(hi:Inv I V (toF h) hR w)(hx:Rep V x x')
 (hsem:sem=(do let v<-Builtin.len_ #[t] ty #[x'];Pure.pure (.value v))):dL I P V h.length hR w r.v (toF (r.apply h)) r.new.length sem:=by
 subst hsem;unfold PY at hr;split at hr
 ·rename_i kt vt l hu;split at hr
  ·rename_i kk vc m hh;simp only [sI']at hr;subst hr;rw [cU rfl rfl];obtain⟨b,k,es,clock,e1,e2,e3⟩:=hi.imap (l:=l) hh;obtain⟨b',k',hl,rfl⟩:=hx;rw [e1]at hl;cases hl
   have aa:es.size=m.length:=by
    have:=congrArg List.length e3
    simpa using this
   have g:(Builtin.len_ #[t] ty #[.map (some b)]).run P w=.ok (Value.int .i64 (m.length:Int)) w:=by
    simp only [Builtin.len_,underlying,Sem.run_bind,run_program,Result.andThen_ok,hu,Sem.run_pure,MapKept.run_getObj_map e2];simp [hu,goInt,aa,MapKept.run_getObj_map e2]
   refine dL.pure hi (v':=Value.int .i64 (m.length:Int)) ?_ (by rw [Sem.run_bind,g];rfl)
   rfl
  ·cases hr
 ·cases hr
theorem xC{t:TypeId}{x i y:AVal}{h:aB A}{r:ORes A}{hR:PHeap}{w:World}{x' i' y':Value}{sem:Sem Next}(hr:pS P t x i y h=some r)(ho:r.obl)(hi:Inv I V (toF h) hR w)(hx:Rep V x x')(hk0:Rep V i i')(hy:Rep V y y')
 (hsem:sem=(do Instr.mapUpdate t x' i' y';Pure.pure .skip)):dL I P V h.length hR w r.v (toF (r.apply h)) r.new.length sem:=by
 subst hsem;unfold pS at hr;split at hr
 ·rename_i kt vt l kk n hu;split at hr
  ·rename_i q ay vc m hk hh;split at hr
   ·rename_i hc;subst hc;cases ag:fP vc y with
    | none=>rw [ag]at hr;cases hr
    | some v=>
      rw [ag]at hr;simp only [sI']at hr;subst hr;obtain⟨b,k,es,clock,e1,e2,e3,e0,en⟩:=hi.imapB (l:=l) hh;obtain⟨b',k',hl,rfl⟩:=hx;rw [e1]at hl;cases hl;have:i'=.int kk n:=hk0;subst this;have al:=jV ag hy;subst al;have ae:=tG (P:=P) (w:=w) (kk:=kk) (n:=n) hk e3
      have ak:b<w.heap.size:=by
       cases Nat.lt_or_ge b w.heap.size with
       | inl g=>exact g
       | inr g=>rw [Array.getElem?_eq_none g]at e2;cases e2
      have key: ∃ad aa,(Instr.mapUpdate t (.map (some b)) (.int kk n) (Code1.val vc v)).run P w=.ok () {w with heap:=w.heap.setIfInBounds b (.map ad aa) } /\ad.toList.map (fun e=>(e.key,e.val))=(dV m n v).map (fun x=>(Value.int kk x.1,Code1.val vc x.2))/\(∀e∈ad.toList,e.born<aa)/\(ad.toList.map (·.born)).Nodup :=by
       cases hf:lP m n 0 with
       | none=>
         rw [hf]at ae;refine⟨es.push {key:=.int kk n,val:=Code1.val vc v,born:=clock},clock+1,?_,?_,?_,?_⟩
         ·simp only [Instr.mapUpdate,underlying,Sem.run_bind,run_program,Result.andThen_ok,hu,Sem.run_pure,MapKept.run_getObj_map e2,mM hk,ae,Option.map_none,MapKept.run_setObj_map _ e2]
         ·rw [v8 m n v 0 hf];simp [e3]
         ·intro e he;simp only [Array.toList_push,List.mem_append,List.mem_singleton]at he;rcases he with he | rfl
          ·exact Nat.lt_succ_of_lt (e0 e he)
          ·exact Nat.lt_succ_self _
         ·rw [Array.toList_push,List.map_append,List.nodup_append];refine⟨en,by simp,?_⟩
          intro a ha b hb;obtain⟨e,he,rfl⟩:=List.mem_map.1 ha;simp only [List.map_cons,List.map_nil,List.mem_singleton]at hb;have:=e0 e he;omega
       | some p=>
         obtain⟨j,u⟩:=p;rw [hf]at ae;obtain⟨_,q2,u',q3⟩:=wA m n v 0 j u hf;rw [Nat.sub_zero]at q2 q3
         have au: ∃e,es[j]? =some e/\e.key=.int kk n:=by
          have:=congrArg (fun l=>l[j]?) e3;simp only [List.getElem?_map,q3,Option.map_some]at this;rw [Array.getElem?_toList]at this;cases he:es[j]? with
          | none=>rw [he]at this;cases this
          | some e=>rw [he]at this;simp at this;exact⟨e,rfl,this.1⟩
         obtain⟨e,aj,av⟩:=au;refine⟨es.modify j fun e=> {e with key:=.int kk n,val:=Code1.val vc v},clock,?_,?_,?_,?_⟩
         ·have am:Instr.sameBits 10000 (.int kk n) (.int kk n)=true:=by simp [Instr.sameBits]
          simp only [Instr.mapUpdate,underlying,Sem.run_bind,run_program,Result.andThen_ok,hu,Sem.run_pure,MapKept.run_getObj_map e2,mM hk,ae,Option.map_some,aj,av,Option.getD_some,Instr.keyThatStays,am,if_true,MapKept.run_setObj_map _ e2]
         ·rw [q2];apply List.ext_getElem?;intro i;have:=congrArg (fun l=>l[i]?) e3;simp only [List.getElem?_map]at this⊢;rw [Array.getElem?_toList]at this⊢;rw [Array.getElem?_modify,List.getElem?_set]
          by_cases af:j=i
          ·subst af
           have aq:j<m.length:=by
            cases Nat.lt_or_ge j m.length with
            | inl g=>exact g
            | inr g=>rw [List.getElem?_eq_none g]at q3;cases q3
           rw [if_pos rfl,if_pos rfl,aj,if_pos aq];rfl
          ·rw [if_neg af,if_neg af];exact this
         ·intro e' ax;obtain⟨i,ac⟩:=List.getElem?_of_mem ax;rw [Array.getElem?_toList,Array.getElem?_modify]at ac;split at ac
          ·cases h2:es[i]? with
           | none=>rw [h2]at ac;cases ac
           | some e2=>
             rw [h2]at ac;simp only [Option.map_some,sI']at ac;rw [<-ac];exact e0 e2 (List.mem_of_getElem? (by rw [Array.getElem?_toList];exact h2))
          ·exact e0 e' (List.mem_of_getElem? (by rw [Array.getElem?_toList];exact ac))
         ·have ao:(es.modify j fun e=> {e with key:=.int kk n,val:=Code1.val vc v}).toList.map (·.born)=es.toList.map (·.born):=by
           apply List.ext_getElem?;intro i;simp only [List.getElem?_map,Array.getElem?_toList,Array.getElem?_modify];split
           ·cases es[i]? <;>rfl
           ·rfl
          rw [ao];exact en
      obtain⟨ad,aa,ah,ar⟩:=key;refine⟨.skip,{w with heap:=w.heap.setIfInBounds b (.map ad aa) },V,undef,by simp only [Sem.run_bind,ah,Result.andThen_ok,Sem.run_pure],.inr ⟨rfl,rfl⟩,V.le_refl,fun l e f=>(f e).elim,rfl,?_,⟨rfl,rfl,by simp,?_⟩⟩
      ·have ap:=cD hh;show Inv I V (toF (hupd h [(l,some (.imap kk vc (dV m n v)))]++ [])) hR _;simp only [hupd,List.foldl_cons,List.foldl_nil,List.append_nil];rw [fW _ ap];refine hi.replace (e:=.imap kk vc m) hh (b:=b) (o':=.map ad aa) ?_ ?_ ?_ ?_
       ·rintro g ⟨b1,k1,ai,az,c1,e4,_⟩;rw [e1]at ai;cases ai;exact⟨_,e4⟩
       ·exact⟨b,k,e1,ad,aa,rfl,ar⟩
       ·simp [ak]
       ·intro c hc;simp only [Array.getElem?_setIfInBounds];rw [if_neg (fun e=>hc e.symm)]
      ·intro a _;unfold World.frozen?;simp only [Array.getElem?_setIfInBounds]
       by_cases ha:b=a.block
       ·rw [if_pos ha,if_pos (by omega),<-ha,e2]
       ·rw [if_neg ha]
   ·cases hr
  ·cases hr
 ·cases hr
end
end Go.Sh
namespace Go.Sh
open Go
variable [Con] {A:Type} {I:Itp A}
section
variable {P:Program} {V:Val}
theorem xG{t:TypeId}{a:AVal}{lo hi mx:Option AVal}{h:aB A}{r:ORes A}{hR:PHeap}{w:World}{x:Value}{lo' hi' mx':Option Value}(hr:sF P t a lo hi mx h=some r)(ho:r.obl)(hi0:Inv I V (toF h) hR w)(hx:Rep V a x)
 (hlo: ∀z,lo=some z-> ∃z',lo'=some z'/\Rep V z z') (hlo0:lo=none->lo'=none) (hhi: ∀z,hi=some z-> ∃z',hi'=some z'/\Rep V z z') (hhi0:hi=none->hi'=none) (hmx0:mx=none->mx'=none):
 ∃v',(Instr.sliceAt t x lo' hi' mx').run P w=.ok v' w/\Rep V r.v v'/\r.upd=[]/\r.new=[]:=by
 unfold sF at hr;split at hr
 ·rename_i n e l off hu;rw [hmx0 rfl];split at hr
  ·rename_i s vs hs hh;split at hr
   ·rename_i ag;obtain⟨b,k,cs,T,rs,tail,hl,hb,hk,af,ac⟩:=hi0.cells (l:=l) hh;obtain⟨b',k',ad,rfl⟩:=hx;rw [hl]at ad;cases ad
    have ae:off+n*s<=k:=by
     rw [<-hk,<-Array.length_toList,af,List.length_append,aH.length ac];omega
    have aa:(∃b' k',V l=some (b',k')/\(some ⟨b,off,none⟩:Option Addr)=some ⟨b',off,none⟩/\off+n*s<=k')\/(n=0/\n=0):=.inl ⟨b,k,hl,rfl,ae⟩
    have g: ∀m lo:Nat,(if m=lo then(some ⟨b,off,none⟩:Option Addr)else(some ⟨b,off,none⟩:Option Addr).map (·.add (lo*s)))=some (if m=lo then⟨b,off,none⟩else(⟨b,off,none⟩:Addr).add (lo*s)):=by
     intro m lo;split<;>rfl
    split at hr
    ·simp at hr;subst hr;rw [hlo0 rfl,hhi0 rfl];have hr:=dK (Nat.le_refl n) aa (Nat.zero_le n) (Nat.le_refl n);rw [g]at hr;simp only [Nat.zero_mul,Nat.add_zero,Nat.sub_zero]at hr;refine⟨_,?_,hr,rfl,rfl⟩;simp [Instr.sliceAt,underlying,hu,Instr.sliceBounds,aV hs,Instr.sureAddr]
    ·rename_i k1 m;simp only [sI']at hr;subst hr;obtain⟨z',e1,r1⟩:=hhi _ rfl;have:z'=.int k1 m:=r1;subst this;rw [hlo0 rfl,e1];have hr:=dK (Nat.le_refl n) aa (lo:=0) (hi:=m.toNat) (Nat.zero_le _) ho.2;rw [g]at hr;simp only [Nat.zero_mul,Nat.add_zero,Nat.sub_zero]at hr;refine⟨_,?_,hr,rfl,rfl⟩;simp [Instr.sliceAt,underlying,hu,Instr.sliceBounds,aV hs,Instr.sureAddr,bB (y:=n) ho.1 ho.2]
    ·rename_i k1 m;simp only [sI']at hr;subst hr;obtain⟨z',e1,r1⟩:=hlo _ rfl;have:z'=.int k1 m:=r1;subst this;rw [hhi0 rfl,e1];have hr:=dK (Nat.le_refl n) aa (lo:=m.toNat) (hi:=n) ho.2 (Nat.le_refl _);rw [g]at hr;refine⟨_,?_,hr,rfl,rfl⟩;simp [Instr.sliceAt,underlying,hu,Instr.sliceBounds,aV hs,Instr.sureAddr,bB (y:=n) ho.1 ho.2]
    ·cases hr
   ·cases hr
  ·cases hr
 ·cases hr
theorem AO{Z:Operand->AVal}{Z':Operand->Value}(hZ: ∀x,Rep V (Z x) (Z' x))(o:Option Operand):
 (∀z,o.map Z=some z-> ∃z',o.map Z'=some z'/\Rep V z z')/\(o.map Z=none->o.map Z'=none):=by
 cases o with
 | none=>simp
 | some x=>simp;exact hZ x
theorem x1{Z:Operand->AVal}{Z':Operand->Value}{o:Oper}{h:aB A}{r:ORes A}{hR:PHeap}{w:World}(hr:aop P Z o.op h=some r)(ho:r.obl)(hi:Inv I V (toF h) hR w)
 (hn: ∀l,h.length<=l->l<h.length+r.new.length->V l=none) (hZ: ∀x,Rep V (Z x) (Z' x)):
 dL I P V h.length hR w r.v (toF (r.apply h)) r.new.length (execOp Z' o):=by
 have pureIf: ∀ {s:Sem Value} {q:Option (AVal×Option Prop)},oP q=some r->(∀v p,q=some (v,p)->onp p-> ∃v',s.run P w=.ok v' w/\Rep V v v')->
  execOp Z' o=(do Pure.pure (.value (<-s)))->dL I P V h.length hR w r.v (toF (r.apply h)) r.new.length (execOp Z' o):=by
  intro s q hq hs he;cases q with
  | none=>cases hq
  | some x=>
    obtain⟨v,p⟩:=x;simp [oP]at hq;subst hq;obtain⟨v',h1,h2⟩:=hs v p rfl ho;rw [cU rfl rfl,he];exact dL.pure hi h2 (by simp [h1])
 have aa: ∀ {s:Sem Value} {q:Option AVal},fN q=some r->(∀v,q=some v-> ∃v',s.run P w=.ok v' w/\Rep V v v')->
  execOp Z' o=(do Pure.pure (.value (<-s)))->dL I P V h.length hR w r.v (toF (r.apply h)) r.new.length (execOp Z' o):=by
  intro s q hq hs he;cases q with
  | none=>cases hq
  | some v=>
    simp [fN]at hq;subst hq;obtain⟨v',h1,h2⟩:=hs v rfl;rw [cU rfl rfl,he];exact dL.pure hi h2 (by simp [h1])
 cases g:o.op with
 | move x=>
   rw [g]at hr;simp [aop]at hr;subst hr;rw [cU rfl rfl];exact dL.pure hi (hZ x) (by simp [execOp,g])
 | assign x=>
   rw [g]at hr;simp [aop]at hr;subst hr;rw [cU rfl rfl];exact dL.pure hi (hZ x) (by simp [execOp,g])
 | pick c a b=>
   rw [g]at hr;refine aa (s:=do Pure.pure (if<-asBool (Z' c)then Z' a else Z' b)) hr ?_ (by simp [execOp,g])
   intro v hv;unfold aBJ at hv;split at hv
   ·rename_i b0 p q e1 e2 e3;simp at hv;subst hv;have r1:=hZ c;rw [e1]at r1;have r2:=hZ a;rw [e2]at r2;have r3:=hZ b;rw [e3]at r3;have s1:Z' c=.bool b0:=r1;have s2:Z' a=.bool p:=r2;have s3:Z' b=.bool q:=r3;rw [s1,s2,s3];refine⟨.bool (cond b0 p q),?_,rfl⟩;cases b0<;>simp [asBool]
   ·rename_i b0 e1 e2;simp at hv;subst hv;have r1:=hZ c;rw [e1]at r1;have s1:Z' c=.bool b0:=r1;rw [s1];cases b0
    ·exact⟨Z' b,by simp [asBool],hZ b⟩
    ·exact⟨Z' a,by simp [asBool],hZ a⟩
   ·cases hv
 | alloc e=>
   rw [g]at hr;simp only [aop]at hr;cases hz:x5 P e with
   | none=>rw [hz]at hr;cases hr
   | some z=>
     rw [hz]at hr;simp at hr;subst hr;obtain⟨zv,rfl,aq⟩:=oS (w:=w) hz;refine aL5 (T:=e) hi (hn _ (Nat.le_refl _) (by simp)) (dC V zv) ?_
     simp [execOp,g,Instr.alloc,aq,newVar,newRow]
 | box e x=>
   rw [g]at hr;simp only [aop]at hr;split at hr
   ·rename_i aj;simp at hr;subst hr;refine aL5 (T:=e) hi (hn _ (Nat.le_refl _) (by simp)) (mD (hZ x) aj) ?_
    simp [execOp,g,Instr.box,newVar,newRow]
   ·cases hr
 | build t parts=>
   rw [g]at hr;refine aa (s:=Instr.build t (parts.map fun(i,x)=>(i,Z' x))) hr ?_ (by simp [execOp,g])
   intro v hv;have:=FZ (V:=V) (w:=w) hv (wQ hZ parts.toList)
   have e:(parts.map fun(i,x)=>(i,Z' x))=(List.map (fun x=>(x.1,Z' x.2)) parts.toList).toArray :=by
    apply Array.ext';simp
   rw [e];exact this
 | buildSlice t len parts=>
   rw [g]at hr;refine uV hr (wQ hZ parts.toList) hi hn ?_
   have e:(parts.map fun(i,x)=>(i,Z' x))=(List.map (fun x=>(x.1,Z' x.2)) parts.toList).toArray :=by
    apply Array.ext';simp
   simp only [execOp,g,e]
 | load t a=>
   rw [g]at hr;simp only [aop]at hr;split at hr
   ·rename_i l off e1;have r1:=hZ a;rw [e1]at r1;obtain⟨v',h1,h2,h3,h4⟩:=xZ hr ho hi r1;rw [cU h3 h4,h4];exact dL.pure hi h2 (by simp [execOp,g,h1])
   ·rename_i cs e1;have r1:=hZ a;rw [e1]at r1;cases hv:eM P t cs with
    | none=>rw [hv]at hr;cases hr
    | some v=>
      rw [hv]at hr;simp [fN]at hr;subst hr;obtain⟨v',h1,h2⟩:=F2 (V:=V) hv hi r1;rw [cU rfl rfl];exact dL.pure hi h2 (by simp [execOp,g,h1])
   ·rename_i l r0 w0 j e1;have r1:=hZ a;rw [e1]at r1;obtain⟨v',h1,h2,h3,h4⟩:=F4 hr ho hi r1;rw [cU h3 h4,h4];exact dL.pure hi h2 (by simp [execOp,g,h1])
   ·cases hr
 | store t a x=>
   rw [g]at hr;simp only [aop]at hr;split at hr
   ·rename_i l off e1;have r1:=hZ a;rw [e1]at r1;obtain⟨w',h1,h2,h3,h4,h5⟩:=GA hr ho hi r1 (hZ x);exact⟨.skip,w',V,undef,by simp [execOp,g,h1],.inr ⟨rfl,rfl⟩,V.le_refl,fun l e f=>(f e).elim,by rw [h4];rfl,h2,h3⟩
   ·rename_i l r0 w0 j e1;have r1:=hZ a;rw [e1]at r1;obtain⟨w',h1,h2,h3,h4,h5⟩:=BY hr ho hi r1 (hZ x);exact⟨.skip,w',V,undef,by simp [execOp,g,h1],.inr ⟨rfl,rfl⟩,V.le_refl,fun l e f=>(f e).elim,by rw [h4];rfl,h2,h3⟩
   ·cases hr
 | nilCheck x=>
   rw [g]at hr;simp only [aop]at hr;cases hv:oO (Z x)with
   | none=>rw [hv]at hr;cases hr
   | some v=>
     rw [hv]at hr;simp [fN]at hr;subst hr;rw [cU rfl rfl];have rx:=hZ x
     have ak:v=Z x:=by
      unfold oO at hv;split at hv<;>simp at hv<;>(rename_i e;rw [e];exact hv.symm)
     refine dL.pure (v':=Z' x) hi (by rw [show(ORes.pure (A:=A) v).v =Z x from ak];exact rx) ?_
     unfold oO at hv;split at hv
     ·rename_i e;rw [e]at rx;obtain⟨b,k,_,e2⟩:=rx;simp [execOp,g,e2]
     ·rename_i e;rw [e]at rx;obtain⟨b,off,cs,T,fz,e2,_⟩:=rx;simp [execOp,g,e2]
     ·rename_i e;rw [e]at rx;obtain⟨b,k,_,e2⟩:=rx;simp [execOp,g,e2]
     ·rename_i e;rw [e]at rx;obtain⟨y,e2,_⟩:=rx;simp [execOp,g,e2]
     ·rename_i e;rw [e]at rx;obtain⟨f,c,e2,_⟩:=rx;simp [execOp,g,e2]
     ·cases hv
 | binOp op t x y yt=>
   rw [g]at hr;refine pureIf (s:=do eqGuard op t x y (Z' x) (Z' y);binOp op t (Z' x) (Z' y)) hr ?_ (by simp [execOp,g])
   intro v p hv hp;exact PT hv hp (hZ x) (hZ y)
 | unOp op t x=>
   rw [g]at hr;refine aa (s:=Op.unary op (Z' x)) hr ?_ (by simp [execOp,g])
   intro v hv;have rx:=hZ x;unfold aun at hv;split at hv
   ·rename_i b e;simp at hv;subst hv;rw [e]at rx;have:Z' x=.bool b:=rx;rw [this];exact⟨.bool (!b),by simp [Op.unary],rfl⟩
   ·rename_i k n e;simp at hv;subst hv;rw [e]at rx;have:Z' x=.int k n:=rx;rw [this];exact⟨.int k (k.wrap (-n)),by simp [Op.unary,Op.intArith],rfl⟩
   ·cases hv
 | convert src dst x=>
   rw [g]at hr;refine aa (s:=convert src dst (Z' x)) hr ?_ (by simp [execOp,g])
   intro v hv;have rx:=hZ x;unfold aBE at hv;split at hv
   ·rename_i d k k' n hs hu e;simp at hv;subst hv;rw [e]at rx;have:Z' x=.int k' n:=rx;rw [this];refine⟨.int k (k.wrap n),?_,rfl⟩;simp only [convert,underlying,Sem.run_bind,run_program,Result.andThen_ok,hs,hu,Sem.run_pure,Conv.intToInt]
   ·rename_i d s hs hu e;simp at hv;subst hv;rw [e]at rx;have:Z' x=.string s:=rx;rw [this];refine⟨.string s,?_,rfl⟩;simp only [convert,underlying,Sem.run_bind,run_program,Result.andThen_ok,hs,hu,Sem.run_pure]
   ·cases hv
 | makeInterface t x=>
   rw [g]at hr;simp only [aop]at hr;split at hr
   ·cases hr
   ·rename_i d au hu;simp at hr;subst hr;rw [cU rfl rfl];refine dL.pure (v':=.iface t (Z' x)) hi ⟨_,rfl,hZ x⟩ ?_;simp only [execOp,g,Instr.makeInterface,underlying,Sem.run_bind,run_program,Result.andThen_ok,hu,Sem.run_pure]
   ·cases hr
 | makeFunc fn first caps=>
   rw [g]at hr;simp [aop]at hr;subst hr;rw [cU rfl rfl];refine dL.pure (v':=.func fn (first.map Z') (caps.map Z')) hi ⟨_,_,rfl,by simpa using gO hZ first.toList,by simpa using gO hZ caps.toList⟩ ?_
   simp [execOp,g,Instr.makeFunc]
 | slice t x lo hi' mx=>
   rw [g]at hr;simp only [aop]at hr;obtain⟨o1,o2⟩:=AO hZ lo;obtain⟨o3,o4⟩:=AO hZ hi';obtain⟨o5,o6⟩:=AO hZ mx;split at hr
   ·obtain⟨v',h1,h2,h3,h4⟩:=xG hr ho hi (hZ x) o1 o2 o3 o4 o6;rw [cU h3 h4,h4];exact dL.pure hi h2 (by simp [execOp,g,h1])
   ·refine pureIf (s:=Instr.sliceAt t (Z' x) (lo.map Z') (hi'.map Z') (mx.map Z')) hr ?_ (by simp [execOp,g])
    intro v p hv hp;exact F8 hv hp (hZ x) o1 o2 o3 o4 o5 o6
 | fieldAddr s x f=>
   rw [g]at hr;refine aa (s:=Instr.fieldAt s (Z' x) f) hr ?_ (by simp [execOp,g])
   intro v hv;have rx:=hZ x;unfold uW at hv;split at hv
   ·rename_i fs l off hu e;split at hv
    ·rename_i fd ae;split at hv
     ·rename_i m hs;simp at hv;subst hv;rw [e]at rx;obtain⟨b,k,hl,e2⟩:=rx;rw [e2];refine⟨.pointer (some ⟨b,off+fd.offset,none⟩),?_,⟨b,k,hl,rfl⟩⟩;simp [Instr.fieldAt,underlying,hu,ae,Instr.sureAddr,fieldPlace,aV hs,Addr.add_lit]
     ·cases hv
    ·cases hv
   ·rename_i fs as hu e;split at hv
    ·rename_i fd ae;split at hv
     ·rename_i m hs;simp at hv;subst hv;rw [e]at rx;obtain⟨b,off,cs,T,fz,e2,am,al⟩:=rx;rw [e2];refine⟨.pointer (some ⟨b,off+fd.offset,none⟩),?_,x7 am al⟩;simp [Instr.fieldAt,underlying,hu,ae,Instr.sureAddr,fieldPlace,aV hs,Addr.add_lit]
     ·cases hv
    ·cases hv
   ·rename_i fs l r0 w0 j hu e;split at hv
    ·rename_i fd ae;split at hv
     ·rename_i m hs;simp at hv;subst hv;rw [e]at rx;obtain⟨b,k,hl,e2⟩:=rx;rw [e2];refine⟨.pointer (some ⟨b,r0*w0+j+fd.offset,none⟩),?_,b,k,hl,by rw [Nat.add_assoc]⟩
      simp [Instr.fieldAt,underlying,hu,ae,Instr.sureAddr,fieldPlace,aV hs,Addr.add_lit]
     ·cases hv
    ·cases hv
   ·cases hv
 | field s x f=>
   rw [g]at hr;refine aa (s:=Instr.field s (Z' x) f) hr ?_ (by simp [execOp,g])
   intro v hv;have rx:=hZ x;unfold PW at hv;split at hv
   ·rename_i fs cs hu e;split at hv
    ·rename_i fd ae;rw [e]at rx;obtain⟨xs,e2,rx⟩:=rx;rw [e2];obtain⟨v',h1,h2⟩:=oR (w:=w) hv rx;exact⟨v',by simp [Instr.field,underlying,hu,ae,asAgg,h1],h2⟩
    ·cases hv
   ·cases hv
 | indexAddr t x i=>
   rw [g]at hr;refine pureIf (s:=Instr.indexAt t (Z' x) (Z' i)) hr ?_ (by simp [execOp,g])
   intro v p hv hp;exact uX hv hp (hZ x) (hZ i)
 | index t x i=>
   rw [g]at hr;refine pureIf (s:=Instr.index t (Z' x) (Z' i)) hr ?_ (by simp [execOp,g])
   intro v p hv hp;exact F1 hv hp (hZ x) (hZ i)
 | extract x i=>
   rw [g]at hr;simp only [aop]at hr;split at hr
   ·rename_i vs e;have rx:=hZ x;rw [e]at rx;obtain⟨xs,e2,rx⟩:=rx;refine aa (s:=Instr.extract (Z' x) i) hr ?_ (by simp [execOp,g])
    intro v hv;obtain⟨y,hy,ry⟩:=aH.get rx i v hv;rw [e2];rw [Array.getElem?_toList]at hy;exact⟨y,by simp [Instr.extract,hy],ry⟩
   ·cases hr
 | makeSlice t n m=>
   rw [g]at hr;exact xB hr ho hi hn (hZ n) (hZ m) (by simp only [execOp,g])
 | makeMap t ao=>
   rw [g]at hr;cases ao with
   | some x=>simp [aop]at hr
   | none=>exact BN hr hi hn (by simp only [execOp,g];rfl)
 | lookup t x i ck=>
   rw [g]at hr;exact F5 hr ho hi (hZ x) (hZ i) (by simp only [execOp,g])
 | mapUpdate t m k v=>
   rw [g]at hr;exact xC hr ho hi (hZ m) (hZ k) (hZ v) (by simp only [execOp,g])
 | call c=>
   rw [g]at hr;simp only [aop]at hr;split at hr
   case h_2=>cases hr
   rename_i b hb
   have ad: ∃cs,execOp Z' o=builtin b c.argTypes o.type cs (c.args.map Z'):=by
    have h0:execOp Z' o=(do let d<-resolve Z' c o.type;invoke d.target d.args):=by simp only [execOp,g]
    rw [h0];unfold resolve;rw [hb];exact⟨_,rfl⟩
   obtain⟨cs,ad⟩:=ad;have ac:=gO hZ c.args.toList;have ag:(c.args.map Z').toList =c.args.toList.map Z':=by simp
   rw [<-ag]at ac;generalize hxs:c.args.toList.map Z=xs at hr ac;generalize hts:c.argTypes.toList=ts at hr;have af:c.argTypes=ts.toArray:=by rw [<-hts]
   unfold BH at hr;split at hr
   ·rename_i t x;obtain⟨y,ys,e1,r1,r2⟩:=ac;have ap:ys=[]:=r2;subst ap;have e2:c.args.map Z'= #[y]:=by apply Array.ext';rw [e1]
    split at hr
    ·rename_i v0 ar;refine aa (s:=Builtin.len_ #[t] o.type #[y]) hr ?_ (by rw [ad,af,e2];rfl)
     intro v hv;cases hv;exact P0 ar r1
    ·exact PZ (ty:=o.type) hr ho hi r1 (by rw [ad,af,e2];rfl)
   ·rename_i x ah;obtain⟨y,ys,e1,r1,r2⟩:=ac;refine aa (s:=Builtin.min_ c.argTypes o.type (c.args.map Z')) hr ?_ (by rw [ad];rfl)
    intro v hv;obtain⟨v',h1,h2⟩:=P2 (w:=w) ah x v y ys hv r1 r2;exact⟨v',by unfold Builtin.min_;rw [e1];exact h1,h2⟩
   ·rename_i x ah;obtain⟨y,ys,e1,r1,r2⟩:=ac;refine aa (s:=Builtin.max_ c.argTypes o.type (c.args.map Z')) hr ?_ (by rw [ad];rfl)
    intro v hv;obtain⟨v',h1,h2⟩:=P1 (w:=w) ah x v y ys hv r1 r2;exact⟨v',by unfold Builtin.max_;rw [e1];exact h1,h2⟩
   ·rename_i st xt s x;obtain⟨y,ys,e1,r1,z,zs,e3,r3,r4⟩:=ac;have ai:zs=[]:=r4;subst ai e3;have e2:c.args.map Z'= #[y,z]:=by apply Array.ext';rw [e1]
    cases hg:I8 s x h with
    | true=>rw [hg]at hr;cases hr
    | false=>
    rw [hg]at hr;exact FX (ty:=o.type) hr ho hi hn r1 r3 (by rw [ad,af,e2];rfl)
   ·rename_i dt xt d x;obtain⟨y,ys,e1,r1,z,zs,e3,r3,r4⟩:=ac;have ai:zs=[]:=r4;subst ai e3;have e2:c.args.map Z'= #[y,z]:=by apply Array.ext';rw [e1]
    exact PV (xt:=xt) (ty:=o.type) hr ho hi r1 r3 (by rw [ad,af,e2];rfl)
   ·cases hr
 | _=>rw [g]at hr;simp [aop]at hr
end
end Go.Sh
namespace Go.Sh
open Go
variable [Con] {A:Type}
abbrev xQ(A:Type):=List AVal->aB A->(AVal->aB A->Prop)->Prop
abbrev nI(A:Type):=List AVal->aB A->Option (ORes A)
def zD(I:Itp A)(V:Val)(n:Nat)(hR:PHeap)(K:AVal->aB A->Prop)(w:World)(e:Ending)(w':World):Prop:=
 ∃v v' V' h',K v h'/\e=.returned v'/\Rep V' v v'/\V.le V'/\(∀l,h'.length<=l->V' l=none)/\n<=h'.length/\Inv I V' (toF h') hR w'/\bN w w'
def bO(V:Val)(n:Nat):Prop:= ∀l,n<=l->V l=none
def jP(V:Val)(n k:Nat):Prop:= ∀l,n<=l->l<n+k->V l=none
theorem bO.on{V:Val}{n k:Nat}(h:bO V n):jP V n k:=fun l hl _=>h l hl
def xQ.ok(I:Itp A)(P:Program)(f:FuncId)(S:xQ A):Prop:=
 ∀args h K,S args h K-> ∀V hR w (args':Array Value),Inv I V (toF h) hR w->bO V h.length->aH V args args'.toList->Calls P f args' w (zD I V h.length hR K w)
def nI.ok(I:Itp A)(P:Program)(f:FuncId)(S:nI A):Prop:=
 ∀args h r,S args h=some r->r.obl-> ∀V hR w (args':Array Value),Inv I V (toF h) hR w->jP V h.length r.new.length->aH V args args'.toList->
  Calls P f args' w fun e w'=> ∃v' V',e=.returned v'/\Rep V' r.v v'/\V.le V'/\(∀l,V l=none->V' l≠none->h.length<=l/\l<h.length+r.new.length)/\Inv I V' (toF (r.apply h)) hR w'/\bN w w'
def mX(P:Program)(f:FuncId):Bool:=
 match P.funcs[f]? with
 | some fn=>fn.name != "runtime.NumGoroutine" &&fn.body.isSome
 | none=>false
structure Env (A:Type) (P:Program) where
 I:Itp A
 cps:FuncId->Option (xQ A)
 det:FuncId->Option (nI A)
 meth:TypeId->String->Option FuncId
 cpsOk: ∀f S,cps f=some S->xQ.ok I P f S
 detOk: ∀f S,det f=some S->nI.ok I P f S
 methOk: ∀t name f,meth t name=some f-> ∀(v:Value) (w:World),(∃a,v=.pointer (some a))->(method (P.types.size+Made.depth) t v name).run P w=.ok (f,v) w
 row:(Operand->AVal)->Op->aB A->(AVal->aB A->Prop)->Prop:=fun _ _ _ _=>False
 rowOk: ∀(Z:Operand->AVal) (o:Oper) (h:aB A) (K:AVal->aB A->Prop),row Z o.op h K-> ∀(V:Val) (hR:PHeap) (w:World) (Z':Operand->Value),Inv I V (toF h) hR w->(∀l,h.length<=l->V l=none)->(∀x,Rep V (Z x) (Z' x))->
  ∃nx w' V' v v' h2,K v h2/\(execOp Z' o).run P w=.ok nx w'/\(nx=.value v'\/nx=.skip /\v'=undef)/\Rep V' v v'/\V.le V'/\(∀l,h2.length<=l->V' l=none)/\h.length<=h2.length/\Inv I V' (toF h2) hR w'/\bN w w':=by intro Z o h K hh;exact hh.elim
 fld:TypeId->Nat->Nat->aB A->Option (AVal×Option Prop):=fun _ _ _ _=>none
 fldOk: ∀(t:TypeId) (l off:Nat) (h:aB A) (v:AVal) (q:Option Prop),fld t l off h=some (v,q)->onp q-> ∀(V:Val) (hR:PHeap) (w:World) (b k:Nat),Inv I V (toF h) hR w->V l=some (b,k)-> ∃v',(Instr.loadAt t (.pointer (some ⟨b,off,none⟩))).run P w=.ok v' w/\Rep V v v':=by intro t l off h v q hh;cases hh
 dro:(Operand->AVal)->Op->aB A->Option (ORes A):=fun _ _ _=>none
 droCongr: ∀(Z Z2:Operand->AVal) (op:Op) (h:aB A),(∀x∈op.operands,Z x=Z2 x)->dro Z op h=dro Z2 op h:=by intro _ _ _ _ _;rfl
 droOk: ∀(Z:Operand->AVal) (o:Oper) (h:aB A) (r:ORes A),dro Z o.op h=some r->r.obl-> ∀(V:Val) (hR:PHeap) (w:World) (Z':Operand->Value),Inv I V (toF h) hR w->jP V h.length r.new.length->(∀x,Rep V (Z x) (Z' x))->dL I P V h.length hR w r.v (toF (r.apply h)) r.new.length (execOp Z' o):=by intro _ _ _ _ hh;cases hh
 yld:Nat->List AVal->aB A->(AVal->aB A->Prop)->Prop:=fun _ _ _ _=>False
 yldOk: ∀(l:Nat) (args:List AVal) (h:aB A) (K:AVal->aB A->Prop),yld l args h K-> ∀(V:Val) (hR:PHeap) (w:World) (args':Array Value),Inv I V (toF h) hR w->(∀l,h.length<=l->V l=none)->aH V args args'.toList->YieldAt Fence.wide 0 P l args' w (zD I V h.length hR K w):=by
  intro l args h K hk;exact hk.elim
def fB: ∀(u:List (Nat×Option (aG A))) (h:aB A),(hupd h u).length =h.length
 | [],h=>rfl
 | x::u,h=>by
   show(hupd (h.set x.1 x.2) u).length =_;rw [fB u];simp
theorem mL(r:ORes A)(h:aB A):(r.apply h).length =h.length+r.new.length:=by
 simp [ORes.apply,fB]
abbrev s9(A:Type):=FuncId->List AVal->aB A->(AVal->aB A->Prop)->Prop
section
variable {P:Program} (E:Env A P)
def Y0(inl:s9 A)(g:FuncId)(args:List AVal)(h:aB A)(K:AVal->aB A->Prop):Prop:=
 match E.cps g with
 | some S=>S args h K
 | none=>
   match E.det g with
   | some D=>match D args h with
     | some r=>AK r.need (K r.v (r.applyF h))
     | none=>False
   | none=>inl g args h K
def callee(Z:Operand->AVal)(c:Call):Option (FuncId×List AVal):=
 match c.callee with
 | .value f=>
   match Z f with
   | .func (.func g) first caps=>some (g,first++c.args.toList.map Z++caps)
   | _=>none
 | .invoke recv name=>
   match Z recv with
   | .iface t (.ptr l off)=>(E.meth t name).map fun g=>(g,.ptr l off::c.args.toList.map Z)
   | _=>none
 | .builtin _=>none
def qC:AVal->Option Prop
 | .slice _ _ n _=>some (n=0)
 | .tslice _ _ n _=>some (n=0)
 | .iview _ xs=>some (xs=[])
 | .view n _ _=>some (n=0)
 | .empty =>some True
 | _=>none
def anil(P:Program)(Z:Operand->AVal):Op->Option (Prop×(Bool->Bool))
 | .binOp .eql t x y _=>match P.underlying t,Z y with
   | some (.slice _),.raw (.slice none 0 0)=>(qC (Z x)).map fun p=>(p,fun b=>b)
   | _,_=>none
 | .binOp .neq t x y _=>match P.underlying t,Z y with
   | some (.slice _),.raw (.slice none 0 0)=>(qC (Z x)).map fun p=>(p,fun b=>!b)
   | _,_=>none
 | _=>none
def xI(inl:s9 A)(Z:Operand->AVal)(op:Op)(h:aB A)(K:AVal->aB A->Prop):Prop:=
 match op with
 | .call c=>
   match callee E Z c with
   | some (g,args)=>cL (mX P g) (Y0 E inl g args h K)
   | none=>match aop P Z (.call c) h with
     | some r=>AK r.need (K r.v (r.applyF h))
     | none=>E.row Z (.call c) h K
 | op=>match anil P Z op with
   | some (p,f)=> ∀b:Bool,(b=true->p)->K (.bool (f b)) h
   | none=>match aop P Z op h with
     | some r=>AK r.need (K r.v (r.applyF h))
     | none=>E.row Z op h K
def u6(tm:List AVal)(dst:Option Tmp)(v:AVal):List AVal:=
 match dst with
 | some d=>tm.set d v
 | none=>tm
def iJ:AVal->Bool
 | .raw (.tuple _)=>true
 | _=>false
def lE(inl:s9 A):Prop:=
 ∀g args h K,inl g args h K-> ∀V hR w (args':Array Value),Inv E.I V (toF h) hR w->bO V h.length->aH V args args'.toList->Calls P g args' w (zD E.I V h.length hR K w)
variable {E}
theorem tJ{V V':Val}{r:ORes A}{h:aB A}(hf:bO V h.length)(hd: ∀l,V l=none->V' l≠none->h.length<=l/\l<h.length+r.new.length):bO V' (r.apply h).length :=by
 intro l hl;rw [mL]at hl;cases e:V' l with
 | none=>rfl
 | some x=>
   have:=hd l (hf l (by omega)) (by rw [e];simp)
   omega
theorem GY{inl:s9 A}(hinl:lE E inl){g:FuncId}{args:List AVal}{h:aB A}{K:AVal->aB A->Prop}(he:Y0 E inl g args h K){V:Val}{hR:PHeap}{w:World}{args':Array Value}
 (hi:Inv E.I V (toF h) hR w) (hf:bO V h.length) (hr:aH V args args'.toList):Calls P g args' w (zD E.I V h.length hR K w):=by
 unfold Y0 at he;split at he
 ·rename_i S hS;exact E.cpsOk g S hS args h K he V hR w args' hi hf hr
 ·split at he
  ·rename_i D hD;split at he
   ·rename_i r aa;have he:=n9.1 he;rw [sE]at he;refine(E.detOk g D hD args h r aa he.1 V hR w args' hi hf.on hr).mono ?_;rintro e w' ⟨v',V',h1,h2,h3,h4,h5,h6⟩;refine⟨r.v,v',V',r.apply h,he.2,h1,h2,h3,tJ hf h4,?_,h5,h6⟩;rw [mL];omega
   ·exact he.elim
  ·exact hinl g args h K he V hR w args' hi hf hr
theorem fE{V:Val}{tm:List AVal}{a:Act}(h:aH V tm a.tmps.toList)(x:Operand):Rep V (dM tm x) (a.eval x):=by
 cases x with
 | tmp t=>
   show Rep V (tm.getD t (.raw undef)) (a.tmps.getD t undef);rw [gD',Array.getD_eq_getD_getElem?];cases e:tm[t]? with
   | some v=>
     obtain⟨y,hy,ry⟩:=aH.get h t v e;rw [Array.getElem?_toList]at hy;rw [hy];exact ry
   | none=>
     have hl:=aH.length h;rw [List.getElem?_eq_none_iff]at e;have:a.tmps[t]? =none:=by rw [Array.getElem?_eq_none];rw [<-Array.length_toList];omega
     rw [this];exact rfl
 | const v=>exact yT V v
 | global g=>exact rfl
 | func f=>exact⟨#[], #[],rfl,by simp [aH],by simp [aH]⟩
theorem l8{V:Val}{tm:List AVal}{a:Act}{dst:Option Tmp}{v:AVal}{v':Value}(h:aH V tm a.tmps.toList)(hv:Rep V v v'):aH V (u6 tm dst v) (a.put dst v').tmps.toList :=by
 cases dst with
 | none=>exact h
 | some d=>
   show aH V (tm.set d v) (a.tmps.setIfInBounds d v').toList;rw [Array.toList_setIfInBounds];exact aH.set h d v v' hv
theorem iE(a:Act)(dst:Option Tmp)(v:Value):(a.put dst v).defers =a.defers:=by
 cases dst<;>rfl
theorem gG{g:FuncId}(hp:mX P g=true)(args:Array Value)(w:World):(callFunc g args).run P w=.ok (.enter g args) w:=by
 unfold mX at hp;cases e:P.funcs[g]? with
 | none=>rw [e]at hp;cases hp
 | some fn=>
   rw [e]at hp;simp only [Bool.and_eq_true,bne_iff_ne,ne_eq]at hp;have h2:fn.body.isNone=false:=by cases hb:fn.body<;>simp_all
   simp only [callFunc,Sem.run_bind,run_program,Result.andThen_ok,e];have h1:(fn.name == "runtime.NumGoroutine")=false:=by simpa using hp.1
   simp [h1,h2]
theorem aCj(x:Value)(ys:Array Value):(#[x]++ys)[0]? =some x:=by
 rw [Array.getElem?_append_left (by simp)];rfl
theorem aCk(x:Value)(ys:Array Value):(#[x]++ys).extract 1 (#[x]++ys).size =ys:=by
 apply Array.ext';rw [Array.toList_extract];have e:(#[x]++ys).toList =x::ys.toList:=by simp
 have g:(#[x]++ys).size =ys.toList.length+1:=by simp;omega
 rw [e,g];show List.take (ys.toList.length+1 - 1) (List.drop 1 (x::ys.toList))=ys.toList;rw [Nat.add_sub_cancel];exact List.take_length
theorem HY{V:Val}{a:AVal}{p:Prop}{x:Value}(h:qC a=some p)(hx:Rep V a x): ∃base len cap,x=.slice base len cap/\(base=none->p):=by
 unfold qC at h;split at h
 ·simp only [sI']at h;subst h;obtain⟨base,cap,e,hc,hb⟩:=hx;refine⟨base,_,cap,e,?_⟩;rintro rfl;rcases hb with⟨b,k,_,hb,_⟩ | ⟨h0,_⟩
  ·cases hb
  ·exact h0
 ·simp only [sI']at h;subst h;obtain⟨base,cap,e,hc,hb⟩:=hx;refine⟨base,_,cap,e,?_⟩;rintro rfl;rcases hb with⟨b,k,_,hb,_⟩ | ⟨h0,_⟩
  ·cases hb
  ·exact h0
 ·simp only [sI']at h;subst h;obtain⟨base,cap,e,hc,hb⟩:=hx;refine⟨base,_,cap,e,?_⟩;rintro rfl;rcases hb with⟨b,off,cs,T,g,hb,_⟩ | h0
  ·cases hb
  ·exact h0
 ·simp only [sI']at h;subst h;obtain⟨base,cap,e,hc,hb⟩:=hx;refine⟨base,_,cap,e,?_⟩;rintro rfl;rcases hb with⟨b,off,cs,T,g,hb,_⟩ | h0
  ·cases hb
  ·exact h0
 ·simp only [sI']at h;subst h;obtain⟨base,e⟩:=hx;exact⟨base,0,0,e,fun _=>trivial⟩
 ·cases h
theorem aAJ{w:World}{t e:TypeId}{X Y:Operand}{base:Option Addr}{len cap:Nat}(hu:P.underlying t=some (.slice e)):
 (do eqGuard .eql t X Y (.slice base len cap) (.slice none 0 0);binOp .eql t (.slice base len cap) (.slice none 0 0):Sem Value).run P w=.ok (.bool base.isNone) w/\
 (do eqGuard .neq t X Y (.slice base len cap) (.slice none 0 0);binOp .neq t (.slice base len cap) (.slice none 0 0):Sem Value).run P w=.ok (.bool (!base.isNone)) w:=by
 have h1: ∀D,(Op.equalIn (D+1) t (.slice base len cap) (.slice none 0 0)).run P w=.ok base.isNone w:=by
  intro D;cases base<;>simp [Op.equalIn,underlying,hu]
 have h2:(Op.equal t (.slice base len cap) (.slice none 0 0)).run P w=.ok base.isNone w:=h1 _
 have g: ∀op,(eqGuard op t X Y (.slice base len cap) (.slice none 0 0)).run P w=.ok () w:=by
  intro op;cases op<;>rfl
 have b1:binOp .eql t (.slice base len cap) (.slice none 0 0)=(do let e<-Op.equal t (.slice base len cap) (.slice none 0 0);Pure.pure (.bool e)):=rfl
 have b2:binOp .neq t (.slice base len cap) (.slice none 0 0)=(do let e<-Op.equal t (.slice base len cap) (.slice none 0 0);Pure.pure (.bool (!e))):=rfl
 constructor
 ·simp only [Sem.run_bind,g,Result.andThen_ok,b1,h2,Sem.run_pure]
 ·simp only [Sem.run_bind,g,Result.andThen_ok,b2,h2,Sem.run_pure]
theorem pV{inl:s9 A}(hinl:lE E inl){a:Act}{o:Oper}{tm:List AVal}{h:aB A}{K:AVal->aB A->Prop}(he:xI E inl (dM tm) o.op h K){V:Val}{hR:PHeap}{w:World}
 (hi:Inv E.I V (toF h) hR w) (hf:bO V h.length) (ht:aH V tm a.tmps.toList) {next:Act->World->Prop} {Q:Exit->Act->World->Prop}
 (hn: ∀v v' V' h' w',K v h'->Rep V' v v'->V.le V'->bO V' h'.length->h.length<=h'.length->Inv E.I V' (toF h') hR w'->bN w w'->next (a.put o.dst v') w'):
 o.wp P a w next Q:=by
 have hZ: ∀x,Rep V (dM tm x) (a.eval x):=fE ht
 have ah: ∀(r:ORes A),aop P (dM tm) o.op h=some r->r.obl->K r.v (r.apply h)->o.wp P a w next Q:=by
  intro r hr ho hK;obtain⟨nx,w',V',v',h1,h2,h3,h4,h5,h6,h7⟩:=x1 hr ho hi hf.on hZ;have:=hn r.v v' V' (r.apply h) w' hK h5 h3 (tJ hf h4) (by rw [mL];omega) h6 h7
  unfold Oper.wp;rw [h1];rcases h2 with rfl | ⟨rfl,rfl⟩
  ·exact this
  ·exact this
 have other:(match aop P (dM tm) o.op h with | some r=>AK r.need (K r.v (r.applyF h)) | none=>E.row (dM tm) o.op h K)->o.wp P a w next Q:=by
  intro hh;split at hh
  ·rename_i r hr;exact ah r hr (n9.1 hh).1 (by rw [<-sE];exact(n9.1 hh).2)
  ·obtain⟨nx,w',V',v,v',h2,r1,r2,r3,r4,r5,r6,r7,r8,r9⟩:=E.rowOk (dM tm) o h K hh V hR w a.eval hi hf hZ;have:=hn v v' V' h2 w' r1 r4 r5 r6 r7 r8 r9;unfold Oper.wp;rw [r2];rcases r3 with rfl | ⟨rfl,rfl⟩
   ·exact this
   ·exact this
 have fin: ∀(g:FuncId) (args:List AVal) (ad:Array Value),mX P g=true->Y0 E inl g args h K->aH V args ad.toList->(execOp a.eval o).run P w=.ok (.enter g ad) w->o.wp P a w next Q:=by
  intro g args ad hp ai hr ae;unfold Oper.wp;rw [ae];refine(GY hinl ai hi hf hr).mono ?_;rintro e w' ⟨v,v',V',h',h1,rfl,h3,h4,h5,h6,h7,h8⟩;exact hn v v' V' h' w' h1 h3 h4 h5 h6 h7 h8
 cases ac:o.op with
 | call c=>
   rw [ac]at he;simp only [xI]at he;have ag:aH V (c.args.toList.map (dM tm)) (c.args.toList.map a.eval):=gO hZ c.args.toList;cases hc:callee E (dM tm) c with
   | none=>
     rw [hc]at he;exact other (by rw [ac];exact he)
   | some x=>
     obtain⟨g,args⟩:=x;rw [hc]at he;obtain⟨hp,ai⟩:=bK.1 he;unfold callee at hc;split at hc
     ·rename_i f af;split at hc
      ·rename_i g' first aq ak
       simp only [sI',pI']at hc;obtain⟨rfl,rfl⟩:=hc;have rf:=hZ f;rw [ak]at rf;obtain⟨fs,cs,e1,r1,r2⟩:=rf;refine fin g' _ (fs++c.args.map a.eval++cs) hp ai ?_ ?_
       ·simp only [Array.toList_append,Array.toList_map];exact aH.append (aH.append r1 ag) r2
       ·simp only [execOp,ac,resolve,af,e1,Deferred.ofValue,Sem.run_bind,Sem.run_pure,Result.andThen_ok,invoke,gG hp]
      ·cases hc
     ·rename_i recv name af;split at hc
      ·rename_i t l off ak;cases hm:E.meth t name with
       | none=>rw [hm]at hc;cases hc
       | some g'=>
         rw [hm]at hc;simp only [Option.map_some,sI',pI']at hc;obtain⟨rfl,rfl⟩:=hc;have rf:=hZ recv;rw [ak]at rf;obtain⟨x,e1,b,k,hl,e2⟩:=rf;subst e2;refine fin g' _ (#[.pointer (some ⟨b,off,none⟩)]++c.args.map a.eval) hp ai ?_ ?_
         ·simp only [Array.toList_append,Array.toList_map];exact⟨_,_,rfl,⟨b,k,hl,rfl⟩,ag⟩
         ·have ao:=E.methOk t name g' hm (.pointer (some ⟨b,off,none⟩)) w ⟨_,rfl⟩;simp only [execOp,ac,resolve,af,Sem.run_bind,Sem.run_pure,Result.andThen_ok,invoke,e1,aCj,aCk,callMethod,run_program,ao,gG hp]
      ·cases hc
     ·cases hc
 | binOp bo t X Y yt=>
   rw [ac]at he;cases aa:anil P (dM tm) (.binOp bo t X Y yt)with
   | none=>
     have he':=he;simp only [xI,aa]at he';exact other (by rw [ac];exact he')
   | some q=>
     obtain⟨p,f⟩:=q;simp only [xI,aa]at he
     have aj: ∀(e:TypeId),P.underlying t=some (.slice e)->dM tm Y=.raw (.slice none 0 0)->qC (dM tm X)=some p->(bo=.eql /\f=(fun b=>b)\/bo=.neq /\f=(fun b=>!b))->o.wp P a w next Q:=by
      intro e hu hy hx ap;obtain⟨base,len,cap,ex,hp⟩:=HY hx (hZ X);have ey:a.eval Y=.slice none 0 0:=by have:=hZ Y;rw [hy]at this;exact this
      have hb:base.isNone=true->p:=fun h=>hp (by cases base<;>simp_all)
      obtain⟨r1,r2⟩:=aAJ (P:=P) (w:=w) (X:=X) (Y:=Y) (base:=base) (len:=len) (cap:=cap) hu
      have ae:(execOp a.eval o).run P w=.ok (.value (.bool (f base.isNone))) w:=by
       rcases ap with⟨rfl,rfl⟩ | ⟨rfl,rfl⟩
       ·have:execOp a.eval o=(do Pure.pure (.value (<-(do eqGuard .eql t X Y (a.eval X) (a.eval Y);binOp .eql t (a.eval X) (a.eval Y):Sem Value)))):=by simp only [execOp,ac]
        rw [this,ex,ey,Sem.run_bind,r1];rfl
       ·have:execOp a.eval o=(do Pure.pure (.value (<-(do eqGuard .neq t X Y (a.eval X) (a.eval Y);binOp .neq t (a.eval X) (a.eval Y):Sem Value)))):=by simp only [execOp,ac]
        rw [this,ex,ey,Sem.run_bind,r2];rfl
      unfold Oper.wp;rw [ae];exact hn _ _ V h w (he base.isNone hb) rfl V.le_refl hf (Nat.le_refl _) hi (aLu w)
     unfold anil at aa;split at aa
     ·rename_i t' X' Y' am al;cases al;split at aa
      ·rename_i e hu hy;cases hl:qC (dM tm X)with
       | none=>rw [hl]at aa;cases aa
       | some p'=>
         rw [hl]at aa;simp only [Option.map_some,sI',pI']at aa;obtain⟨rfl,rfl⟩:=aa;exact aj e hu hy hl (.inl ⟨rfl,rfl⟩)
      ·cases aa
     ·rename_i t' X' Y' am al;cases al;split at aa
      ·rename_i e hu hy;cases hl:qC (dM tm X)with
       | none=>rw [hl]at aa;cases aa
       | some p'=>
         rw [hl]at aa;simp only [Option.map_some,sI',pI']at aa;obtain⟨rfl,rfl⟩:=aa;exact aj e hu hy hl (.inr ⟨rfl,rfl⟩)
      ·cases aa
     ·cases aa
 | _=>exact other (by rw [ac]at he⊢;exact he)
end
end Go.Sh
namespace Go.Sh
open Go
variable [Con] {A:Type}
section
variable {P:Program} {E:Env A P}
def uU(E:Env A P)(ds:List Deferred)(V:Val)(n:Nat)(hR:PHeap)(w:World)(K:List AVal->aB A->Prop)(a:Act)(w':World):Prop:=
 ∃tm V' h',K tm h'/\aH V' tm a.tmps.toList/\V.le V'/\bO V' h'.length/\n<=h'.length/\Inv E.I V' (toF h') hR w'/\bN w w'/\a.defers=ds
theorem uU.chain{ds:List Deferred}{V V1:Val}{n n1:Nat}{hR:PHeap}{w w1:World}{K:List AVal->aB A->Prop}{a:Act}{w':World}(h:uU E ds V1 n1 hR w1 K a w')(hV:V.le V1)(hn:n<=n1)(hg:bN w w1):uU E ds V n hR w K a w':=by
 obtain⟨g,V',h',h1,h2,h3,h4,h5,h6,h7,h8⟩:=h;exact⟨g,V',h',h1,h2,Val.le_trans hV h3,h4,by omega,h6,hg.trans h7,h8⟩
theorem j9{ops:Array Oper}{j d:Nat}{tmps:Array Value}{b:Bool}(h1:(ops[j]?).bind (·.dst)=some d)(h2:tmps[d]? =some (.bool b)):yielded ops tmps j=some b:=by
 simp [yielded,h1,h2]
theorem l5{ops:Array Oper}{j d:Nat}{tmps:Array Value}(h1:(ops[j]?).bind (·.dst)=some d)(h2:tmps[d]? =none\/ ∃vs,tmps[d]? =some (.tuple vs)):yielded ops tmps j=none:=by
 rcases h2 with h2 | ⟨vs,h2⟩<;>simp [yielded,h1,h2]
theorem mF{α:Type} : ∀(l:List α) (i:Nat) (x:α),l[i]? =some x->l.set i x=l
 | [],_,_,h=>by simp at h
 | a::l,0,x,h=>by simp at h;subst h;rfl
 | a::l,i+1,x,h=>by simp at h;simp [mF l i x h]
theorem sP{tm:List AVal}{d:Nat}{b:Bool}(h:tm.getD d (.raw undef)=.bool b):tm[d]? =some (.bool b):=by
 rw [gD']at h;cases e:tm[d]? with
 | none=>rw [e]at h;cases h
 | some x=>rw [e]at h;exact congrArg some h
end
end Go.Sh
namespace Go.Sh
open Go
variable [Con] {A:Type}
def B9:List (Nat×AVal)->Nat->AVal->AVal
 | [],_,b=>b
 | (s,v)::U,t,b=>cond (Nat.beq s t) v (B9 U t b)
def GP(U:List (Nat×AVal))(base:List AVal)(t:Nat):AVal:=
 match U with
 | []=>base.getD t (.raw undef)
 | (s,v)::U=>cond (Nat.beq s t) v (GP U base t)
def qT(U:List (Nat×AVal)):Nat->List AVal->List AVal
 | _,[]=>[]
 | i,b::bs=>B9 U i b::qT U (i+1) bs
def DC:List AVal->(List AVal->Prop)->Prop
 | [],K=>K []
 | x::xs,K=>DC xs fun ys=>K (x::ys)
theorem rB: ∀(l:List AVal) (K:List AVal->Prop),DC l K=K l
 | [],K=>rfl
 | x::xs,K=>rB xs _
def bT:List (Nat×AVal)->List AVal->List AVal
 | [],base=>base
 | (s,v)::U,base=>(bT U base).set s v
theorem iH: ∀(U:List (Nat×AVal)) (base:List AVal),(bT U base).length =base.length
 | [],_=>rfl
 | (s,v)::U,base=>by simp [bT,iH U base]
def vD(n:Nat):List (Nat×AVal)->Prop
 | []=>True
 | (s,_)::U=>s<n/\vD n U
theorem QI(a b:Nat):Nat.beq a b=decide (a=b):=by
 cases h:Nat.beq a b with
 | true=>simp [Nat.eq_of_beq_eq_true h]
 | false=>
   have:a≠b:=Nat.ne_of_beq_eq_false h;simp [this]
theorem qS: ∀(U:List (Nat×AVal)) (base:List AVal) (t:Nat),vD base.length U->GP U base t=(bT U base).getD t (.raw undef)
 | [],_,_,_=>rfl
 | (s,v)::U,base,t,h=>by
   unfold GP bT;rw [qS U base t h.2,QI]
   by_cases e:s=t
   ·subst e;simp [gD',List.getElem?_set,iH,h.1]
   ·simp [e,gD',List.getElem?_set_ne e]
theorem CA: ∀(U:List (Nat×AVal)) (base:List AVal) (t:Nat) (b:AVal),vD base.length U->base[t]? =some b->(bT U base)[t]? =some (B9 U t b)
 | [],_,_,_,_,h=>h
 | (s,v)::U,base,t,b,h,hb=>by
   unfold B9 bT;rw [QI]
   by_cases e:s=t
   ·subst e;simp [List.getElem?_set,iH,h.1]
   ·simp only [e,decide_false,cond_false];rw [List.getElem?_set_ne e];exact CA U base t b h.2 hb
theorem x8(U:List (Nat×AVal)): ∀(bs:List AVal) (i t:Nat),(qT U i bs)[t]? =bs[t]?.map (B9 U (i+t))
 | [],i,t=>by simp [qT]
 | b::bs,i,0=>by simp [qT]
 | b::bs,i,t+1=>by
   simp only [qT,List.getElem?_cons_succ];rw [x8 U bs (i+1) t,show i+1+t=i+(t+1)from by omega]
theorem vE{U:List (Nat×AVal)}{base:List AVal}(h:vD base.length U):qT U 0 base=bT U base:=by
 apply List.ext_getElem?;intro t;rw [x8];cases hb:base[t]? with
 | none=>
   rw [List.getElem?_eq_none_iff]at hb;simp only [Option.map_none];rw [List.getElem?_eq_none];rw [iH];exact hb
 | some b=>rw [CA U base t b h hb];simp
section
variable {P:Program} (E:Env A P)
def fY(U:List (Nat×AVal))(base:List AVal):Operand->AVal
 | .tmp t=>GP U base t
 | .const v=>gA v
 | .global g=>.raw (.pointer (some ⟨g,0,none⟩))
 | .func f=>.func (.func f) [] []
theorem sC{U:List (Nat×AVal)}{base:List AVal}(h:vD base.length U):fY U base=dM (bT U base):=by
 funext x;cases x with
 | tmp t=>exact qS U base t h
 | _=>rfl
def jS(U:List (Nat×AVal))(dst:Option Tmp)(v:AVal):List (Nat×AVal):=
 match dst with
 | some d=>(d,v)::U
 | none=>U
def dok(n:Nat)(dst:Option Tmp):Bool:=
 match dst with
 | some d=>Nat.blt d n
 | none=>true
theorem mO{n:Nat}{U:List (Nat×AVal)}{base:List AVal}{dst:Option Tmp}{v:AVal} :u6 (bT U base) dst v=bT (jS U dst v) base:=by
 cases dst<;>rfl
theorem mP{n:Nat}{U:List (Nat×AVal)}{dst:Option Tmp}{v:AVal}(h:vD n U)(hd:dok n dst=true):vD n (jS U dst v):=by
 cases dst with
 | none=>exact h
 | some d=>exact⟨Nat.le_of_ble_eq_true hd,h⟩
def rT(seen:List (Option Tmp))(i j:Nat):Option Tmp:=match seen[Nat.sub (Nat.pred i) j]? with
 | some d=>d
 | none=>none
def kP(inl:s9 A)(base:List AVal)(n:Nat):List Oper->List (Option Tmp)->Nat->List (Nat×AVal)->aB A->(List AVal->aB A->Prop)->Prop
 | [],_,_,U,h,K=>DC (qT U 0 base) fun tm=>K tm h
 | o::rest,seen,i,U,h,K=>
   cL (dok n o.dst) <|
   match o.guard with
   | none=>xI E inl (fY U base) o.op h fun v h'=>kP inl base n rest (o.dst::seen) (Nat.succ i) (jS U o.dst v) h' K
   | some (j,want)=>
     cL (Nat.blt j i) <|
     match rT seen i j with
     | none=>False
     | some d=>
       match GP U base d with
       | .bool b=>cL (Nat.blt d n) <|
         cond b
          (if want then xI E inl (fY ((d,.bool true)::U) base) o.op h fun v h'=>kP inl base n rest (o.dst::seen) (Nat.succ i) (jS ((d,.bool true)::U) o.dst v) h' K
            else kP inl base n rest (o.dst::seen) (Nat.succ i) (jS ((d,.bool true)::U) o.dst (.raw undef)) h K)
          (if want then kP inl base n rest (o.dst::seen) (Nat.succ i) (jS ((d,.bool false)::U) o.dst (.raw undef)) h K
            else xI E inl (fY ((d,.bool false)::U) base) o.op h fun v h'=>kP inl base n rest (o.dst::seen) (Nat.succ i) (jS ((d,.bool false)::U) o.dst v) h' K)
       | v=>if iJ v then kP inl base n rest (o.dst::seen) (Nat.succ i) (jS U o.dst (.raw undef)) h K else False
variable {E}
def tX(ops:Array Oper)(rest:List Oper)(seen:List (Option Tmp))(i:Nat):Prop:= ∃pre:List Oper,ops.toList=pre++rest/\seen=(pre.map (·.dst)).reverse /\i=pre.length
theorem tX.next{ops:Array Oper}{o:Oper}{rest:List Oper}{seen:List (Option Tmp)}{i:Nat}(h:tX ops (o::rest) seen i):tX ops rest (o.dst::seen) (Nat.succ i):=by
 obtain⟨pre,h1,h2,h3⟩:=h;exact⟨pre++ [o],by rw [h1];simp,by rw [h2];simp,by rw [h3];simp⟩
theorem tX.dst{ops:Array Oper}{rest:List Oper}{seen:List (Option Tmp)}{i j:Nat}(h:tX ops rest seen i)(hj:Nat.blt j i=true):(ops[j]?).bind (·.dst)=rT seen i j:=by
 obtain⟨pre,h1,h2,h3⟩:=h;have g:j<pre.length:=by rw [<-h3];exact Nat.le_of_ble_eq_true hj
 have e1:ops[j]? =pre[j]? :=by rw [<-Array.getElem?_toList,h1,List.getElem?_append_left g]
 unfold rT
 have e2:seen[Nat.sub (Nat.pred i) j]? =(pre.map (·.dst))[j]? :=by
  rw [h2];have hs:Nat.sub (Nat.pred i) j=pre.length - 1 - j:=by rw [h3];rfl
  rw [hs,List.getElem?_reverse (by simp;omega)]
  congr 1;simp;omega
 rw [e1,e2,List.getElem?_map,gE' g];rfl
theorem zZ{ds:List Deferred}{inl:s9 A}(hinl:lE E inl){ops:Array Oper}{base:List AVal}{n:Nat}(hbn:base.length=n){Q:Exit->Act->World->Prop} : ∀(rest:List Oper) (seen:List (Option Tmp)) (i:Nat) (U:List (Nat×AVal)) (h:aB A) (K:List AVal->aB A->Prop) (a:Act) (w:World) (V:Val) (hR:PHeap),
 tX ops rest seen i->kP E inl base n rest seen i U h K->vD n U->Inv E.I V (toF h) hR w->bO V h.length->aH V (bT U base) a.tmps.toList->a.defers=ds->
 (∀a' w',uU E ds V h.length hR w K a' w'->Q .normal a' w')->wpList P ops Q rest a w:=by
 intro rest
 induction rest with
 | nil=>
   intro seen i U h K a w V hR ah he ad hi hf ht hd hQ;unfold kP at he;rw [rB,vE (by rw [hbn];exact ad)]at he
   exact wpList_nil (hQ a w ⟨bT U base,V,h,he,ht,V.le_refl,hf,Nat.le_refl _,hi,aLu w,hd⟩)
 | cons o rest ih=>
   intro seen i U h K a w V hR ah he ad hi hf ht hd hQ;have he:=bK.1 he;obtain⟨al,he⟩:=he
   have run: ∀U':List (Nat×AVal),vD n U'->aH V (bT U' base) a.tmps.toList->(xI E inl (fY U' base) o.op h fun v h'=>kP E inl base n rest (o.dst::seen) (Nat.succ i) (jS U' o.dst v) h' K)->Region.wanted o (yielded ops a.tmps)=true->wpList P ops Q (o::rest) a w:=by
    intro U' ac ag ai hw;refine wpList_step fun K' ak=>?_;rw [if_pos hw];rw [sC (by rw [hbn];exact ac)]at ai
    refine pV hinl ai hi hf ag ?_;intro v v' V' h' w' k1 k2 k3 k4 k5 k6 k7;refine ak _ _ (ih _ _ _ _ _ _ _ V' hR ah.next k1 (mP ac al) k6 k4 (by rw [<-mO (n:=n)];exact l8 (aH.mono k3 _ _ ag) k2) (by rw [iE];exact hd) ?_)
    intro a' ar hT;exact hQ a' ar (hT.chain k3 k5 k7)
   have skip: ∀U':List (Nat×AVal),vD n U'->aH V (bT U' base) a.tmps.toList->kP E inl base n rest (o.dst::seen) (Nat.succ i) (jS U' o.dst (.raw undef)) h K->Region.wanted o (yielded ops a.tmps)=false->wpList P ops Q (o::rest) a w:=by
    intro U' ac ag ai hw;refine wpList_step fun K' ak=>?_;rw [if_neg (by rw [hw];simp)]
    exact ak _ _ (ih _ _ _ _ _ _ _ V hR ah.next ai (mP ac al) hi hf (by rw [<-mO (n:=n)];exact l8 ag rfl) (by rw [iE];exact hd) hQ)
   cases hg:o.guard with
   | none=>
     rw [hg]at he;exact run U ad ht he (by simp [Region.wanted,hg])
   | some g=>
     obtain⟨j,want⟩:=g;rw [hg]at he;simp only at he;obtain⟨av,he⟩:=bK.1 he;have ao:=ah.dst av;cases hj:(ops[j]?).bind (·.dst)with
     | none=>rw [<-ao,hj]at he;exact he.elim
     | some d=>
       rw [<-ao,hj]at he;simp only at he;have aq:=qS U base d (by rw [hbn];exact ad)
       split at he
       ·rename_i b hb;obtain⟨ax,he⟩:=bK.1 he;rw [aq]at hb;have ap:=sP hb;obtain⟨y,hy,ry⟩:=aH.get ht d _ ap;rw [Array.getElem?_toList]at hy;have au:y=.bool b:=ry;subst au;have aj:yielded ops a.tmps j=some b:=j9 hj hy;have hs:bT ((d,.bool b)::U) base=bT U base:=mF _ d _ ap;have aa: ∀v,vD n ((d,v)::U):=fun v=>⟨Nat.le_of_ble_eq_true ax,ad⟩;have af:Region.wanted o (yielded ops a.tmps)=(b == want):=by simp [Region.wanted,hg,aj]
        cases b with
        | true=>
          simp only [cond_true]at he;cases want with
          | true=>rw [if_pos rfl]at he;exact run _ (aa _) (by rw [hs];exact ht) he (by rw [af];rfl)
          | false=>rw [if_neg (by simp)]at he;exact skip _ (aa _) (by rw [hs];exact ht) he (by rw [af];rfl)
        | false=>
          simp only [cond_false]at he;cases want with
          | true=>rw [if_pos rfl]at he;exact skip _ (aa _) (by rw [hs];exact ht) he (by rw [af];rfl)
          | false=>rw [if_neg (by simp)]at he;exact run _ (aa _) (by rw [hs];exact ht) he (by rw [af];rfl)
       ·rename_i ay;split at he
        ·rename_i ae;rw [aq]at ae
         have aj:yielded ops a.tmps j=none:=by
          refine l5 hj ?_;cases e:a.tmps[d]? with
          | none=>exact .inl rfl
          | some x=>
            right
            have am:d<(bT U base).length :=by
             have h1:=aH.length ht;rw [Array.length_toList]at h1;cases Nat.lt_or_ge d a.tmps.size with
             | inl g=>exact Nat.lt_of_lt_of_eq g h1
             | inr g=>rw [Array.getElem?_eq_none g]at e;cases e
            obtain⟨y,hy,ry⟩:=aH.get ht d _ (gE' am);rw [Array.getElem?_toList,e]at hy;cases hy;have e2:(bT U base).getD d (.raw undef)=(bT U base)[d]:=by rw [gD',gE' am];rfl
            rw [e2]at ae;unfold iJ at ae;split at ae
            ·rename_i vs e3;rw [e3]at ry;have:x=.tuple vs:=ry;exact⟨vs,by rw [this]⟩
            ·cases ae
         exact skip U ad ht he (by simp [Region.wanted,hg,aj])
        ·exact he.elim
end
end Go.Sh
namespace Go.Sh
open Go
variable [Con] {A:Type}
def hres(foot:List Nat):Nat->aB A->aB A
 | _,[]=>[]
 | i,e::h=>(cond (foot.contains i) e none)::hres foot (i+1) h
structure Item (A:Type) where
 o:Oper
 ran:Bool
 v:AVal
 upd:List (Nat×Option (aG A))
 new:List (aG A)
 foot:List Nat
 n:Nat
section
variable {P:Program} (E:Env A P)
def dop(Z:Operand->AVal)(op:Op)(h:aB A):Option (ORes A):=
 match op with
 | .call c=>
   match callee E Z c with
   | some (g,args)=>if mX P g=true then
      match E.det g with
      | some D=>D args h
      | none=>none
     else none
   | none=>aop P Z (.call c) h
 | .load t a=>
   match aop P Z (.load t a) h with
   | some r=>some r
   | none=>
     match Z a with
     | .ptr l off=>
       match E.fld t l off h with
       | some (v,q)=>some {v:=v,upd:=[],new:=[],foot:=[l],need:=q}
       | none=>E.dro Z (.load t a) h
     | _=>none
 | .store t a x=>
   match aop P Z (.store t a x) h with
   | some r=>some r
   | none=>E.dro Z (.store t a x) h
 | op=>aop P Z op h
def Item.puts(it:Item A)(l:Nat):Bool:=it.upd.any (fun x=>x.1 == l)||(decide (it.n<=l)&&decide (l<it.n+it.new.length))
def jF(it:Item A):Bool:=it.upd.all fun x=>it.foot.contains x.1&&decide (x.1<it.n)
def l9(ops:Array Oper)(x y:Oper):Bool:=
 match x.dst with
 | some d=> !(y.looksAt ops).contains d&&y.dst !=some d
 | none=>true
def fD(ops:Array Oper)(x y:Item A):Bool:=
 l9 ops x.o y.o&&l9 ops y.o x.o&&y.foot.all (fun l=>!x.puts l)&&x.foot.all (fun l=>!y.puts l)
def mask(acc:List Nat)(o:Oper):Nat:=
 o.after.toList.foldl (fun s e=>if Region.binds .any e then s|||2^e.on|||acc.getD e.on 0 else s) 0
def masks:List Nat->List Oper->List Nat
 | acc,[]=>acc
 | acc,o::rest=>masks (acc++ [mask acc o]) rest
def FT(ops:Array Oper)(ms:List Nat)(its:List (Item A)):Prop:=
 ∀i j x y,its[i]? =some x->its[j]? =some y->i<j->(ms.getD j 0).testBit i=true\/fD ops x y=true
def lI(j:Nat)(o:Oper):Bool:=o.after.toList.all fun e=>!Region.binds .any e||Nat.blt e.on j
def mQ(ops:List Oper):Prop:= ∀(i:Nat) (o:Oper),ops[i]? =some o->lI i o=true
def UQ(ops:Array Oper)(y:Item A):List (Item A)->Nat->Nat->Bool
 | [],_,_=>true
 | x::prev,u,i=>cond (Nat.beq u 0) true (cond (Nat.ble (2^Nat.pred i) u) (fD ops x y&&UQ ops y prev (Nat.sub u (2^Nat.pred i)) (Nat.pred i)) (UQ ops y prev u (Nat.pred i)))
theorem sX{ops:Array Oper}{y:Item A} : ∀(prev:List (Item A)) (u:Nat),u<2^prev.length->UQ ops y prev u prev.length=true-> ∀(k:Nat) (x:Item A),prev.reverse[k]? =some x->u.testBit k=true->fD ops x y=true
 | [],u,_,_,k,x,hk,_=>by simp at hk
 | z::prev,u,hu,h,k,x,hk,hb=>by
   unfold UQ at h;simp only [List.length_cons,Nat.pred_succ]at h hu;rw [List.reverse_cons]at hk;cases h0:Nat.beq u 0 with
   | true=>
     have:u=0:=Nat.eq_of_beq_eq_true h0;subst this;simp at hb
   | false=>
     rw [h0]at h;simp only [cond_false]at h
     have hkl:k<prev.length\/k=prev.length:=by
      cases Nat.lt_or_ge k (prev.length+1)with
      | inl g=>omega
      | inr g=>rw [List.getElem?_eq_none (by simp;omega)]at hk;cases hk
     have ac:k<prev.length->prev.reverse[k]? =some x:=by
      intro aa;rw [List.getElem?_append_left (by simpa using aa)]at hk;exact hk
     have ad:k=prev.length->z=x:=by
      intro e;subst e;rw [List.getElem?_append_right (by simp)]at hk
      simpa using hk
     cases h1:Nat.ble (2^prev.length) u with
     | true=>
       rw [h1]at h;simp only [cond_true,Bool.and_eq_true]at h;have ae:2^prev.length<=u:=Nat.le_of_ble_eq_true h1;have aa:u - 2^prev.length<2^prev.length:=by rw [Nat.pow_succ]at hu;omega
       rcases hkl with hkl | hkl
       ·refine sX prev _ aa h.2 k x (ac hkl) ?_;have e:u=2^prev.length+(u - 2^prev.length):=by omega
        rw [e,Nat.testBit_two_pow_add_gt (by omega)]at hb
        exact hb
       ·rw [<-ad hkl];exact h.1
     | false=>
       rw [h1]at h;simp only [cond_false]at h
       have aa:u<2^prev.length:=by
        have: ¬2^prev.length<=u:=fun ae=>by rw [Nat.ble_eq_true_of_le ae]at h1;cases h1
        omega
       rcases hkl with hkl | hkl
       ·exact sX prev u aa h k x (ac hkl) hb
       ·subst hkl;rw [Nat.testBit_lt_two_pow aa]at hb;cases hb
def maskR(pm:List Nat)(j:Nat)(o:Oper):Nat:=
 o.after.toList.foldl (fun s e=>cond (Region.binds .any e) (Nat.lor (Nat.lor s (2^e.on)) (pm.getD (Nat.sub (Nat.pred j) e.on) 0)) s) 0
theorem D0{pm:List Nat}{o:Oper}(he:lI pm.length o=true):maskR pm pm.length o=mask pm.reverse o:=by
 unfold maskR mask;unfold lI at he;generalize o.after.toList=l at he
 have key: ∀s,l.foldl (fun s e=>cond (Region.binds .any e) (Nat.lor (Nat.lor s (2^e.on)) (pm.getD (Nat.sub (Nat.pred pm.length) e.on) 0)) s) s=l.foldl (fun s e=>if Region.binds .any e then s|||2^e.on|||pm.reverse.getD e.on 0 else s) s:=by
  induction l with
  | nil=>intro s;rfl
  | cons e l ih=>
    intro s;simp only [List.all_cons,Bool.and_eq_true]at he;simp only [List.foldl_cons];rw [ih he.2];congr 1;cases hb:Region.binds .any e with
    | false=>rfl
    | true=>
      simp only [cond_true,if_true]
      have g:e.on<pm.length:=by
       have h1:=he.1;rw [hb]at h1;have h2:Nat.blt e.on pm.length=true:=by simpa only [Bool.not_true,Bool.false_or]using h1
       exact Nat.le_of_ble_eq_true h2
      have:pm.reverse.getD e.on 0=pm.getD (Nat.sub (Nat.pred pm.length) e.on) 0:=by
       rw [gD',gD',List.getElem?_reverse g];rfl
      rw [this];rfl
 exact key 0
theorem kW: ∀(l:List Oper) (acc:List Nat) (o:Oper),masks acc (l++ [o])=masks acc l++ [mask (masks acc l) o]
 | [],acc,o=>rfl
 | x::l,acc,o=>by
   show masks (acc++ [mask acc x]) (l++ [o])=_;rw [kW l];rfl
theorem fH: ∀(l:List Oper) (acc:List Nat),(masks acc l).length =acc.length+l.length
 | [],acc=>rfl
 | x::l,acc=>by
   show(masks (acc++ [mask acc x]) l).length =_;rw [fH l];simp;omega
def oH(ops:Array Oper)(prev:List (Item A))(j m:Nat)(y:Item A):Bool:=
 lI j y.o&&jF y&&UQ ops y prev (Nat.xor (Nat.pred (2^j)) (Nat.land m (Nat.pred (2^j)))) j
def kQ(n:Nat)(K:Nat->Prop):Prop:=match n with
 | 0=>K 0
 | p+1=>K (Nat.succ p)
theorem nU(n:Nat)(K:Nat->Prop):kQ n K=K n:=by cases n<;>rfl
structure nH (ops:Array Oper) (prev:List (Item A)) (pm:List Nat):Prop where
 masks:pm=(masks [] (prev.reverse.map (·.o))).reverse
 edges:mQ (prev.reverse.map (·.o))
 wells:prev.reverse.all jF=true
 pairs:FT ops pm.reverse prev.reverse
theorem nH.nil(ops:Array Oper):nH ops ([]:List (Item A)) []:=
 ⟨rfl,fun i o h=>by simp at h,rfl,fun i j x y h=>by simp at h⟩
theorem nH.cons{ops:Array Oper}{prev:List (Item A)}{pm:List Nat}(h:nH ops prev pm){y:Item A}{m j:Nat}(hj:j=prev.length)(hm:m=maskR pm j y.o)(hs:oH ops prev j m y=true):nH ops (y::prev) (m::pm):=by
 obtain⟨h1,h2,h3,h4⟩:=h;unfold oH at hs;rw [Bool.and_eq_true,Bool.and_eq_true]at hs;obtain⟨⟨s1,s2⟩,s3⟩:=hs;have ac:pm.length=prev.length:=by rw [h1,List.length_reverse,fH];simp
 have af:m=mask pm.reverse y.o:=by rw [hm,hj,<-ac];exact D0 (by rw [ac,<-hj];exact s1)
 refine⟨?_,?_,?_,?_⟩
 ·rw [List.reverse_cons,List.map_append,List.map_cons,List.map_nil,kW,List.reverse_append,<-h1.symm.symm];have:pm.reverse=Go.Sh.masks [] (prev.reverse.map (·.o)):=by rw [h1,List.reverse_reverse]
  rw [<-this,af];simp
 ·intro i o hi;rw [List.reverse_cons,List.map_append]at hi
  by_cases ad:i<prev.length
  ·rw [List.getElem?_append_left (by simpa using ad)]at hi;exact h2 i o hi
  ·rw [List.getElem?_append_right (by simp;omega)]at hi
   simp only [List.length_map,List.length_reverse,List.map_cons,List.map_nil]at hi
   have:i=prev.length:=by
    cases hq:i - prev.length with
    | zero=>omega
    | succ n=>rw [hq]at hi;simp at hi
   subst this;simp at hi;subst hi;rw [<-hj];exact s1
 ·rw [List.reverse_cons,List.all_append,h3];simpa using s2
 ·intro i k x z hi hk ae;rw [List.reverse_cons]at hi hk⊢
  by_cases ad:k<prev.length
  ·rw [List.getElem?_append_left (by simp;omega)]at hi
   rw [List.getElem?_append_left (by simp;omega)]at hk
   have:=h4 i k x z hi hk ae;rw [gD',List.getElem?_append_left (by simp;omega),<-gD'];exact this
  ·have ag:k=prev.length:=by
    cases Nat.lt_or_ge k (prev.length+1)with
    | inl g=>omega
    | inr g=>rw [List.getElem?_eq_none (by simp;omega)]at hk;cases hk
   subst ag;rw [List.getElem?_append_left (by simp;omega)]at hi
   rw [List.getElem?_append_right (by simp)]at hk
   simp at hk;subst hk
   have e:(pm.reverse++ [m]).getD prev.length 0=m:=by
    rw [gD',List.getElem?_append_right (by simp;omega)]
    simp [ac]
   rw [e];cases hb:m.testBit i with
   | true=>exact .inl rfl
   | false=>
     right;subst hj;have aa:Nat.pred (2^prev.length)=2^prev.length - 1:=rfl;refine sX prev _ ?_ s3 i x hi ?_
     ·have ah:0<2^prev.length:=Nat.two_pow_pos _;refine Nat.xor_lt_two_pow (n:=prev.length) (by rw [aa];omega) ?_
      exact Nat.lt_of_le_of_lt Nat.and_le_right (by rw [aa];omega)
     ·show Nat.testBit (Nat.pred (2^prev.length) ^^^ (m&&&Nat.pred (2^prev.length))) i=true;rw [Nat.testBit_xor,Nat.testBit_and,aa,Nat.testBit_two_pow_sub_one,hb];simp [ae]
def aBp:List Nat->Nat->List Oper->Bool
 | _,_,[]=>true
 | pm,i,o::rest=>lI i o&&Nat.beq (maskR pm i o) (Nat.pred (2^i))&&aBp (maskR pm i o::pm) (Nat.succ i) rest
def zW(Z:Operand->AVal)(op:Op)(h:aB A):Option (Nat×List AVal×Nat):=
 match op with
 | .load t a=>match eA P t with
   | some false=>match Z a with
     | .ptr l off=>match aK h l with
       | some (.cells (.ptr a b:: .ptr c d::r))=>some (l,.ptr a b:: .ptr c d::r,off)
       | _=>none
     | _=>none
   | _=>none
 | _=>none
def EA:List AVal->Nat->Nat->(AVal->Prop)->Prop
 | [],_,_,_=>False
 | v::r,off,j,k=>cond (Nat.beq off j) (k v) (EA r off (Nat.succ j) k)
def mS(S:List Oper->List (Option Tmp)->Nat->List (Nat×AVal)->aB A->List Nat->Prop)(ops:Array Oper)(base:List AVal)(n:Nat):List Oper->List (Option Tmp)->Nat->List (Nat×AVal)->aB A->List (Item A)->List Nat->(List AVal->aB A->Prop)->Prop
 | [],_,_,U,h,_,_,K=>DC (qT U 0 base) fun tm=>K tm h
 | o::rest,seen,i,U,h,prev,pm,K=>
   cL (dok n o.dst) <|
   let run (U':List (Nat×AVal)):Prop:=
    match zW (P:=P) (fY U' base) o.op h with
    | some (l,vs,off)=>EA vs off 0 fun v=>kQ (maskR pm i o) fun m=>cL (oH ops prev i m ⟨o,true,v,[],[],[l],h.length⟩)
       (mS S ops base n rest (o.dst::seen) (Nat.succ i) (jS U' o.dst v) h (⟨o,true,v,[],[],[l],h.length⟩::prev) (m::pm) K)
    | none=>
    match dop E (fY U' base) o.op h with
    | some r0=>
      match dop E (fY U' base) o.op (hres r0.foot 0 h)with
      | some r=>AK r.need (kQ (maskR pm i o) fun m=>cL (oH ops prev i m ⟨o,true,r.v,r.upd,r.new,r0.foot,h.length⟩)
         (mS S ops base n rest (o.dst::seen) (Nat.succ i) (jS U' o.dst r.v) (r.applyF h) (⟨o,true,r.v,r.upd,r.new,r0.foot,h.length⟩::prev) (m::pm) K))
      | none=>S (o::rest) seen i U h pm
    | none=>S (o::rest) seen i U h pm
   let skip (U:List (Nat×AVal)):Prop:=kQ (maskR pm i o) fun m=>cL (oH ops prev i m ⟨o,false,.raw undef,[],[],[],h.length⟩)
    (mS S ops base n rest (o.dst::seen) (Nat.succ i) (jS U o.dst (.raw undef)) h (⟨o,false,.raw undef,[],[],[],h.length⟩::prev) (m::pm) K)
   match o.guard with
   | none=>run U
   | some (j,want)=>
     cL (Nat.blt j i) <|
     match rT seen i j with
     | none=>False
     | some d=>
       match GP U base d with
       | .bool b=>cL (Nat.blt d n) <| cond b (if want then run ((d,.bool true)::U)else skip ((d,.bool true)::U)) (if want then skip ((d,.bool false)::U)else run ((d,.bool false)::U))
       | v=>if iJ v then skip U else False
variable {E}
def PM(E:Env A P)(ops:Array Oper)(tm:List AVal)(h:aB A)(it:Item A):Prop:=
 it.n=h.length/\
 ((it.ran=true/\(∃r,dop E (dM tm) it.o.op (hres it.foot 0 h)=some r/\r.obl/\r.v=it.v/\r.upd=it.upd/\r.new=it.new)/\
    (∀j want,it.o.guard=some (j,want)-> ∃d,(ops[j]?).bind (·.dst)=some d/\tm[d]? =some (.bool want)))\/
  (it.ran=false/\it.v=.raw undef/\it.upd=[]/\it.new=[]/\
    ∃j want d,it.o.guard=some (j,want)/\(ops[j]?).bind (·.dst)=some d/\(tm[d]? =some (.bool (!want))\/iJ (tm.getD d (.raw undef))=true)))
def Item.applyH(it:Item A)(h:aB A):aB A:=hupd h it.upd++it.new.map some
inductive gF (E:Env A P) (ops:Array Oper):List AVal->aB A->List (Item A)->List AVal->aB A->Prop
 | nil (tm:List AVal) (h:aB A):gF E ops tm h [] tm h
 | cons {tm tm':List AVal} {h h':aB A} {it:Item A} {its:List (Item A)} :PM E ops tm h it->gF E ops (u6 tm it.o.dst it.v) (it.applyH h) its tm' h'->gF E ops tm h (it::its) tm' h'
theorem yE(foot:List Nat): ∀(h:aB A) (i l:Nat),aK (hres foot i h) l=if foot.contains (i+l)then aK h l else none
 | [],i,l=>by simp [hres,aK]
 | e::h,i,0=>by
   simp only [hres,aK,List.getD_cons_zero,Nat.add_zero];cases foot.contains i<;>rfl
 | e::h,i,l+1=>by
   have:=yE foot h (i+1) l;simp only [aK]at this;simp only [hres,aK,List.getD_cons_succ];rw [this,show i+1+l=i+(l+1)from by omega]
theorem yO{off:Nat}{k:AVal->Prop} : ∀ {vs:List AVal} {j:Nat},EA vs off j k-> ∃v,(∃q,off=j+q/\vs[q]? =some v)/\k v
 | [],_,h=>h.elim
 | v::r,j,h=>by
   unfold EA at h;cases hb:Nat.beq off j with
   | true=>
     rw [hb]at h;exact⟨v,⟨0,Nat.eq_of_beq_eq_true hb,rfl⟩,h⟩
   | false=>
     rw [hb]at h;obtain⟨v',⟨q,h1,h2⟩,h3⟩:=yO (j:=Nat.succ j) h;exact⟨v',⟨q+1,by omega,by simpa using h2⟩,h3⟩
theorem GU{Z:Operand->AVal}{op:Op}{h:aB A}{l off:Nat}{vs:List AVal}{v:AVal}(hd:zW (P:=P) Z op h=some (l,vs,off))(hv: ∃q,off=0+q/\vs[q]? =some v):dop E Z op (hres [l] 0 h)=some {v,upd:=[],new:=[],foot:=[l],need:=none} :=by
 obtain⟨q,rfl,hv⟩:=hv;rw [Nat.zero_add]at hd;unfold zW at hd;split at hd
 case h_2=>cases hd
 rename_i t a;split at hd
 case h_2=>cases hd
 rename_i ac;split at hd
 case h_2=>cases hd
 rename_i g ad hZ;split at hd
 case h_2=>cases hd
 rename_i a' b' c' d' r hl;simp only [sI',pI']at hd;obtain⟨rfl,rfl,rfl⟩:=hd
 have e:aop P Z (.load t a) (hres [g] 0 h)=some {v,upd:=[],new:=[],foot:=[g],need:=none} :=by
  have aa:aK (hres [g] 0 h) g=some (.cells (.ptr a' b':: .ptr c' d'::r)):=by
   rw [yE];simp [hl]
  simp only [aop,hZ,xY,aa,ac,hv]
 simp only [dop,e]
theorem zY{S:List Oper->List (Option Tmp)->Nat->List (Nat×AVal)->aB A->List Nat->Prop}{ops:Array Oper}{base:List AVal}{n:Nat}(hbn:base.length=n){K:List AVal->aB A->Prop} : ∀(rest:List Oper) (seen:List (Option Tmp)) (i:Nat) (U:List (Nat×AVal)) (h:aB A) (prev:List (Item A)) (pm:List Nat),tX ops rest seen i->vD n U->i=prev.length->nH ops prev pm->
 mS E S ops base n rest seen i U h prev pm K->
 ∃its rest2 tm' h' pm',gF E ops (bT U base) h its tm' h'/\its.map (·.o)++rest2=rest/\nH ops (its.reverse++prev) pm'/\((rest2=[]/\K tm' h')\/(∃seen' U',tm'=bT U' base/\vD n U'/\tX ops rest2 seen' (i+its.length)/\S rest2 seen' (i+its.length) U' h' pm')):=by
 intro rest
 induction rest with
 | nil=>
   intro seen i U h prev pm _ ae _ hb he;unfold mS at he;rw [rB,vE (by rw [hbn];exact ae)]at he
   exact⟨[],[],_,h,pm,.nil _ h,rfl,hb,.inl ⟨rfl,he⟩⟩
 | cons o rest ih=>
   intro seen i U h prev pm aj ae hi hb he;obtain⟨al,he⟩:=bK.1 he
   have run: ∀U':List (Nat×AVal),vD n U'->bT U' base=bT U base->(∀j want,o.guard=some (j,want)-> ∃d,(ops[j]?).bind (·.dst)=some d/\(bT U base)[d]? =some (.bool want))->
    (match zW (P:=P) (fY U' base) o.op h with
      | some (l,vs,off)=>EA vs off 0 fun v=>kQ (maskR pm i o) fun m=>cL (oH ops prev i m ⟨o,true,v,[],[],[l],h.length⟩)
         (mS E S ops base n rest (o.dst::seen) (Nat.succ i) (jS U' o.dst v) h (⟨o,true,v,[],[],[l],h.length⟩::prev) (m::pm) K)
      | none=>
      match dop E (fY U' base) o.op h with
      | some r0=>
        match dop E (fY U' base) o.op (hres r0.foot 0 h)with
        | some r=>AK r.need (kQ (maskR pm i o) fun m=>cL (oH ops prev i m ⟨o,true,r.v,r.upd,r.new,r0.foot,h.length⟩)
           (mS E S ops base n rest (o.dst::seen) (Nat.succ i) (jS U' o.dst r.v) (r.applyF h) (⟨o,true,r.v,r.upd,r.new,r0.foot,h.length⟩::prev) (m::pm) K))
        | none=>S (o::rest) seen i U h pm
      | none=>S (o::rest) seen i U h pm)-> ∃its rest2 tm' h' pm',gF E ops (bT U base) h its tm' h'/\its.map (·.o)++rest2=o::rest/\nH ops (its.reverse++prev) pm'/\((rest2=[]/\K tm' h')\/(∃seen' U',tm'=bT U' base/\vD n U'/\tX ops rest2 seen' (i+its.length)/\S rest2 seen' (i+its.length) U' h' pm')):=by
    intro U' ac ak hg hh;have stop:S (o::rest) seen i U h pm-> ∃its rest2 tm' h' pm',gF E ops (bT U base) h its tm' h'/\its.map (·.o)++rest2=o::rest/\nH ops (its.reverse++prev) pm'/\((rest2=[]/\K tm' h')\/(∃seen' U',tm'=bT U' base/\vD n U'/\tX ops rest2 seen' (i+its.length)/\S rest2 seen' (i+its.length) U' h' pm')):=fun hS=>⟨[],o::rest,_,h,pm,.nil _ h,rfl,hb,.inr ⟨seen,U,rfl,ae,aj,hS⟩⟩;rw [sC (by rw [hbn];exact ac),ak]at hh
    split at hh
    ·rename_i l vs off av;obtain⟨v,hv,aa⟩:=yO hh;rw [nU]at aa;obtain⟨ai,aa⟩:=bK.1 aa;obtain⟨its,rest2,ag,h2,ah,h3,h4,h5,h6⟩:=ih _ _ _ _ _ _ aj.next (mP ac al) (by rw [hi];rfl) (hb.cons hi rfl ai) aa
     refine⟨⟨o,true,v,[],[],[l],h.length⟩::its,rest2,ag,h2,ah,.cons ⟨rfl,.inl ⟨rfl,⟨_,GU av hv,trivial,rfl,rfl,rfl⟩,hg⟩⟩ ?_,by simp [h4],by simpa using h5,?_⟩
     ·rw [<-mO (n:=n),ak]at h3
      simpa [Item.applyH,hupd]using h3
     ·rw [show Nat.succ i+its.length=i+(its.length+1)from by omega]at h6;exact h6
    split at hh
    ·rename_i r0 ay;split at hh
     ·rename_i r hr;obtain⟨ho,aa⟩:=n9.1 hh;rw [nU,sE]at aa;obtain⟨ai,aa⟩:=bK.1 aa;obtain⟨its,rest2,ag,h2,ah,h3,h4,h5,h6⟩:=ih _ _ _ _ _ _ aj.next (mP ac al) (by rw [hi];rfl) (hb.cons hi rfl ai) aa
      refine⟨⟨o,true,r.v,r.upd,r.new,r0.foot,h.length⟩::its,rest2,ag,h2,ah,.cons ⟨rfl,.inl ⟨rfl,⟨r,hr,ho,rfl,rfl,rfl⟩,hg⟩⟩ ?_,by simp [h4],by simpa using h5,?_⟩
      ·rw [<-mO (n:=n),ak]at h3;exact h3
      ·rw [show Nat.succ i+its.length=i+(its.length+1)from by omega]at h6;exact h6
     ·exact stop hh
    ·exact stop hh
   have skip: ∀U':List (Nat×AVal),vD n U'->bT U' base=bT U base->(∃j want d,o.guard=some (j,want)/\(ops[j]?).bind (·.dst)=some d/\((bT U base)[d]? =some (.bool (!want))\/iJ ((bT U base).getD d (.raw undef))=true))->
    (kQ (maskR pm i o) fun m=>cL (oH ops prev i m ⟨o,false,.raw undef,[],[],[],h.length⟩)
      (mS E S ops base n rest (o.dst::seen) (Nat.succ i) (jS U' o.dst (.raw undef)) h (⟨o,false,.raw undef,[],[],[],h.length⟩::prev) (m::pm) K))->
    ∃its rest2 tm' h' pm',gF E ops (bT U base) h its tm' h'/\its.map (·.o)++rest2=o::rest/\nH ops (its.reverse++prev) pm'/\((rest2=[]/\K tm' h')\/(∃seen' U',tm'=bT U' base/\vD n U'/\tX ops rest2 seen' (i+its.length)/\S rest2 seen' (i+its.length) U' h' pm')):=by
    intro U' ac ak hg aa;rw [nU]at aa;obtain⟨ai,aa⟩:=bK.1 aa;obtain⟨its,rest2,ag,h2,ah,h3,h4,h5,h6⟩:=ih _ _ _ _ _ _ aj.next (mP ac al) (by rw [hi];rfl) (hb.cons hi rfl ai) aa
    refine⟨⟨o,false,.raw undef,[],[],[],h.length⟩::its,rest2,ag,h2,ah,.cons ⟨rfl,.inr ⟨rfl,rfl,rfl,rfl,hg⟩⟩ ?_,by simp [h4],by simpa using h5,?_⟩
    ·rw [<-mO (n:=n),ak]at h3
     simpa [Item.applyH,hupd]using h3
    ·rw [show Nat.succ i+its.length=i+(its.length+1)from by omega]at h6;exact h6
   cases hg:o.guard with
   | none=>
     rw [hg]at he;exact run U ae rfl (fun j want e=>by rw [hg]at e;cases e) he
   | some g=>
     obtain⟨j,want⟩:=g;rw [hg]at he;simp only at he;obtain⟨au,he⟩:=bK.1 he;have ap:=aj.dst au;cases hj:(ops[j]?).bind (·.dst)with
     | none=>rw [<-ap,hj]at he;exact he.elim
     | some d=>
       rw [<-ap,hj]at he;simp only at he;have aq:=qS U base d (by rw [hbn];exact ae)
       split at he
       ·rename_i b ar;obtain⟨ax,he⟩:=bK.1 he;rw [aq]at ar;have am:=sP ar;have hs:bT ((d,.bool b)::U) base=bT U base:=mF _ d _ am;have af: ∀v,vD n ((d,v)::U):=fun v=>⟨Nat.le_of_ble_eq_true ax,ae⟩
        have r1:want=b-> ∀j' ad,o.guard=some (j',ad)-> ∃d,(ops[j']?).bind (·.dst)=some d/\(bT U base)[d]? =some (.bool ad):=by
         intro e j' ad e2;rw [hg]at e2;cases e2;exact⟨d,hj,by rw [e];exact am⟩
        have r2:want= !b -> ∃j want d,o.guard=some (j,want)/\(ops[j]?).bind (·.dst)=some d/\((bT U base)[d]? =some (.bool (!want))\/iJ ((bT U base).getD d (.raw undef))=true):=by
         intro e;exact⟨j,want,d,hg,hj,.inl (by rw [e];simpa using am)⟩
        cases b with
        | true=>
          simp only [cond_true]at he;cases want with
          | true=>rw [if_pos rfl]at he;exact run _ (af _) hs (r1 rfl) he
          | false=>rw [if_neg (by simp)]at he;exact skip _ (af _) hs (r2 rfl) he
        | false=>
          simp only [cond_false]at he;cases want with
          | true=>rw [if_pos rfl]at he;exact skip _ (af _) hs (r2 rfl) he
          | false=>rw [if_neg (by simp)]at he;exact run _ (af _) hs (r1 rfl) he
       ·rename_i az;split at he
        ·rename_i ao;rw [aq]at ao;exact skip U ae rfl ⟨j,want,d,hg,hj,.inr ao⟩ he
        ·exact he.elim
end
end Go.Sh
namespace Go.Sh
open Go
variable [Con] {A:Type}
def A9(u:List (Nat×Option (aG A)))(h:aY A):aY A:=u.foldl (fun h x=>h.put x.1 x.2) h
def Item.putF(it:Item A)(h:aY A):aY A:=fun l=>if it.n<=l/\l<it.n+it.new.length then it.new[l - it.n]? else A9 it.upd h l
theorem wX: ∀(u:List (Nat×Option (aG A))) (h:aY A) (l:Nat),u.any (fun x=>x.1 == l)=false->A9 u h l=h l
 | [],h,l,_=>rfl
 | x::u,h,l,hl=>by
   simp only [List.any_cons,Bool.or_eq_false_iff,beq_eq_false_iff_ne,ne_eq]at hl;show A9 u (h.put x.1 x.2) l=h l;rw [wX u _ l hl.2];simp [aY.put,Ne.symm hl.1]
theorem yY: ∀(u:List (Nat×Option (aG A))) (h g:aY A) (l:Nat),(u.any (fun x=>x.1 == l)=true\/h l=g l)->A9 u h l=A9 u g l
 | [],h,g,l,hl=>by
   rcases hl with hl | hl
   ·cases hl
   ·exact hl
 | x::u,h,g,l,hl=>by
   show A9 u (h.put x.1 x.2) l=A9 u (g.put x.1 x.2) l;apply yY
   by_cases hx:x.1=l
   ·right;simp [aY.put,hx]
   ·rcases hl with hl | hl
    ·left;have hb:(x.1 == l)=false:=by simpa using hx
     simpa only [List.any_cons,hb,Bool.false_or]using hl
    ·right;simp only [aY.put];rw [if_neg (Ne.symm hx),if_neg (Ne.symm hx)];exact hl
theorem k9(it:Item A)(h:aY A)(l:Nat)(hp:it.puts l=false):it.putF h l=h l:=by
 simp only [Item.puts,Bool.or_eq_false_iff,Bool.and_eq_false_iff,dF']at hp;unfold Item.putF;rw [if_neg (by omega)]
 exact wX _ _ _ hp.1
theorem sW(it:Item A)(h g:aY A)(l:Nat)(hp:it.puts l=true\/h l=g l):it.putF h l=it.putF g l:=by
 unfold Item.putF
 by_cases hc:it.n<=l/\l<it.n+it.new.length
 ·rw [if_pos hc,if_pos hc]
 ·rw [if_neg hc,if_neg hc];apply yY;rcases hp with hp | hp
  ·simp only [Item.puts,Bool.or_eq_true,Bool.and_eq_true,dT']at hp;rcases hp with hp | hp
   ·exact .inl hp
   ·exact(hc hp).elim
  ·exact .inr hp
theorem FG: ∀(u:List (Nat×Option (aG A))) (h:aB A),(∀x∈u,x.1<h.length)->toF (hupd h u)=A9 u (toF h)
 | [],h,_=>rfl
 | x::u,h,hx=>by
   show toF (hupd (h.set x.1 x.2) u)=A9 u ((toF h).put x.1 x.2);rw [FG u _ (by intro y hy;simp;exact hx y (by simp [hy])),fW x.2 (hx x (by simp))]
theorem nM{it:Item A}{h:aB A}(hn:it.n=h.length)(hw:jF it=true):toF (it.applyH h)=it.putF (toF h):=by
 have hu: ∀x∈it.upd,x.1<h.length:=by
  intro x hx;have:=List.all_eq_true.1 hw x hx;simp only [Bool.and_eq_true,dT']at this;omega
 funext l;show aK (hupd h it.upd++it.new.map some) l=it.putF (toF h) l;unfold Item.putF
 by_cases hc:it.n<=l/\l<it.n+it.new.length
 ·rw [if_pos hc];have e1:(hupd h it.upd).length =it.n:=by rw [fB,hn]
  simp only [aK,gD'];rw [List.getElem?_append_right (by omega),e1,List.getElem?_map]
  have g:l - it.n<it.new.length:=by omega
  rw [gE' g];rfl
 ·rw [if_neg hc,<-FG _ _ hu];show _=aK (hupd h it.upd) l
  by_cases g:l<(hupd h it.upd).length
  ·exact cG g
  ·rw [fB]at g;rw [cC (by rw [List.length_append,fB,List.length_map];omega),cC (by rw [fB];omega)]
def tmF(D:Nat->Bool):Nat->List (Item A)->List AVal->List AVal
 | _,[],tm=>tm
 | i,it::its,tm=>tmF D (i+1) its (if D i then u6 tm it.o.dst it.v else tm)
def hF(D:Nat->Bool):Nat->List (Item A)->aY A->aY A
 | _,[],h=>h
 | i,it::its,h=>hF D (i+1) its (if D i then it.putF h else h)
theorem nO(tm:List AVal)(d:Option Tmp)(v:AVal):(u6 tm d v).length =tm.length:=by
 cases d<;>simp [u6]
theorem nN(tm:List AVal)(d:Option Tmp)(v:AVal)(t:Nat):(u6 tm d v)[t]? =if d=some t/\t<tm.length then some v else tm[t]? :=by
 cases d with
 | none=>simp [u6]
 | some e=>
   show(tm.set e v)[t]? =_;rw [List.getElem?_set]
   by_cases he:e=t
   ·subst he
    by_cases g:e<tm.length
    ·simp [g]
    ·simp [g]
   ·simp [he]
theorem qI(D:Nat->Bool): ∀(its:List (Item A)) (i:Nat) (tm:List AVal),(tmF D i its tm).length =tm.length
 | [],_,_=>rfl
 | it::its,i,tm=>by
   unfold tmF;rw [qI D its];split
   ·exact nO _ _ _
   ·rfl
theorem oY{D1 D2:Nat->Bool}{t:Nat} : ∀(its:List (Item A)) (i:Nat) (tm1 tm2:List AVal),tm1.length=tm2.length->tm1[t]? =tm2[t]? ->
 (∀k it,its[k]? =some it->it.o.dst=some t->D1 (i+k)=D2 (i+k))->(tmF D1 i its tm1)[t]? =(tmF D2 i its tm2)[t]?
 | [],_,_,_,_,h,_=>h
 | it::its,i,tm1,tm2,hl,h,hD=>by
   unfold tmF;apply oY its
   ·split<;>split<;>simp [nO,hl]
   ·by_cases hd:it.o.dst=some t
    ·have e:=hD 0 it rfl hd;rw [Nat.add_zero]at e;rw [e];split
     ·rw [nN,nN,hl,h]
     ·exact h
    ·have e1: ∀tm:List AVal,(u6 tm it.o.dst it.v)[t]? =tm[t]? :=fun tm=>by rw [nN,if_neg (by simp [hd])]
     split<;>split<;>simp only [e1,h]
   ·intro k it' hk hd;have:=hD (k+1) it' (by simpa using hk) hd
    rw [show i+1+k=i+(k+1)from by omega];exact this
theorem nV{D1 D2:Nat->Bool}{l:Nat} : ∀(its:List (Item A)) (i:Nat) (h1 h2:aY A),h1 l=h2 l->
 (∀k it,its[k]? =some it->it.puts l=true->D1 (i+k)=D2 (i+k))->hF D1 i its h1 l=hF D2 i its h2 l
 | [],_,_,_,h,_=>h
 | it::its,i,h1,h2,h,hD=>by
   unfold hF;apply nV its
   ·cases hp:it.puts l with
    | true=>
      have e:=hD 0 it rfl hp;rw [Nat.add_zero]at e;rw [e];split
      ·exact sW it h1 h2 l (.inl hp)
      ·exact h
    | false=>split<;>split<;>simp only [k9 it _ l hp,h]
   ·intro k it' hk hd;have:=hD (k+1) it' (by simpa using hk) hd
    rw [show i+1+k=i+(k+1)from by omega];exact this
theorem rX{D:Nat->Bool} : ∀(its:List (Item A)) (i:Nat) (tm:List AVal),(∀k,i<=k->D k=false)->tmF D i its tm=tm
 | [],_,_,_=>rfl
 | it::its,i,tm,h=>by
   unfold tmF;rw [h i (Nat.le_refl _)];exact rX its (i+1) tm (fun k hk=>h k (by omega))
theorem rD{D:Nat->Bool} : ∀(its:List (Item A)) (i:Nat) (h:aY A),(∀k,i<=k->D k=false)->hF D i its h=h
 | [],_,_,_=>rfl
 | it::its,i,g,h=>by
   unfold hF;rw [h i (Nat.le_refl _)];exact rD its (i+1) g (fun k hk=>h k (by omega))
section
variable {P:Program} {E:Env A P}
theorem eJ(it:Item A)(h:aB A):(it.applyH h).length =h.length+it.new.length:=by
 simp [Item.applyH,fB]
theorem gF.le{ops:Array Oper}{tm tm':List AVal}{h h':aB A}{its:List (Item A)}(ht:gF E ops tm h its tm' h'):h.length<=h'.length:=by
 induction ht with
 | nil=>exact Nat.le_refl _
 | cons _ _ ih2=>rw [eJ]at ih2;omega
theorem gF.low{ops:Array Oper}{tm tm':List AVal}{h h':aB A}{its:List (Item A)}(ht:gF E ops tm h its tm' h'): ∀(j:Nat) (y:Item A),its[j]? =some y->h.length<=y.n:=by
 induction ht with
 | nil=>intro j y g;simp at g
 | cons ho ht ih2=>
   intro j y g;cases j with
   | zero=>simp at g;subst g;rw [ho.1];exact Nat.le_refl _
   | succ j=>simp at g;have:=ih2 j y g;rw [eJ]at this;omega
theorem gF.at{ops:Array Oper}{tm tm':List AVal}{h h':aB A}{its:List (Item A)}(ht:gF E ops tm h its tm' h')(hw:its.all jF=true): ∀(base k:Nat) (it:Item A),its[k]? =some it->
 ∃hk,PM E ops (tmF (fun i=>decide (i<base+k)) base its tm) hk it/\toF hk=hF (fun i=>decide (i<base+k)) base its (toF h)/\h.length<=hk.length/\hk.length+it.new.length<=h'.length:=by
 induction ht with
 | nil tm h=>intro base k it hk;simp at hk
 | @cons tm tm' h h' it0 its ho ht g=>
   simp only [List.all_cons,Bool.and_eq_true]at hw;have g:=g hw.2;intro base k it hk;cases k with
   | zero=>
     simp at hk;subst hk;refine⟨h,?_,?_,Nat.le_refl _,?_⟩
     ·rw [rX _ _ _ (by intro k hk;simp;omega)];exact ho
     ·rw [rD _ _ _ (by intro k hk;simp;omega)]
     ·have:=ht.le;rw [eJ]at this;exact this
   | succ k=>
     simp at hk;obtain⟨aa,h1,h2,h3,h4⟩:=g (base+1) k it hk;have e: ∀i,decide (i<base+1+k)=decide (i<base+(k+1)):=fun i=>by congr 1;rw [Nat.add_assoc,Nat.add_comm 1 k]
     have e':(fun i=>decide (i<base+1+k))=(fun i=>decide (i<base+(k+1))):=funext e;rw [e']at h1 h2;refine⟨aa,?_,?_,by rw [eJ]at h3;omega,h4⟩
     ·unfold tmF;rw [if_pos (by simp)]
      exact h1
     ·unfold hF;rw [if_pos (by simp),<-nM ho.1 hw.1]
      exact h2
theorem gF.end{ops:Array Oper}{tm tm':List AVal}{h h':aB A}{its:List (Item A)}(ht:gF E ops tm h its tm' h')(hw:its.all jF=true): ∀(base:Nat) (D:Nat->Bool),(∀k,k<its.length->D (base+k)=true)->
 tmF D base its tm=tm'/\hF D base its (toF h)=toF h':=by
 induction ht with
 | nil tm h=>intro base D _;exact⟨rfl,rfl⟩
 | @cons tm tm' h h' it0 its ho ht ih=>
   simp only [List.all_cons,Bool.and_eq_true]at hw;intro base D g;have h0:=g 0 (by simp)
   rw [Nat.add_zero]at h0
   have:=ih hw.2 (base+1) D (by
    intro k hk;have:=g (k+1) (by simp;omega)
    rw [Nat.add_assoc,Nat.add_comm 1 k];exact this)
   unfold tmF hF;rw [h0,if_pos rfl,if_pos rfl,<-nM ho.1 hw.1];exact this
theorem gF.news{ops:Array Oper}{tm tm':List AVal}{h h':aB A}{its:List (Item A)}(ht:gF E ops tm h its tm' h'): ∀(i j:Nat) (x y:Item A),its[i]? =some x->its[j]? =some y->i<j->h.length<=x.n/\x.n+x.new.length<=y.n:=by
 induction ht with
 | nil=>intro i j x y hx;simp at hx
 | cons ho ht ih=>
   intro i j x y hx g aa;cases j with
   | zero=>omega
   | succ j=>
     simp at g;cases i with
     | zero=>
       simp at hx;subst hx;have:=ht.low j y g;rw [eJ]at this;rw [ho.1];exact⟨Nat.le_refl _,this⟩
     | succ i=>
       simp at hx;obtain⟨h1,h2⟩:=ih i j x y hx g (by omega)
       rw [eJ]at h1;exact⟨by omega,h2⟩
end
end Go.Sh
namespace Go.Sh
open Go
variable [Con] {A:Type}
theorem nD{Z Z2:Operand->AVal}(l:List (Nat×Operand))(h: ∀x∈l.map (·.2),Z x=Z2 x):(l.map fun x=>(x.1,Z x.2))=l.map fun x=>(x.1,Z2 x.2):=by
 apply List.map_congr_left;intro x hx;rw [h x.2 (List.mem_map.2 ⟨x,hx,rfl⟩)]
theorem iL{Z Z2:Operand->AVal}(l:List Operand)(h: ∀x∈l,Z x=Z2 x):l.map Z=l.map Z2:=List.map_congr_left h
theorem oQ{P:Program}{Z Z2:Operand->AVal}(op:Op)(h:aB A)(hZ: ∀x∈op.operands,Z x=Z2 x):aop P Z op h=aop P Z2 op h:=by
 cases op<;>simp only [Op.operands]at hZ<;>simp only [aop]
 case move x=>rw [hZ x (by simp)]
 case assign x=>rw [hZ x (by simp)]
 case pick c a b=>rw [hZ c (by simp),hZ a (by simp),hZ b (by simp)]
 case box e x=>rw [hZ x (by simp)]
 case build t ps=>rw [nD ps.toList (fun x hx=>hZ x (by simpa using hx))]
 case buildSlice t n ps=>rw [nD ps.toList (fun x hx=>hZ x (by simpa using hx))]
 case load t a=>rw [hZ a (by simp)]
 case store t a x=>rw [hZ a (by simp),hZ x (by simp)]
 case nilCheck x=>rw [hZ x (by simp)]
 case binOp o t x y yt=>rw [hZ x (by simp),hZ y (by simp)]
 case unOp o t x=>rw [hZ x (by simp)]
 case convert s d x=>rw [hZ x (by simp)]
 case makeInterface t x=>rw [hZ x (by simp)]
 case makeFunc fn f c=>rw [iL f.toList (fun x hx=>hZ x (by simp at hx⊢;exact .inl hx)),iL c.toList (fun x hx=>hZ x (by simp at hx⊢;exact .inr hx))]
 case makeSlice t n m=>rw [hZ n (by simp),hZ m (by simp)]
 case makeMap t r=>cases r<;>rfl
 case lookup t x i ck=>rw [hZ x (by simp),hZ i (by simp)]
 case mapUpdate t m k v=>rw [hZ m (by simp),hZ k (by simp),hZ v (by simp)]
 case slice t x lo hi g=>
  have e1:lo.map Z=lo.map Z2:=by cases lo with | none=>rfl | some y=>simp [hZ y (by simp)]
  have e2:hi.map Z=hi.map Z2:=by cases hi with | none=>rfl | some y=>simp [hZ y (by simp)]
  have e3:g.map Z=g.map Z2:=by cases g with | none=>rfl | some y=>simp [hZ y (by simp)]
  rw [hZ x (by simp),e1,e2,e3]
 case fieldAddr s x f=>rw [hZ x (by simp)]
 case field s x f=>rw [hZ x (by simp)]
 case indexAddr t x i=>rw [hZ x (by simp),hZ i (by simp)]
 case index t x i=>rw [hZ x (by simp),hZ i (by simp)]
 case extract x i=>rw [hZ x (by simp)]
 case call c=>
  have e1:c.args.toList.map Z=c.args.toList.map Z2:=iL _ (fun x hx=>hZ x (by simp [Call.operands];right;simpa using hx))
  rw [e1]
section
variable {P:Program} {E:Env A P}
theorem zO{Z Z2:Operand->AVal}(c:Call)(hZ: ∀x∈c.operands,Z x=Z2 x):callee E Z c=callee E Z2 c:=by
 have e1:c.args.toList.map Z=c.args.toList.map Z2:=iL _ (fun x hx=>hZ x (by simp [Call.operands];right;simpa using hx))
 unfold callee;cases hc:c.callee with
 | value f=>simp only;rw [hZ f (by simp [Call.operands,hc]),e1]
 | invoke r m=>simp only;rw [hZ r (by simp [Call.operands,hc]),e1]
 | builtin b=>rfl
theorem LN{Z Z2:Operand->AVal}(op:Op)(h:aB A)(hZ: ∀x∈op.operands,Z x=Z2 x):dop E Z op h=dop E Z2 op h:=by
 cases op
 case call c=>
  simp only [dop];rw [zO c hZ,oQ (.call c) h hZ]
 case load t a=>
  simp only [dop];rw [oQ (.load t a) h hZ,hZ a (by simp [Op.operands]),E.droCongr Z Z2 (.load t a) h hZ]
 case store t a x=>
  simp only [dop];rw [oQ (.store t a x) h hZ,E.droCongr Z Z2 (.store t a x) h hZ]
 all_goals (simp only [dop];exact oQ _ h hZ)
theorem LO{a:Act}{o:Oper}{tm:List AVal}{h:aB A}{r:ORes A}(hr:dop E (dM tm) o.op h=some r)(ho:r.obl){V:Val}{hR:PHeap}{w:World}
 (hi:Inv E.I V (toF h) hR w) (hf:jP V h.length r.new.length) (ht:aH V tm a.tmps.toList) {next:Act->World->Prop} {Q:Exit->Act->World->Prop}
 (hn: ∀v' V' w',Rep V' r.v v'->V.le V'->(∀l,V l=none->V' l≠none->h.length<=l/\l<h.length+r.new.length)->Inv E.I V' (toF (r.apply h)) hR w'->bN w w'->next (a.put o.dst v') w'):
 o.wp P a w next Q:=by
 have hZ: ∀x,Rep V (dM tm x) (a.eval x):=fE ht
 have ac:aop P (dM tm) o.op h=some r->o.wp P a w next Q:=by
  intro hr;obtain⟨nx,w',V',v',h1,h2,h3,h4,h5,h6,h7⟩:=x1 hr ho hi hf hZ;have:=hn v' V' w' h5 h3 h4 h6 h7;unfold Oper.wp;rw [h1];rcases h2 with rfl | ⟨rfl,rfl⟩
  ·exact this
  ·exact this
 have drawn:E.dro (dM tm) o.op h=some r->o.wp P a w next Q:=by
  intro hr;obtain⟨nx,w',V',v',h1,h2,h3,h4,h5,h6,h7⟩:=E.droOk (dM tm) o h r hr ho V hR w a.eval hi hf hZ;have:=hn v' V' w' h5 h3 h4 h6 h7;unfold Oper.wp;rw [h1];rcases h2 with rfl | ⟨rfl,rfl⟩
  ·exact this
  ·exact this
 have fin: ∀(g:FuncId) (args:List AVal) (ad:Array Value) (D:nI A),E.det g=some D->D args h=some r->aH V args ad.toList->(execOp a.eval o).run P w=.ok (.enter g ad) w->o.wp P a w next Q:=by
  intro g args ad D hD am aj ae;unfold Oper.wp;rw [ae];refine(E.detOk g D hD args h r am ho V hR w ad hi hf aj).mono ?_;rintro e w' ⟨v',V',rfl,h2,h3,h4,h5,h6⟩;exact hn v' V' w' h2 h3 h4 h5 h6
 cases aa:o.op with
 | call c=>
   rw [aa]at hr;simp only [dop]at hr;have ag:aH V (c.args.toList.map (dM tm)) (c.args.toList.map a.eval):=gO hZ c.args.toList;cases hc:callee E (dM tm) c with
   | none=>
     rw [hc]at hr;exact ac (by rw [aa];exact hr)
   | some x=>
     obtain⟨g,args⟩:=x;rw [hc]at hr;simp only at hr;split at hr
     case isFalse=>cases hr
     rename_i hp;split at hr
     case h_2=>cases hr
     rename_i D hD;unfold callee at hc;split at hc
     ·rename_i f af;split at hc
      ·rename_i g' first ao ai
       simp only [sI',pI']at hc;obtain⟨rfl,rfl⟩:=hc;have rf:=hZ f;rw [ai]at rf;obtain⟨fs,cs,e1,r1,r2⟩:=rf;refine fin g' _ (fs++c.args.map a.eval++cs) D hD hr ?_ ?_
       ·simp only [Array.toList_append,Array.toList_map];exact aH.append (aH.append r1 ag) r2
       ·simp only [execOp,aa,resolve,af,e1,Deferred.ofValue,Sem.run_bind,Sem.run_pure,Result.andThen_ok,invoke,gG hp]
      ·cases hc
     ·rename_i recv name af;split at hc
      ·rename_i t l off ai;cases hm:E.meth t name with
       | none=>rw [hm]at hc;cases hc
       | some g'=>
         rw [hm]at hc;simp only [Option.map_some,sI',pI']at hc;obtain⟨rfl,rfl⟩:=hc;have rf:=hZ recv;rw [ai]at rf;obtain⟨x,e1,b,k,hl,e2⟩:=rf;subst e2;refine fin g' _ (#[.pointer (some ⟨b,off,none⟩)]++c.args.map a.eval) D hD hr ?_ ?_
         ·simp only [Array.toList_append,Array.toList_map];exact⟨_,_,rfl,⟨b,k,hl,rfl⟩,ag⟩
         ·have ak:=E.methOk t name g' hm (.pointer (some ⟨b,off,none⟩)) w ⟨_,rfl⟩;simp only [execOp,aa,resolve,af,Sem.run_bind,Sem.run_pure,Result.andThen_ok,invoke,e1,aCj,aCk,callMethod,run_program,ak,gG hp]
      ·cases hc
     ·cases hc
 | load t x=>
   rw [aa]at hr;simp only [dop]at hr;split at hr
   ·rename_i r1 ah;exact ac (by rw [aa,ah];exact hr)
   ·split at hr
    ·rename_i l off al;split at hr
     ·rename_i v q hv;simp only [sI']at hr;subst hr;have hq:onp q:=ho;have hx:=hZ x;rw [al]at hx;obtain⟨b,k,hV,hx⟩:=hx;obtain⟨v',g8,g9⟩:=E.fldOk t l off h v q hv hq V hR w b k hi hV;have ae:(execOp a.eval o).run P w=.ok (.value v') w:=by simp [execOp,aa,hx,g8]
      unfold Oper.wp;rw [ae];refine hn v' V w g9 V.le_refl (fun l h1 h2=>(h2 h1).elim) ?_ (aLu w)
      simpa [ORes.apply,hupd]using hi
     ·exact drawn (by rw [aa];exact hr)
    ·cases hr
 | store t x y=>
   rw [aa]at hr;simp only [dop]at hr;split at hr
   ·rename_i r1 ah;exact ac (by rw [aa,ah];exact hr)
   ·exact drawn (by rw [aa];exact hr)
 | _=>exact ac (by rw [aa]at hr⊢;exact hr)
def mK(ops:List Oper)(D:Nat->Bool):Prop:= ∀(j:Nat) (o:Oper),ops[j]? =some o->D j=true-> ∀e∈o.after.toList,Region.binds .any e=true->D e.on=true
theorem NV{acc:List Nat}{o:Oper}{i:Nat}(h:(mask acc o).testBit i=true): ∃e∈o.after.toList,Region.binds .any e=true/\(i=e.on\/(acc.getD e.on 0).testBit i=true):=by
 unfold mask at h
 have key: ∀(l:List Edge) (s:Nat),(l.foldl (fun s e=>if Region.binds .any e then s|||2^e.on|||acc.getD e.on 0 else s) s).testBit i=true->
  s.testBit i=true\/ ∃e∈l,Region.binds .any e=true/\(i=e.on\/(acc.getD e.on 0).testBit i=true):=by
  intro l
  induction l with
  | nil=>intro s hs;exact .inl hs
  | cons e l ih=>
    intro s hs;simp only [List.foldl_cons]at hs;rcases ih _ hs with h1 | ⟨g,h1,h2,h3⟩
    ·split at h1
     ·rename_i hb;rw [Nat.testBit_or,Nat.testBit_or,Bool.or_eq_true,Bool.or_eq_true]at h1;rcases h1 with(h1 | h1) | h1
      ·exact .inl h1
      ·rw [Nat.testBit_two_pow]at h1;simp only [dT']at h1;exact .inr ⟨e,by simp,hb,.inl h1.symm⟩
      ·exact .inr ⟨e,by simp,hb,.inr h1⟩
     ·exact .inl h1
    ·exact .inr ⟨g,by simp [h1],h2,h3⟩
 rcases key _ _ h with h1 | h1
 ·simp at h1
 ·exact h1
theorem rH{ops:List Oper}{D:Nat->Bool}(hc:mK ops D): ∀(rest:List Oper) (acc:List Nat),(∀k,rest[k]? =ops[acc.length+k]?)->
 (∀j m,acc[j]? =some m->D j=true-> ∀i,m.testBit i=true->D i=true)->
 ∀j m,(masks acc rest)[j]? =some m->D j=true-> ∀i,m.testBit i=true->D i=true:=by
 intro rest
 induction rest with
 | nil=>intro acc _ h;exact h
 | cons o rest ih=>
   intro acc ho h;unfold masks;apply ih
   ·intro k;have:=ho (k+1);simp only [List.getElem?_cons_succ]at this;rw [this];congr 1;simp;omega
   ·intro j m hj hD i hi;rw [List.getElem?_append]at hj;split at hj
    ·exact h j m hj hD i hi
    ·rename_i ae
     have ad:j - acc.length=0:=by
      cases hq:j - acc.length with
      | zero=>rfl
      | succ n=>rw [hq]at hj;simp at hj
     rw [ad]at hj;simp at hj;subst hj;obtain⟨e,he,hb,g⟩:=NV hi
     have ac:ops[j]? =some o:=by
      have:=ho 0;simp at this;rw [show j=acc.length from by omega];exact this.symm
     have aa:=hc j o ac hD e he hb;rcases g with rfl | g
     ·exact aa
     ·cases hq:acc[e.on]? with
      | none=>rw [gD',hq]at g;simp at g
      | some m=>rw [gD',hq]at g;exact h e.on m hq aa i g
theorem qE{ops:List Oper}{D:Nat->Bool}(hc:mK ops D){k:Nat}{o:Oper}(hk:ops[k]? =some o)(hr: ∀e∈o.after.toList,Region.binds .any e=true->D e.on=true){i:Nat}
 (hi:((masks [] ops).getD k 0).testBit i=true):i=k\/D i=true:=by
 have aa:mK ops (fun j=>decide (j=k)||D j):=by
  intro j o' hj g e he hb;simp only [Bool.or_eq_true,dT']at g⊢;right;rcases g with rfl | g
  ·rw [hk]at hj;cases hj;exact hr e he hb
  ·exact hc j o' hj g e he hb
 cases hm:(masks [] ops)[k]? with
 | none=>rw [gD',hm]at hi;simp at hi
 | some m=>
   rw [gD',hm]at hi;have:=rH aa ops [] (by intro k;simp) (by intro j m h;simp at h) k m hm (by simp) i hi
   simpa using this
theorem LM{ops:List Oper}{D:Nat->Bool}(hc:mK ops D){k:Nat}(hk:D k=true){i:Nat}(hi:((masks [] ops).getD k 0).testBit i=true):D i=true:=by
 cases hm:(masks [] ops)[k]? with
 | none=>rw [gD',hm]at hi;simp at hi
 | some m=>
   rw [gD',hm]at hi;exact rH hc ops [] (by intro k;simp) (by intro j m h;simp at h) k m hm hk i hi
end
end Go.Sh
