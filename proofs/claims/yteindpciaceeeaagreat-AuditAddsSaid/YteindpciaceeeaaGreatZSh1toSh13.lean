import Derived.Orders
import Derived.KernelRfl
import Derived.Laws.Cells
import Derived.Laws.World
import Derived.Laws.StructEq
import Derived.Laws.Build
import Derived.Laws.Rows
import Derived.Laws.Append
import Derived.IntWalk
import Derived.MapKept
import Derived.Tactics
import Derived.RangeFuncSeq
set_option linter.all false
set_option maxHeartbeats 8000000
namespace Go.Sh
theorem sI'{α:Type _}{a b:α}:(some a=some b)=(a=b):=Option.some.injEq a b
theorem pI'{α:Type _}{β:Type _}{a c:α}{b d:β}:((a,b)=(c,d))=(a=c/\b=d):=Prod.mk.injEq a b c d
theorem lI'{α:Type _}{a b:α}{l m:List α}:(a::l=b::m)=(a=b/\l=m):=List.cons.injEq a l b m
theorem gD'{α:Type _}{l:List α}{i:Nat}{a:α}:l.getD i a=(l[i]?).getD a:=List.getD_eq_getElem?_getD
theorem gE'{α:Type _}{l:List α}{i:Nat}(h:i<l.length):l[i]?=some l[i]:=List.getElem?_eq_getElem h
theorem dF'{p:Prop}{x:Decidable p}:decide p=false↔¬p:=decide_eq_false_iff_not
theorem dT'{p:Prop}[Decidable p]:(decide p=true)=p:=decide_eq_true_eq
open Go
theorem omz{p:Prop}(h:p:=by omega):p:=h
theorem dS{p:Prop}(h:p:=by decide):p:=h
inductive AVal where
 | bool (b:Bool)
 | int (k:IntKind) (n:Int)
 | str (s:ByteArray)
 | ptr (l:Nat) (off:Nat)
 | slice (l off len sz:Nat)
 | map (l:Nat)
 | func (fn:Fn) (first caps:List AVal)
 | iface (t:TypeId) (v:AVal)
 | agg (cs:List AVal)
 | tup (vs:List AVal)
 | raw (v:Value)
 | any
 | O
 | iview (c:Option IntKind) (xs:List Int)
 | view (n w:Nat) (row:Nat->List AVal)
 | cptr (cs:List AVal)
 | tslice (l r n w:Nat)
 | tptr (l r w j:Nat)
 | empty
abbrev Code1:=Option IntKind
def Code1.val:Code1->Int->Value
 | some k,n=>.int k n
 | none,n=>.bool (n !=0)
def Code1.aval:Code1->Int->AVal
 | some k,n=>.int k n
 | none,n=>.bool (n !=0)
abbrev PHeap:=Nat->Option Obj
class Con where
 con:PHeap
abbrev Val:=Nat->Option (Nat×Nat)
def Val.le(V V':Val):Prop:= ∀l x,V l=some x->V' l=some x
variable [Con]
mutual
def Rep(V:Val):AVal->Value->Prop
 | .bool b,v=>v=.bool b
 | .int k n,v=>v=.int k n
 | .str s,v=>v=.string s
 | .ptr l off,v=> ∃b k,V l=some (b,k)/\v=.pointer (some ⟨b,off,none⟩)
 | .slice l off len sz,v=> ∃base cap,v=.slice base len cap/\len<=cap/\
    ((∃b k,V l=some (b,k)/\base=some ⟨b,off,none⟩/\off+cap*sz<=k)\/(len=0/\cap=0))
 | .map l,v=> ∃b k,V l=some (b,k)/\v=.map (some b)
 | .func fn first caps,v=> ∃fs cs,v=.func fn fs cs/\aH V first fs.toList/\aH V caps cs.toList
 | .iface t a,v=> ∃x,v=.iface t x/\Rep V a x
 | .agg as,v=> ∃cs,v=.agg cs/\aH V as cs.toList
 | .tup as,v=> ∃cs,v=.tuple cs/\aH V as cs.toList
 | .raw v',v=>v=v'
 | .any,v=>v.oneCell'=true
 | .O,_=>True
 | .iview c xs,v=> ∃base cap,v=.slice base xs.length cap/\xs.length<=cap/\
    ((∃b off cs T fz,base=some ⟨b,off,none⟩/\Con.con b=some (.cells cs T fz)/\ ∃tail,cs.toList.drop off=xs.map (Code1.val c)++tail)\/xs=[])
 | .view n w row,v=> ∃base cap,v=.slice base n cap/\n<=cap/\
    ((∃b off cs T fz,base=some ⟨b,off,none⟩/\Con.con b=some (.cells cs T fz)/\ ∀i,i<n->(row i).length =w/\aH (fun _=>none) (row i) ((cs.toList.drop (off+i*w)).take w))\/n=0)
 | .tslice l r n w,v=> ∃base cap,v=.slice base n cap/\n<=cap/\
    ((∃b k,V l=some (b,k)/\base=some ⟨b,r*w,none⟩/\r*w+cap*w<=k)\/(n=0/\cap=0))
 | .tptr l r w j,v=> ∃b k,V l=some (b,k)/\v=.pointer (some ⟨b,r*w+j,none⟩)
 | .empty,v=> ∃base,v=.slice base 0 0
 | .cptr as,v=> ∃b off cs T fz,v=.pointer (some ⟨b,off,none⟩)/\Con.con b=some (.cells cs T fz)/\aH (fun _=>none) as ((cs.toList.drop off).take as.length)
def aH(V:Val):List AVal->List Value->Prop
 | [],l=>l=[]
 | a::as,l=> ∃v vs,l=v::vs/\Rep V a v/\aH V as vs
end
mutual
theorem Rep.mono{V V':Val}(h:V.le V'): ∀(a:AVal) (v:Value),Rep V a v->Rep V' a v
 | .bool _,_,r=>r
 | .int _ _,_,r=>r
 | .str _,_,r=>r
 | .ptr _ _,_,⟨b,k,hl,hv⟩=>⟨b,k,h _ _ hl,hv⟩
 | .slice _ _ _ _,_,⟨base,cap,hv,hc,r⟩=>⟨base,cap,hv,hc,r.imp (fun⟨b,k,hl,e⟩=>⟨b,k,h _ _ hl,e⟩) id⟩
 | .map _,_,⟨b,k,hl,hv⟩=>⟨b,k,h _ _ hl,hv⟩
 | .func _ f c,_,⟨fs,cs,hv,r,s⟩=>⟨fs,cs,hv,aH.mono h f _ r,aH.mono h c _ s⟩
 | .iface _ a,_,⟨x,hv,r⟩=>⟨x,hv,Rep.mono h a _ r⟩
 | .agg as,_,⟨cs,hv,r⟩=>⟨cs,hv,aH.mono h as _ r⟩
 | .tup as,_,⟨cs,hv,r⟩=>⟨cs,hv,aH.mono h as _ r⟩
 | .raw _,_,r=>r
 | .any,_,r=>r
 | .O,_,r=>r
 | .iview _ _,_,r=>r
 | .view _ _ _,_,r=>r
 | .tslice _ _ _ _,_,⟨base,cap,hv,hc,r⟩=>⟨base,cap,hv,hc,r.imp (fun⟨b,k,hl,e⟩=>⟨b,k,h _ _ hl,e⟩) id⟩
 | .tptr _ _ _ _,_,⟨b,k,hl,hv⟩=>⟨b,k,h _ _ hl,hv⟩
 | .empty,_,r=>r
 | .cptr _,_,r=>r
theorem aH.mono{V V':Val}(h:V.le V'): ∀(a:List AVal) (v:List Value),aH V a v->aH V' a v
 | [],_,r=>r
 | a::as,_,⟨v,vs,e,r,s⟩=>⟨v,vs,e,Rep.mono h a v r,aH.mono h as vs s⟩
end
theorem aH.length{V:Val} : ∀ {a:List AVal} {v:List Value},aH V a v->v.length=a.length
 | [],_,r=>by rw [r];rfl
 | _::_,_,⟨_,_,e,_,s⟩=>by rw [e];simp [aH.length s]
theorem aH.get{V:Val} : ∀ {a:List AVal} {v:List Value} (_:aH V a v) (i:Nat) (x:AVal),a[i]? =some x-> ∃y,v[i]? =some y/\Rep V x y
 | [],_,_,i,x,h=>by simp at h
 | a::as,_,⟨v,vs,e,r,s⟩,i,x,h=>by
   subst e;cases i with
   | zero=>simp at h;subst h;exact⟨v,by simp,r⟩
   | succ i=>simp at h;obtain⟨y,hy,hr⟩:=aH.get s i x h;exact⟨y,by simpa using hy,hr⟩
theorem aH.append{V:Val} : ∀ {a b:List AVal} {v w:List Value},aH V a v->aH V b w->aH V (a++b) (v++w)
 | [],_,_,_,r,s=>by rw [r];exact s
 | _::_,_,_,_,⟨v,vs,e,r,t⟩,s=>⟨v,_,by rw [e];rfl,r,aH.append t s⟩
theorem aH.take{V:Val} : ∀ {a:List AVal} {v:List Value} (_:aH V a v) (n:Nat),aH V (a.take n) (v.take n)
 | [],_,r,n=>by rw [r];simp [aH]
 | a::as,_,⟨v,vs,e,r,s⟩,n=>by
   subst e;cases n with
   | zero=>simp [aH]
   | succ n=>exact⟨v,vs.take n,by simp,r,aH.take s n⟩
theorem aH.drop{V:Val} : ∀ {a:List AVal} {v:List Value} (_:aH V a v) (n:Nat),aH V (a.drop n) (v.drop n)
 | [],_,r,n=>by rw [r];simp [aH]
 | a::as,_,⟨v,vs,e,r,s⟩,n=>by
   subst e;cases n with
   | zero=>exact⟨v,vs,by simp,r,s⟩
   | succ n=>simpa using aH.drop s n
theorem aH.set{V:Val} : ∀ {a:List AVal} {v:List Value} (_:aH V a v) (i:Nat) (x:AVal) (y:Value),Rep V x y->aH V (a.set i x) (v.set i y)
 | [],_,r,i,x,y,_=>by rw [r];simp [aH]
 | a::as,_,⟨v,vs,e,r,s⟩,i,x,y,h=>by
   subst e;cases i with
   | zero=>exact⟨y,vs,by simp,h,s⟩
   | succ i=>exact⟨v,vs.set i y,by simp,r,aH.set s i x y h⟩
def PHeap.emp:PHeap:=fun _=>none
def PHeap.one(b:Nat)(o:Obj):PHeap:=fun x=>if x=b then some o else none
def PHeap.sub(h:PHeap)(w:World):Prop:= ∀b o,h b=some o->w.heap[b]? =some o
def PHeap.disj(h g:PHeap):Prop:= ∀b,h b=none\/g b=none
theorem PHeap.disj.symm{h g:PHeap}(d:PHeap.disj h g):PHeap.disj g h:=fun b=>(d b).symm
theorem aLy(h:PHeap):PHeap.disj h .emp :=fun _=>.inr rfl
theorem aLX(w:World):PHeap.emp.sub w:=fun _ _ h=>by cases h
def cM:List Code1->List Int->List Value
 | [],_=>[]
 | k::ks,xs=>Code1.val k (xs.headD 0)::cM ks xs.tail
def bN(ks:List Code1)(rows:List (List Int)):List Value:=(rows.map (cM ks)).flatten
inductive aG (A:Type) where
 | cells (vs:List AVal)
 | ints (c:Code1) (xs:List Int)
 | abs (t:A) (ps:List Nat)
 | tab (ks:List Code1) (rows:List (List Int))
 | imap (kk:IntKind) (vc:Code1) (m:List (Int×Int))
 | iter (lm:Nat) (kk:IntKind) (vc:Code1) (m left:List (Int×Int)) (cur:Option (Int×Int))
variable {A:Type}
abbrev Itp(A:Type):=A->Nat×Nat->List (Nat×Nat)->PHeap->Prop
def gG(V:Val):List Nat->List (Nat×Nat)->Prop
 | [],bs=>bs=[]
 | l::ls,bs=> ∃x r,V l=some x/\bs=x::r/\gG V ls r
theorem gG.mono{V V':Val}(h:V.le V'): ∀ {ls:List Nat} {bs:List (Nat×Nat)},gG V ls bs->gG V' ls bs
 | [],_,e=>e
 | _::_,_,⟨x,r,h1,h2,h3⟩=>⟨x,r,h _ _ h1,h2,gG.mono h h3⟩
theorem gG.congr{V V':Val} : ∀ {ls:List Nat} {bs:List (Nat×Nat)},(∀l∈ls,V l=V' l)->gG V ls bs->gG V' ls bs
 | [],_,_,e=>e
 | l::ls,_,h,⟨x,r,h1,h2,h3⟩=>⟨x,r,by rw [<-h l List.mem_cons_self];exact h1,h2,gG.congr (fun m hm=>h m (List.mem_cons_of_mem _ hm)) h3⟩
theorem gG.ren{V:Val}{ι:Nat->Nat} : ∀ {ls:List Nat} {bs:List (Nat×Nat)},gG V (ls.map ι) bs↔gG (fun l=>V (ι l)) ls bs
 | [],_=>Iff.rfl
 | _::_,_=>⟨fun⟨x,r,h1,h2,h3⟩=>⟨x,r,h1,h2,gG.ren.1 h3⟩,fun⟨x,r,h1,h2,h3⟩=>⟨x,r,h1,h2,gG.ren.2 h3⟩⟩
def PHeap.two(b:Nat)(o:Obj)(c:Nat)(q:Obj):PHeap:=fun x=>if x=b then some o else if x=c then some q else none
def aC1(b bm:Nat)(kk:IntKind)(vc:Code1)(m left:List (Int×Int))(cur:Option (Int×Int))(h:PHeap):Prop:=
 b≠bm/\ ∃es clock since seen c0,h=.two b (.mapIter (some bm) since seen c0) bm (.map es clock)/\es.toList.map (fun e=>(e.key,e.val))=m.map (fun x=>(Value.int kk x.1,Code1.val vc x.2))/\
  (∀e∈es.toList,e.born<since)/\since<=c0/\since<=clock/\(es.filter fun e=>!seen.contains e.born).toList.map (fun e=>(e.key,e.val))=left.map (fun x=>(Value.int kk x.1,Code1.val vc x.2))/\
  (es.toList.map (·.born)).Nodup /\ ∀y,cur=some y->c0=clock/\ ∃e∈es.toList,e.key=.int kk y.1/\e.val=Code1.val vc y.2/\seen.back?=some e.born
def aG.interp(I:Itp A)(V:Val)(l:Nat):aG A->PHeap->Prop
 | .cells vs,h=> ∃b k,V l=some (b,k)/\ ∃cs T,h=.one b (.cells cs T)/\cs.size=k/\ ∃rs tail,cs.toList=rs++tail/\aH V vs rs
 | .ints c xs,h=>(xs=[]/\h=.emp /\ ∃b,V l=some (b,0))\/ ∃b k,V l=some (b,k)/\ ∃cs T tail,h=.one b (.cells cs T)/\cs.size=k/\cs.toList=xs.map c.val++tail
 | .abs t ps,h=> ∃b k,V l=some (b,k)/\ ∃bs,gG V ps bs/\I t (b,k) bs h
 | .tab ks rows,h=>(rows=[]/\h=.emp /\ ∃b,V l=some (b,0))\/ ∃b k,V l=some (b,k)/\ ∃cs T tail,h=.one b (.cells cs T)/\cs.size=k/\cs.toList=bN ks rows++tail
 | .imap kk vc m,h=> ∃b k,V l=some (b,k)/\ ∃es clock,h=.one b (.map es clock)/\es.toList.map (fun e=>(e.key,e.val))=m.map (fun x=>(Value.int kk x.1,Code1.val vc x.2))/\(∀e∈es.toList,e.born<clock)/\(es.toList.map (·.born)).Nodup
 | .iter lm kk vc m left cur,h=> ∃b k,V l=some (b,k)/\ ∃bm km,V lm=some (bm,km)/\aC1 b bm kk vc m left cur h
theorem aLR{I:Itp A}{V V':Val}(hV:V.le V'){l:Nat}{e:aG A}{h:PHeap}(hi:e.interp I V l h):e.interp I V' l h:=by
 cases e with
 | cells vs=>
   obtain⟨b,k,hl,cs,T,e1,e2,rs,tail,e3,r⟩:=hi;exact⟨b,k,hV _ _ hl,cs,T,e1,e2,rs,tail,e3,aH.mono hV _ _ r⟩
 | ints c xs=>
   rcases hi with⟨e1,e2,b,hl⟩ | ⟨b,k,hl,r⟩
   ·exact .inl ⟨e1,e2,b,hV _ _ hl⟩
   ·exact .inr ⟨b,k,hV _ _ hl,r⟩
 | abs t ps=>
   obtain⟨b,k,hl,bs,hb,r⟩:=hi;exact⟨b,k,hV _ _ hl,bs,gG.mono hV hb,r⟩
 | tab ks rows=>
   rcases hi with⟨e1,e2,b,hl⟩ | ⟨b,k,hl,r⟩
   ·exact .inl ⟨e1,e2,b,hV _ _ hl⟩
   ·exact .inr ⟨b,k,hV _ _ hl,r⟩
 | imap kk vc m=>
   obtain⟨b,k,hl,r⟩:=hi;exact⟨b,k,hV _ _ hl,r⟩
 | iter lm kk vc m left cur=>
   obtain⟨b,k,hl,bm,km,hm,r⟩:=hi;exact⟨b,k,hV _ _ hl,bm,km,hV _ _ hm,r⟩
abbrev bE(A:Type):=Nat->Option (aG A)
def aJX(hR:PHeap)(w:World):Prop:=hR.sub w/\ ∀b o,Con.con b=some o->hR b=some o
def Inv(I:Itp A)(V:Val)(h:bE A)(hR:PHeap)(w:World):Prop:=
 ∃hs:Nat->PHeap,(∀l e,h l=some e->e.interp I V l (hs l))/\(∀l,h l=none->hs l=.emp)/\
  (∀l m,l≠m->(hs l).disj (hs m))/\(∀l,(hs l).disj hR)/\(∀l,(hs l).sub w)/\aJX hR w
structure bP (w w':World):Prop where
 os:w'.os=w.os
 output:w'.output=w.output
 size:w.heap.size<=w'.heap.size
 frz: ∀a:Addr,a.block<w.heap.size->w'.frozen? a=w.frozen? a
theorem d7(w:World)(c:Array Value)(t:TypeId)(a:Addr):(w.alloc (.cells c t)).frozen? a=w.frozen? a:=by
 unfold World.frozen? World.alloc;simp only [Array.getElem?_push]
 by_cases h:a.block=w.heap.size
 ·have e:w.heap[a.block]? =none:=by rw [h];simp
  rw [if_pos h,e];simp
 ·rw [if_neg h]
theorem aLS(w:World):bP w w:=⟨rfl,rfl,Nat.le_refl _,fun _ _=>rfl⟩
theorem bP.trans{a b c:World}(h:bP a b)(k:bP b c):bP a c:=⟨k.os.trans h.os,k.output.trans h.output,Nat.le_trans h.size k.size,fun x hx=>(k.frz x (Nat.lt_of_lt_of_le hx h.size)).trans (h.frz x hx)⟩
theorem Inv.mono{I:Itp A}{V V':Val}{h:bE A}{hR:PHeap}{w:World}(hV:V.le V')(hi:Inv I V h hR w):Inv I V' h hR w:=by
 obtain⟨hs,h1,h2,h3,h4,h5,h6⟩:=hi;exact⟨hs,fun l e he=>aLR hV (h1 l e he),h2,h3,h4,h5,h6⟩
theorem Inv.drew{I:Itp A}{V:Val}{h:bE A}{hR:PHeap}{w:World}(n:Nat)(hi:Inv I V h hR w):Inv I V h hR {w with drawn:=n} :=by
 obtain⟨hs,h1,h2,h3,h4,h5,h6⟩:=hi;exact⟨hs,h1,h2,h3,h4,h5,h6⟩
theorem Val.le_refl(V:Val):V.le V:=fun _ _ h=>h
theorem Val.le_trans{a b c:Val}(h:a.le b)(k:b.le c):a.le c:=fun l x e=>k l x (h l x e)
def Val.add(V:Val)(l:Nat)(x:Nat×Nat):Val:=fun m=>if m=l then some x else V m
theorem aLO{V:Val}{l:Nat}{x:Nat×Nat}(h:V l=none):V.le (V.add l x):=by
 intro m y e;unfold Val.add;split
 ·rename_i hm;subst hm;rw [h]at e;cases e
 ·exact e
theorem aLI(V:Val)(l:Nat)(x:Nat×Nat):V.add l x l=some x:=by simp [Val.add]
theorem aMa(V:Val){l m:Nat}(x:Nat×Nat)(h:m≠l):V.add l x m=V m:=by simp [Val.add,h]
def bE.put(h:bE A)(l:Nat)(e:Option (aG A)):bE A:=fun m=>if m=l then e else h m
end Go.Sh
namespace Go.Sh
open Go
variable [Con] {A:Type} {I:Itp A}
theorem aMf(b:Nat)(o:Obj):PHeap.one b o b=some o:=by simp [PHeap.one]
theorem aMm{b c:Nat}(o:Obj)(h:c≠b):PHeap.one b o c=none:=by simp [PHeap.one,h]
theorem PHeap.one_sub{b:Nat}{o:Obj}{w:World} :(PHeap.one b o).sub w↔w.heap[b]? =some o:=by
 constructor
 ·intro h;exact h b o (aMf b o)
 ·intro h c p e
  by_cases hc:c=b
  ·subst hc;rw [aMf]at e;cases e;exact h
  ·rw [aMm _ hc]at e;cases e
theorem Inv.cells{V:Val}{h:bE A}{hR:PHeap}{w:World}(hi:Inv I V h hR w){l:Nat}{vs:List AVal}(hl:h l=some (.cells vs)):
 ∃b k cs T rs tail,V l=some (b,k)/\w.heap[b]? =some (.cells cs T)/\cs.size=k/\cs.toList=rs++tail/\aH V vs rs:=by
 obtain⟨hs,h1,h2,h3,h4,h5,h6⟩:=hi;obtain⟨b,k,e1,cs,T,e2,e3,rs,tail,e4,r⟩:=h1 l _ hl;have:=h5 l;rw [e2]at this;exact⟨b,k,cs,T,rs,tail,e1,PHeap.one_sub.1 this,e3,e4,r⟩
theorem Inv.ints{V:Val}{h:bE A}{hR:PHeap}{w:World}(hi:Inv I V h hR w){l:Nat}{c:Code1}{xs:List Int}(hl:h l=some (.ints c xs))(hne:xs≠ []):
 ∃b k cs T tail,V l=some (b,k)/\w.heap[b]? =some (.cells cs T)/\cs.size=k/\cs.toList=xs.map c.val++tail:=by
 obtain⟨hs,h1,h2,h3,h4,h5,h6⟩:=hi;rcases h1 l _ hl with⟨e,_⟩ | ⟨b,k,e1,cs,T,tail,e2,e3,e4⟩
 ·exact(hne e).elim
 ·have:=h5 l;rw [e2]at this;exact⟨b,k,cs,T,tail,e1,PHeap.one_sub.1 this,e3,e4⟩
theorem Inv.replace{V:Val}{h:bE A}{hR:PHeap}{w w':World}(hi:Inv I V h hR w){l:Nat}{e e':aG A}(hl:h l=some e){b:Nat}{o':Obj}
 (hb: ∀g,e.interp I V l g-> ∃o,g=.one b o) (he':e'.interp I V l (.one b o')) (hw:w'.heap[b]? =some o') (hne: ∀c,c≠b->w'.heap[c]? =w.heap[c]?):
 Inv I V (h.put l (some e')) hR w':=by
 obtain⟨hs,h1,h2,h3,h4,h5,h6⟩:=hi;obtain⟨o,ho⟩:=hb _ (h1 l e hl)
 have key: ∀g:PHeap,PHeap.disj (hs l) g->g b=none:=by
  intro g d;rcases d b with d | d
  ·rw [ho,aMf]at d;cases d
  ·exact d
 have dis: ∀g:PHeap,PHeap.disj (hs l) g->PHeap.disj (.one b o') g:=by
  intro g d c
  by_cases hc:c=b
  ·subst hc;exact .inr (key g d)
  ·exact .inl (aMm _ hc)
 refine⟨fun m=>if m=l then .one b o' else hs m,?_,?_,?_,?_,?_,?_⟩
 ·intro m x hm
  by_cases aa:m=l
  ·subst aa;simp [bE.put]at hm;subst hm;simpa using he'
  ·simp [bE.put,aa]at hm;simpa [aa]using h1 m x hm
 ·intro m hm
  by_cases aa:m=l
  ·subst aa;simp [bE.put]at hm
  ·simp [bE.put,aa]at hm;simpa [aa]using h2 m hm
 ·intro m n ae
  by_cases aa:m=l
  ·have ac:n≠l:=fun e=>ae (aa.trans e.symm);simp only [aa,if_true,ac,if_false];exact dis _ (h3 l n (fun e=>ac e.symm))
  ·by_cases ac:n=l
   ·simp only [ac,if_true,aa,if_false];exact(dis _ (h3 l m (fun e=>aa e.symm))).symm
   ·simp only [aa,ac,if_false];exact h3 m n ae
 ·intro m
  by_cases aa:m=l
  ·simp only [aa,if_true];exact dis _ (h4 l)
  ·simp only [aa,if_false];exact h4 m
 ·intro m
  by_cases aa:m=l
  ·simp only [aa,if_true];exact PHeap.one_sub.2 hw
  ·simp only [aa,if_false];intro c p hc
   have:c≠b:=by
    intro e;subst e;rw [key _ (h3 l m (fun e=>aa e.symm))]at hc;cases hc
   rw [hne c this];exact h5 m c p hc
 ·refine⟨?_,h6.2⟩;intro c p hc
  have:c≠b:=by
   intro e;subst e;rw [key _ (h4 l)]at hc;cases hc
  rw [hne c this];exact h6.1 c p hc
theorem aMA{h:PHeap}{w:World}(hs:h.sub w){b:Nat}(hb:w.heap.size<=b):h b=none:=by
 cases e:h b with
 | none=>rfl
 | some o=>
   have:=hs b o e;rw [Array.getElem?_eq_none omz]at this;cases this
theorem aMq{h:PHeap}{w:World}(hs:h.sub w)(o:Obj):h.sub {w with heap:=w.heap.push o} :=by
 intro b p e;have:=hs b p e
 have aa:b<w.heap.size:=by
  cases Nat.lt_or_ge b w.heap.size with
  | inl h=>exact h
  | inr h=>rw [aMA hs h]at e;cases e
 show(w.heap.push o)[b]? =_;rw [Array.getElem?_push,if_neg omz];exact this
theorem Inv.push{V:Val}{h:bE A}{hR:PHeap}{w:World}(hi:Inv I V h hR w){l:Nat}(hV:V l=none)(hl:h l=none){o:Obj}{k:Nat}{e:aG A}
 (he:e.interp I (V.add l (w.heap.size,k)) l (.one w.heap.size o)):
 Inv I (V.add l (w.heap.size,k)) (h.put l (some e)) hR {w with heap:=w.heap.push o} :=by
 obtain⟨hs,h1,h2,h3,h4,h5,h6⟩:=hi
 have dis: ∀g:PHeap,g.sub w->PHeap.disj (.one w.heap.size o) g:=by
  intro g d c
  by_cases hc:c=w.heap.size
  ·subst hc;exact .inr (aMA d (Nat.le_refl _))
  ·exact .inl (aMm _ hc)
 refine⟨fun m=>if m=l then .one w.heap.size o else hs m,?_,?_,?_,?_,?_,⟨aMq h6.1 o,h6.2⟩⟩
 ·intro m x hm
  by_cases aa:m=l
  ·subst aa;simp [bE.put]at hm;subst hm;simpa using he
  ·simp [bE.put,aa]at hm;simpa [aa]using aLR (aLO hV) (h1 m x hm)
 ·intro m hm
  by_cases aa:m=l
  ·subst aa;simp [bE.put]at hm
  ·simp [bE.put,aa]at hm;simpa [aa]using h2 m hm
 ·intro m n ae
  by_cases aa:m=l
  ·have ac:n≠l:=fun e=>ae (aa.trans e.symm);simp only [aa,if_true,ac,if_false];exact dis _ (h5 n)
  ·by_cases ac:n=l
   ·simp only [ac,if_true,aa,if_false];exact(dis _ (h5 m)).symm
   ·simp only [aa,ac,if_false];exact h3 m n ae
 ·intro m
  by_cases aa:m=l
  ·simp only [aa,if_true];exact dis _ h6.1
  ·simp only [aa,if_false];exact h4 m
 ·intro m
  by_cases aa:m=l
  ·simp only [aa,if_true];refine PHeap.one_sub.2 ?_;show(w.heap.push o)[w.heap.size]? =_
   simp
  ·simp only [aa,if_false];exact aMq (h5 m) o
theorem Inv.kill{V:Val}{h:bE A}{hR:PHeap}{w:World}(hi:Inv I V h hR w)(l:Nat):Inv I V (h.put l none) hR w:=by
 obtain⟨hs,h1,h2,h3,h4,h5,h6⟩:=hi;refine⟨fun m=>if m=l then .emp else hs m,?_,?_,?_,?_,?_,h6⟩
 ·intro m x hm
  by_cases aa:m=l
  ·subst aa;simp [bE.put]at hm
  ·simp [bE.put,aa]at hm;simpa [aa]using h1 m x hm
 ·intro m hm
  by_cases aa:m=l
  ·simp [aa]
  ·simp [bE.put,aa]at hm;simpa [aa]using h2 m hm
 ·intro m n ae
  by_cases aa:m=l
  ·simp only [aa,if_true];exact(aLy _).symm
  ·by_cases ac:n=l
   ·simp only [ac,if_true];exact aLy _
   ·simp only [aa,ac,if_false];exact h3 m n ae
 ·intro m
  by_cases aa:m=l
  ·simp only [aa,if_true];exact(aLy _).symm
  ·simp only [aa,if_false];exact h4 m
 ·intro m
  by_cases aa:m=l
  ·simp only [aa,if_true];exact aLX _
  ·simp only [aa,if_false];exact h5 m
theorem Inv.move{V V':Val}{h:bE A}{hR:PHeap}{w:World}(hi:Inv I V h hR w){l m:Nat}(hne:m≠l){e e':aG A}(hl:h l=some e)(hm:h m=none)(hV:V.le V')
 (hc: ∀g,e.interp I V l g->e'.interp I V' m g):Inv I V' ((h.put l none).put m (some e')) hR w:=by
 obtain⟨hs,h1,h2,h3,h4,h5,h6⟩:=hi;refine⟨fun n=>if n=m then hs l else if n=l then .emp else hs n,?_,?_,?_,?_,?_,h6⟩
 ·intro n x hn
  by_cases aa:n=m
  ·subst aa;simp [bE.put]at hn;subst hn;simpa using hc _ (h1 l e hl)
  ·by_cases ac:n=l
   ·subst ac;simp [bE.put,aa]at hn
   ·simp [bE.put,aa,ac]at hn;simpa [aa,ac]using aLR hV (h1 n x hn)
 ·intro n hn
  by_cases aa:n=m
  ·subst aa;simp [bE.put]at hn
  ·by_cases ac:n=l
   ·simp [ac,hne.symm]
   ·simp [bE.put,aa,ac]at hn;simpa [aa,ac]using h2 n hn
 ·intro n p ag;have em:hs m=.emp :=h2 m hm
  by_cases aa:n=m
  ·have af:p≠m:=fun e=>ag (aa.trans e.symm);simp only [aa,if_true,af,if_false]
   by_cases ae:p=l
   ·simp only [ae,if_true];exact aLy _
   ·simp only [ae,if_false];exact h3 l p (fun e=>ae e.symm)
  ·simp only [aa,if_false]
   by_cases ac:n=l
   ·simp only [ac,if_true];exact(aLy _).symm
   ·simp only [ac,if_false]
    by_cases af:p=m
    ·simp only [af,if_true];exact h3 n l ac
    ·simp only [af,if_false]
     by_cases ae:p=l
     ·simp only [ae,if_true];exact aLy _
     ·simp only [ae,if_false];exact h3 n p ag
 ·intro n
  by_cases aa:n=m
  ·simp only [aa,if_true];exact h4 l
  ·by_cases ac:n=l
   ·have: ∀g:PHeap,(if n=m then hs l else if n=l then PHeap.emp else g)=.emp :=fun g=>by rw [if_neg aa,if_pos ac]
    show(if n=m then hs l else if n=l then PHeap.emp else hs n).disj hR
    rw [this];exact(aLy _).symm
   ·simp only [aa,ac,if_false];exact h4 n
 ·intro n
  by_cases aa:n=m
  ·simp only [aa,if_true];exact h5 l
  ·by_cases ac:n=l
   ·have: ∀g:PHeap,(if n=m then hs l else if n=l then PHeap.emp else g)=.emp :=fun g=>by rw [if_neg aa,if_pos ac]
    show(if n=m then hs l else if n=l then PHeap.emp else hs n).sub w
    rw [this];exact aLX _
   ·simp only [aa,ac,if_false];exact h5 n
theorem Inv.empty{V:Val}{h:bE A}{hR:PHeap}{w:World}(hi:Inv I V h hR w){l:Nat}(hV:V l=none)(hl:h l=none)(c:Code1):Inv I (V.add l (0,0)) (h.put l (some (.ints c []))) hR w:=by
 obtain⟨hs,h1,h2,h3,h4,h5,h6⟩:=hi;refine⟨hs,?_,?_,h3,h4,h5,h6⟩
 ·intro m x hm
  by_cases aa:m=l
  ·subst aa;simp [bE.put]at hm;subst hm;exact .inl ⟨rfl,h2 m hl,0,aLI _ _ _⟩
  ·simp [bE.put,aa]at hm;exact aLR (aLO hV) (h1 m x hm)
 ·intro m hm
  by_cases aa:m=l
  ·subst aa;exact h2 m hl
  ·simp [bE.put,aa]at hm;exact h2 m hm
noncomputable def aLF(hs:Nat->PHeap):PHeap:=fun b=>
 open Classical in if h: ∃l,hs l b≠none then hs (Classical.choose h) b else none
theorem aLP{hs:Nat->PHeap}(d: ∀l m,l≠m->(hs l).disj (hs m)){l b:Nat}{o:Obj}(h:hs l b=some o):aLF hs b=some o:=by
 have hex: ∃l,hs l b≠none:=⟨l,by rw [h];simp⟩
 unfold aLF;rw [dif_pos hex];have hc:=Classical.choose_spec hex
 by_cases hl:Classical.choose hex=l
 ·rw [hl];exact h
 ·rcases d _ _ hl b with d | d
  ·exact(hc d).elim
  ·rw [h]at d;cases d
theorem aLQ{hs:Nat->PHeap}{b:Nat}{o:Obj}(h:aLF hs b=some o): ∃l,hs l b=some o:=by
 unfold aLF at h;split at h
 ·rename_i hex;exact⟨_,h⟩
 ·cases h
theorem aL8{hs:Nat->PHeap}{b:Nat}(h: ∀l,hs l b=none):aLF hs b=none:=by
 cases e:aLF hs b with
 | none=>rfl
 | some o=>obtain⟨l,hl⟩:=aLQ e;rw [h l]at hl;cases hl
def PHeap.join(h g:PHeap):PHeap:=fun b=>match h b with | some o=>some o | none=>g b
theorem PHeap.join_none{h g:PHeap}{b:Nat} :PHeap.join h g b=none↔h b=none/\g b=none:=by
 unfold PHeap.join;cases h b<;>simp
theorem aL3{h g:PHeap}{b:Nat}{o:Obj}(e:h b=some o):PHeap.join h g b=some o:=by simp [PHeap.join,e]
theorem aMb{h g:PHeap}{b:Nat}(e:h b=none):PHeap.join h g b=g b:=by simp [PHeap.join,e]
theorem Inv.split{V:Val}{h:bE A}{hR:PHeap}{w:World}(hi:Inv I V h hR w)(S:Nat->Bool):
 ∃hR',Inv I V (fun l=>if S l then h l else none) hR' w/\
  ∀V' g w',V.le V'->Inv I V' g hR' w'->(∀l,S l=false->h l≠none->g l=none)->
   Inv I V' (fun l=>if S l=false/\h l≠none then h l else g l) hR w':=by
 obtain⟨hs,h1,h2,h3,h4,h5,h6⟩:=hi
 let rs:Nat->PHeap:=fun l=>if S l then .emp else hs l
 have rd: ∀l m,l≠m->(rs l).disj (rs m):=by
  intro l m ac;show PHeap.disj (if S l then .emp else hs l) (if S m then .emp else hs m)
  split
  ·exact(aLy _).symm
  ·split
   ·exact aLy _
   ·exact h3 l m ac
 have ai: ∀b,aLF rs b=none\/hR b=none:=by
  intro b;cases e:aLF rs b with
  | none=>exact .inl rfl
  | some o=>
    obtain⟨l,hl⟩:=aLQ e
    have:hs l b≠none:=by
     have aa:(if S l then PHeap.emp else hs l) b=some o:=hl
     split at aa
     ·cases aa
     ·rw [aa];simp
    rcases h4 l b with d | d
    ·exact(this d).elim
    ·exact .inr d
 refine⟨PHeap.join hR (aLF rs),⟨fun l=>if S l then hs l else .emp,?_,?_,?_,?_,?_,?_⟩,?_⟩
 ·intro l e he;cases hS:S l with
  | true=>simp [hS]at he⊢;exact h1 l e he
  | false=>simp [hS]at he
 ·intro l hl;cases hS:S l with
  | true=>simp [hS]at hl⊢;exact h2 l hl
  | false=>simp [hS]
 ·intro l m ac;show PHeap.disj (if S l then hs l else .emp) (if S m then hs m else .emp)
  split
  ·split
   ·exact h3 l m ac
   ·exact aLy _
  ·exact(aLy _).symm
 ·intro l b;show(if S l then hs l else PHeap.emp) b=none\/_
  cases hS:S l with
  | false=>exact .inl rfl
  | true=>
    simp only [if_true];cases e:hs l b with
    | none=>exact .inl rfl
    | some o=>
      refine .inr (PHeap.join_none.2 ⟨?_,aL8 fun m=>?_⟩)
      ·rcases h4 l b with d | d
       ·rw [e]at d;cases d
       ·exact d
      ·show(if S m then PHeap.emp else hs m) b=none
       by_cases hm:S m=true
       ·rw [if_pos hm];rfl
       ·rw [if_neg hm];have:l≠m:=fun e'=>hm (e'▸hS);rcases h3 l m this b with d | d
        ·rw [e]at d;cases d
        ·exact d
 ·intro l;show(if S l then hs l else PHeap.emp).sub w
  split
  ·exact h5 l
  ·exact aLX _
 ·refine⟨?_,fun b o e=>aL3 (h6.2 b o e)⟩;intro b o e;unfold PHeap.join at e;cases er:hR b with
  | some p=>rw [er]at e;cases e;exact h6.1 b _ er
  | none=>
    rw [er]at e;obtain⟨l,hl⟩:=aLQ e;have aa:(if S l then PHeap.emp else hs l) b=some o:=hl
    split at aa
    ·cases aa
    ·exact h5 l b o aa
 ·intro V' g w' hV hg hz;obtain⟨gs,g1,g2,g3,g4,g5,g6⟩:=hg
  have af: ∀l,(rs l).sub w':=by
   intro l b o e;have:=aLP rd e;refine g6.1 b o ?_;rcases ai b with d | d
   ·rw [this]at d;cases d
   ·rw [aMb d];exact this
  have ae:hR.sub w':=fun b o e=>g6.1 b o (aL3 e)
  have ah: ∀l m,(gs l).disj (rs m):=by
   intro l m b;rcases g4 l b with d | d
   ·exact .inl d
   ·cases e:rs m b with
    | none=>exact .inr rfl
    | some o=>rw [(PHeap.join_none.1 d).2.symm,aLP rd e];exact .inr rfl
  have aj: ∀l,(gs l).disj hR:=fun l b=>(g4 l b).imp id (fun d=>(PHeap.join_none.1 d).1)
  have ag: ∀l,(rs l).disj hR:=by
   intro l;show PHeap.disj (if S l then .emp else hs l) hR
   split
   ·exact(aLy _).symm
   ·exact h4 l
  classical
  refine⟨fun l=>if S l=false/\h l≠none then rs l else gs l,?_,?_,?_,?_,?_,⟨ae,h6.2⟩⟩
  ·intro l e he
   by_cases hc:S l=false/\h l≠none
   ·simp only [if_pos hc]at he⊢;show e.interp I V' l (if S l then .emp else hs l)
    rw [if_neg (by simp [hc.1])]
    exact aLR hV (h1 l e he)
   ·simp only [if_neg hc]at he⊢;exact g1 l e he
  ·intro l hl
   by_cases hc:S l=false/\h l≠none
   ·simp only [if_pos hc]at hl;exact(hc.2 hl).elim
   ·simp only [if_neg hc]at hl⊢;exact g2 l hl
  ·intro l m ac
   by_cases hc:S l=false/\h l≠none
   ·simp only [if_pos hc]
    by_cases hd:S m=false/\h m≠none
    ·simp only [if_pos hd];exact rd l m ac
    ·simp only [if_neg hd];exact(ah m l).symm
   ·simp only [if_neg hc]
    by_cases hd:S m=false/\h m≠none
    ·simp only [if_pos hd];exact ah l m
    ·simp only [if_neg hd];exact g3 l m ac
  ·intro l
   by_cases hc:S l=false/\h l≠none
   ·simp only [if_pos hc];exact ag l
   ·simp only [if_neg hc];exact aj l
  ·intro l
   by_cases hc:S l=false/\h l≠none
   ·simp only [if_pos hc];exact af l
   ·simp only [if_neg hc];exact g5 l
mutual
def AVal.ren(ι:Nat->Nat):AVal->AVal
 | .bool b=>.bool b
 | .int k n=>.int k n
 | .str s=>.str s
 | .ptr l off=>.ptr (ι l) off
 | .slice l off len sz=>.slice (ι l) off len sz
 | .map l=>.map (ι l)
 | .func fn f c=>.func fn (aLL ι f) (aLL ι c)
 | .iface t a=>.iface t (AVal.ren ι a)
 | .agg as=>.agg (aLL ι as)
 | .tup as=>.tup (aLL ι as)
 | .raw v=>.raw v
 | .any =>.any
 | .O =>.O
 | .iview c xs=>.iview c xs
 | .view n w row=>.view n w row
 | .cptr as=>.cptr as
 | .tslice l r n w=>.tslice (ι l) r n w
 | .tptr l r w j=>.tptr (ι l) r w j
 | .empty =>.empty
def aLL(ι:Nat->Nat):List AVal->List AVal
 | []=>[]
 | a::as=>AVal.ren ι a::aLL ι as
end
mutual
theorem Rep.ren{V:Val}{ι:Nat->Nat} : ∀(a:AVal) (v:Value),Rep V (a.ren ι) v↔Rep (fun l=>V (ι l)) a v
 | .bool _,_=>Iff.rfl
 | .int _ _,_=>Iff.rfl
 | .str _,_=>Iff.rfl
 | .ptr _ _,_=>Iff.rfl
 | .slice _ _ _ _,_=>Iff.rfl
 | .map _,_=>Iff.rfl
 | .func fn f c,v=>by
   simp only [AVal.ren,Rep];constructor
   ·rintro⟨fs,cs,e,r,s⟩;exact⟨fs,cs,e,(aH.ren f _).1 r,(aH.ren c _).1 s⟩
   ·rintro⟨fs,cs,e,r,s⟩;exact⟨fs,cs,e,(aH.ren f _).2 r,(aH.ren c _).2 s⟩
 | .iface t a,v=>by
   simp only [AVal.ren,Rep];constructor
   ·rintro⟨x,e,r⟩;exact⟨x,e,(Rep.ren a _).1 r⟩
   ·rintro⟨x,e,r⟩;exact⟨x,e,(Rep.ren a _).2 r⟩
 | .agg as,v=>by
   simp only [AVal.ren,Rep];constructor
   ·rintro⟨x,e,r⟩;exact⟨x,e,(aH.ren as _).1 r⟩
   ·rintro⟨x,e,r⟩;exact⟨x,e,(aH.ren as _).2 r⟩
 | .tup as,v=>by
   simp only [AVal.ren,Rep];constructor
   ·rintro⟨x,e,r⟩;exact⟨x,e,(aH.ren as _).1 r⟩
   ·rintro⟨x,e,r⟩;exact⟨x,e,(aH.ren as _).2 r⟩
 | .raw _,_=>Iff.rfl
 | .any,_=>Iff.rfl
 | .O,_=>Iff.rfl
 | .iview _ _,_=>Iff.rfl
 | .view _ _ _,_=>Iff.rfl
 | .cptr _,_=>Iff.rfl
 | .tslice _ _ _ _,_=>Iff.rfl
 | .tptr _ _ _ _,_=>Iff.rfl
 | .empty,_=>Iff.rfl
theorem aH.ren{V:Val}{ι:Nat->Nat} : ∀(a:List AVal) (v:List Value),aH V (aLL ι a) v↔aH (fun l=>V (ι l)) a v
 | [],_=>Iff.rfl
 | a::as,v=>by
   simp only [aLL,aH];constructor
   ·rintro⟨x,xs,e,r,s⟩;exact⟨x,xs,e,(Rep.ren a _).1 r,(aH.ren as _).1 s⟩
   ·rintro⟨x,xs,e,r,s⟩;exact⟨x,xs,e,(Rep.ren a _).2 r,(aH.ren as _).2 s⟩
end
def aG.ren(ι:Nat->Nat):aG A->aG A
 | .cells vs=>.cells (aLL ι vs)
 | .ints c xs=>.ints c xs
 | .abs t ps=>.abs t (ps.map ι)
 | .tab ks rows=>.tab ks rows
 | .imap kk vc m=>.imap kk vc m
 | .iter lm kk vc m left cur=>.iter (ι lm) kk vc m left cur
theorem aG.interp_ren{V:Val}{ι:Nat->Nat}{l:Nat}{e:aG A}{g:PHeap} :
 (e.ren ι).interp I V (ι l) g↔e.interp I (fun l=>V (ι l)) l g:=by
 cases e with
 | cells vs=>
   simp only [aG.ren,aG.interp];constructor
   ·rintro⟨b,k,e1,cs,T,e2,e3,rs,tail,e4,r⟩;exact⟨b,k,e1,cs,T,e2,e3,rs,tail,e4,(aH.ren vs _).1 r⟩
   ·rintro⟨b,k,e1,cs,T,e2,e3,rs,tail,e4,r⟩;exact⟨b,k,e1,cs,T,e2,e3,rs,tail,e4,(aH.ren vs _).2 r⟩
 | ints c xs=>exact Iff.rfl
 | abs t ps=>
   simp only [aG.ren,aG.interp];constructor
   ·rintro⟨b,k,e1,bs,hb,r⟩;exact⟨b,k,e1,bs,gG.ren.1 hb,r⟩
   ·rintro⟨b,k,e1,bs,hb,r⟩;exact⟨b,k,e1,bs,gG.ren.2 hb,r⟩
 | tab ks rows=>exact Iff.rfl
 | imap kk vc m=>exact Iff.rfl
 | iter lm kk vc m left cur=>exact Iff.rfl
theorem aL4{V:Val}{h h0:bE A}{hR:PHeap}{w:World}{ι:Nat->Nat}(hinj: ∀l m,ι l=ι m->l=m)
 (he: ∀l,h (ι l)=(h0 l).map (aG.ren ι)) (hz: ∀m,(∀l,ι l≠m)->h m=none):
 Inv I V h hR w↔Inv I (fun l=>V (ι l)) h0 hR w:=by
 constructor
 ·rintro⟨hs,h1,h2,h3,h4,h5,h6⟩;refine⟨fun l=>hs (ι l),?_,?_,?_,fun l=>h4 _,fun l=>h5 _,h6⟩
  ·intro l e hl;exact aG.interp_ren.1 (h1 (ι l) (e.ren ι) (by rw [he,hl];rfl))
  ·intro l hl;exact h2 (ι l) (by rw [he,hl];rfl)
  ·intro l m ah;exact h3 _ _ (fun e=>ah (hinj _ _ e))
 ·rintro⟨hs,h1,h2,h3,h4,h5,h6⟩
  classical
  let gs:Nat->PHeap:=fun m=>if hm: ∃l,ι l=m then hs (Classical.choose hm)else .emp
  have ac: ∀l,gs (ι l)=hs l:=by
   intro l;have hm: ∃k,ι k=ι l:=⟨l,rfl⟩;show(if hm: ∃k,ι k=ι l then hs (Classical.choose hm)else PHeap.emp)=hs l
   rw [dif_pos hm,hinj _ _ (Classical.choose_spec hm)]
  have af: ∀m,(∀l,ι l≠m)->gs m=.emp :=by
   intro m hm;show(if hm: ∃k,ι k=m then hs (Classical.choose hm)else PHeap.emp)=.emp
   rw [dif_neg (by rintro⟨l,hl⟩;exact hm l hl)]
  have aa: ∀m,(∃l,ι l=m)\/(∀l,ι l≠m):=by
   intro m
   by_cases hm: ∃l,ι l=m
   ·exact .inl hm
   ·exact .inr fun l hl=>hm ⟨l,hl⟩
  refine⟨gs,?_,?_,?_,?_,?_,h6⟩
  ·intro m e hm;rcases aa m with⟨l,rfl⟩ | hn
   ·rw [he]at hm;cases ae:h0 l with
    | none=>rw [ae]at hm;cases hm
    | some e0=>
      rw [ae]at hm;cases hm;rw [ac];exact aG.interp_ren.2 (h1 l e0 ae)
   ·rw [hz m hn]at hm;cases hm
  ·intro m hm;rcases aa m with⟨l,rfl⟩ | hn
   ·rw [he]at hm;cases ae:h0 l with
    | none=>rw [ac];exact h2 l ae
    | some e0=>rw [ae]at hm;cases hm
   ·exact af m hn
  ·intro m n ag;rcases aa m with⟨l,rfl⟩ | hm
   ·rcases aa n with⟨k,rfl⟩ | hn
    ·rw [ac,ac];exact h3 l k (fun e=>ag (e▸rfl))
    ·rw [af n hn];exact aLy _
   ·rw [af m hm];exact(aLy _).symm
  ·intro m;rcases aa m with⟨l,rfl⟩ | hm
   ·rw [ac];exact h4 l
   ·rw [af m hm];exact(aLy _).symm
  ·intro m;rcases aa m with⟨l,rfl⟩ | hm
   ·rw [ac];exact h5 l
   ·rw [af m hm];exact aLX _
end Go.Sh
namespace Go.Sh
open Go
def ilt(a b:Int):Bool:=decide (a<b)
def ile(a b:Int):Bool:=decide (a<=b)
def ieq(a b:Int):Bool:=a == b
def seq(a b:ByteArray):Bool:=a.toList == b.toList
theorem bC(a b:Int):ilt a b=decide (a<b):=rfl
theorem cD(a b:Int):ile a b=decide (a<=b):=rfl
theorem cI(a b:Int):ieq a b=(a == b):=rfl
theorem IX(a b:ByteArray):seq a b=(a.toList == b.toList):=rfl
end Go.Sh
namespace Go.Sh
open Go
variable {A:Type} {I:Itp A}
abbrev aC(A:Type):=List (Option (aG A))
def aL(h:aC A)(l:Nat):Option (aG A):=h.getD l none
def toF(h:aC A):bE A:=fun l=>aL h l
structure ORes (A:Type) where
 v:AVal
 upd:List (Nat×Option (aG A))
 new:List (aG A)
 foot:List Nat
 need:Option Prop
abbrev onp:Option Prop->Prop
 | none=>True
 | some p=>p
def ORes.obl(r:ORes A):Prop:=onp r.need
def AR:Option Prop->Prop->Prop
 | none,q=>q
 | some p,q=>p/\q
theorem oK{p:Option Prop}{q:Prop} :AR p q↔onp p/\q:=by
 cases p with
 | none=>exact⟨fun h=>⟨trivial,h⟩,fun h=>h.2⟩
 | some p=>exact Iff.rfl
def cK(b:Bool)(q:Prop):Prop:=cond b q False
theorem bL{b:Bool}{q:Prop} :cK b q↔b=true/\q:=by
 cases b with
 | true=>exact⟨fun h=>⟨rfl,h⟩,fun h=>h.2⟩
 | false=>exact⟨fun h=>h.elim,fun h=>Bool.noConfusion h.1⟩
def oJ:Option Prop->Prop->Option Prop
 | none,q=>some q
 | some p,q=>some (p/\q)
theorem eY{p:Option Prop}{q:Prop} :onp (oJ p q)↔onp p/\q:=by
 cases p with
 | none=>exact⟨fun h=>⟨trivial,h⟩,fun h=>h.2⟩
 | some p=>exact Iff.rfl
def hupd(h:aC A)(u:List (Nat×Option (aG A))):aC A:=u.foldl (fun h x=>h.set x.1 x.2) h
def ORes.apply(r:ORes A)(h:aC A):aC A:=hupd h r.upd++r.new.map some
def ORes.applyF(r:ORes A)(h:aC A):aC A:=match r.upd,r.new with
 | [],[]=>h
 | u,[]=>hupd h u
 | u,n=>hupd h u++n.map some
theorem sV(r:ORes A)(h:aC A):r.applyF h=r.apply h:=by
 obtain⟨v,upd,new,foot,need⟩:=r;cases upd<;>cases new<;>simp [ORes.applyF,ORes.apply,hupd]
def tD:Value->AVal
 | .bool b=>.bool b
 | .int k n=>.int k n
 | .string s=>.str s
 | v=>.raw v
def jL:Value->AVal
 | .agg cs=>.agg (cs.toList.map tD)
 | .bool b=>.bool b
 | .int k n=>.int k n
 | .string s=>.str s
 | .func fn fs cs=>.func fn (fs.toList.map tD) (cs.toList.map tD)
 | v=>.raw v
def AVal.cells:AVal->List AVal
 | .agg cs=>cs
 | .raw v=>v.cells.toList.map .raw
 | a=>[a]
def AVal.told:AVal->Bool
 | .O =>false
 | _=>true
def AVal.atom:AVal->Bool
 | .O =>false
 | .agg _=>false
 | .tup _=>false
 | .raw v=>v.oneCell'
 | _=>true
def dK(tm:List AVal):Operand->AVal
 | .tmp t=>tm.getD t (.raw undef)
 | .const v=>jL v
 | .global g=>.raw (.pointer (some ⟨g,0,none⟩))
 | .func f=>.func (.func f) [] []
def eZ(P:Program)(t:TypeId):Option Bool:=
 match P.underlying t with
 | some (.struct _)=>some true
 | some (.array _ _)=>some true
 | some _=>some false
 | none=>none
def bW(P:Program)(t:TypeId):Option Nat:=(P.info? t).map (·.size)
def apart(P:Program)(t:TypeId)(cs:List AVal)(off:Nat):Option AVal:=
 match eZ P t,bW P t with
 | some true,some n=>some (.agg ((cs.drop off).take n))
 | some false,_=>cs[off]?
 | _,_=>none
def over:List AVal->Nat->List AVal->List AVal
 | cs,_,[]=>cs
 | cs,off,x::xs=>over (cs.set off x) (off+1) xs
def mC(place:Nat->Option (Nat×Nat))(cells:List AVal):List (Nat×AVal)->Option (List AVal)
 | []=>some cells
 | (i,v)::rest=>
   match place i with
   | none=>none
   | some (off,size)=>
     if (v.cells.length=size/\off+v.cells.length<=cells.length)/\v.told=true then mC place (over cells off v.cells) rest else none
def lP(P:Program)(fs:Array Field)(i:Nat):Option (Nat×Nat):=
 match fs[i]? with
 | some f=>(bW P f.type).map fun n=>(f.offset,n)
 | none=>none
def ORes.pure(v:AVal):ORes A:= {v,upd:=[],new:=[],foot:=[],need:=none}
def ORes.pureIf(v:AVal)(p:Option Prop):ORes A:= {v,upd:=[],new:=[],foot:=[],need:=p}
def aeqF(P:Program)(rec:TypeId->AVal->AVal->Option Bool)(xs ys:List AVal):List Field->Option Bool
 | []=>some true
 | f::fs=>
   if f.name= "_" then aeqF P rec xs ys fs else
   match apart P f.type xs f.offset,apart P f.type ys f.offset with
   | some a,some b=>
     match rec f.type a b with
     | some r=>match aeqF P rec xs ys fs with
       | some q=>some (r&&q)
       | none=>none
     | none=>none
   | _,_=>none
def aeq(P:Program):Nat->TypeId->AVal->AVal->Option Bool
 | 0,_,_,_=>none
 | d+1,t,x,y=>
   match P.underlying t,x,y with
   | some .bool,.bool a,.bool b=>some (cond a b (!b))
   | some (.int _),.int k a,.int k' b=>if k=k' then some (ieq a b)else none
   | some .string,.str a,.str b=>some (seq a b)
   | some (.pointer _),.raw (.pointer none),.raw (.pointer none)=>some true
   | some (.pointer _),.raw (.pointer none),.ptr _ _=>some false
   | some (.pointer _),.ptr _ _,.raw (.pointer none)=>some false
   | some (.struct fs),.agg xs,.agg ys=>
     if P.stoodInHeld t then none else aeqF P (aeq P d) xs ys fs.toList
   | _,_,_=>none
def aDa(P:Program)(op:BinOp)(t:TypeId)(x y:AVal):Option (AVal×Option Prop):=
 match x,y with
 | .int k a,.int k' b=>
   match op with
   | .shl =>some (.int k (k.wrap (a*2^(min b.toNat k.bits))),some (0<=b))
   | .shr =>some (.int k (a.fdiv (2^(min b.toNat k.bits))),some (0<=b))
   | .add =>if k=k' then some (.int k (k.wrap (a+b)),none)else none
   | .sub =>if k=k' then some (.int k (k.wrap (a - b)),none)else none
   | .mul =>if k=k' then some (.int k (k.wrap (a*b)),none)else none
   | .quo =>if k=k' then some (.int k (k.wrap (a.tdiv b)),some (b≠0))else none
   | .rem =>if k=k' then some (.int k (a.tmod b),some (b≠0))else none
   | .and =>if k=k' then some (.int k (k.wrap (BitVec.ofInt k.bits a&&&BitVec.ofInt k.bits b).toNat),none)else none
   | .or =>if k=k' then some (.int k (k.wrap (BitVec.ofInt k.bits a|||BitVec.ofInt k.bits b).toNat),none)else none
   | .xor =>if k=k' then some (.int k (k.wrap (BitVec.ofInt k.bits a ^^^ BitVec.ofInt k.bits b).toNat),none)else none
   | .andNot =>if k=k' then some (.int k (k.wrap (BitVec.ofInt k.bits a&&& ~~~ BitVec.ofInt k.bits b).toNat),none)else none
   | .eql =>if k=k' then some (.bool (ieq a b),none)else none
   | .neq =>if k=k' then some (.bool (!ieq a b),none)else none
   | .lss =>if k=k' then some (.bool (ilt a b),none)else none
   | .leq =>if k=k' then some (.bool (ile a b),none)else none
   | .gtr =>if k=k' then some (.bool (ilt b a),none)else none
   | .geq =>if k=k' then some (.bool (ile b a),none)else none
 | .str a,.str b=>
   match op with
   | .add =>some (.str (a++b),some (a.size+b.size<=9223372036854775807))
   | .eql =>some (.bool (seq a b),none)
   | .neq =>some (.bool (!(seq a b)),none)
   | _=>none
 | x,y=>
   if P.eqGuardType P.depth t=true then none else
   match op with
   | .eql =>(aeq P 50 t x y).map fun r=>(.bool r,none)
   | .neq =>(aeq P 50 t x y).map fun r=>(.bool (!r),none)
   | _=>none
def rowA:List Code1->List Int->List AVal
 | [],_=>[]
 | k::ks,xs=>Code1.aval k (xs.headD 0)::rowA ks xs.tail
def lG(w:Nat)(row:List Int)(j:Nat)(ns:List Int):List Int:=
 (List.range w).map fun i=>if j<=i/\i<j+ns.length then ns.getD (i - j) 0 else row.getD i 0
def f0:Code1->AVal->Option Int
 | some k,.int k' n=>if k=k' then some n else none
 | none,.bool b=>some (cond b 1 0)
 | _,_=>none
def pX:List Code1->List AVal->Option (List Int)
 | [],[]=>some []
 | k::ks,v::vs=>match f0 k v,pX ks vs with
   | some n,some ns=>some (n::ns)
   | _,_=>none
 | _,_=>none
def nF(ks:List Code1):Nat->List AVal->Option (List (List Int))
 | 0,[]=>some []
 | 0,_::_=>none
 | n+1,vs=>match pX ks (vs.take ks.length),nF ks n (vs.drop ks.length)with
   | some r,some rs=>some (r::rs)
   | _,_=>none
def F9(P:Program)(t:TypeId)(l r w j:Nat)(h:aC A):Option (ORes A):=
 match aL h l,eZ P t,bW P t with
 | some (.tab ks rows),some true,some n=>
   if ks.length=w/\j+n<=w then some {v:=.agg (((rowA ks (rows.getD r [])).drop j).take n),upd:=[],new:=[],foot:=[l],need:=some (r<rows.length) } else none
 | some (.tab ks rows),some false,_=>
   if ks.length=w then
    match (rowA ks (rows.getD r []))[j]? with
    | some v=>some {v,upd:=[],new:=[],foot:=[l],need:=some (r<rows.length) }
    | none=>none
   else none
 | _,_,_=>none
def zW(P:Program)(t:TypeId)(l r w j:Nat)(x:AVal)(h:aC A):Option (ORes A):=
 match aL h l with
 | some (.tab ks rows)=>
   if bW P t=some x.cells.length/\ks.length=w/\j+x.cells.length<=w then
    match pX ((ks.drop j).take x.cells.length) x.cells with
    | some ns=>some {v:=.raw undef,upd:=[(l,some (.tab ks (rows.set r (lG w (rows.getD r []) j ns))))],new:=[],foot:=[l],need:=some (r<rows.length) }
    | none=>none
   else none
 | _=>none
def yI(P:Program)(t:TypeId)(l off:Nat)(h:aC A):Option (ORes A):=
 match aL h l,eZ P t,bW P t with
 | some (.cells vs),some true,some n=>
   if off+n<=vs.length then some {v:=.agg ((vs.drop off).take n),upd:=[],new:=[],foot:=[l],need:=none} else none
 | some (.cells vs),some false,_=>
   match vs[off]? with
   | some v=>some {v,upd:=[],new:=[],foot:=[l],need:=none}
   | none=>none
 | some (.ints c xs),some false,_=>some {v:=c.aval (xs.getD off 0),upd:=[],new:=[],foot:=[l],need:=some (off<xs.length) }
 | _,_,_=>none
def GJ(P:Program)(t:TypeId)(l off:Nat)(x:AVal)(h:aC A):Option (ORes A):=
 match aL h l with
 | some (.cells vs)=>
   if bW P t=some x.cells.length/\x.cells.all AVal.atom=true/\off+x.cells.length<=vs.length then
    some {v:=.raw undef,upd:=[(l,some (.cells (over vs off x.cells)))],new:=[],foot:=[l],need:=none}
   else none
 | some (.ints c xs)=>
   if bW P t=some 1 then
    match f0 c x with
    | some n=>some {v:=.raw undef,upd:=[(l,some (.ints c (xs.set off n)))],new:=[],foot:=[l],need:=some (off<xs.length) }
    | none=>none
   else none
 | _=>none
def qC(P:Program)(t:TypeId)(x i:AVal):Option (AVal×Option Prop):=
 match P.underlying t,x,i with
 | some (.slice e),.slice l off len _,.int _ n=>
   match bW P e with
   | some s=>some (.ptr l (off+n.toNat*s),some (0<=n/\n<len))
   | none=>none
 | some (.array len e),.ptr l off,.int _ n=>
   match bW P e with
   | some s=>some (.ptr l (off+n.toNat*s),some (0<=n/\n<len))
   | none=>none
 | some (.slice e),.iview c xs,.int _ n=>if bW P e=some 1 then some (.cptr [Code1.aval c (xs.getD n.toNat 0)],some (0<=n/\n<xs.length))else none
 | some (.slice e),.view m w row,.int _ n=>if bW P e=some w then some (.cptr (row n.toNat),some (0<=n/\n<m))else none
 | some (.slice e),.tslice l r m w,.int _ n=>if bW P e=some w then some (.tptr l (r+n.toNat) w 0,some (0<=n/\n<m))else none
 | some (.array len e),.tptr l r w j,.int _ n=>
   match bW P e with
   | some s=>some (.tptr l r w (j+n.toNat*s),some (0<=n/\n<len))
   | none=>none
 | some (.array len e),.cptr cs,.int _ n=>
   match bW P e with
   | some s=>some (.cptr (cs.drop (n.toNat*s)),some (0<=n/\n<len))
   | none=>none
 | _,_,_=>none
def fI(P:Program)(t:TypeId)(cs:List AVal):Option AVal:=
 match eZ P t,bW P t with
 | some true,some n=>if n<=cs.length then some (.agg (cs.take n))else none
 | some false,_=>cs[0]?
 | _,_=>none
def F6(P:Program)(t:TypeId)(x i:AVal):Option (AVal×Option Prop):=
 match P.underlying t,x,i with
 | some (.array len e),.agg cs,.int _ n=>
   match bW P e with
   | some s=>(apart P e cs (n.toNat*s)).map fun v=>(v,some (0<=n/\n<len))
   | none=>none
 | some .string,.str s,.int _ n=>some (.int .u8 ((s.data.getD n.toNat 0).toNat :Int),some (0<=n/\n.toNat<s.size))
 | _,_,_=>none
def AVal.isSlice:AVal->Bool
 | .slice _ _ _ _=>true
 | .tslice _ _ _ _=>true
 | .iview _ _=>true
 | .view _ _ _=>true
 | .empty =>true
 | .raw (.slice none 0 0)=>true
 | _=>false
def GG(P:Program)(t:TypeId)(x:AVal)(lo hi mx:Option AVal):Option (AVal×Option Prop):=
 match P.underlying t,x,mx with
 | some (.slice e),x,some (.int _ m)=>
   match bW P e,lo,hi with
   | some _,none,some (.int _ b)=>if x.isSlice=true then some (.empty,some (b=0/\m=0))else none
   | _,_,_=>none
 | some (.slice e),.tslice l r n w,none=>
   if bW P e=some w then
    match lo,hi with
    | none,none=>some (.tslice l r n w,none)
    | some (.int _ a),none=>some (.tslice l (r+a.toNat) (n - a.toNat) w,some (0<=a/\a.toNat<=n))
    | none,some (.int _ b)=>some (.tslice l r b.toNat w,some (0<=b/\b.toNat<=n))
    | some (.int _ a),some (.int _ b)=>some (.tslice l (r+a.toNat) (b.toNat - a.toNat) w,some (0<=a/\a.toNat<=b.toNat/\0<=b/\b.toNat<=n))
    | _,_=>none
   else none
 | some (.slice e),.slice l off len sz,none=>
   match bW P e,lo,hi with
   | some s,none,none=>if s=sz then some (.slice l off len sz,none)else none
   | some s,some (.int _ a),none=>if s=sz then some (.slice l (off+a.toNat*sz) (len - a.toNat) sz,some (0<=a/\a.toNat<=len))else none
   | some s,none,some (.int _ b)=>if s=sz then some (.slice l off b.toNat sz,some (0<=b/\b.toNat<=len))else none
   | some s,some (.int _ a),some (.int _ b)=>if s=sz then some (.slice l (off+a.toNat*sz) (b.toNat - a.toNat) sz,some (0<=a/\a.toNat<=b.toNat/\0<=b/\b.toNat<=len))else none
   | _,_,_=>none
 | some (.slice e),.iview c xs,none=>
   if bW P e=some 1 then
    match lo,hi with
    | none,none=>some (.iview c xs,none)
    | some (.int _ a),none=>some (.iview c (xs.drop a.toNat),some (0<=a/\a.toNat<=xs.length))
    | none,some (.int _ b)=>some (.iview c (xs.take b.toNat),some (0<=b/\b.toNat<=xs.length))
    | some (.int _ a),some (.int _ b)=>some (.iview c ((xs.take b.toNat).drop a.toNat),some (0<=a/\a.toNat<=b.toNat/\0<=b/\b.toNat<=xs.length))
    | _,_=>none
   else none
 | some (.slice e),.view m w row,none=>
   if bW P e=some w then
    match lo,hi with
    | none,none=>some (.view m w row,none)
    | some (.int _ a),none=>some (.view (m - a.toNat) w (fun i=>row (a.toNat+i)),some (0<=a/\a.toNat<=m))
    | none,some (.int _ b)=>some (.view b.toNat w row,some (0<=b/\b.toNat<=m))
    | some (.int _ a),some (.int _ b)=>some (.view (b.toNat - a.toNat) w (fun i=>row (a.toNat+i)),some (0<=a/\a.toNat<=b.toNat/\0<=b/\b.toNat<=m))
    | _,_=>none
   else none
 | some .string,.str s,none=>
   match lo,hi with
   | none,none=>some (.str (s.extract 0 s.size),none)
   | some (.int _ a),none=>some (.str (s.extract a.toNat s.size),some (0<=a/\a.toNat<=s.size))
   | none,some (.int _ b)=>some (.str (s.extract 0 b.toNat),some (0<=b/\b.toNat<=s.size))
   | some (.int _ a),some (.int _ b)=>some (.str (s.extract a.toNat b.toNat),some (0<=a/\a.toNat<=b.toNat/\0<=b/\b.toNat<=s.size))
   | _,_=>none
 | _,_,_=>none
def sW(P:Program)(t:TypeId)(x:AVal)(lo hi mx:Option AVal)(h:aC A):Option (ORes A):=
 match P.underlying t,x,mx with
 | some (.array n e),.ptr l off,none=>
   match bW P e,aL h l with
   | some s,some (.cells vs)=>
     if off+n*s<=vs.length then
      match lo,hi with
      | none,none=>some {v:=.slice l off n s,upd:=[],new:=[],foot:=[l],need:=none}
      | none,some (.int _ b)=>some {v:=.slice l off b.toNat s,upd:=[],new:=[],foot:=[l],need:=some (0<=b/\b.toNat<=n) }
      | some (.int _ a),none=>some {v:=.slice l (off+a.toNat*s) (n - a.toNat) s,upd:=[],new:=[],foot:=[l],need:=some (0<=a/\a.toNat<=n) }
      | _,_=>none
     else none
   | _,_=>none
 | _,_,_=>none
def aB3(P:Program)(src dst:TypeId)(x:AVal):Option AVal:=
 match P.underlying src,P.underlying dst,x with
 | some _,some (.int k),.int _ n=>some (.int k (k.wrap n))
 | some _,some .string,.str s=>some (.str s)
 | _,_,_=>none
def aun(op:UnOp)(x:AVal):Option AVal:=
 match op,x with
 | .not,.bool b=>some (.bool !b)
 | .neg,.int k n=>some (.int k (k.wrap (0 - n)))
 | _,_=>none
def aCa(c x y:AVal):Option AVal:=
 match c,x,y with
 | .bool b,.bool p,.bool q=>some (.bool (cond b p q))
 | .bool b,x,y=>some (cond b x y)
 | _,_,_=>none
def o9(x:AVal):Option AVal:=
 match x with
 | .ptr l off=>some (.ptr l off)
 | .cptr cs=>some (.cptr cs)
 | .tptr l r w j=>some (.tptr l r w j)
 | .iface t v=>some (.iface t v)
 | .func (.func f) a b=>some (.func (.func f) a b)
 | _=>none
def yN(P:Program)(t:TypeId):Option AVal:=((P.info? t).bind (·.zero)).map jL
def F3(P:Program)(t:TypeId)(parts:List (Nat×AVal)):Option AVal:=
 match yN P t,P.underlying t with
 | some z,some (.struct fs)=>if fs.toList.all (fun f=>(bW P f.type).isSome)=true then(mC (lP P fs) z.cells parts).map .agg else none
 | some z,some (.array _ e)=>
   match bW P e with
   | some s=>(mC (fun i=>some (i*s,s)) z.cells parts).map .agg
   | none=>none
 | _,_=>none
def nU(P:Program)(t:TypeId)(len:Nat)(parts:List (Nat×AVal))(h:aC A):Option (ORes A):=
 match P.underlying t with
 | some (.slice e)=>
   match bW P e,yN P e with
   | some s,some z=>
     if len*s<=16777216/\z.cells.length=s/\0<s then
      match mC (fun i=>some (i*s,s)) ((List.range (len*s)).map fun j=>z.cells.getD (j%s) (.raw undef)) parts with
      | some cs=>some {v:=cond (Nat.beq len 0) .empty (.slice h.length 0 len s),upd:=[],new:=[.cells cs],foot:=[],need:=none}
      | none=>none
     else none
   | _,_=>none
 | _=>none
def pA(r:Option (AVal×Option Prop)):Option (ORes A):=r.map fun x=>ORes.pureIf x.1 x.2
def fW(r:Option AVal):Option (ORes A):=r.map fun x=>ORes.pure x
def vN(P:Program)(s:TypeId)(x:AVal)(f:Nat):Option AVal:=
 match P.underlying s,x with
 | some (.struct fs),.ptr l off=>
   match fs[f]? with
   | some fd=>match bW P fd.type with
     | some (_+1)=>some (.ptr l (off+fd.offset))
     | _=>none
   | none=>none
 | some (.struct fs),.cptr cs=>
   match fs[f]? with
   | some fd=>match bW P fd.type with
     | some (_+1)=>some (.cptr (cs.drop fd.offset))
     | _=>none
   | none=>none
 | some (.struct fs),.tptr l r w j=>
   match fs[f]? with
   | some fd=>match bW P fd.type with
     | some (_+1)=>some (.tptr l r w (j+fd.offset))
     | _=>none
   | none=>none
 | _,_=>none
def P4(P:Program)(s:TypeId)(x:AVal)(f:Nat):Option AVal:=
 match P.underlying s,x with
 | some (.struct fs),.agg cs=>
   match fs[f]? with
   | some fd=>apart P fd.type cs fd.offset
   | none=>none
 | _,_=>none
def gJ:AVal->Bool
 | .raw (.slice none 0 0)=>true
 | _=>false
def jY(lt:Int->Int->Bool):AVal->List AVal->Option AVal
 | .int k n,[]=>some (.int k n)
 | .int k n,.int k' m::rest=>if k=k' then jY lt (.int k (cond (lt m n) m n)) rest else none
 | _,_=>none
def iE(c:Code1):List AVal->Option (List Int)
 | []=>some []
 | x::xs=>match f0 c x,iE c xs with
   | some n,some ns=>some (n::ns)
   | _,_=>none
def lM(x:AVal)(sz:Nat)(h:aC A):Option (aG A×Nat×List Nat×Option Prop):=
 match x with
 | .slice l off n s=>
   if s=sz then
    match aL h l with
    | some (.ints c xs)=>if sz=1 then some (.ints c ((xs.drop off).take n),n,[l],some (off+n<=xs.length))else none
    | some (.cells vs)=>if off+n*sz<=vs.length/\((vs.drop off).take (n*sz)).all AVal.atom=true then some (.cells ((vs.drop off).take (n*sz)),n,[l],none)else none
    | _=>none
   else none
 | .iview c xs=>if sz=1 then some (.ints c xs,xs.length,[],none)else none
 | .tslice l r n w=>if w=sz then
    match aL h l with
    | some (.tab ks rows)=>if ks.length=w then some (.tab ks ((rows.drop r).take n),n,[l],some (r+n<=rows.length))else none
    | _=>none
   else none
 | .empty =>some (.cells [],0,[],none)
 | x=>if gJ x then some (.cells [],0,[],none)else none
def nV:aG A->aG A->Option (aG A)
 | .ints c xs,.ints c' ys=>if c=c' then some (.ints c (xs++ys))else none
 | .ints c xs,.cells vs=>(iE c vs).map fun ys=>.ints c (xs++ys)
 | .cells vs,.ints c ys=>(iE c vs).map fun xs=>.ints c (xs++ys)
 | .cells vs,.cells ws=>some (.cells (vs++ws))
 | .tab ks xs,.tab ks' ys=>if ks=ks' then some (.tab ks (xs++ys))else none
 | .tab ks xs,.cells vs=>(nF ks (vs.length / ks.length) vs).map fun ys=>.tab ks (xs++ys)
 | _,_=>none
def zT(P:Program)(st xt:TypeId)(s x:AVal)(h:aC A):Option (ORes A):=
 match P.underlying st,P.underlying xt with
 | some (.slice e),some (.slice _)=>
   match P.info? e with
   | some i=>
     if 0<i.size/\i.bytes<=4096/\(i.zero.map fun z=>(jL z).cells.length)=some i.size then
      match lM x i.size h with
      | some (ey,m,lx,p)=>
        match s with
        | .slice l off n sz=>
          if sz=i.size/\lx.contains l=false then
           match aL h l with
           | some (.ints c xs)=>
             match nV (.ints c xs) ey with
             | some e'=>some {v:=.slice h.length 0 (n+m) sz,upd:=[(l,none)],new:=[e'],foot:=l::lx,need:=oJ p (off=0/\n=xs.length/\sz=1/\n+m<=4294967296) }
             | none=>none
           | some (.cells vs)=>
             if off=0/\n*sz=vs.length then
              match nV (.cells vs) ey with
              | some e'=>some {v:=.slice h.length 0 (n+m) sz,upd:=[(l,none)],new:=[e'],foot:=l::lx,need:=oJ p (n+m<=4294967296) }
              | none=>none
             else none
           | _=>none
          else none
        | .tslice l r n w=>
          if w=i.size/\lx.contains l=false then
           match aL h l with
           | some (.tab ks rows)=>
             if ks.length=w then
              match nV (.tab ks rows) ey with
              | some e'=>some {v:=.tslice h.length 0 (n+m) w,upd:=[(l,none)],new:=[e'],foot:=l::lx,need:=oJ p (r=0/\n=rows.length/\n+m<=4294967296) }
              | none=>none
             else none
           | _=>none
          else none
        | .empty =>
           match ey with
           | .cells []=>some {v:=.empty,upd:=[],new:=[],foot:=lx,need:=oJ p (m=0) }
           | .tab ks ys=>if ks.length=i.size then some {v:=.tslice h.length 0 m i.size,upd:=[],new:=[.tab ks ys],foot:=lx,need:=oJ p (m<=4294967296) } else none
           | ey=>some {v:=.slice h.length 0 m i.size,upd:=[],new:=[ey],foot:=lx,need:=oJ p (m<=4294967296) }
        | s=>if gJ s then
           match ey with
           | .cells []=>some {v:=.raw (.slice none 0 0),upd:=[],new:=[],foot:=lx,need:=oJ p (m=0) }
           | .tab ks ys=>if ks.length=i.size then some {v:=.tslice h.length 0 m i.size,upd:=[],new:=[.tab ks ys],foot:=lx,need:=oJ p (m<=4294967296) } else none
           | ey=>some {v:=.slice h.length 0 m i.size,upd:=[],new:=[ey],foot:=lx,need:=oJ p (m<=4294967296) }
          else none
      | none=>none
     else none
   | none=>none
 | _,_=>none
def aDf(P:Program)(t:TypeId)(x:AVal):Option AVal:=
 match P.underlying t,x with
 | some .string,.str s=>some (.int .i64 (s.size:Int))
 | some (.slice _),.slice _ _ n _=>some (.int .i64 (n:Int))
 | some (.slice _),.raw (.slice _ n _)=>some (.int .i64 (n:Int))
 | some (.slice _),.iview _ xs=>some (.int .i64 (xs.length:Int))
 | some (.slice _),.view n _ _=>some (.int .i64 (n:Int))
 | some (.slice _),.tslice _ _ n _=>some (.int .i64 (n:Int))
 | some (.slice _),.empty =>some (.int .i64 0)
 | some (.array n _),_=>some (.int .i64 (n:Int))
 | _,_=>none
def oM(xs:List Int)(off:Nat)(ys:List Int):List Int:=xs.take off++ys++xs.drop (off+ys.length)
def P1(P:Program)(dt:TypeId)(d x:AVal)(h:aC A):Option (ORes A):=
 match P.underlying dt with
 | some (.slice e)=>
   match bW P e,d with
   | some 1,.slice l off n 1=>
     match aL h l,lM x 1 h with
     | some (.ints c xs),some (.ints c' ys,m,lx,p)=>
       if c=c'/\lx.contains l=false then
        some {v:=.int .i64 (min m n:Nat),upd:=[(l,some (.ints c (oM xs off (ys.take (min m n)))))],new:=[],foot:=l::lx,need:=oJ p (off+n<=xs.length) }
       else none
     | some (.ints _ _),some (.cells [],0,_,_)=>some {v:=.int .i64 0,upd:=[],new:=[],foot:=[l],need:=none}
     | _,_=>none
   | _,_=>none
 | _=>none
def P6(P:Program)(t:TypeId)(x:AVal)(h:aC A):Option (ORes A):=
 match P.underlying t,x with
 | some (.map _ _),.map l=>(match aL h l with
   | some (.imap _ _ m)=>some {v:=.int .i64 (m.length:Int),upd:=[],new:=[],foot:=[l],need:=none}
   | _=>none)
 | _,_=>none
def JB(s x:AVal)(h:aC A):Bool:=cond (gJ s) (match x with
 | .slice lx _ _ _=>match aL h lx with
   | some (.cells [v])=>v.isSlice
   | _=>false
 | _=>false) false
def BO(P:Program)(b:Builtin)(ts:List TypeId)(xs:List AVal)(h:aC A):Option (ORes A):=
 match b,ts,xs with
 | .len,[t],[x]=>(match aDf P t x with
   | some v=>fW (some v)
   | none=>P6 P t x h)
 | .min,_,x::xs=>fW (jY (fun m n=>ilt m n) x xs)
 | .max,_,x::xs=>fW (jY (fun m n=>ilt n m) x xs)
 | .append,[st,xt],[s,x]=>cond (JB s x h) none (zT P st xt s x h)
 | .copy,[dt,_],[d,x]=>P1 P dt d x h
 | _,_,_=>none
def sZ:Value->Option Code1
 | .int k 0=>some (some k)
 | .bool false=>some none
 | _=>none
def D5:Value->Bool
 | .pointer none=>true
 | .slice none 0 0=>true
 | _=>false
def qD(P:Program)(t:TypeId)(n m:AVal)(h:aC A):Option (ORes A):=
 match P.underlying t,n,m with
 | some (.slice e),.int _ n,.int _ m=>
   match P.info? e with
   | some i=>
     if i.bytes<=4096/\0<i.size then
      match i.zero with
      | some z=>
        match sZ z with
        | some c=>if i.size=1 then some {v:=.slice h.length 0 n.toNat 1,upd:=[],new:=[.ints c (List.replicate n.toNat 0)],foot:=[],need:=some (0<=n/\n=m/\n<=4294967296) } else none
        | none=>cond (D5 z) none (some {v:=.slice h.length 0 n.toNat i.size,upd:=[],new:=[.cells ((List.replicate n.toNat (jL z).cells).flatten)],foot:=[],need:=some ((0<=n/\n=m/\n<=4294967296)/\(jL z).cells.length =i.size) })
      | none=>none
     else none
   | none=>none
 | _,_,_=>none
def mget(m:List (Int×Int))(k:Int):Option Int:=(m.find? fun x=>x.1 == k).map (·.2)
def dX:List (Int×Int)->Int->Int->List (Int×Int)
 | [],k,v=>[(k,v)]
 | x::m,k,v=>if x.1=k then(k,v)::m else x::dX m k v
def zU(P:Program)(t:TypeId)(x i:AVal)(ck:Bool)(h:aC A):Option (ORes A):=
 match P.underlying t,x,i with
 | some (.map kt vt),.map l,.int kk n=>
   match P.underlying kt,aL h l with
   | some (.int _),some (.imap kk' vc m)=>
     if kk=kk'/\((P.info? vt).bind (·.zero)).bind sZ=some vc then
      some {v:=if ck then .tup [Code1.aval vc ((mget m n).getD 0),.bool (mget m n).isSome]else Code1.aval vc ((mget m n).getD 0),upd:=[],new:=[],foot:=[l],need:=none}
     else none
   | _,_=>none
 | _,_,_=>none
def qE(P:Program)(t:TypeId)(x i y:AVal)(h:aC A):Option (ORes A):=
 match P.underlying t,x,i with
 | some (.map kt _),.map l,.int kk n=>
   match P.underlying kt,aL h l with
   | some (.int _),some (.imap kk' vc m)=>
     if kk=kk' then
      match f0 vc y with
      | some v=>some {v:=.raw undef,upd:=[(l,some (.imap kk vc (dX m n v)))],new:=[],foot:=[l],need:=none}
      | none=>none
     else none
   | _,_=>none
 | _,_,_=>none
def vS(P:Program)(t:TypeId)(h:aC A):Option (ORes A):=
 match P.underlying t with
 | some (.map kt vt)=>
   match P.underlying kt,(P.info? vt).bind (·.zero)with
   | some (.int kk),some z=>match sZ z with
     | some vc=>some {v:=.map h.length,upd:=[],new:=[.imap kk vc []],foot:=[],need:=none}
     | none=>none
   | _,_=>none
 | _=>none
def aop(P:Program)(ρ:Operand->AVal)(op:Op)(h:aC A):Option (ORes A):=
 match op with
 | .move x=>some (.pure (ρ x))
 | .assign x=>some (.pure (ρ x))
 | .pick c a b=>fW (aCa (ρ c) (ρ a) (ρ b))
 | .alloc e=>match yN P e with
   | some z=>some {v:=.ptr h.length 0,upd:=[],new:=[.cells z.cells],foot:=[],need:=none}
   | none=>none
 | .box _ x=>if (ρ x).told =true then some {v:=.ptr h.length 0,upd:=[],new:=[.cells (ρ x).cells],foot:=[],need:=none} else none
 | .build t parts=>fW (F3 P t (parts.toList.map fun x=>(x.1,ρ x.2)))
 | .buildSlice t len parts=>nU P t len (parts.toList.map fun x=>(x.1,ρ x.2)) h
 | .load t a=>match ρ a with
   | .ptr l off=>yI P t l off h
   | .cptr cs=>fW (fI P t cs)
   | .tptr l r w j=>F9 P t l r w j h
   | _=>none
 | .store t a x=>match ρ a with
   | .ptr l off=>GJ P t l off (ρ x) h
   | .tptr l r w j=>zW P t l r w j (ρ x) h
   | _=>none
 | .nilCheck x=>fW (o9 (ρ x))
 | .binOp op t x y _=>pA (aDa P op t (ρ x) (ρ y))
 | .unOp op _ x=>fW (aun op (ρ x))
 | .convert src dst x=>fW (aB3 P src dst (ρ x))
 | .makeInterface t x=>match P.underlying t with
   | some (.interface _)=>none
   | some _=>some (.pure (.iface t (ρ x)))
   | none=>none
 | .makeFunc fn first caps=>some (.pure (.func fn (first.toList.map ρ) (caps.toList.map ρ)))
 | .slice t x lo hi mx=>match P.underlying t with
   | some (.array _ _)=>sW P t (ρ x) (lo.map ρ) (hi.map ρ) (mx.map ρ) h
   | _=>pA (GG P t (ρ x) (lo.map ρ) (hi.map ρ) (mx.map ρ))
 | .fieldAddr s x f=>fW (vN P s (ρ x) f)
 | .field s x f=>fW (P4 P s (ρ x) f)
 | .indexAddr t x i=>pA (qC P t (ρ x) (ρ i))
 | .index t x i=>pA (F6 P t (ρ x) (ρ i))
 | .extract x i=>match ρ x with
   | .tup vs=>fW vs[i]?
   | _=>none
 | .makeSlice t n m=>qD P t (ρ n) (ρ m) h
 | .makeMap t none=>vS P t h
 | .lookup t x i ck=>zU P t (ρ x) (ρ i) ck h
 | .mapUpdate t m k v=>qE P t (ρ m) (ρ k) (ρ v) h
 | .call c=>match c.callee with
   | .builtin b=>BO P b c.argTypes.toList (c.args.toList.map ρ) h
   | _=>none
 | _=>none
end Go.Sh
namespace Go.Sh
open Go
variable [Con] {A:Type} {I:Itp A}
theorem IH(V:Val)(v:Value):Rep V (tD v) v:=by
 cases v<;>simp [tD,Rep]
theorem kD(V:Val): ∀l:List Value,aH V (l.map tD) l
 | []=>by simp [aH]
 | v::l=>⟨v,l,rfl,IH V v,kD V l⟩
theorem zG(V:Val)(v:Value):Rep V (jL v) v:=by
 cases v with
 | agg cs=>exact⟨cs,rfl,kD V _⟩
 | func fn fs cs=>exact⟨fs,cs,rfl,kD V _,kD V _⟩
 | _=>simp [jL,Rep]
theorem EW(V:Val): ∀l:List Value,aH V (l.map .raw) l
 | []=>by simp [aH]
 | v::l=>⟨v,l,rfl,by simp [Rep],EW V l⟩
theorem mJ{V:Val}{a:AVal}{v:Value}(h:Rep V a v)(ht:a.told=true):aH V a.cells v.cells.toList:=by
 have one: ∀(a:AVal) (v:Value),Rep V a v->v.cells= #[v]->aH V [a] v.cells.toList:=by
  intro a v h e;rw [e];exact⟨v,[],rfl,h,by simp [aH]⟩
 cases a with
 | agg as=>obtain⟨cs,e,r⟩:=h;subst e;exact r
 | raw v'=>have:v=v':=h;subst this;exact EW V _
 | tup as=>have h':=h;obtain⟨cs,e,r⟩:=h;subst e;exact one _ _ h' rfl
 | bool b=>have h':=h;have:v=.bool b:=h;subst this;exact one _ _ h' rfl
 | int k n=>have h':=h;have:v=.int k n:=h;subst this;exact one _ _ h' rfl
 | str s=>have h':=h;have:v=.string s:=h;subst this;exact one _ _ h' rfl
 | ptr l off=>have h':=h;obtain⟨b,k,_,e⟩:=h;subst e;exact one _ _ h' rfl
 | slice l off len sz=>have h':=h;obtain⟨b,c,e,_⟩:=h;subst e;exact one _ _ h' rfl
 | map l=>have h':=h;obtain⟨b,k,_,e⟩:=h;subst e;exact one _ _ h' rfl
 | func fn f c=>have h':=h;obtain⟨b,k,e,_⟩:=h;subst e;exact one _ _ h' rfl
 | iface t x=>have h':=h;obtain⟨b,e,_⟩:=h;subst e;exact one _ _ h' rfl
 | iview c xs=>have h':=h;obtain⟨b,c,e,_⟩:=h;subst e;exact one _ _ h' rfl
 | view n w row=>have h':=h;obtain⟨b,c,e,_⟩:=h;subst e;exact one _ _ h' rfl
 | cptr as=>have h':=h;obtain⟨b,off,cs,T,fz,e,_⟩:=h;subst e;exact one _ _ h' rfl
 | tslice l r n w=>have h':=h;obtain⟨b,c,e,_⟩:=h;subst e;exact one _ _ h' rfl
 | tptr l r w j=>have h':=h;obtain⟨b,k,_,e⟩:=h;subst e;exact one _ _ h' rfl
 | empty=>have h':=h;obtain⟨b,e⟩:=h;subst e;exact one _ _ h' rfl
 | any=>
   have h':v.oneCell'=true:=h;refine one _ _ h ?_;cases v<;>first | rfl | cases h'
 | O=>cases ht
theorem H7(v:Value):(jL v).told =true:=by cases v<;>rfl
theorem dI(V:Val)(v:Value):aH V (jL v).cells v.cells.toList:=mJ (zG V v) (H7 v)
theorem UX{V:Val}{a:AVal}{v:Value}(h:Rep V a v)(ha:a.atom=true):v.oneCell'=true:=by
 cases a with
 | agg as=>cases ha
 | tup as=>cases ha
 | raw v'=>have:v=v':=h;subst this;exact ha
 | bool b=>have:v=.bool b:=h;subst this;rfl
 | int k n=>have:v=.int k n:=h;subst this;rfl
 | str s=>have:v=.string s:=h;subst this;rfl
 | ptr l off=>obtain⟨b,k,_,e⟩:=h;subst e;rfl
 | slice l off len sz=>obtain⟨b,c,e,_⟩:=h;subst e;rfl
 | map l=>obtain⟨b,k,_,e⟩:=h;subst e;rfl
 | func fn f c=>obtain⟨b,k,e,_⟩:=h;subst e;rfl
 | iface t x=>obtain⟨b,e,_⟩:=h;subst e;rfl
 | any=>exact h
 | iview c xs=>obtain⟨b,c,e,_⟩:=h;subst e;rfl
 | view n w row=>obtain⟨b,c,e,_⟩:=h;subst e;rfl
 | cptr as=>obtain⟨b,off,cs,T,fz,e,_⟩:=h;subst e;rfl
 | tslice l r n w=>obtain⟨b,c,e,_⟩:=h;subst e;rfl
 | tptr l r w j=>obtain⟨b,k,_,e⟩:=h;subst e;rfl
 | empty=>obtain⟨b,e⟩:=h;subst e;rfl
 | O=>cases ha
theorem aMh(V:Val)(c:Code1)(n:Int):Rep V (c.aval n) (c.val n):=by
 cases c<;>simp [Code1.aval,Code1.val,Rep]
theorem cN{h:aC A}{k:aC A}{l:Nat}(hl:l<h.length):aL (h++k) l=aL h l:=by
 simp [aL,List.getD,List.getElem?_append_left hl]
theorem cC{h:aC A}{l:Nat}(hl:h.length<=l):aL h l=none:=by
 simp [aL,List.getD,List.getElem?_eq_none hl]
theorem cH{h:aC A}{l:Nat}{e:aG A}(hl:aL h l=some e):l<h.length:=by
 cases Nat.lt_or_ge l h.length with
 | inl h=>exact h
 | inr g=>rw [cC g]at hl;cases hl
theorem fO(h:aC A)(e:aG A):toF (h++ [some e])=(toF h).put h.length (some e):=by
 funext l;show aL (h++ [some e]) l=if l=h.length then some e else aL h l
 by_cases hl:l=h.length
 ·subst hl;simp [aL,List.getD]
 ·rw [if_neg hl];cases Nat.lt_or_ge l h.length with
  | inl g=>exact cN g
  | inr g=>rw [cC (by simp;omega),cC g]
theorem eR{h:aC A}{l:Nat}(e:Option (aG A))(hl:l<h.length):toF (h.set l e)=(toF h).put l e:=by
 funext m;show aL (h.set l e) m=if m=l then e else aL h m
 by_cases hm:m=l
 ·subst hm;simp [aL,List.getD,hl]
 ·rw [if_neg hm];simp [aL,List.getD,List.getElem?_set_ne (Ne.symm hm)]
def dG(I:Itp A)(P:Program)(V:Val)(n:Nat)(hR:PHeap)(w:World)(v:AVal)(h':bE A)(k:Nat)(s:Sem Next):Prop:=
 ∃nx w' V' v',s.run P w=.ok nx w'/\(nx=.value v'\/nx=.skip /\v'=undef)/\V.le V'/\
  (∀l,V l=none->V' l≠none->n<=l/\l<n+k)/\Rep V' v v'/\Inv I V' h' hR w'/\bP w w'
theorem dG.pure{P:Program}{V:Val}{n:Nat}{hR:PHeap}{w:World}{v:AVal}{h:bE A}{s:Sem Next}{v':Value}
 (hi:Inv I V h hR w) (hr:Rep V v v') (hs:s.run P w=.ok (.value v') w):dG I P V n hR w v h 0 s:=
 ⟨_,w,V,v',hs,.inl rfl,V.le_refl,fun l e h=>(h e).elim,hr,hi,aLS w⟩
section
variable {P:Program} {V:Val} {w:World}
theorem aV{t:TypeId}{n:Nat}(h:bW P t=some n):(sizeOf t).run P w=.ok n w:=by
 unfold bW at h;cases e:P.info? t with
 | none=>rw [e]at h;cases h
 | some i=>
   rw [e]at h;simp at h;simp [sizeOf,typeInfo,e,h]
theorem eK{t:TypeId}{b:Bool}(h:eZ P t=some b):(isAgg t).run P w=.ok b w:=by
 unfold eZ at h;simp only [isAgg,underlying];cases e:P.underlying t with
 | none=>rw [e]at h;cases h
 | some d=>
   rw [e]at h;cases d<;>simp at h<;>subst h<;>simp [e]
theorem pD{t:TypeId}{z:AVal}(h:yN P t=some z): ∃v,z=jL v/\(zeroValue t).run P w=.ok v w:=by
 unfold yN at h;cases e:P.info? t with
 | none=>rw [e]at h;cases h
 | some i=>
   rw [e]at h;cases e2:i.zero with
   | none=>simp [e2]at h
   | some v=>
     simp [e2]at h;exact⟨v,h.symm,by simp [zeroValue,typeInfo,e,e2]⟩
theorem pC{t:TypeId}{cs:List AVal}{off:Nat}{v:AVal}{xs:Array Value}(hp:apart P t cs off=some v)(hr:aH V cs xs.toList):
 ∃v',(part t xs off).run P w=.ok v' w/\Rep V v v':=by
 unfold apart at hp;cases e1:eZ P t with
 | none=>simp [e1]at hp
 | some b=>
   cases b with
   | true=>
     cases e2:bW P t with
     | none=>simp [e1,e2]at hp
     | some n=>
       simp [e1,e2]at hp;subst hp;refine⟨.agg (xs.extract off (off+n)),by simp [part,eK e1,aV e2],?_⟩
       refine⟨_,rfl,?_⟩;rw [Array.toList_extract];have:=(aH.take (aH.drop hr off) n)
       have e:xs.toList.extract off (off+n)=List.take n (List.drop off xs.toList):=by
        simp [List.extract]
       rw [e];exact this
   | false=>
     simp [e1]at hp;obtain⟨y,hy,r⟩:=aH.get hr off v hp;refine⟨y,?_,r⟩;have:xs[off]? =some y:=by rw [<-Array.getElem?_toList];exact hy
     simp [part,eK e1,this]
theorem uH: ∀(xs cs:List AVal) (off:Nat),(over cs off xs).length =cs.length
 | [],_,_=>rfl
 | x::xs,cs,off=>by simp [over,uH xs]
def dV:List Value->Nat->List Value->List Value
 | cs,_,[]=>cs
 | cs,off,x::xs=>dV (cs.set off x) (off+1) xs
theorem xB: ∀ {xs:List AVal} {ys:List Value} {cs:List AVal} {ds:List Value} (off:Nat),aH V xs ys->aH V cs ds->aH V (over cs off xs) (dV ds off ys)
 | [],_,_,_,_,r,s=>by rw [r];exact s
 | x::xs,_,cs,ds,off,⟨v,vs,e,r,s⟩,t=>by
   subst e;exact xB (off+1) s (aH.set t off x v r)
theorem hO: ∀(ys ds tl:List Value) (off:Nat),off+ys.length<=ds.length->dV (ds++tl) off ys=dV ds off ys++tl
 | [],_,_,_,_=>rfl
 | y::ys,ds,tl,off,h=>by
   simp only [List.length_cons]at h;simp only [dV];rw [List.set_append_left _ _ omz];exact hO ys (ds.set off y) tl (off+1) (by simp;omega)
theorem eP: ∀(ys ds:List Value) (off:Nat),(dV ds off ys).length =ds.length
 | [],_,_=>rfl
 | y::ys,ds,off=>by simp [dV,eP ys]
theorem EJ(ys:List Value): ∀(j:Nat) (cs:Array Value) (off:Nat),
 ((ys.zipIdx j).foldl (fun cs (c,i)=>cs.setIfInBounds (off+i) c) cs).toList =dV cs.toList (off+j) ys:=by
 induction ys with
 | nil=>intro j cs off;rfl
 | cons y ys ih=>
   intro j cs off;simp only [List.zipIdx_cons,List.foldl_cons,dV];rw [ih (j+1) _ off];simp [Nat.add_assoc]
theorem HG(v:Value)(cells:Array Value)(off:Nat):
 (v.cells.zipIdx.foldl (fun cs (c,j)=>cs.setIfInBounds (off+j) c) cells).toList =dV cells.toList off v.cells.toList:=by
 have:=EJ v.cells.toList 0 cells off;simp only [Nat.add_zero]at this;rw [<-this,<-Array.foldl_toList]
 simp
inductive F1 (V:Val):List (Nat×AVal)->List (Nat×Value)->Prop
 | nil:F1 V [] []
 | cons {i:Nat} {a:AVal} {v:Value} {as vs} :Rep V a v->F1 V as vs->F1 V ((i,a)::as) ((i,v)::vs)
theorem oZ{place:Nat->Option (Nat×Nat)} : ∀ {ps:List (Nat×AVal)} {qs:List (Nat×Value)} {cs:List AVal} {ds:Array Value} {out:List AVal},
 F1 V ps qs->aH V cs ds.toList->mC place cs ps=some out-> ∃out',Instr.fill place ds qs=some out'/\aH V out out'.toList
 | [],_,cs,ds,out,.nil,r,h=>by
   simp [mC]at h;subst h;exact⟨ds,rfl,r⟩
 | (i,a)::ps,_,cs,ds,out,.cons (v:=v) (vs:=vs) ra rp,r,h=>by
   simp only [mC]at h;cases hp:place i with
   | none=>rw [hp]at h;cases h
   | some x=>
     obtain⟨off,size⟩:=x;rw [hp]at h;simp only at h;split at h
     ·rename_i hc;obtain⟨hc,hct⟩:=hc;have rc:=mJ ra hct;have hlen:v.cells.size=a.cells.length:=by rw [<-Array.length_toList];exact aH.length rc
      have aa:ds.size=cs.length:=by rw [<-Array.length_toList];exact aH.length r
      have r2:=xB (cs:=cs) off rc r;rw [<-HG v ds off]at r2;obtain⟨out',h1,h2⟩:=oZ rp r2 h;refine⟨out',?_,h2⟩;simp only [Instr.fill,hp];rw [if_neg (by simp;omega)]
      exact h1
     ·cases h
end
end Go.Sh
namespace Go.Sh
open Go
variable [Con] {A:Type} {I:Itp A}
section
variable {P:Program} {V:Val}
theorem JA: ∀(d:Nat) (t:TypeId) (x y:AVal) (r:Bool) (x' y':Value) (w:World),aeq P d t x y=some r->Rep V x x'->Rep V y y'->
 ∀D,d<=D->(Op.equalIn D t x' y').run P w=.ok r w:=by
 intro d
 induction d with
 | zero=>intro t x y r x' y' w h;simp [aeq]at h
 | succ d ih=>
   intro t x y r x' y' w h hx hy D hD;obtain⟨D,rfl⟩: ∃E,D=E+1:=⟨D - 1,by omega⟩
   have aj:d<=D:=by omega
   have hgo: ∀(fs:List Field) (xs ys:List AVal) (r:Bool) (ac aa:Array Value) (w:World),aeqF P (aeq P d) xs ys fs=some r->aH V xs ac.toList->aH V ys aa.toList->
    (Op.eqFields D ac aa fs).run P w=.ok r w:=by
    intro fs
    induction fs with
    | nil=>intro xs ys r ac aa w h _ _;simp [aeqF]at h;subst h;simp [Op.eqFields]
    | cons f fs ihf=>
      intro xs ys r ac aa w h af ae;unfold aeqF at h
      by_cases hf:f.name= "_"
      ·rw [if_pos hf]at h;simp only [Op.eqFields,hf,ne_eq,not_true_eq_false,if_false];exact ihf xs ys r ac aa w h af ae
      ·rw [if_neg hf]at h;simp only [Op.eqFields,ne_eq,hf,not_false_eq_true,if_true];cases ha:apart P f.type xs f.offset with
       | none=>rw [ha]at h;cases h
       | some a=>
         cases hb:apart P f.type ys f.offset with
         | none=>rw [ha,hb]at h;cases h
         | some b=>
           rw [ha,hb]at h;simp only at h;cases hq:aeq P d f.type a b with
           | none=>rw [hq]at h;cases h
           | some q=>
             rw [hq]at h;simp only at h;cases hg:aeqF P (aeq P d) xs ys fs with
             | none=>rw [hg]at h;cases h
             | some q2=>
               rw [hg]at h;simp only [sI']at h;obtain⟨a',ra,ai⟩:=pC (w:=w) ha af;obtain⟨b',rb,ah⟩:=pC (w:=w) hb ae;have e:=ih f.type a b q a' b' w hq ai ah D aj;simp only [Sem.run_bind,ra,rb,Result.andThen_ok,e,Sem.run_ite];cases q with
               | false=>simp at h;subst h;simp
               | true=>
                 simp at h;subst h;simp only [Bool.not_true,Bool.false_eq_true,if_false];exact ihf xs ys _ ac aa w hg af ae
   unfold aeq at h;split at h
   ·rename_i hu;simp at h;subst h;have e1:x'=.bool _:=hx;have e2:y'=.bool _:=hy;subst e1 e2;rw [show∀a b:Bool,cond a b (!b)=(a == b)from by decide];exact run_equalIn_bool' w D t _ _ hu
   ·rename_i hu;split at h
    ·simp at h;subst h;have e1:x'=.int _ _:=hx;have e2:y'=.int _ _:=hy;rename_i hk;subst hk;subst e1 e2;rw [cI];exact run_equalIn_int w D t _ _ _ _ hu
    ·cases h
   ·rename_i hu;simp at h;subst h;have e1:x'=.string _:=hx;have e2:y'=.string _:=hy;subst e1 e2;rw [IX];exact run_equalIn_string w D t _ _ hu
   ·rename_i hu;simp at h;subst h;have e1:x'=.pointer none:=hx;have e2:y'=.pointer none:=hy;subst e1 e2;simp [Op.equalIn,underlying,hu]
   ·rename_i hu;simp at h;subst h;have e1:x'=.pointer none:=hx;obtain⟨b,k,_,e2⟩:=hy;subst e1 e2;simp [Op.equalIn,underlying,hu]
   ·rename_i hu;simp at h;subst h;have e1:y'=.pointer none:=hy;obtain⟨b,k,_,e2⟩:=hx;subst e1 e2;simp [Op.equalIn,underlying,hu]
   ·rename_i fs xs ys hu;split at h
    ·cases h
    ·rename_i hs;obtain⟨ac,e1,rx⟩:=hx;obtain⟨aa,e2,ry⟩:=hy;subst e1 e2;have ag:P.fieldsOf t=fs:=by simp [Program.fieldsOf,hu]
     rw [run_equalIn_struct w D t ac aa (by rw [ag];exact hu) (by simpa using hs),ag]
     exact hgo fs.toList xs ys r ac aa w h rx ry
   ·cases h
theorem tV{op:BinOp}{t:TypeId}{X Y:Operand}{x y:Value}{w:World}(h:P.eqGuardType P.depth t=false)(hn:x≠ .nilIface \/y≠ .nilIface):
 (eqGuard op t X Y x y).run P w=.ok () w:=by
 have key: ∀op:BinOp,(op=.eql \/op=.neq)->(eqGuard op t X Y x y).run P w=.ok () w:=by
  intro op ho
  have aa: ∀cs ds,(eqGuard op t X Y (.agg cs) (.agg ds)).run P w=.ok () w:=by
   intro cs ds
   obtain⟨u,hu⟩: ∃u:Sem Unit,eqGuard op t X Y (.agg cs) (.agg ds)=(do
    if !(<-program).eqGuardType (<-program).depth t then return
    if<-Op.eqGuardIn Op.maxDepth t (.agg cs) (.agg ds)then u:Sem Unit):=by
    rcases ho with rfl | rfl<;>exact⟨_,rfl⟩
   rw [hu];simp [h]
  cases x with
  | agg cs=>
    cases y with
    | agg ds=>exact aa cs ds
    | _=>rcases ho with rfl | rfl<;>rfl
  | nilIface=>
    cases y with
    | nilIface=>simp at hn
    | _=>rcases ho with rfl | rfl<;>rfl
  | _=>rcases ho with rfl | rfl<;>rfl
 cases op<;>first | rfl | exact key _ (.inl rfl) | exact key _ (.inr rfl)
theorem K5{d:Nat}{t:TypeId}{a b:AVal}{r:Bool}(h:aeq P d t a b=some r):
 (∃p q,a=.bool p/\b=.bool q)\/(∃k n k' m,a=.int k n/\b=.int k' m)\/(∃p q,a=.str p/\b=.str q)\/
 (a=.raw (.pointer none)/\b=.raw (.pointer none))\/(∃l o,a=.raw (.pointer none)/\b=.ptr l o)\/(∃l o,a=.ptr l o/\b=.raw (.pointer none))\/
 (∃xs ys,a=.agg xs/\b=.agg ys):=by
 cases d with
 | zero=>simp [aeq]at h
 | succ d=>
   unfold aeq at h;split at h
   ·exact .inl ⟨_,_,rfl,rfl⟩
   ·exact .inr (.inl ⟨_,_,_,_,rfl,rfl⟩)
   ·exact .inr (.inr (.inl ⟨_,_,rfl,rfl⟩))
   ·exact .inr (.inr (.inr (.inl ⟨rfl,rfl⟩)))
   ·exact .inr (.inr (.inr (.inr (.inl ⟨_,_,rfl,rfl⟩))))
   ·exact .inr (.inr (.inr (.inr (.inr (.inl ⟨_,_,rfl,rfl⟩)))))
   ·exact .inr (.inr (.inr (.inr (.inr (.inr ⟨_,_,rfl,rfl⟩)))))
   ·cases h
theorem B6{op:BinOp}(ho:op=.eql \/op=.neq){d:Nat}{t:TypeId}{a b:AVal}{r:Bool}{x y:Value}(h:aeq P d t a b=some r)(hx:Rep V a x)(hy:Rep V b y)
 (h1: ∀k n k' m,a=.int k n->b=.int k' m->False) (h2: ∀p q,a=.str p->b=.str q->False):
 binOp op t x y=(do let e<-Op.equal t x y;Pure.pure (.bool (if op=.neq then !e else e))):=by
 rcases K5 h with⟨p,q,rfl,rfl⟩ | ⟨k,n,k',m,rfl,rfl⟩ | ⟨p,q,rfl,rfl⟩ | ⟨rfl,rfl⟩ | ⟨l,o,rfl,rfl⟩ | ⟨l,o,rfl,rfl⟩ | ⟨xs,ys,rfl,rfl⟩
 ·have e1:x=.bool p:=hx;have e2:y=.bool q:=hy;subst e1 e2;rcases ho with rfl | rfl<;>rfl
 ·exact(h1 _ _ _ _ rfl rfl).elim
 ·exact(h2 _ _ rfl rfl).elim
 ·have e1:x=.pointer none:=hx;have e2:y=.pointer none:=hy;subst e1 e2;rcases ho with rfl | rfl<;>rfl
 ·have e1:x=.pointer none:=hx;obtain⟨b,k,_,e2⟩:=hy;subst e1 e2;rcases ho with rfl | rfl<;>rfl
 ·have e1:y=.pointer none:=hy;obtain⟨b,k,_,e2⟩:=hx;subst e1 e2;rcases ho with rfl | rfl<;>rfl
 ·obtain⟨x',e1,_⟩:=hx;obtain⟨y',e2,_⟩:=hy;subst e1 e2;rcases ho with rfl | rfl<;>rfl
theorem mK{a b:AVal}{r:Bool}{d:Nat}{t:TypeId}{x y:Value}(h:aeq P d t a b=some r)(hx:Rep V a x):x≠ .nilIface :=by
 cases d with
 | zero=>simp [aeq]at h
 | succ d=>
   unfold aeq at h;split at h
   ·rintro rfl;cases hx
   ·rintro rfl;cases hx
   ·rintro rfl;cases hx
   ·rintro rfl;cases hx
   ·rintro rfl;cases hx
   ·rintro rfl;obtain⟨_,_,_,e⟩:=hx;cases e
   ·rintro rfl;obtain⟨_,e,_⟩:=hx;cases e
   ·cases h
theorem P0{op:BinOp}{t:TypeId}{X Y:Operand}{a b v:AVal}{p:Option Prop}{x y:Value}{w:World}(h:aDa P op t a b=some (v,p))(hp:onp p)(hx:Rep V a x)(hy:Rep V b y):
 ∃v',(do eqGuard op t X Y x y;binOp op t x y:Sem Value).run P w=.ok v' w/\Rep V v v':=by
 unfold aDa at h;split at h
 ·rename_i k n k' m;have e1:x=.int k n:=hx;have e2:y=.int k' m:=hy;subst e1 e2;have hg: ∀op,eqGuard op t X Y (.int k n) (.int k' m)=Pure.pure ():=fun op=>eqGuard_at_int ..;split at h
  ·simp only [sI',pI']at h;obtain⟨rfl,rfl⟩:=h;refine⟨.int k (k.wrap (n*2^(min m.toNat k.bits))),?_,rfl⟩;have: ¬m<0:=by omega
   simp [hg,binOp,Op.shift,this]
  ·simp only [sI',pI']at h;obtain⟨rfl,rfl⟩:=h;refine⟨.int k (n.fdiv (2^(min m.toNat k.bits))),?_,rfl⟩;have: ¬m<0:=by omega
   simp [hg,binOp,Op.shift,this]
  all_goals (split at h)
  all_goals first
   | (cases h;done)
   | (simp only [sI',pI']at h
      obtain⟨rfl,rfl⟩:=h;rename_i hk;subst hk;simp [hg,binOp,Op.intArith,Op.intDiv,Op.intBits,Op.intCmp,hp,Rep,bC,cD,cI,bne])
 ·rename_i n m;have e1:x=.string n:=hx;have e2:y=.string m:=hy;subst e1 e2;have hg: ∀op,eqGuard op t X Y (.string n) (.string m)=Pure.pure ():=fun op=>eqGuard_at_string ..;split at h
  ·simp only [sI',pI']at h;obtain⟨rfl,rfl⟩:=h;have ag:IntKind.i64.max=9223372036854775807:=by decide
   have: ¬(((n.size+m.size:Nat):Int)>IntKind.i64.max):=by rw [ag];omega
   simp only [hg,binOp,Op.stringOp,Sem.run_bind,Sem.run_pure,Result.andThen_ok];rw [if_neg this];exact⟨_,rfl,rfl⟩
  ·simp only [sI',pI']at h;obtain⟨rfl,rfl⟩:=h;simp [hg,binOp,Op.stringOp,Rep,IX]
  ·simp only [sI',pI']at h;obtain⟨rfl,rfl⟩:=h;simp [hg,binOp,Op.stringOp,Rep,IX]
  ·cases h
 ·rename_i af ae;split at h
  ·cases h
  ·rename_i ah;have ac:P.eqGuardType P.depth t=false:=by simpa using ah
   have h1: ∀k n k' m,a=.int k n->b=.int k' m->False:=fun k n k' m e1 e2=>af k n k' m e1 e2;have h2: ∀p q,a=.str p->b=.str q->False:=fun p q e1 e2=>ae p q e1 e2;split at h
   ·cases he:aeq P 50 t a b with
    | none=>rw [he]at h;cases h
    | some r=>
      rw [he]at h;simp only [Option.map_some,sI',pI']at h;obtain⟨rfl,rfl⟩:=h;have aa:=JA (V:=V) 50 t a b r x y w he hx hy Op.maxDepth dS;refine⟨.bool r,?_,rfl⟩;simp only [Sem.run_bind,tV ac (.inl (mK (y:=y) he hx)),Result.andThen_ok,B6 (.inl rfl) he hx hy h1 h2,Op.equal,aa];rfl
   ·cases he:aeq P 50 t a b with
    | none=>rw [he]at h;cases h
    | some r=>
      rw [he]at h;simp only [Option.map_some,sI',pI']at h;obtain⟨rfl,rfl⟩:=h;have aa:=JA (V:=V) 50 t a b r x y w he hx hy Op.maxDepth dS;refine⟨.bool (!r),?_,rfl⟩;simp only [Sem.run_bind,tV ac (.inl (mK (y:=y) he hx)),Result.andThen_ok,B6 (.inr rfl) he hx hy h1 h2,Op.equal,aa];rfl
   ·cases h
end
end Go.Sh
namespace Go.Sh
open Go
variable [Con] {A:Type} {I:Itp A}
section
variable {P:Program} {V:Val}
theorem iY{w:World}{b off:Nat}{cs:Array Value}{T:TypeId}{fz:Nat×Nat}(hb:w.heap[b]? =some (.cells cs T fz))(l:List Value)(h: ∀j v,l[j]? =some v->cs[off+j]? =some v):
 (loadCells ⟨b,off,none⟩ l.length).run P w=.ok l.toArray w:=by
 refine run_loadCells_list w _ l fun j v hj=>?_;rw [Addr.add_lit,cell_of_row w b (off+j) cs T fz hb];exact h j v hj
theorem eG: ∀(l:List Value) (i:Nat) (w:World) (b off:Nat) (cs:Array Value) (T:TypeId),w.heap[b]? =some (.cells cs T)->(∀v∈l,v.oneCell'=true)->off+i+l.length<=cs.size->
 ∃w' cs',(storeCells ⟨b,off,none⟩ l i).run P w=.ok () w'/\w'.heap[b]? =some (.cells cs' T)/\cs'.toList=dV cs.toList (off+i) l/\(∀c,c≠b->w'.heap[c]? =w.heap[c]?)/\bP w w':=by
 intro l
 induction l with
 | nil=>intro i w b off cs T hb _ _;exact⟨w,cs,by simp [storeCells],hb,rfl,fun _ _=>rfl,aLS w⟩
 | cons v l ih=>
   intro i w b off cs T hb ho aa;simp only [List.length_cons]at aa
   have hc:w.cell? ⟨b,off+i,none⟩=some cs[off+i]:=by
    rw [cell_of_row w b (off+i) cs T (0,0) hb];exact Array.getElem?_eq_getElem omz
   have hf:w.frozen? ⟨b,off+i,none⟩=false:=frozen_of_row w b (off+i) cs T hb;have ac:=heap_setCell_same w b (off+i) cs T v hb;obtain⟨w',cs',h1,h2,h3,h4,h5⟩:=ih (i+1) (w.setCell ⟨b,off+i,none⟩ v) b off (cs.setIfInBounds (off+i) v) T ac (fun v hv=>ho v (by simp [hv])) (by simp;omega)
   refine⟨w',cs',?_,h2,?_,?_,?_⟩
   ·simp only [storeCells,Sem.run_bind,Addr.add_lit,run_store P w _ v .plain (ho v (by simp)),hc,hf]
    exact h1
   ·rw [h3];simp [dV,Nat.add_assoc]
   ·intro c hc;rw [h4 c hc,heap_setCell_other w ⟨b,off+i,none⟩ c v hc]
   ·exact bP.trans (b:=w.setCell ⟨b,off+i,none⟩ v) ⟨rfl,rfl,by simp,fun _ _=>by simp⟩ h5
theorem yJ{t:TypeId}{l off:Nat}{h:aC A}{r:ORes A}{hR:PHeap}{w:World}{x:Value}(hr:yI P t l off h=some r)(ho:r.obl)(hi:Inv I V (toF h) hR w)(hx:Rep V (.ptr l off) x):
 ∃v',(Instr.loadAt t x).run P w=.ok v' w/\Rep V r.v v'/\r.upd=[]/\r.new=[]:=by
 obtain⟨b,k,hl,rfl⟩:=hx;unfold yI at hr;split at hr
 ·rename_i vs n hh e1 e2;split at hr
  ·rename_i ah;simp at hr;subst hr;obtain⟨b',k',cs,T,rs,tail,aa,hb,hk,ae,ac⟩:=hi.cells (l:=l) hh;rw [hl]at aa;cases aa;have ai:=aH.length ac;refine⟨.agg ((rs.drop off).take n).toArray,?_,⟨_,rfl,by simpa using aH.take (aH.drop ac off) n⟩,rfl,rfl⟩
   have:=iY (P:=P) hb ((rs.drop off).take n) (off:=off) (fun j v hj=>by
    rw [<-Array.getElem?_toList,ae];rw [List.getElem?_take]at hj;split at hj
    ·rw [List.getElem?_drop]at hj;rw [List.getElem?_append_left]
     ·exact hj
     ·cases Nat.lt_or_ge (off+j) rs.length with
      | inl h=>exact h
      | inr h=>rw [List.getElem?_eq_none h]at hj;cases hj
    ·cases hj)
   have ag:((rs.drop off).take n).length =n:=by simp;omega
   rw [ag]at this;simp [Instr.loadAt,Instr.sureAddr,loadVar,eK e1,aV e2,this]
  ·cases hr
 ·rename_i vs e0 hh e1;split at hr
  ·rename_i v hv;simp at hr;subst hr;obtain⟨b',k',cs,T,rs,tail,aa,hb,hk,ae,ac⟩:=hi.cells (l:=l) hh;rw [hl]at aa;cases aa;obtain⟨y,hy,ry⟩:=aH.get ac off v hv;refine⟨y,?_,ry,rfl,rfl⟩
   have hc:w.cell? ⟨b,off,none⟩=some y:=by
    rw [cell_of_row w b off cs T (0,0) hb,<-Array.getElem?_toList,ae,List.getElem?_append_left]
    ·exact hy
    ·cases Nat.lt_or_ge off rs.length with
     | inl h=>exact h
     | inr h=>rw [List.getElem?_eq_none h]at hy;cases hy
   simp [Instr.loadAt,Instr.sureAddr,loadVar,eK e1,hc]
  ·cases hr
 ·rename_i c xs hh e1;simp at hr;subst hr;have af:off<xs.length:=ho;obtain⟨b',k',cs,T,tail,aa,hb,hk,ae⟩:=hi.ints (l:=l) hh (by intro e;subst e;simp at af)
  rw [hl]at aa;cases aa;refine⟨c.val (xs.getD off 0),?_,aMh V c _,rfl,rfl⟩
  have hc:w.cell? ⟨b,off,none⟩=some (c.val (xs.getD off 0)):=by
   rw [cell_of_row w b off cs T (0,0) hb,<-Array.getElem?_toList,ae,List.getElem?_append_left (by simpa using af)]
   simp [List.getD,af]
  simp [Instr.loadAt,Instr.sureAddr,loadVar,eK e1,hc]
 ·cases hr
theorem Inv.conW{h:bE A}{hR:PHeap}{w:World}(hi:Inv I V h hR w){b:Nat}{o:Obj}(hb:Con.con b=some o):w.heap[b]? =some o:=by
 obtain⟨_,_,_,_,_,_,h6⟩:=hi;exact h6.1 b o (h6.2 b o hb)
theorem KM(V:Val):Val.le (fun _=>none) V:=fun _ _ h=>by cases h
theorem F8{t:TypeId}{as:List AVal}{v:AVal}{h:bE A}{hR:PHeap}{w:World}{x:Value}(hr:fI P t as=some v)(hi:Inv I V h hR w)(hx:Rep V (.cptr as) x):
 ∃v',(Instr.loadAt t x).run P w=.ok v' w/\Rep V v v':=by
 obtain⟨b,off,cs,T,fz,rfl,ag,aa⟩:=hx;have hb:=hi.conW ag;unfold fI at hr;split at hr
 ·rename_i n e1 e2;split at hr
  ·rename_i ah;simp at hr;subst hr;have ae:=aH.length aa;have ac:=aH.take aa n;refine⟨.agg (((cs.toList.drop off).take as.length).take n).toArray,?_,⟨_,rfl,by simpa using aH.mono (KM V) _ _ ac⟩⟩
   have:=iY (P:=P) hb (((cs.toList.drop off).take as.length).take n) (off:=off) (fun j v hj=>by
    rw [List.getElem?_take]at hj;split at hj
    ·rw [List.getElem?_take]at hj;split at hj
     ·rw [List.getElem?_drop]at hj;rw [<-Array.getElem?_toList];exact hj
     ·cases hj
    ·cases hj)
   have af:(((cs.toList.drop off).take as.length).take n).length =n:=by rw [List.length_take,ae];omega
   rw [af]at this;simp [Instr.loadAt,Instr.sureAddr,loadVar,eK e1,aV e2,this]
  ·cases hr
 ·rename_i e0 e1;obtain⟨y,hy,ry⟩:=aH.get aa 0 v hr;refine⟨y,?_,Rep.mono (KM V) _ _ ry⟩
  have hc:w.cell? ⟨b,off,none⟩=some y:=by
   rw [cell_of_row w b off cs T fz hb,<-Array.getElem?_toList];rw [List.getElem?_take]at hy;split at hy
   ·rw [List.getElem?_drop]at hy;exact hy
   ·cases hy
  simp [Instr.loadAt,Instr.sureAddr,loadVar,eK e1,hc]
 ·cases hr
theorem yP{as:List AVal}{b off k:Nat}{cs:Array Value}{T:TypeId}{fz:Nat×Nat}(hb:Con.con b=some (.cells cs T fz))(hr:aH (fun _=>none) as ((cs.toList.drop off).take as.length)):
 Rep V (.cptr (as.drop k)) (.pointer (some ⟨b,off+k,none⟩)):=by
 refine⟨b,off+k,cs,T,fz,rfl,hb,?_⟩;have:=aH.drop hr k
 have e:List.drop k (List.take as.length (List.drop off cs.toList))=List.take (as.drop k).length (List.drop (off+k) cs.toList):=by
  rw [List.drop_take,List.drop_drop,List.length_drop]
 rw [<-e];exact this
theorem aH.all{V:Val} : ∀ {a:List AVal} {v:List Value},aH V a v->a.all AVal.atom=true-> ∀x∈v,x.oneCell'=true
 | [],_,r,_=>by rw [r];simp
 | a::as,_,⟨v,vs,e,r,s⟩,h=>by
   subst e;simp only [List.all_cons,Bool.and_eq_true]at h;intro x hx;rcases List.mem_cons.1 hx with rfl | hx
   ·exact UX r h.1
   ·exact aH.all s h.2 x hx
theorem kB{c:Code1}{x:AVal}{n:Int}{x':Value}(h:f0 c x=some n)(hx:Rep V x x'):x'=c.val n:=by
 cases c with
 | some k=>
   cases x<;>simp [f0]at h
   obtain⟨rfl,rfl⟩:=h;exact hx
 | none=>
   cases x<;>simp [f0]at h
   rename_i b;subst h;have:x'=.bool b:=hx;subst this;cases b<;>rfl
theorem OH(ds:List Value)(off:Nat)(v:Value):dV ds off [v]=ds.set off v:=rfl
theorem GK{t:TypeId}{l off:Nat}{x:AVal}{h:aC A}{r:ORes A}{hR:PHeap}{w:World}{p y:Value}(hr:GJ P t l off x h=some r)(ho:r.obl)(hi:Inv I V (toF h) hR w)(hp:Rep V (.ptr l off) p)(hy:Rep V x y):
 ∃w',(Instr.storeAt t p y).run P w=.ok () w'/\Inv I V (toF (r.apply h)) hR w'/\bP w w'/\r.v=.raw undef/\r.new=[]:=by
 obtain⟨b,k,hl,rfl⟩:=hp;unfold GJ at hr;split at hr
 ·rename_i vs hh;split at hr
  ·rename_i hc;obtain⟨e1,e2,e3⟩:=hc;simp at hr;subst hr;obtain⟨b',k',cs,T,rs,tail,ac,hb,hk,ae,ah⟩:=hi.cells (l:=l) hh;rw [hl]at ac;cases ac;have ax:=aH.length ah;have rc:=mJ hy (by cases x<;>first | rfl | (simp [AVal.cells,AVal.atom]at e2))
   have am:y.cells.toList.length=x.cells.length:=aH.length rc;have ap:cs.size=rs.length+tail.length:=by rw [<-Array.length_toList,ae];simp
   obtain⟨w',af,h1,h2,h3,h4,h5⟩:=eG (P:=P) y.cells.toList 0 w b off cs T hb (aH.all rc e2) omz;refine⟨w',?_,?_,h5,rfl,rfl⟩
   ·have:y.cells.size=x.cells.length:=by rw [<-Array.length_toList];exact am
    simp [Instr.storeAt,Instr.sureAddr,storeVar,aV e1,this,h1]
   ·have aj:=cH hh;show Inv I V (toF (hupd h [(l,some (.cells (over vs off x.cells)))]++ [])) hR w';simp only [hupd,List.foldl_cons,List.foldl_nil,List.append_nil];rw [eR _ aj];refine hi.replace (e:=.cells vs) hh (b:=b) (o':=.cells af T) ?_ ?_ h2 h4
    ·rintro g ⟨b1,k1,aa,au,T1,e4,_⟩;rw [hl]at aa;cases aa;exact⟨_,e4⟩
    ·refine⟨b,k,hl,af,T,rfl,?_,dV rs off y.cells.toList,tail,?_,xB off rc ah⟩
     ·rw [<-Array.length_toList,h3,eP,Array.length_toList];exact hk
     ·rw [h3,ae];simp only [Nat.add_zero];exact hO _ _ _ _ omz
  ·cases hr
 ·rename_i c xs hh;split at hr
  ·rename_i e1;cases ak:f0 c x with
   | none=>rw [ak]at hr;cases hr
   | some n=>
     rw [ak]at hr;simp at hr;subst hr;have ai:off<xs.length:=ho;obtain⟨b',k',cs,T,tail,ac,hb,hk,ae⟩:=hi.ints (l:=l) hh (by intro e;subst e;simp at ai)
     rw [hl]at ac;cases ac;have ao:=kB ak hy;have ag:y.cells= #[c.val n]:=by rw [ao];cases c<;>rfl
     have al:(c.val n).oneCell' =true:=by cases c<;>rfl
     have ap:cs.size=xs.length+tail.length:=by rw [<-Array.length_toList,ae];simp
     obtain⟨w',af,h1,h2,h3,h4,h5⟩:=eG (P:=P) [c.val n] 0 w b off cs T hb (by simpa using al) (by simp;omega)
     refine⟨w',?_,?_,h5,rfl,rfl⟩
     ·simp [Instr.storeAt,Instr.sureAddr,storeVar,aV e1,ag,h1]
     ·have aj:=cH hh;show Inv I V (toF (hupd h [(l,some (.ints c (xs.set off n)))]++ [])) hR w';simp only [hupd,List.foldl_cons,List.foldl_nil,List.append_nil];rw [eR _ aj];have aq:xs≠ []:=by intro e;subst e;simp at ai
      obtain⟨hs,g1,g2,g3,g4,g5,g6⟩:=hi;have ar:Inv I V (toF h) hR w:=⟨hs,g1,g2,g3,g4,g5,g6⟩;refine ar.replace (e:=.ints c xs) hh (b:=b) (o':=.cells af T) ?_ ?_ h2 h4
      ·intro g hg;rcases hg with⟨e,_⟩ | ⟨b1,k1,aa,au,T1,av,e4,_⟩
       ·exact(aq e).elim
       ·rw [hl]at aa;cases aa;exact⟨_,e4⟩
      ·refine .inr ⟨b,k,hl,af,T,tail,rfl,?_,?_⟩
       ·rw [<-Array.length_toList,h3,eP,Array.length_toList];exact hk
       ·rw [h3,ae];simp only [Nat.add_zero,OH];rw [List.set_append_left _ _ (by simpa using ai),List.map_set]
  ·cases hr
 ·cases hr
theorem yZ{h:aC A}{hR:PHeap}{w:World}(hi:Inv I V (toF h) hR w)(hV:V h.length=none){vs:List AVal}{cs:Array Value}{T:TypeId}(hr:aH V vs cs.toList):
 Inv I (V.add h.length (w.heap.size,cs.size)) (toF (h++ [some (.cells vs)])) hR {w with heap:=w.heap.push (.cells cs T) } :=by
 rw [fO];refine hi.push hV (cC (Nat.le_refl _)) ?_;exact⟨_,_,aLI _ _ _,cs,T,rfl,rfl,cs.toList,[],by simp,aH.mono (aLO hV) _ _ hr⟩
theorem iS{V:Val}{n:Nat}{x:Nat×Nat} : ∀l,V l=none->(V.add n x) l≠none->n<=l/\l<n+1:=by
 intro l h1 h2
 by_cases e:l=n
 ·subst e;omega
 ·rw [aMa V x e]at h2;exact(h2 h1).elim
theorem aMv{h:aC A}{hR:PHeap}{w:World}{s:Sem Next}(hi:Inv I V (toF h) hR w)(hV:V h.length=none){vs:List AVal}{cs:Array Value}{T:TypeId}(hr:aH V vs cs.toList)
 (hs:s.run P w=.ok (.value (.pointer (some ⟨w.heap.size,0,none⟩))) {w with heap:=w.heap.push (.cells cs T) }):
 dG I P V h.length hR w (.ptr h.length 0) (toF (h++ [some (.cells vs)])) 1 s:=by
 refine⟨_,_,V.add h.length (w.heap.size,cs.size),_,hs,.inl rfl,aLO hV,iS,?_,yZ hi hV hr,⟨rfl,rfl,by simp,fun _ _=>d7 _ _ _ _⟩⟩
 exact⟨_,_,aLI _ _ _,rfl⟩
end
end Go.Sh
namespace Go.Sh
open Go
variable [Con] {A:Type} {I:Itp A}
theorem cE: ∀(ks:List Code1) (xs:List Int),(cM ks xs).length =ks.length
 | [],_=>rfl
 | k::ks,xs=>by simp [cM,cE ks]
theorem oP: ∀(ks:List Code1) (xs:List Int),(rowA ks xs).length =ks.length
 | [],_=>rfl
 | k::ks,xs=>by simp [rowA,oP ks]
theorem jP: ∀(ks:List Code1) (xs:List Int) (i:Nat),(cM ks xs)[i]? =ks[i]?.map fun k=>Code1.val k (xs.getD i 0)
 | [],_,i=>by simp [cM]
 | k::ks,xs,0=>by cases xs<;>simp [cM]
 | k::ks,xs,i+1=>by
   simp only [cM,List.getElem?_cons_succ];rw [jP ks xs.tail i];congr 1;funext k;cases xs<;>simp
theorem FB(V:Val): ∀(ks:List Code1) (xs:List Int),aH V (rowA ks xs) (cM ks xs)
 | [],_=>rfl
 | k::ks,xs=>⟨_,_,rfl,aMh V k _,FB V ks xs.tail⟩
theorem cX(ks:List Code1): ∀rows:List (List Int),(bN ks rows).length =rows.length*ks.length
 | []=>by simp [bN]
 | r::rows=>by
   have:=cX ks rows;simp only [bN]at this;simp only [bN,List.map_cons,List.flatten_cons,List.length_append,cE,List.length_cons,this,Nat.succ_mul];omega
theorem iD(ks:List Code1)(a b:List (List Int)):bN ks (a++b)=bN ks a++bN ks b:=by simp [bN]
theorem sK(ks:List Code1)(rows:List (List Int))(r:Nat):(bN ks rows).drop (r*ks.length)=bN ks (rows.drop r):=by
 induction r generalizing rows with
 | zero=>simp
 | succ r ih=>
   cases rows with
   | nil=>simp [bN]
   | cons x rows=>
     rw [Nat.succ_mul,Nat.add_comm,<-List.drop_drop]
     have:(bN ks (x::rows)).drop ks.length=bN ks rows:=by
      simp only [bN,List.map_cons,List.flatten_cons];rw [List.drop_append_of_le_length (by rw [cE];exact Nat.le_refl _),List.drop_of_length_le (by rw [cE];exact Nat.le_refl _)]
      rfl
     rw [this,ih];rfl
theorem A8(ks:List Code1)(rows:List (List Int))(r:Nat):(bN ks rows).take (r*ks.length)=bN ks (rows.take r):=by
 induction r generalizing rows with
 | zero=>simp [bN]
 | succ r ih=>
   cases rows with
   | nil=>simp [bN]
   | cons x rows=>
     rw [Nat.succ_mul,Nat.add_comm];simp only [bN,List.map_cons,List.flatten_cons,List.take_succ_cons]
     rw [List.take_add,List.take_append_of_le_length (by rw [cE];exact Nat.le_refl _),List.take_of_length_le (by rw [cE];exact Nat.le_refl _),
      List.drop_append_of_le_length (by rw [cE];exact Nat.le_refl _),List.drop_of_length_le (by rw [cE];exact Nat.le_refl _)]
     have:=ih rows;simp only [bN]at this;simp [this]
theorem aGx{ks:List Code1}{rows:List (List Int)}{r j:Nat}(hr:r<rows.length)(hj:j<=ks.length):
 ∃rest,(bN ks rows).drop (r*ks.length+j)=(cM ks (rows.getD r [])).drop j++rest:=by
 refine⟨bN ks (rows.drop (r+1)),?_⟩;rw [<-List.drop_drop,sK,List.drop_eq_getElem_cons hr,gD',gE' hr];simp only [bN,List.map_cons,List.flatten_cons,Option.getD_some];rw [List.drop_append_of_le_length (by rw [cE];exact hj)]
theorem Inv.tab{V:Val}{h:bE A}{hR:PHeap}{w:World}(hi:Inv I V h hR w){l:Nat}{ks:List Code1}{rows:List (List Int)}(hl:h l=some (.tab ks rows))(hne:rows≠ []):
 ∃b k cs T tail,V l=some (b,k)/\w.heap[b]? =some (.cells cs T)/\cs.size=k/\cs.toList=bN ks rows++tail:=by
 obtain⟨hs,h1,h2,h3,h4,h5,h6⟩:=hi;rcases h1 l _ hl with⟨e,_⟩ | ⟨b,k,e1,cs,T,tail,e2,e3,e4⟩
 ·exact(hne e).elim
 ·have:=h5 l;rw [e2]at this;exact⟨b,k,cs,T,tail,e1,PHeap.one_sub.1 this,e3,e4⟩
theorem Inv.emptyE{V:Val}{h:bE A}{hR:PHeap}{w:World}(hi:Inv I V h hR w){l:Nat}(hV:V l=none)(hl:h l=none){e:aG A}(he: ∀V':Val,(∃b,V' l=some (b,0))->e.interp I V' l .emp):Inv I (V.add l (0,0)) (h.put l (some e)) hR w:=by
 obtain⟨hs,h1,h2,h3,h4,h5,h6⟩:=hi;refine⟨hs,?_,?_,h3,h4,h5,h6⟩
 ·intro m x hm
  by_cases aa:m=l
  ·subst aa;simp [bE.put]at hm;subst hm;rw [h2 m hl];exact he _ ⟨0,aLI _ _ _⟩
  ·simp [bE.put,aa]at hm;exact aLR (aLO hV) (h1 m x hm)
 ·intro m hm
  by_cases aa:m=l
  ·subst aa;exact h2 m hl
  ·simp [bE.put,aa]at hm;exact h2 m hm
section
variable {P:Program} {V:Val}
theorem hJ{t:TypeId}{b off:Nat}{cs:Array Value}{T:TypeId}{w:World}{seg rest:List Value}{av:List AVal}{v:AVal}(hb:w.heap[b]? =some (.cells cs T))(hseg:cs.toList.drop off=seg++rest)(hr:aH V av seg)
 (hv:fI P t av=some v): ∃v',(Instr.loadAt t (.pointer (some ⟨b,off,none⟩))).run P w=.ok v' w/\Rep V v v':=by
 have ae:=aH.length hr;unfold fI at hv;split at hv
 ·rename_i n e1 e2;split at hv
  ·rename_i ac;simp at hv;subst hv;refine⟨.agg (seg.take n).toArray,?_,⟨_,rfl,by simpa using aH.take hr n⟩⟩
   have:=iY (P:=P) hb (seg.take n) (off:=off) (fun j v hj=>by
    rw [List.getElem?_take]at hj;split at hj
    ·rw [<-Array.getElem?_toList,<-List.getElem?_drop,hseg,List.getElem?_append_left]
     ·exact hj
     ·cases Nat.lt_or_ge j seg.length with
      | inl h=>exact h
      | inr h=>rw [List.getElem?_eq_none h]at hj;cases hj
    ·cases hj)
   have aa:(seg.take n).length =n:=by rw [List.length_take];omega
   rw [aa]at this;simp [Instr.loadAt,Instr.sureAddr,loadVar,eK e1,aV e2,this]
  ·cases hv
 ·rename_i e0 e1;obtain⟨y,hy,ry⟩:=aH.get hr 0 v hv;refine⟨y,?_,ry⟩
  have hc:w.cell? ⟨b,off,none⟩=some y:=by
   rw [cell_of_row w b off cs T (0,0) hb,<-Array.getElem?_toList];have:cs.toList[off]? =(cs.toList.drop off)[0]? :=by rw [List.getElem?_drop];rfl
   rw [this,hseg,List.getElem?_append_left]
   ·exact hy
   ·cases Nat.lt_or_ge 0 seg.length with
    | inl h=>exact h
    | inr h=>rw [List.getElem?_eq_none h]at hy;cases hy
  simp [Instr.loadAt,Instr.sureAddr,loadVar,eK e1,hc]
 ·cases hv
theorem GA{t:TypeId}{l r0 w0 j:Nat}{h:aC A}{r:ORes A}{hR:PHeap}{w:World}{x:Value}(hr:F9 P t l r0 w0 j h=some r)(ho:r.obl)(hi:Inv I V (toF h) hR w)(hx:Rep V (.tptr l r0 w0 j) x):
 ∃v',(Instr.loadAt t x).run P w=.ok v' w/\Rep V r.v v'/\r.upd=[]/\r.new=[]:=by
 obtain⟨b,k,hl,rfl⟩:=hx;unfold F9 at hr
 have go: ∀(ks:List Code1) (rows:List (List Int)) (v:AVal),aL h l=some (.tab ks rows)->ks.length=w0->r0<rows.length->j<=w0->fI P t ((rowA ks (rows.getD r0 [])).drop j)=some v->
  ∃v',(Instr.loadAt t (.pointer (some ⟨b,r0*w0+j,none⟩))).run P w=.ok v' w/\Rep V v v':=by
  intro ks rows v hh hw aa hj hv;obtain⟨b',k',cs,T,tail,ae,hb,hk,af⟩:=hi.tab (l:=l) hh (by intro e;subst e;simp at aa)
  rw [hl]at ae;cases ae;obtain⟨rest,ac⟩:=aGx (ks:=ks) (j:=j) aa omz;rw [hw]at ac;refine hJ hb (seg:=(cM ks (rows.getD r0 [])).drop j) (rest:=rest++tail) ?_ (aH.drop (FB V ks _) j) hv;rw [af,List.drop_append_of_le_length,ac,List.append_assoc];rw [cX,hw];have:(r0+1)*w0<=rows.length*w0:=Nat.mul_le_mul_right _ aa;rw [Nat.succ_mul]at this;omega
 split at hr
 ·rename_i ks rows n hh e1 e2;split at hr
  ·rename_i hc;simp at hr;subst hr;have aa:r0<rows.length:=ho
   obtain⟨v',g1,g2⟩:=go ks rows (.agg (((rowA ks (rows.getD r0 [])).drop j).take n)) hh hc.1 aa omz (by
    unfold fI;rw [e1,e2];simp only;rw [if_pos];rw [List.length_drop,oP];omega)
   exact⟨v',g1,g2,rfl,rfl⟩
  ·cases hr
 ·rename_i e0 ks rows hh e1;split at hr
  ·rename_i hw;split at hr
   ·rename_i v hv;simp at hr;subst hr;have aa:r0<rows.length:=ho
    have hj:j<(rowA ks (rows.getD r0 [])).length :=by
     cases Nat.lt_or_ge j (rowA ks (rows.getD r0 [])).length with
     | inl h=>exact h
     | inr h=>rw [List.getElem?_eq_none h]at hv;cases hv
    rw [oP]at hj
    obtain⟨v',g1,g2⟩:=go ks rows v hh hw aa omz (by
     unfold fI;rw [e1];simp only [List.getElem?_drop,Nat.add_zero];exact hv)
    exact⟨v',g1,g2,rfl,rfl⟩
   ·cases hr
  ·cases hr
 ·cases hr
theorem qT: ∀ {ks:List Code1} {vs:List AVal} {ns:List Int} {l:List Value},pX ks vs=some ns->aH V vs l->l=cM ks ns/\ns.length=ks.length
 | [],[],ns,l,h,r=>by simp [pX]at h;subst h;exact⟨r,rfl⟩
 | k::ks,v::vs,ns,l,h,⟨x,xs,e,r,s⟩=>by
   simp only [pX]at h;split at h
   ·rename_i n ns' h1 h2;simp at h;subst h;subst e;obtain⟨q1,q2⟩:=qT h2 s;rw [kB h1 r,q1];exact⟨rfl,by simp [q2]⟩
   ·cases h
 | [],_::_,_,_,h,_=>by simp [pX]at h
 | _::_,[],_,_,h,_=>by simp [pX]at h
theorem zC: ∀(ys ds:List Value) (off i:Nat),off+ys.length<=ds.length->(dV ds off ys)[i]? =if off<=i/\i<off+ys.length then ys[i - off]? else ds[i]?
 | [],ds,off,i,_=>by
   simp only [dV,List.length_nil,Nat.add_zero];rw [if_neg omz]
 | y::ys,ds,off,i,h=>by
   simp only [List.length_cons]at h;simp only [dV];rw [zC ys (ds.set off y) (off+1) i (by simp;omega)]
   simp only [List.length_cons]
   by_cases h1:off+1<=i/\i<off+1+ys.length
   ·rw [if_pos h1,if_pos omz,show i - off=(i - (off+1))+1 from by omega,List.getElem?_cons_succ]
   ·rw [if_neg h1]
    by_cases h2:i=off
    ·subst h2;rw [if_pos omz,Nat.sub_self];simp [List.getElem?_set];omega
    ·rw [if_neg omz,List.getElem?_set_ne omz]
theorem zD(A:List Value): ∀(N R:List Value) (j:Nat),dV (A++R) (A.length+j) N=A++dV R j N
 | [],R,j=>rfl
 | x::N,R,j=>by
   simp only [dV];rw [List.set_append_right _ _ omz,show A.length+j - A.length=j from by omega,show A.length+j+1=A.length+(j+1)from rfl]
   exact zD A N (R.set j x) (j+1)
theorem OG(A R S N:List Value)(j:Nat)(h:j+N.length<=R.length):dV (A++(R++S)) (A.length+j) N=A++(dV R j N++S):=by
 rw [zD,hO _ _ _ _ h]
theorem FD{ks:List Code1}{row ns:List Int}{j:Nat}(hj:j+ns.length<=ks.length):
 cM ks (lG ks.length row j ns)=dV (cM ks row) j (cM ((ks.drop j).take ns.length) ns):=by
 have aa:(cM ((ks.drop j).take ns.length) ns).length =ns.length:=by rw [cE,List.length_take,List.length_drop];omega
 apply List.ext_getElem?;intro i;rw [zC _ _ _ _ (by rw [aa,cE];exact hj),aa,jP]
 by_cases hi:i<ks.length
 ·have e:(lG ks.length row j ns).getD i 0=if j<=i/\i<j+ns.length then ns.getD (i - j) 0 else row.getD i 0:=by
   unfold lG;rw [gD',List.getElem?_map,List.getElem?_range hi];rfl
  rw [e]
  by_cases hc:j<=i/\i<j+ns.length
  ·rw [if_pos hc,if_pos hc,jP,List.getElem?_take,if_pos omz,List.getElem?_drop,show j+(i - j)=i from by omega]
  ·rw [if_neg hc,if_neg hc,jP]
 ·have e:ks[i]? =none:=List.getElem?_eq_none omz;rw [e];rw [if_neg omz,jP,e];rfl
theorem B3{t:TypeId}{l r0 w0 j:Nat}{x:AVal}{h:aC A}{r:ORes A}{hR:PHeap}{w:World}{p y:Value}(hr:zW P t l r0 w0 j x h=some r)(ho:r.obl)(hi:Inv I V (toF h) hR w)(hp:Rep V (.tptr l r0 w0 j) p)(hy:Rep V x y):
 ∃w',(Instr.storeAt t p y).run P w=.ok () w'/\Inv I V (toF (r.apply h)) hR w'/\bP w w'/\r.v=.raw undef/\r.new=[]:=by
 obtain⟨b,k,hl,rfl⟩:=hp;unfold zW at hr;split at hr
 ·rename_i ks rows hh;split at hr
  ·rename_i hc;obtain⟨e1,hw,ay⟩:=hc;subst hw;split at hr
   ·rename_i ns aa;simp at hr;subst hr;have ae:r0<rows.length:=ho;have ao:rows≠ []:=by intro e;subst e;simp at ae
    obtain⟨b',k',cs,T,tail,ar,hb,hk,av⟩:=hi.tab (l:=l) hh ao;rw [hl]at ar;cases ar
    have ag:x.told=true:=by
     cases hq:x.told with
     | true=>rfl
     | false=>
       exfalso;cases x with
       | O=>
         simp only [AVal.cells,List.length_singleton]at aa;cases au:List.take 1 (List.drop j ks)with
         | nil=>rw [au]at aa;simp [pX]at aa
         | cons q qs=>
           rw [au]at aa;cases q<;>simp [pX,f0]at aa
       | _=>cases hq
    have rc:=mJ hy ag;obtain⟨q1,q2⟩:=qT aa rc;have ai:x.cells.length=ns.length:=by rw [q2,List.length_take,List.length_drop];omega
    rw [ai]at q1 ay e1;have af:y.cells.toList.length=ns.length:=by rw [aH.length rc,ai]
    have a6:cs.size=rows.length*ks.length+tail.length:=by rw [<-Array.length_toList,av,List.length_append,cX]
    have ak:(r0+1)*ks.length<=rows.length*ks.length:=Nat.mul_le_mul_right _ ae;rw [Nat.succ_mul]at ak
    have am: ∀v∈y.cells.toList,v.oneCell'=true:=by
     rw [q1]
     have: ∀(ks:List Code1) (xs:List Int),∀v∈cM ks xs,v.oneCell'=true:=by
      intro ks
      induction ks with
      | nil=>intro xs v hv;cases hv
      | cons k ks ih=>
        intro xs v hv;simp only [cM,List.mem_cons]at hv;rcases hv with rfl | hv
        ·cases k<;>rfl
        ·exact ih _ v hv
     exact this _ _
    obtain⟨w',ax,h1,h2,h3,h4,h5⟩:=eG (P:=P) y.cells.toList 0 w b (r0*ks.length+j) cs T hb am omz;refine⟨w',?_,?_,h5,rfl,rfl⟩
    ·have:y.cells.size=ns.length:=by rw [<-Array.length_toList];exact af
     simp [Instr.storeAt,Instr.sureAddr,storeVar,aV e1,this,h1]
    ·have ap:=cH hh;show Inv I V (toF (hupd h [(l,some (.tab ks (rows.set r0 (lG ks.length (rows.getD r0 []) j ns))))]++ [])) hR w';simp only [hupd,List.foldl_cons,List.foldl_nil,List.append_nil];rw [eR _ ap];refine hi.replace (e:=.tab ks rows) hh (b:=b) (o':=.cells ax T) ?_ ?_ h2 h4
     ·intro g hg;rcases hg with⟨e,_⟩ | ⟨b1,k1,aq,a7,T1,az,e4,_⟩
      ·exact(ao e).elim
      ·rw [hl]at aq;cases aq;exact⟨_,e4⟩
     ·refine .inr ⟨b,k,hl,ax,T,tail,rfl,?_,?_⟩
      ·rw [<-Array.length_toList,h3,eP,Array.length_toList];exact hk
      ·rw [h3,av,Nat.add_zero,q1,hO _ _ _ _ (by rw [<-q1,af,cX];omega)]
       congr 1
       have ac:rows=rows.take r0++rows.getD r0 []::rows.drop (r0+1):=by
        rw [gD',gE' ae]
        simp
       have aj:rows.set r0 (lG ks.length (rows.getD r0 []) j ns)=rows.take r0++lG ks.length (rows.getD r0 []) j ns::rows.drop (r0+1):=by
        rw [List.set_eq_take_append_cons_drop,if_pos ae]
       generalize hrd:rows.getD r0 []=row at*
       have e2:bN ks (rows.set r0 (lG ks.length row j ns))=bN ks (rows.take r0)++(cM ks (lG ks.length row j ns)++bN ks (rows.drop (r0+1))):=by
        rw [aj,iD];rfl
       have e3:bN ks rows=bN ks (rows.take r0)++(cM ks row++bN ks (rows.drop (r0+1))):=by
        rw(occs:=.pos [1]) [ac]
        rw [iD];rfl
       have al:(bN ks (rows.take r0)).length =r0*ks.length:=by rw [cX,List.length_take,Nat.min_eq_left omz]
       rw [e2,e3,FD omz];have ah:(cM (List.take ns.length (List.drop j ks)) ns).length =ns.length:=by rw [<-q1];exact af
       have:=OG (bN ks (rows.take r0)) (cM ks row) (bN ks (rows.drop (r0+1))) (cM (List.take ns.length (List.drop j ks)) ns) j (by rw [ah,cE];omega)
       rw [al]at this;exact this
   ·cases hr
  ·cases hr
 ·cases hr
end
end Go.Sh
namespace Go.Sh
open Go
variable [Con] {A:Type} {I:Itp A}
section
variable {P:Program} {V:Val}
theorem xJ{ρ:Operand->AVal}{ρ':Operand->Value}(hρ: ∀x,Rep V (ρ x) (ρ' x)): ∀l:List (Nat×Operand),F1 V (l.map fun x=>(x.1,ρ x.2)) (l.map fun x=>(x.1,ρ' x.2))
 | []=>.nil
 | x::l=>.cons (hρ x.2) (xJ hρ l)
theorem jN{ρ:Operand->AVal}{ρ':Operand->Value}(hρ: ∀x,Rep V (ρ x) (ρ' x)): ∀l:List Operand,aH V (l.map ρ) (l.map ρ')
 | []=>by simp [aH]
 | x::l=>⟨_,_,rfl,hρ x,jN hρ l⟩
theorem uO{w:World} : ∀(fs:List Field) (l:List (Nat×Nat)),(∀f∈fs,bW P f.type≠none)->
 ∃out,(fs.mapM (fun f=>do Pure.pure (f.offset,<-sizeOf f.type):Field->Sem (Nat×Nat))).run P w=.ok out w/\ ∀i:Nat,out[i]? =(fs[i]?).bind fun f=>(bW P f.type).map fun n=>(f.offset,n):=by
 intro fs
 induction fs with
 | nil=>intro l h;exact⟨[],by simp,by simp⟩
 | cons f fs ih=>
   intro l h;obtain⟨out,h1,h2⟩:=ih l (fun g hg=>h g (by simp [hg]))
   cases e:bW P f.type with
   | none=>exact(h f (by simp) e).elim
   | some n=>
     refine⟨(f.offset,n)::out,?_,?_⟩
     ·rw [List.mapM_cons];simp only [Sem.run_bind,aV e,Result.andThen_ok,Sem.run_pure,h1]
     ·intro i;cases i with
      | zero=>simp [e]
      | succ i=>simpa using h2 i
theorem F4{t:TypeId}{ps:List (Nat×AVal)}{qs:List (Nat×Value)}{v:AVal}{w:World}(h:F3 P t ps=some v)(hp:F1 V ps qs):
 ∃v',(Instr.build t qs.toArray).run P w=.ok v' w/\Rep V v v':=by
 unfold F3 at h;split at h
 ·rename_i z fs hz hu
  by_cases aa:fs.toList.all (fun f=>(bW P f.type).isSome)=true
  case neg=>rw [if_neg aa]at h;cases h
  rw [if_pos aa]at h
  have ae: ∀f∈fs.toList,bW P f.type≠none:=by
   intro f hf;have:=List.all_eq_true.1 aa f hf;cases e:bW P f.type<;>simp_all
  obtain⟨zv,rfl,ac⟩:=pD (w:=w) hz;cases hf:mC (lP P fs) (jL zv).cells ps with
  | none=>rw [hf]at h;cases h
  | some out=>
    rw [hf]at h;simp at h;subst h;obtain⟨pl,h1,h2⟩:=uO (P:=P) (w:=w) fs.toList [] ae
    have af:(fun i=>pl.toArray[i]?)=lP P fs:=by
     funext i;have e:=h2 i;unfold lP;have e2:pl.toArray[i]? =pl[i]? :=by simp
     rw [e2,e,Array.getElem?_toList];cases fs[i]? <;>rfl
    obtain⟨out',h3,h4⟩:=oZ (V:=V) hp (dI V zv) hf;refine⟨.agg out',?_,⟨out',rfl,h4⟩⟩
    have hm:(fs.mapM (fun f=>do Pure.pure (f.offset,<-sizeOf f.type):Field->Sem (Nat×Nat))).run P w=.ok pl.toArray w:=by
     rw [Array.mapM_eq_mapM_toList,Sem.run_map,h1];rfl
    have ag:Instr.fill (fun i=>pl.toArray[i]?) zv.cells qs=some out':=by rw [af];exact h3
    simp only [Instr.build,Sem.run_bind,ac,Result.andThen_ok,underlying,run_program,hu,Sem.run_pure,hm,ag]
 ·rename_i z len e hz hu;obtain⟨zv,rfl,ac⟩:=pD (w:=w) hz;cases hs:bW P e with
  | none=>rw [hs]at h;cases h
  | some s=>
    rw [hs]at h;simp only at h;cases hf:mC (fun i=>some (i*s,s)) (jL zv).cells ps with
    | none=>rw [hf]at h;cases h
    | some out=>
      rw [hf]at h;simp at h;subst h;obtain⟨out',h3,h4⟩:=oZ (V:=V) hp (dI V zv) hf;refine⟨.agg out',?_,⟨out',rfl,h4⟩⟩;simp only [Instr.build,Sem.run_bind,ac,Result.andThen_ok,underlying,run_program,hu,Sem.run_pure,aV hs,h3]
 ·cases h
theorem tP{place:Nat->Option (Nat×Nat)} : ∀ {ps:List (Nat×AVal)} {cs out:List AVal},mC place cs ps=some out->out.length=cs.length
 | [],_,_,h=>by simp [mC]at h;rw [h]
 | (i,a)::ps,cs,out,h=>by
   simp only [mC]at h;split at h
   ·cases h
   ·split at h
    ·have:=tP h;rw [this,uH]
    ·cases h
theorem A2{l b k off len sz:Nat}(hl:V l=some (b,k))(h:off+len*sz<=k):Rep V (.slice l off len sz) (.slice (some ⟨b,off,none⟩) len len):=
 ⟨_,_,rfl,Nat.le_refl _,.inl ⟨b,k,hl,rfl,h⟩⟩
theorem OW{z:AVal}{zv:Value}(hz:aH V z.cells zv.cells.toList){s:Nat}(hs:z.cells.length=s)(h0:0<s)(n:Nat):
 aH V ((List.range n).map fun j=>z.cells.getD (j%s) (.raw undef)) ((List.range n).map fun j=>zv.cells[j%zv.cells.size]!):=by
 have aa:zv.cells.size=s:=by rw [<-Array.length_toList,aH.length hz,hs]
 have key: ∀l:List Nat,aH V (l.map fun j=>z.cells.getD (j%s) (.raw undef)) (l.map fun j=>zv.cells[j%zv.cells.size]!):=by
  intro l
  induction l with
  | nil=>simp [aH]
  | cons j l ih=>
    refine⟨_,_,rfl,?_,ih⟩;have ac:j%s<s:=Nat.mod_lt _ h0;obtain⟨y,hy,ry⟩:=aH.get hz (j%s) (z.cells.getD (j%s) (.raw undef)) (by rw [gD',gE' omz];rfl)
    rw [Array.getElem?_toList]at hy;have:zv.cells[j%zv.cells.size]! =y:=by rw [aa,getElem!_def,hy]
    show Rep V (z.cells.getD (j%s) (AVal.raw undef)) (zv.cells[j%zv.cells.size]!);rw [this];exact ry
 exact key _
theorem vI{t:TypeId}{len:Nat}{ps:List (Nat×AVal)}{qs:List (Nat×Value)}{h:aC A}{r:ORes A}{hR:PHeap}{w:World}{s:Sem Next}(hr:nU P t len ps h=some r)(hp:F1 V ps qs)
 (hi:Inv I V (toF h) hR w) (hn: ∀l,h.length<=l->l<h.length+r.new.length->V l=none) (hs:s=(do Pure.pure (.value (<-Instr.buildSlice t len qs.toArray)))):
 dG I P V h.length hR w r.v (toF (r.apply h)) r.new.length s:=by
 subst hs;unfold nU at hr;split at hr
 ·rename_i e hu;split at hr
  ·rename_i sz z ak hz;split at hr
   ·rename_i hc;obtain⟨c1,c2,c3⟩:=hc;obtain⟨zv,rfl,ai⟩:=pD (w:=w) hz;cases hf:mC (fun i=>some (i*sz,sz)) ((List.range (len*sz)).map fun j=>(jL zv).cells.getD (j%sz) (.raw undef)) ps with
    | none=>rw [hf]at hr;cases hr
    | some cs=>
      rw [hf]at hr;simp at hr;subst hr;have aj:=dI V zv;have h1:=OW aj c2 c3 (len*sz);obtain⟨aa,h3,h4⟩:=oZ (V:=V) (ds:=(Array.range (len*sz)).map fun j=>zv.cells[j%zv.cells.size]!) hp (by simpa using h1) hf
      have af:=tP hf;have al:aa.size=len*sz:=by rw [<-Array.length_toList,aH.length h4,af];simp
      have ac:=hn h.length (Nat.le_refl _) (by simp)
      have ag:=yZ (T:=e) hi ac h4
      have ae:Rep (V.add h.length (w.heap.size,aa.size)) (cond (Nat.beq len 0) .empty (.slice h.length 0 len sz)) (.slice (some ⟨w.heap.size,0,none⟩) len len):=by
       cases e0:Nat.beq len 0 with
       | true=>
         have:=Nat.eq_of_beq_eq_true e0;subst this;exact⟨_,rfl⟩
       | false=>exact A2 (aLI _ _ _) (b:=w.heap.size) (k:=aa.size) omz
      refine⟨_,_,V.add h.length (w.heap.size,aa.size),_,?_,.inl rfl,aLO ac,iS,ae,ag,⟨rfl,rfl,by simp,fun _ _=>d7 _ _ _ _⟩⟩
      have ah: ¬(len*sz>2^24):=by omega
      simp only [Instr.buildSlice,Sem.run_bind,underlying,run_program,hu,Result.andThen_ok,Sem.run_pure,aV ak];rw [if_neg ah]
      by_cases h0:len*sz=0
      ·rw [if_pos h0];simp only [Sem.run_pure,Result.andThen_ok,Sem.run_bind];have:((Array.range (len*sz)).map fun j=>(#[]:Array Value)[j%(#[]:Array Value).size]!)=((Array.range (len*sz)).map fun j=>zv.cells[j%zv.cells.size]!):=by rw [h0,Array.range_zero',Array.map_empty,Array.map_empty]
       rw [this,h3];simp [newRow]
      ·rw [if_neg h0];simp only [Sem.run_pure,Result.andThen_ok,Sem.run_bind,ai,h3];simp [newRow]
   ·cases hr
  ·cases hr
 ·cases hr
theorem vO{t:TypeId}{a i v:AVal}{p:Option Prop}{x y:Value}{w:World}(h:qC P t a i=some (v,p))(hp:onp p)(hx:Rep V a x)(hy:Rep V i y):
 ∃v',(Instr.indexAt t x y).run P w=.ok v' w/\Rep V v v':=by
 unfold qC at h;split at h
 ·rename_i e l off len sz k n hu;cases hs:bW P e with
  | none=>rw [hs]at h;cases h
  | some s=>
    rw [hs]at h;simp only [sI',pI']at h;obtain⟨rfl,rfl⟩:=h;obtain⟨base,cap,rfl,ac,hb⟩:=hx;have e2:y=.int k n:=hy;subst e2;rcases hb with⟨b,kk,hl,rfl,hk⟩ | ⟨h0,_⟩
    ·refine⟨.pointer (some ⟨b,off+n.toNat*s,none⟩),?_,⟨b,kk,hl,rfl⟩⟩;simp [Instr.indexAt,asIntOf,underlying,hu,hp,aV hs,Addr.add_lit]
    ·subst h0;exact absurd hp.2 (by have:=hp.1;omega)
 ·rename_i len e l off k n hu;cases hs:bW P e with
  | none=>rw [hs]at h;cases h
  | some s=>
    rw [hs]at h;simp only [sI',pI']at h;obtain⟨rfl,rfl⟩:=h;obtain⟨b,kk,hl,rfl⟩:=hx;have e2:y=.int k n:=hy;subst e2;refine⟨.pointer (some ⟨b,off+n.toNat*s,none⟩),?_,⟨b,kk,hl,rfl⟩⟩;simp [Instr.indexAt,asIntOf,underlying,hu,hp,aV hs,Addr.add_lit,Instr.sureAddr]
 ·rename_i e c xs k n hu;split at h
  case isFalse=>cases h
  rename_i hs;simp only [sI',pI']at h;obtain⟨rfl,rfl⟩:=h;obtain⟨base,cap,rfl,ac,hb⟩:=hx;have e2:y=.int k n:=hy;subst e2;have ai:0<=n:=hp.1;have ae:n<xs.length:=hp.2;rcases hb with⟨b,off,cs,T,fz,rfl,aa,tail,aj⟩ | h0
  ·refine⟨.pointer (some ⟨b,off+n.toNat,none⟩),?_,b,off+n.toNat,cs,T,fz,rfl,aa,?_⟩
   ·simp [Instr.indexAt,asIntOf,underlying,hu,hp,aV hs,Addr.add_lit]
   ·have af:n.toNat<xs.length:=by omega
    refine⟨Code1.val c (xs.getD n.toNat 0),[],?_,aMh _ c _,rfl⟩
    have:(cs.toList.drop (off+n.toNat))=Code1.val c (xs.getD n.toNat 0)::(xs.drop (n.toNat+1)).map (Code1.val c)++tail:=by
     rw [<-List.drop_drop,aj,List.drop_append_of_le_length (by simpa using Nat.le_of_lt af),<-List.map_drop,List.drop_eq_getElem_cons af,gD',gE' af]
     rfl
    rw [this];rfl
  ·subst h0;simp at ae;omega
 ·rename_i e m w0 row k n hu;split at h
  case isFalse=>cases h
  rename_i hs;simp only [sI',pI']at h;obtain⟨rfl,rfl⟩:=h;obtain⟨base,cap,rfl,ac,hb⟩:=hx;have e2:y=.int k n:=hy;subst e2;have ai:0<=n:=hp.1;have ae:n<m:=hp.2;rcases hb with⟨b,off,cs,T,fz,rfl,aa,ag⟩ | h0
  ·obtain⟨g1,g2⟩:=ag n.toNat omz;refine⟨.pointer (some ⟨b,off+n.toNat*w0,none⟩),?_,b,off+n.toNat*w0,cs,T,fz,rfl,aa,by rw [g1];exact g2⟩
   simp [Instr.indexAt,asIntOf,underlying,hu,hp,aV hs,Addr.add_lit]
  ·omega
 ·rename_i e l r m w0 k n hu;split at h
  case isFalse=>cases h
  rename_i hs;simp only [sI',pI']at h;obtain⟨rfl,rfl⟩:=h;obtain⟨base,cap,rfl,ac,hb⟩:=hx;have e2:y=.int k n:=hy;subst e2;have ai:0<=n:=hp.1;have ae:n<m:=hp.2;rcases hb with⟨b,kk,hl,rfl,hk⟩ | ⟨h0,_⟩
  ·refine⟨.pointer (some ⟨b,r*w0+n.toNat*w0,none⟩),?_,b,kk,hl,by rw [Nat.add_mul,Nat.add_zero]⟩
   simp [Instr.indexAt,asIntOf,underlying,hu,hp,aV hs,Addr.add_lit]
  ·omega
 ·rename_i len e l r w0 j k n hu;cases hs:bW P e with
  | none=>rw [hs]at h;cases h
  | some s=>
    rw [hs]at h;simp only [sI',pI']at h;obtain⟨rfl,rfl⟩:=h;obtain⟨b,kk,hl,rfl⟩:=hx;have e2:y=.int k n:=hy;subst e2;refine⟨.pointer (some ⟨b,r*w0+j+n.toNat*s,none⟩),?_,b,kk,hl,by rw [Nat.add_assoc]⟩
    simp [Instr.indexAt,asIntOf,underlying,hu,hp,aV hs,Addr.add_lit,Instr.sureAddr]
 ·rename_i len e as k n hu;cases hs:bW P e with
  | none=>rw [hs]at h;cases h
  | some s=>
    rw [hs]at h;simp only [sI',pI']at h;obtain⟨rfl,rfl⟩:=h;obtain⟨b,off,cs,T,fz,rfl,aa,ah⟩:=hx;have e2:y=.int k n:=hy;subst e2;refine⟨.pointer (some ⟨b,off+n.toNat*s,none⟩),?_,yP aa ah⟩;simp [Instr.indexAt,asIntOf,underlying,hu,hp,aV hs,Addr.add_lit,Instr.sureAddr]
 ·cases h
theorem F7{t:TypeId}{a i v:AVal}{p:Option Prop}{x y:Value}{w:World}(h:F6 P t a i=some (v,p))(hp:onp p)(hx:Rep V a x)(hy:Rep V i y):
 ∃v',(Instr.index t x y).run P w=.ok v' w/\Rep V v v':=by
 unfold F6 at h;split at h
 ·rename_i len e cs k n hu;cases hs:bW P e with
  | none=>rw [hs]at h;cases h
  | some s=>
    rw [hs]at h;simp only at h;cases ha:apart P e cs (n.toNat*s)with
    | none=>rw [ha]at h;cases h
    | some u=>
      rw [ha]at h;simp only [Option.map_some,sI',pI']at h;obtain⟨rfl,rfl⟩:=h;obtain⟨xs,rfl,rx⟩:=hx;have e2:y=.int k n:=hy;subst e2;obtain⟨v',h1,h2⟩:=pC (w:=w) ha rx;refine⟨v',?_,h2⟩;simp [Instr.index,asIntOf,underlying,hu,hp,aV hs,h1]
 ·rename_i s k n hu;simp only [sI',pI']at h;obtain⟨rfl,rfl⟩:=h;have e1:x=.string s:=hx;have e2:y=.int k n:=hy;subst e1 e2;refine⟨.int .u8 ((s.data.getD n.toNat 0).toNat :Int),?_,rfl⟩;have aa:n.toNat<s.data.size:=hp.2
  have hg:s[n.toNat]? =some (s.data.getD n.toNat 0):=by
   rw [getElem?_pos s n.toNat hp.2];congr 1;show s.data[n.toNat]=s.data.getD n.toNat 0;rw [Array.getD_eq_getD_getElem?,Array.getElem?_eq_getElem aa];rfl
  simp [Instr.index,asIntOf,underlying,hu,hp.1,hg]
 ·cases h
theorem bA{k:IntKind}{n:Int}{y:Nat}{c:BoundsCode}{w:World}(h0:0<=n)(h1:n.toNat<=y):(Instr.sliceBound (.int k n) y c).run P w=.ok n.toNat w:=by
 have:0<=n/\n<=(y:Int):=⟨h0,by omega⟩
 simp [Instr.sliceBound,asIntOf,this]
theorem dJ{l off len sz lo hi:Nat}{base:Option Addr}{cap:Nat}(hc:len<=cap)
 (hb:(∃b k,V l=some (b,k)/\base=some ⟨b,off,none⟩/\off+cap*sz<=k)\/(len=0/\cap=0)) (h1:lo<=hi) (h2:hi<=len):
 Rep V (.slice l (off+lo*sz) (hi - lo) sz) (.slice (if cap=lo then base else base.map (·.add (lo*sz))) (hi - lo) (cap - lo)):=by
 refine⟨_,_,rfl,by omega,?_⟩
 by_cases aa:cap=lo
 ·right;omega
 ·rw [if_neg aa];rcases hb with⟨b,k,hl,rfl,hk⟩ | ⟨e1,e2⟩
  ·left;refine⟨b,k,hl,by simp [Addr.add_lit],?_⟩
   have:off+lo*sz+(cap - lo)*sz=off+cap*sz:=by
    rw [Nat.add_assoc,<-Nat.add_mul];congr 2;omega
   omega
  ·right;omega
theorem iZ{c:Code1}{xs:List Int}{lo hi:Nat}{base:Option Addr}{cap:Nat}(hc:xs.length<=cap)
 (hb:(∃b off cs T fz,base=some ⟨b,off,none⟩/\Con.con b=some (.cells cs T fz)/\ ∃tail,cs.toList.drop off=xs.map (Code1.val c)++tail)\/xs=[]) (h1:lo<=hi) (h2:hi<=xs.length):
 Rep V (.iview c ((xs.take hi).drop lo)) (.slice (if cap=lo then base else base.map (·.add (lo*1))) (hi - lo) (cap - lo)):=by
 have hl:((xs.take hi).drop lo).length =hi - lo:=by rw [List.length_drop,List.length_take];omega
 refine⟨_,cap - lo,by rw [hl],by rw [hl];omega,?_⟩
 by_cases ac:cap=lo
 ·right;exact List.length_eq_zero_iff.1 (by rw [hl];omega)
 ·rw [if_neg ac];rcases hb with⟨b,off,cs,T,fz,rfl,aa,tail,ht⟩ | e1
  ·left;refine⟨b,off+lo,cs,T,fz,by simp [Addr.add_lit],aa,(xs.drop hi).map (Code1.val c)++tail,?_⟩
   rw [<-List.drop_drop,ht,List.drop_append_of_le_length (by simp;omega),<-List.append_assoc,<-List.map_append,<-List.map_drop]
   congr 2;have e:(xs.take hi++xs.drop hi).drop lo=(xs.take hi).drop lo++xs.drop hi:=List.drop_append_of_le_length (by rw [List.length_take];omega)
   rw [List.take_append_drop]at e;exact e
  ·right;rw [e1];simp
theorem kE{n w0:Nat}{row:Nat->List AVal}{lo hi:Nat}{base:Option Addr}{cap:Nat}(hc:n<=cap)
 (hb:(∃b off cs T fz,base=some ⟨b,off,none⟩/\Con.con b=some (.cells cs T fz)/\ ∀i,i<n->(row i).length =w0/\aH (fun _=>none) (row i) ((cs.toList.drop (off+i*w0)).take w0))\/n=0) (h1:lo<=hi) (h2:hi<=n):
 Rep V (.view (hi - lo) w0 (fun i=>row (lo+i))) (.slice (if cap=lo then base else base.map (·.add (lo*w0))) (hi - lo) (cap - lo)):=by
 refine⟨_,cap - lo,rfl,by omega,?_⟩
 by_cases ac:cap=lo
 ·right;omega
 ·rw [if_neg ac];rcases hb with⟨b,off,cs,T,fz,rfl,aa,hr⟩ | e1
  ·left;refine⟨b,off+lo*w0,cs,T,fz,by simp [Addr.add_lit],aa,?_⟩
   intro i ae;have:=hr (lo+i) omz;rw [Nat.add_mul,<-Nat.add_assoc]at this;exact this
  ·right;omega
theorem EX{a:AVal}{x:Value}(h:a.isSlice=true)(hx:Rep V a x): ∃base len cap,x=.slice base len cap:=by
 unfold AVal.isSlice at h;split at h
 ·obtain⟨base,cap,e,_⟩:=hx;exact⟨_,_,_,e⟩
 ·obtain⟨base,cap,e,_⟩:=hx;exact⟨_,_,_,e⟩
 ·obtain⟨base,cap,e,_⟩:=hx;exact⟨_,_,_,e⟩
 ·obtain⟨base,cap,e,_⟩:=hx;exact⟨_,_,_,e⟩
 ·obtain⟨base,e⟩:=hx;exact⟨_,_,_,e⟩
 ·exact⟨_,_,_,hx⟩
 ·cases h
theorem iA{l r len sz lo hi:Nat}{base:Option Addr}{cap:Nat}(hc:len<=cap)
 (hb:(∃b k,V l=some (b,k)/\base=some ⟨b,r*sz,none⟩/\r*sz+cap*sz<=k)\/(len=0/\cap=0)) (h1:lo<=hi) (h2:hi<=len):
 Rep V (.tslice l (r+lo) (hi - lo) sz) (.slice (if cap=lo then base else base.map (·.add (lo*sz))) (hi - lo) (cap - lo)):=by
 obtain⟨aa,ac,e,c1,c2⟩:=dJ hc hb h1 h2;simp only [Value.slice.injEq]at e;obtain⟨e1,e2,e3⟩:=e;subst e3;refine⟨aa,_,by rw [e1],c1,?_⟩
 rw [Nat.add_mul];exact c2
theorem GI{t:TypeId}{a v:AVal}{lo hi mx:Option AVal}{p:Option Prop}{x:Value}{lo' hi' mx':Option Value}{w:World}(h:GG P t a lo hi mx=some (v,p))(hp:onp p)(hx:Rep V a x)
 (hlo: ∀z,lo=some z-> ∃z',lo'=some z'/\Rep V z z') (hlo0:lo=none->lo'=none) (hhi: ∀z,hi=some z-> ∃z',hi'=some z'/\Rep V z z') (hhi0:hi=none->hi'=none) (hmx: ∀z,mx=some z-> ∃z',mx'=some z'/\Rep V z z') (hmx0:mx=none->mx'=none):
 ∃v',(Instr.sliceAt t x lo' hi' mx').run P w=.ok v' w/\Rep V v v':=by
 unfold GG at h;split at h
 ·rename_i e km m hu;split at h
  ·rename_i s k b hs;split at h
   case isFalse=>cases h
   rename_i ae;simp only [sI',pI']at h;obtain⟨rfl,rfl⟩:=h;obtain⟨rfl,rfl⟩:=hp;obtain⟨base,len,cap,rfl⟩:=EX ae hx;obtain⟨z2,e2,r2⟩:=hhi _ rfl;have:z2=.int k 0:=r2;subst this;obtain⟨z3,e3,r3⟩:=hmx _ rfl;have:z3=.int km 0:=r3;subst this;rw [hlo0 rfl,e2,e3];refine⟨.slice base 0 0,?_,⟨base,rfl⟩⟩;simp [Instr.sliceAt,Instr.slice,underlying,hu,Instr.sliceBounds,aV hs,bA (y:=cap) (n:=0) omz omz,bA (y:=0) (n:=0) omz omz]
  ·cases h
 ·rename_i e l r n0 w0 hu;rw [hmx0 rfl];split at h
  case isFalse=>cases h
  rename_i hs;obtain⟨base,cap,rfl,aa,hb⟩:=hx;split at h
  ·rw [hlo0 rfl,hhi0 rfl];simp only [sI',pI']at h;obtain⟨rfl,rfl⟩:=h;have hr:=iA (V:=V) aa hb (lo:=0) (hi:=n0) (Nat.zero_le _) (Nat.le_refl _);simp only [Nat.zero_mul,Nat.sub_zero,Nat.add_zero]at hr;refine⟨_,?_,hr⟩;simp [Instr.sliceAt,Instr.slice,underlying,hu,Instr.sliceBounds,aV hs]
  ·rename_i k n;obtain⟨z',e1,r1⟩:=hlo _ rfl;have:z'=.int k n:=r1;subst this;rw [e1,hhi0 rfl];simp only [sI',pI']at h;obtain⟨rfl,rfl⟩:=h;refine⟨_,?_,iA (V:=V) aa hb (lo:=n.toNat) (hi:=n0) hp.2 (Nat.le_refl _)⟩;simp [Instr.sliceAt,Instr.slice,underlying,hu,Instr.sliceBounds,aV hs,bA hp.1 hp.2]
  ·rename_i k n;obtain⟨z',e1,r1⟩:=hhi _ rfl;have:z'=.int k n:=r1;subst this;rw [e1,hlo0 rfl];simp only [sI',pI']at h;obtain⟨rfl,rfl⟩:=h;have hr:=iA (V:=V) aa hb (lo:=0) (hi:=n.toNat) (Nat.zero_le _) hp.2;simp only [Nat.zero_mul,Nat.sub_zero,Nat.add_zero]at hr;refine⟨_,?_,hr⟩;simp [Instr.sliceAt,Instr.slice,underlying,hu,Instr.sliceBounds,aV hs,bA (y:=cap) hp.1 (Nat.le_trans hp.2 aa)]
  ·rename_i k n k' m;obtain⟨z',e1,r1⟩:=hlo _ rfl;have:z'=.int k n:=r1;subst this;obtain⟨z2,e2,r2⟩:=hhi _ rfl;have:z2=.int k' m:=r2;subst this;rw [e1,e2];simp only [sI',pI']at h;obtain⟨rfl,rfl⟩:=h;obtain⟨p1,p2,p3,p4⟩:=hp;refine⟨_,?_,iA (V:=V) aa hb (lo:=n.toNat) (hi:=m.toNat) p2 p4⟩;simp [Instr.sliceAt,Instr.slice,underlying,hu,Instr.sliceBounds,aV hs,bA (y:=cap) p3 (Nat.le_trans p4 aa),bA (y:=m.toNat) p1 p2]
  ·cases h
 ·rename_i e l off len sz hu;rw [hmx0 rfl];obtain⟨base,cap,rfl,aa,hb⟩:=hx;split at h
  ·rename_i s hs;rw [hlo0 rfl,hhi0 rfl];split at h
   ·rename_i ac;subst ac;simp only [sI',pI']at h;obtain⟨rfl,rfl⟩:=h;have hr:=dJ aa hb (Nat.zero_le len) (Nat.le_refl len);simp only [Nat.zero_mul,Nat.add_zero,Nat.sub_zero]at hr;refine⟨_,?_,hr⟩;simp [Instr.sliceAt,Instr.slice,underlying,hu,Instr.sliceBounds,aV hs]
   ·cases h
  ·rename_i s k n hs;obtain⟨z',e1,r1⟩:=hlo _ rfl;have:z'=.int k n:=r1;subst this;rw [e1,hhi0 rfl];split at h
   ·rename_i ac;subst ac;simp only [sI',pI']at h;obtain⟨rfl,rfl⟩:=h;refine⟨_,?_,dJ aa hb (lo:=n.toNat) (hi:=len) hp.2 (Nat.le_refl len)⟩;simp [Instr.sliceAt,Instr.slice,underlying,hu,Instr.sliceBounds,aV hs,bA hp.1 hp.2]
   ·cases h
  ·rename_i s k n hs;obtain⟨z',e1,r1⟩:=hhi _ rfl;have:z'=.int k n:=r1;subst this;rw [e1,hlo0 rfl];split at h
   ·rename_i ac;subst ac;simp only [sI',pI']at h;obtain⟨rfl,rfl⟩:=h;have hr:=dJ aa hb (lo:=0) (hi:=n.toNat) (Nat.zero_le _) hp.2;simp only [Nat.zero_mul,Nat.add_zero,Nat.sub_zero]at hr;refine⟨_,?_,hr⟩;simp [Instr.sliceAt,Instr.slice,underlying,hu,Instr.sliceBounds,aV hs,bA (y:=cap) hp.1 omz]
   ·cases h
  ·rename_i s k n k' m hs;obtain⟨z',e1,r1⟩:=hlo _ rfl;have:z'=.int k n:=r1;subst this;obtain⟨z2,e2,r2⟩:=hhi _ rfl;have:z2=.int k' m:=r2;subst this;rw [e1,e2];split at h
   ·rename_i ac;subst ac;simp only [sI',pI']at h;obtain⟨rfl,rfl⟩:=h;obtain⟨p1,p2,p3,p4⟩:=hp;refine⟨_,?_,dJ aa hb (lo:=n.toNat) (hi:=m.toNat) p2 p4⟩;simp [Instr.sliceAt,Instr.slice,underlying,hu,Instr.sliceBounds,aV hs,bA (y:=cap) p3 omz,bA (y:=m.toNat) p1 p2]
   ·cases h
  ·cases h
 ·rename_i e c xs hu;rw [hmx0 rfl];split at h
  case isFalse=>cases h
  rename_i hs;obtain⟨base,cap,rfl,aa,hb⟩:=hx;split at h
  ·rw [hlo0 rfl,hhi0 rfl];simp only [sI',pI']at h;obtain⟨rfl,rfl⟩:=h;have hr:=iZ (V:=V) aa hb (lo:=0) (hi:=xs.length) (Nat.zero_le _) (Nat.le_refl _);simp only [Nat.zero_mul,Nat.sub_zero,List.drop_zero,List.take_length]at hr;refine⟨_,?_,hr⟩;simp [Instr.sliceAt,Instr.slice,underlying,hu,Instr.sliceBounds,aV hs]
  ·rename_i k n;obtain⟨z',e1,r1⟩:=hlo _ rfl;have:z'=.int k n:=r1;subst this;rw [e1,hhi0 rfl];simp only [sI',pI']at h;obtain⟨rfl,rfl⟩:=h;have hr:=iZ (V:=V) aa hb (lo:=n.toNat) (hi:=xs.length) hp.2 (Nat.le_refl _);rw [List.take_length]at hr;refine⟨_,?_,hr⟩;simp [Instr.sliceAt,Instr.slice,underlying,hu,Instr.sliceBounds,aV hs,bA hp.1 hp.2]
  ·rename_i k n;obtain⟨z',e1,r1⟩:=hhi _ rfl;have:z'=.int k n:=r1;subst this;rw [e1,hlo0 rfl];simp only [sI',pI']at h;obtain⟨rfl,rfl⟩:=h;have hr:=iZ (V:=V) aa hb (lo:=0) (hi:=n.toNat) (Nat.zero_le _) hp.2;simp only [Nat.zero_mul,Nat.sub_zero,List.drop_zero]at hr;refine⟨_,?_,hr⟩;simp [Instr.sliceAt,Instr.slice,underlying,hu,Instr.sliceBounds,aV hs,bA (y:=cap) hp.1 (Nat.le_trans hp.2 aa)]
  ·rename_i k n k' m;obtain⟨z',e1,r1⟩:=hlo _ rfl;have:z'=.int k n:=r1;subst this;obtain⟨z2,e2,r2⟩:=hhi _ rfl;have:z2=.int k' m:=r2;subst this;rw [e1,e2];simp only [sI',pI']at h;obtain⟨rfl,rfl⟩:=h;obtain⟨p1,p2,p3,p4⟩:=hp;refine⟨_,?_,iZ (V:=V) aa hb (lo:=n.toNat) (hi:=m.toNat) p2 p4⟩;simp [Instr.sliceAt,Instr.slice,underlying,hu,Instr.sliceBounds,aV hs,bA (y:=cap) p3 (Nat.le_trans p4 aa),bA (y:=m.toNat) p1 p2]
  ·cases h
 ·rename_i e q w0 row hu;rw [hmx0 rfl];split at h
  case isFalse=>cases h
  rename_i hs;obtain⟨base,cap,rfl,aa,hb⟩:=hx;split at h
  ·rw [hlo0 rfl,hhi0 rfl];simp only [sI',pI']at h;obtain⟨rfl,rfl⟩:=h;have hr:=kE (V:=V) aa hb (lo:=0) (hi:=q) (Nat.zero_le _) (Nat.le_refl _);simp only [Nat.zero_mul,Nat.sub_zero,Nat.zero_add]at hr;refine⟨_,?_,hr⟩;simp [Instr.sliceAt,Instr.slice,underlying,hu,Instr.sliceBounds,aV hs]
  ·rename_i k n;obtain⟨z',e1,r1⟩:=hlo _ rfl;have:z'=.int k n:=r1;subst this;rw [e1,hhi0 rfl];simp only [sI',pI']at h;obtain⟨rfl,rfl⟩:=h;refine⟨_,?_,kE (V:=V) aa hb (lo:=n.toNat) (hi:=q) hp.2 (Nat.le_refl _)⟩;simp [Instr.sliceAt,Instr.slice,underlying,hu,Instr.sliceBounds,aV hs,bA hp.1 hp.2]
  ·rename_i k n;obtain⟨z',e1,r1⟩:=hhi _ rfl;have:z'=.int k n:=r1;subst this;rw [e1,hlo0 rfl];simp only [sI',pI']at h;obtain⟨rfl,rfl⟩:=h;have hr:=kE (V:=V) aa hb (lo:=0) (hi:=n.toNat) (Nat.zero_le _) hp.2;simp only [Nat.zero_mul,Nat.sub_zero,Nat.zero_add]at hr;refine⟨_,?_,hr⟩;simp [Instr.sliceAt,Instr.slice,underlying,hu,Instr.sliceBounds,aV hs,bA (y:=cap) hp.1 (Nat.le_trans hp.2 aa)]
  ·rename_i k n k' m;obtain⟨z',e1,r1⟩:=hlo _ rfl;have:z'=.int k n:=r1;subst this;obtain⟨z2,e2,r2⟩:=hhi _ rfl;have:z2=.int k' m:=r2;subst this;rw [e1,e2];simp only [sI',pI']at h;obtain⟨rfl,rfl⟩:=h;obtain⟨p1,p2,p3,p4⟩:=hp;refine⟨_,?_,kE (V:=V) aa hb (lo:=n.toNat) (hi:=m.toNat) p2 p4⟩;simp [Instr.sliceAt,Instr.slice,underlying,hu,Instr.sliceBounds,aV hs,bA (y:=cap) p3 (Nat.le_trans p4 aa),bA (y:=m.toNat) p1 p2]
  ·cases h
 ·rename_i s hu;rw [hmx0 rfl];have e1:x=.string s:=hx;subst e1;split at h
  ·rw [hlo0 rfl,hhi0 rfl];simp only [sI',pI']at h;obtain⟨rfl,rfl⟩:=h;refine⟨_,?_,rfl⟩;simp [Instr.sliceAt,Instr.slice,underlying,hu,Instr.sliceBounds]
  ·rename_i k n;obtain⟨z',e1,r1⟩:=hlo _ rfl;have:z'=.int k n:=r1;subst this;rw [e1,hhi0 rfl];simp only [sI',pI']at h;obtain⟨rfl,rfl⟩:=h;refine⟨_,?_,rfl⟩;simp [Instr.sliceAt,Instr.slice,underlying,hu,Instr.sliceBounds,bA hp.1 hp.2]
  ·rename_i k n;obtain⟨z',e1,r1⟩:=hhi _ rfl;have:z'=.int k n:=r1;subst this;rw [e1,hlo0 rfl];simp only [sI',pI']at h;obtain⟨rfl,rfl⟩:=h;refine⟨_,?_,rfl⟩;simp [Instr.sliceAt,Instr.slice,underlying,hu,Instr.sliceBounds,bA hp.1 hp.2]
  ·rename_i k n k' m;obtain⟨z',e1,r1⟩:=hlo _ rfl;have:z'=.int k n:=r1;subst this;obtain⟨z2,e2,r2⟩:=hhi _ rfl;have:z2=.int k' m:=r2;subst this;rw [e1,e2];simp only [sI',pI']at h;obtain⟨rfl,rfl⟩:=h;obtain⟨p1,p2,p3,p4⟩:=hp;refine⟨_,?_,rfl⟩;simp [Instr.sliceAt,Instr.slice,underlying,hu,Instr.sliceBounds,bA (y:=s.size) p3 p4,bA (y:=m.toNat) p1 p2]
  ·cases h
 ·cases h
end
end Go.Sh
namespace Go.Sh
open Go
variable [Con] {A:Type} {I:Itp A}
section
variable {P:Program} {V:Val}
theorem cZ{h:aC A}{r:ORes A}(h1:r.upd=[])(h2:r.new=[]):r.apply h=h:=by
 simp [ORes.apply,h1,h2,hupd]
def cR(V:Val):aG A->List Value->Prop
 | .ints c xs,l=>l=xs.map c.val
 | .cells vs,l=>aH V vs l
 | .abs _ _,_=>False
 | .tab ks rows,l=>l=bN ks rows
 | .imap _ _ _,_=>False
 | .iter _ _ _ _ _ _,_=>False
theorem cR.mono{V V':Val}(hV:V.le V'){e:aG A}{l:List Value}(h:cR V e l):cR V' e l:=by
 cases e with
 | ints c xs=>exact h
 | cells vs=>exact aH.mono hV _ _ h
 | abs t ps=>exact h
 | tab ks rows=>exact h
 | imap kk vc m=>exact h
 | iter lm kk vc m left cur=>exact h
theorem lA{V:Val}{l b k:Nat}{e:aG A}{row tail:List Value}{cs:Array Value}{T:TypeId}(hl:V l=some (b,k))(hr:cR V e row)(hc:cs.toList=row++tail)(hk:cs.size=k):
 e.interp I V l (.one b (.cells cs T)):=by
 cases e with
 | ints c xs=>have aa:row=xs.map c.val:=hr;subst aa;exact .inr ⟨b,k,hl,cs,T,tail,rfl,hk,hc⟩
 | cells vs=>exact⟨b,k,hl,cs,T,rfl,hk,row,tail,hc,hr⟩
 | abs t ps=>exact hr.elim
 | tab ks rows=>have aa:row=_:=hr;subst aa;exact .inr ⟨b,k,hl,cs,T,tail,rfl,hk,hc⟩
 | imap kk vc m=>exact hr.elim
 | iter lm kk vc m left cur=>exact hr.elim
theorem sA{V V':Val}{l m:Nat}{e:aG A}{g:PHeap}(hV:V.le V')(h: ∀x,V l=some x->V' m=some x)(hi:e.interp I V l g):e.interp I V' m g:=by
 cases e with
 | cells vs=>
   obtain⟨b,k,e1,cs,T,e2,e3,rs,tl,e4,r⟩:=hi;exact⟨b,k,h _ e1,cs,T,e2,e3,rs,tl,e4,aH.mono hV _ _ r⟩
 | ints c xs=>
   rcases hi with⟨e1,e2,b,hl⟩ | ⟨b,k,e1,r⟩
   ·exact .inl ⟨e1,e2,b,h _ hl⟩
   ·exact .inr ⟨b,k,h _ e1,r⟩
 | abs t ps=>
   obtain⟨b,k,e1,bs,hb,r⟩:=hi;exact⟨b,k,h _ e1,bs,gG.mono hV hb,r⟩
 | tab ks rows=>
   rcases hi with⟨e1,e2,b,hl⟩ | ⟨b,k,e1,r⟩
   ·exact .inl ⟨e1,e2,b,h _ hl⟩
   ·exact .inr ⟨b,k,h _ e1,r⟩
 | imap kk vc m=>
   obtain⟨b,k,e1,r⟩:=hi;exact⟨b,k,h _ e1,r⟩
 | iter lm kk vc m left cur=>
   obtain⟨b,k,e1,bm,km,hm,r⟩:=hi;exact⟨b,k,h _ e1,bm,km,hV _ _ hm,r⟩
theorem iW{a:AVal}(h:gJ a=true):a=.raw (.slice none 0 0):=by
 unfold gJ at h;split at h
 ·rfl
 ·cases h
theorem lV{c:Code1} : ∀ {vs:List AVal} {ns:List Int} {l:List Value},iE c vs=some ns->aH V vs l->l=ns.map c.val
 | [],ns,l,h,r=>by simp [iE]at h;subst h;exact r
 | x::xs,ns,l,h,⟨v,vs',e,rv,rs⟩=>by
   simp only [iE]at h;split at h
   ·rename_i n ns' h1 h2;simp at h;subst h;subst e;rw [kB h1 rv,lV h2 rs];rfl
   ·cases h
theorem oQ{ks:List Code1} : ∀ {n:Nat} {vs:List AVal} {rs:List (List Int)} {l:List Value},nF ks n vs=some rs->aH V vs l->l=bN ks rs
 | 0,[],rs,l,h,r=>by simp [nF]at h;subst h;exact r
 | 0,_::_,_,_,h,_=>by simp [nF]at h
 | n+1,vs,rs,l,h,r=>by
   simp only [nF]at h;split at h
   ·rename_i a as h1 h2;simp at h;subst h;obtain⟨q1,_⟩:=qT h1 (aH.take r ks.length);have q2:=oQ h2 (aH.drop r ks.length);rw [<-List.take_append_drop ks.length l,q1,q2];simp [bN]
   ·cases h
theorem yF{e ey e':aG A}{row ws:List Value}(h:nV e ey=some e')(h1:cR V e row)(h2:cR V ey ws):cR V e' (row++ws):=by
 unfold nV at h;split at h
 ·split at h
  ·rename_i hc;subst hc;simp at h;subst h;have e1:row=_:=h1;have e2:ws=_:=h2;subst e1 e2;simp [cR]
  ·cases h
 ·rename_i c xs vs;cases hy:iE c vs with
  | none=>rw [hy]at h;cases h
  | some ys=>
    rw [hy]at h;simp at h;subst h;have e1:row=_:=h1;have e2:=lV hy h2;subst e1 e2;simp [cR]
 ·rename_i vs c ys;cases hy:iE c vs with
  | none=>rw [hy]at h;cases h
  | some xs=>
    rw [hy]at h;simp at h;subst h;have e1:=lV hy h1;have e2:ws=_:=h2;subst e1 e2;simp [cR]
 ·simp at h;subst h;exact aH.append h1 h2
 ·split at h
  ·rename_i hc;subst hc;simp at h;subst h;have e1:row=_:=h1;have e2:ws=_:=h2;subst e1 e2;exact(iD _ _ _).symm
  ·cases h
 ·rename_i ks xs vs;cases hy:nF ks (vs.length / ks.length) vs with
  | none=>rw [hy]at h;cases h
  | some ys=>
    rw [hy]at h;simp at h;subst h;have e1:row=_:=h1;have e2:=oQ hy h2;subst e1 e2;exact(iD _ _ _).symm
 ·cases h
theorem aGe{h:bE A}{hR:PHeap}{w:World}(hi:Inv I V h hR w){l len cap sz:Nat}{e:aG A}(hl:h l=some e){base:Option Addr}(hsz:0<sz)
 (hrow:(∃c xs,e=.ints c xs/\len=xs.length/\sz=1)\/(∃vs,e=.cells vs/\len*sz=vs.length)\/(∃ks rows,e=.tab ks rows/\len=rows.length/\sz=ks.length))
 (hb:(∃b k,V l=some (b,k)/\base=some ⟨b,0,none⟩/\0+cap*sz<=k)\/(len=0/\cap=0)):
 ∃row,cR V e row/\row.length=len*sz/\
  ((∃b k cs T tail,V l=some (b,k)/\base=some ⟨b,0,none⟩/\w.heap[b]? =some (.cells cs T)/\cs.size=k/\cs.toList=row++tail/\cap*sz<=k/\
    ∀g,e.interp I V l g-> ∃o,g=.one b o)\/(len=0/\cap=0)):=by
 have zero: ∀n:Nat,0+n*sz<=0->n=0:=by
  intro n hn;rcases Nat.eq_zero_or_pos n with h | h
  ·exact h
  ·have:=Nat.mul_pos h hsz;omega
 rcases hrow with⟨c,xs,rfl,rfl,rfl⟩ | ⟨vs,rfl,af⟩ | ⟨ks,rows,rfl,rfl,rfl⟩
 ·refine⟨xs.map c.val,rfl,by simp,?_⟩
  rcases hb with⟨b',k',e5,e6,e7⟩ | hb
  ·by_cases ae:k'=0
   ·subst ae;have hc:=zero cap e7;obtain⟨hs,h1,h2,h3,h4,h5,h6⟩:=hi;rcases h1 l _ hl with⟨q1,_⟩ | ⟨b,k,q1,cs,T,tail,q2,q3,q4⟩
    ·right;exact⟨by simp [q1],hc⟩
    ·rw [e5]at q1;cases q1
     have:xs.length+tail.length=0:=by
      have:=congrArg List.length q4;rw [Array.length_toList,q3]at this;simpa using this.symm
     right;exact⟨by omega,hc⟩
   ·left
    have ac: ∀g,(aG.ints c xs:aG A).interp I V l g-> ∃b k cs T tail,V l=some (b,k)/\g=.one b (.cells cs T)/\cs.size=k/\cs.toList=xs.map c.val++tail:=by
     intro g hg;rcases hg with⟨_,_,b,q⟩ | ⟨b,k,q1,cs,T,tail,q2,q3,q4⟩
     ·rw [e5]at q;cases q;exact(ae rfl).elim
     ·exact⟨b,k,cs,T,tail,q1,q2,q3,q4⟩
    obtain⟨hs,h1,h2,h3,h4,h5,h6⟩:=hi;obtain⟨b,k,cs,T,tail,q1,q2,q3,q4⟩:=ac _ (h1 l _ hl);have aa:=h5 l;rw [q2]at aa;rw [e5]at q1;cases q1;refine⟨b',k',cs,T,tail,e5,e6,PHeap.one_sub.1 aa,q3,q4,by omega,?_⟩
    intro g hg;obtain⟨b,k,cs,T,tail,q1,q2,_,_⟩:=ac g hg;rw [e5]at q1;cases q1;exact⟨_,q2⟩
  ·exact .inr hb
 ·obtain⟨b,k,cs,T,rs,tail,e1,e2,e3,e4,e5⟩:=hi.cells hl;refine⟨rs,e5,by rw [aH.length e5];exact af.symm,?_⟩
  rcases hb with⟨b',k',e6,e7,e8⟩ | hb
  ·rw [e1]at e6;cases e6;refine .inl ⟨b,k,cs,T,tail,e1,e7,e2,e3,e4,by omega,?_⟩
   rintro g ⟨b1,k1,q1,ag,T1,q2,_⟩;rw [e1]at q1;cases q1;exact⟨_,q2⟩
  ·exact .inr hb
 ·refine⟨bN ks rows,rfl,cX ks rows,?_⟩;rcases hb with⟨b',k',e5,e6,e7⟩ | hb
  ·by_cases ae:k'=0
   ·subst ae;have hc:=zero cap e7;obtain⟨hs,h1,h2,h3,h4,h5,h6⟩:=hi;rcases h1 l _ hl with⟨q1,_⟩ | ⟨b,k,q1,cs,T,tail,q2,q3,q4⟩
    ·right;exact⟨by simp [q1],hc⟩
    ·rw [e5]at q1;cases q1
     have:rows.length*ks.length+tail.length=0:=by
      have:=congrArg List.length q4;rw [Array.length_toList,q3,List.length_append,cX]at this;exact this.symm
     have h0:rows.length*ks.length=0:=by omega
     right;exact⟨zero rows.length omz,hc⟩
   ·left
    have ac: ∀g,(aG.tab ks rows:aG A).interp I V l g-> ∃b k cs T tail,V l=some (b,k)/\g=.one b (.cells cs T)/\cs.size=k/\cs.toList=bN ks rows++tail:=by
     intro g hg;rcases hg with⟨_,_,b,q⟩ | ⟨b,k,q1,cs,T,tail,q2,q3,q4⟩
     ·rw [e5]at q;cases q;exact(ae rfl).elim
     ·exact⟨b,k,cs,T,tail,q1,q2,q3,q4⟩
    obtain⟨hs,h1,h2,h3,h4,h5,h6⟩:=hi;obtain⟨b,k,cs,T,tail,q1,q2,q3,q4⟩:=ac _ (h1 l _ hl);have aa:=h5 l;rw [q2]at aa;rw [e5]at q1;cases q1;refine⟨b',k',cs,T,tail,e5,e6,PHeap.one_sub.1 aa,q3,q4,by omega,?_⟩
    intro g hg;obtain⟨b,k,cs,T,tail,q1,q2,_,_⟩:=ac g hg;rw [e5]at q1;cases q1;exact⟨_,q2⟩
  ·exact .inr hb
theorem oU{ks:List Code1}{rows:List (List Int)}(hk:0<ks.length)(h: []=bN ks rows):rows=[]:=by
 have:=congrArg List.length h;rw [cX]at this;have h0:rows.length*ks.length=0:=this.symm;cases rows with
 | nil=>rfl
 | cons x xs=>
   simp only [List.length_cons,Nat.succ_mul]at h0;omega
def aG.wide:aG A->Bool
 | .tab ks _=>Nat.blt 0 ks.length
 | _=>true
theorem K6{V V':Val}{l m:Nat}{e ey e':aG A}{g:PHeap}(hwd:e.wide=true)(hj:nV e ey=some e')(h1:cR V e [])(h2:cR V ey [])(hV:V.le V')(h: ∀x,V l=some x->V' m=some x)(hi:e.interp I V l g):e'.interp I V' m g:=by
 have hm:=sA (I:=I) hV h hi;unfold nV at hj;split at hj
 ·split at hj
  ·rename_i hc;subst hc;rename_i c xs ys;simp at hj;subst hj;have e2:([]:List Value)=ys.map c.val:=h2;have:ys=[]:=by cases ys with | nil=>rfl | cons y ys=>cases e2
   subst this
   simpa using hm
  ·cases hj
 ·rename_i c xs vs;have aa:vs=[]:=List.length_eq_zero_iff.1 (aH.length h2).symm;subst aa;simp [iE]at hj;subst hj
  simpa using hm
 ·rename_i vs c ys;have aa:vs=[]:=List.length_eq_zero_iff.1 (aH.length h1).symm;subst aa;simp [iE]at hj;subst hj;have e2:([]:List Value)=ys.map c.val:=h2;have:ys=[]:=by cases ys with | nil=>rfl | cons y ys=>cases e2
  subst this;obtain⟨b,k,q1,cs,T,q2,q3,rs,tl,q4,q5⟩:=hm;have:rs=[]:=List.length_eq_zero_iff.1 (aH.length q5);subst this;exact .inr ⟨b,k,q1,cs,T,tl,q2,q3,by simpa using q4⟩
 ·rename_i vs ws;have aa:vs=[]:=List.length_eq_zero_iff.1 (aH.length h1).symm;have ac:ws=[]:=List.length_eq_zero_iff.1 (aH.length h2).symm;subst aa ac;simp at hj;subst hj;exact hm
 ·rename_i ks xs ae ys;have hk:0<ks.length:=Nat.le_of_ble_eq_true hwd;split at hj
  ·rename_i hc;subst hc;simp at hj;subst hj;have:ys=[]:=oU hk h2;subst this
   simpa using hm
  ·cases hj
 ·rename_i ks xs vs;have hk:0<ks.length:=Nat.le_of_ble_eq_true hwd;have aa:vs=[]:=List.length_eq_zero_iff.1 (aH.length h2).symm;subst aa;simp [nF]at hj;subst hj
  simpa using hm
 ·cases hj
theorem dN{w:World}{b off n sz len cap:Nat}{cs:Array Value}{T:TypeId}{fz:Nat×Nat}(hb:w.heap[b]? =some (.cells cs T fz))(l:List Value)(hl:l.length=n*sz)(h: ∀j v,l[j]? =some v->cs[off+j]? =some v):
 (Builtin.firstCells sz n (.slice (some ⟨b,off,none⟩) len cap)).run P w=.ok l.toArray w:=by
 simp only [Builtin.firstCells];rw [<-hl];exact iY hb l h
theorem cA{w:World}{sz len cap:Nat}{base:Option Addr} :(Builtin.firstCells sz 0 (.slice base len cap)).run P w=.ok #[] w:=by
 cases base with
 | none=>simp [Builtin.firstCells]
 | some a=>simp [Builtin.firstCells,loadCells,loadCellsFrom]
theorem i9{x:AVal}{sz:Nat}{h:aC A}{ey:aG A}{m:Nat}{lx:List Nat}{p:Option Prop}{hR:PHeap}{w:World}{x':Value}(hs:lM x sz h=some (ey,m,lx,p))(hp:onp p)(hi:Inv I V (toF h) hR w)(hx:Rep V x x'):
 ∃ws base cap,x'=.slice base m cap/\(∀q,q<=m->(Builtin.firstCells sz q x').run P w=.ok (ws.take (q*sz)).toArray w)/\ws.length=m*sz/\cR V ey ws/\ ∀v∈ws,v.oneCell'=true:=by
 unfold lM at hs;split at hs
 ·rename_i l off n s;split at hs
  ·rename_i ak;subst ak;obtain⟨base,cap,rfl,ac,hb⟩:=hx;split at hs
   ·rename_i c xs hh;split at hs
    ·rename_i ae;subst ae;simp only [sI',pI']at hs;obtain⟨rfl,rfl,rfl,rfl⟩:=hs
     by_cases h0:n=0
     ·subst h0;exact⟨[],base,cap,rfl,fun q hq=>by rw [Nat.le_zero.1 hq];simpa using cA,by simp,by simp [cR],by simp⟩
     ·have af:xs≠ []:=by intro e;subst e;simp at hp;omega
      obtain⟨b,k,cs,T,tail,e1,e2,e3,e4⟩:=hi.ints (l:=l) hh af;rcases hb with⟨b',k',e5,e6,e7⟩ | ⟨e5,_⟩
      ·rw [e1]at e5;cases e5;subst e6;have aa:((xs.drop off).take n).length =n:=by simp;omega
       refine⟨((xs.drop off).take n).map c.val,_,_,rfl,?_,by simp;omega,rfl,by
        intro v hv;obtain⟨y,_,rfl⟩:=List.mem_map.1 hv;cases c<;>rfl⟩
       intro q hq;refine dN e2 _ (by simp;omega) ?_
       intro j v hj;rw [<-Array.getElem?_toList,e4];rw [List.getElem?_take]at hj;split at hj
       case isFalse=>cases hj
       rw [List.getElem?_map,List.getElem?_take]at hj;split at hj
       ·rw [List.getElem?_drop]at hj;cases hq:xs[off+j]? with
        | none=>rw [hq]at hj;cases hj
        | some q=>
          have aq:off+j<xs.length:=by
           cases Nat.lt_or_ge (off+j) xs.length with
           | inl g=>exact g
           | inr g=>rw [List.getElem?_eq_none g]at hq;cases hq
          rw [List.getElem?_append_left (by simpa using aq),List.getElem?_map]
          exact hj
       ·cases hj
      ·exact(h0 e5).elim
    ·cases hs
   ·rename_i vs hh;split at hs
    ·rename_i ag;obtain⟨aa,ah⟩:=ag;simp only [sI',pI']at hs;obtain⟨rfl,rfl,rfl,rfl⟩:=hs;obtain⟨b,k,cs,T,rs,tail,e1,e2,e3,e4,e5⟩:=hi.cells (l:=l) hh;have ax:=aH.length e5;rcases hb with⟨b',k',e6,e7,e8⟩ | ⟨e6,_⟩
     ·rw [e1]at e6;cases e6;subst e7;have ar:((rs.drop off).take (n*s)).length =n*s:=by simp;omega
      refine⟨(rs.drop off).take (n*s),_,_,rfl,?_,ar,aH.take (aH.drop e5 off) _,aH.all (aH.take (aH.drop e5 off) _) ah⟩;intro q hq;have ao:q*s<=n*s:=Nat.mul_le_mul_right _ hq;refine dN e2 _ (by rw [List.length_take];omega) ?_
      intro j v hj;rw [<-Array.getElem?_toList,e4];rw [List.getElem?_take]at hj;split at hj
      case isFalse=>cases hj
      rw [List.getElem?_take]at hj;split at hj
      ·rw [List.getElem?_drop]at hj;rw [List.getElem?_append_left]
       ·exact hj
       ·cases Nat.lt_or_ge (off+j) rs.length with
        | inl g=>exact g
        | inr g=>rw [List.getElem?_eq_none g]at hj;cases hj
      ·cases hj
     ·subst e6;exact⟨[],base,cap,rfl,fun q hq=>by rw [Nat.le_zero.1 hq];simpa using cA,by simp,by simp [cR,aH],by simp⟩
    ·cases hs
   ·cases hs
  ·cases hs
 ·rename_i c xs;split at hs
  case isFalse=>cases hs
  rename_i ae;subst ae;simp only [sI',pI']at hs;obtain⟨rfl,rfl,rfl,rfl⟩:=hs;obtain⟨base,cap,rfl,ac,hb⟩:=hx;rcases hb with⟨b,off,cs,T,fz,rfl,ai,tail,ht⟩ | h0
  ·refine⟨xs.map (Code1.val c),_,_,rfl,?_,by simp,rfl,by
    intro v hv;obtain⟨y,_,rfl⟩:=List.mem_map.1 hv;cases c<;>rfl⟩
   intro q hq;refine dN (hi.conW ai) _ (by simp;omega) ?_
   intro j v hj;rw [<-Array.getElem?_toList,<-List.getElem?_drop,ht];rw [List.getElem?_take]at hj;split at hj
   ·rw [List.getElem?_append_left]
    ·exact hj
    ·cases Nat.lt_or_ge j (xs.map (Code1.val c)).length with
     | inl g=>exact g
     | inr g=>rw [List.getElem?_eq_none g]at hj;cases hj
   ·cases hj
  ·subst h0;exact⟨[],base,cap,rfl,fun q hq=>by rw [Nat.le_zero.1 hq];simpa using cA,by simp,by simp [cR],by simp⟩
 ·rename_i l r n w0;split at hs
  case isFalse=>cases hs
  rename_i hw;subst hw;split at hs
  ·rename_i ks rows hh;split at hs
   ·rename_i au;subst au;simp only [sI',pI']at hs;obtain⟨rfl,rfl,rfl,rfl⟩:=hs;have ap:r+n<=rows.length:=hp;obtain⟨base,cap,rfl,ac,hb⟩:=hx
    by_cases h0:n=0
    ·subst h0;exact⟨[],base,cap,rfl,fun q hq=>by rw [Nat.le_zero.1 hq];simpa using cA,by simp,by simp [cR,bN],by simp⟩
    ·have af:rows≠ []:=by intro e;subst e;simp at ap;omega
     obtain⟨b,k,cs,T,tail,e1,e2,e3,e4⟩:=hi.tab (l:=l) hh af;rcases hb with⟨b',k',e5,e6,e7⟩ | ⟨e5,_⟩
     ·rw [e1]at e5;cases e5;subst e6
      have aj:bN ks ((rows.drop r).take n)=((bN ks rows).drop (r*ks.length)).take (n*ks.length):=by
       rw [sK,A8]
      have aa:(bN ks ((rows.drop r).take n)).length =n*ks.length:=by
       rw [cX,List.length_take,List.length_drop,Nat.min_eq_left omz]
      refine⟨bN ks ((rows.drop r).take n),_,_,rfl,?_,aa,rfl,?_⟩
      ·intro q hq;have ao:q*ks.length<=n*ks.length:=Nat.mul_le_mul_right _ hq;refine dN e2 _ (by rw [List.length_take];omega) ?_
       intro j v hj;rw [<-Array.getElem?_toList,e4];rw [aj]at hj;rw [List.getElem?_take]at hj;split at hj
       ·rw [List.getElem?_take]at hj;split at hj
        ·rw [List.getElem?_drop]at hj;rw [List.getElem?_append_left]
         ·exact hj
         ·cases Nat.lt_or_ge (r*ks.length+j) (bN ks rows).length with
          | inl g=>exact g
          | inr g=>rw [List.getElem?_eq_none g]at hj;cases hj
        ·cases hj
       ·cases hj
      ·intro v hv;unfold bN at hv;obtain⟨rv,am,al⟩:=List.mem_flatten.1 hv;obtain⟨av,_,rfl⟩:=List.mem_map.1 am
       have: ∀(ks:List Code1) (xs:List Int),∀v∈cM ks xs,v.oneCell'=true:=by
        intro ks
        induction ks with
        | nil=>intro xs v hv;cases hv
        | cons k ks ih=>
          intro xs v hv;simp only [cM,List.mem_cons]at hv;rcases hv with rfl | hv
          ·cases k<;>rfl
          ·exact ih _ v hv
       exact this _ _ v al
     ·exact(h0 e5).elim
   ·cases hs
  ·cases hs
 ·simp only [sI',pI']at hs;obtain⟨rfl,rfl,rfl,rfl⟩:=hs;obtain⟨base,rfl⟩:=hx;exact⟨[],base,0,rfl,fun q hq=>by rw [Nat.le_zero.1 hq];simpa using cA,by simp,by simp [cR,aH],by simp⟩
 ·split at hs
  ·rename_i hn;have:=iW hn;subst this;simp only [sI',pI']at hs;obtain⟨rfl,rfl,rfl,rfl⟩:=hs;have:x'=.slice none 0 0:=hx;subst this;exact⟨[],none,0,rfl,fun q hq=>by rw [Nat.le_zero.1 hq];simpa using cA,by simp,by simp [cR,aH],by simp⟩
  ·cases hs
end
end Go.Sh
namespace Go.Sh
open Go
variable [Con] {A:Type} {I:Itp A}
section
variable {P:Program} {V:Val}
theorem gD{st xt ty e e2:TypeId}{base2:Option Addr}{sLen sCap m cap2 sz:Nat}{w:World}{ws:List Value}(h1:P.underlying st=some (.slice e))(h2:P.underlying xt=some (.slice e2))(h3:bW P e=some sz)
 (h4:(Builtin.firstCells sz m (.slice base2 m cap2)).run P w=.ok ws.toArray w) (h5:sLen+m<=sCap):
 (Builtin.append_ #[st,xt] ty #[.slice none sLen sCap,.slice base2 m cap2]).run P w=.ok (.slice none (sLen+m) sCap) w:=by
 simp [Builtin.append_,underlying,h1,h2,aV h3,Builtin.lenOf,h4,h5]
theorem iK{st xt ty e e2:TypeId}{a:Addr}{base2:Option Addr}{sLen sCap m cap2 sz:Nat}{w w':World}{ws:List Value}(h1:P.underlying st=some (.slice e))(h2:P.underlying xt=some (.slice e2))(h3:bW P e=some sz)
 (h4:(Builtin.firstCells sz m (.slice base2 m cap2)).run P w=.ok ws.toArray w) (h5:sLen+m<=sCap) (h6:(storeCells (a.add (sLen*sz)) ws).run P w=.ok () w'):
 (Builtin.append_ #[st,xt] ty #[.slice (some a) sLen sCap,.slice base2 m cap2]).run P w=.ok (.slice (some a) (sLen+m) sCap) w':=by
 simp [Builtin.append_,underlying,h1,h2,aV h3,Builtin.lenOf,h4,h5,h6]
theorem lL{st xt ty e e2:TypeId}{i:TypeInfo}{z:Value}{base base2:Option Addr}{sLen sCap m cap2:Nat}{w:World}{ws row:List Value}(h1:P.underlying st=some (.slice e))(h2:P.underlying xt=some (.slice e2))(h3:P.info? e=some i)(hz:i.zero=some z)
 (h4:(Builtin.firstCells i.size m (.slice base2 m cap2)).run P {w with drawn:=w.drawn+1} =.ok ws.toArray {w with drawn:=w.drawn+1}) (h5:sCap<sLen+m) (hb:i.bytes<=4096) (hm:sLen+m<=4294967296)
 (h6:(Builtin.firstCells i.size sLen (.slice base sLen sCap)).run P {w with drawn:=w.drawn+1} =.ok row.toArray {w with drawn:=w.drawn+1}):
 ∃cap rest,sLen+m<=cap/\rest.length=(cap - (sLen+m))*z.cells.size/\
  (Builtin.append_ #[st,xt] ty #[.slice base sLen sCap,.slice base2 m cap2]).run P w=
    .ok (.slice (some ⟨w.heap.size,0,none⟩) (sLen+m) cap) {w with drawn:=w.drawn+1,heap:=w.heap.push (.cells (row++ws++rest).toArray e) } :=by
 have ag:bW P e=some i.size:=by simp [bW,h3]
 have hn: ¬(sLen+m<=sCap):=by omega
 have ac:IntKind.i64.max=9223372036854775807:=by decide
 have ak: ¬((((sLen+m:Nat):Int)>IntKind.i64.max)/\(false=true\/i.bytes=0)):=by rw [ac];omega
 have aj:=nextslicecap_le h5
 have ai: ¬(Builtin.nextslicecap (sLen+m) sCap*i.bytes>2^48):=by
  have:Builtin.nextslicecap (sLen+m) sCap*i.bytes<=(2*4294967296)*4096:=Nat.mul_le_mul omz hb;omega
 let q:=Question.appendCap (sLen+m) sCap e
 refine⟨q.cut (w.tape w.drawn q),(Builtin.zeroCells z.cells (q.cut (w.tape w.drawn q) - (sLen+m))).toList,?_,?_,?_⟩
 ·show sLen+m<=sLen+m+_;omega
 ·simp [Builtin.zeroCells]
 ·have hf:Question.forced (.appendCap (sLen+m) sCap e)=false:=rfl;have af:(typeInfo e).run P w=.ok i w:=by simp [typeInfo,h3]
  have aa:(typeInfo e).run P {w with drawn:=w.drawn+1} =.ok i {w with drawn:=w.drawn+1} :=by simp [typeInfo,h3]
  have ae:(zeroValue e).run P {w with drawn:=w.drawn+1} =.ok z {w with drawn:=w.drawn+1} :=by simp [zeroValue,typeInfo,h3,hz]
  unfold Builtin.append_;simp only [List.getElem?_toArray,List.getElem?_cons_zero,List.getElem?_cons_succ,Sem.run_bind,underlying,run_program,Result.andThen_ok,h1,h2,Sem.run_pure,aV ag,Builtin.lenOf,Bool.false_eq_true,if_false,hn,Sem.run_ite];simp only [af,Result.andThen_ok,ai,if_false,run_choose,hf,Bool.false_eq_true,Sem.run_bind,run_askRoom,h6,h4,ae,Bool.not_false,if_true,Sem.run_pure,newRow,run_newObj,aa,false_or];have ah: ¬((((sLen+m:Nat):Int)>IntKind.i64.max)/\i.bytes=0):=by rw [ac];omega
  rw [if_neg ah];congr 3;apply congrArg (fun c=>Obj.cells c e);apply Array.ext';simp [q]
theorem dL{s:Sem Value}{v:Value}{w w':World}(h:s.run P w=.ok v w'):(do Pure.pure (.value (<-s)):Sem Next).run P w=.ok (.value v) w':=by
 simp only [Sem.run_bind,h,Result.andThen_ok,Sem.run_pure]
theorem tF: ∀(ws row tail:List Value),ws.length<=tail.length->dV (row++tail) row.length ws=(row++ws)++tail.drop ws.length
 | [],row,tail,_=>by simp [dV]
 | x::ws,row,[],h=>by simp at h
 | x::ws,row,y::tail,h=>by
   simp only [dV,List.length_cons,List.drop_succ_cons]
   have e1:(row++y::tail).set row.length x=(row++ [x])++tail:=by
    rw [List.set_append_right _ _ (Nat.le_refl _),Nat.sub_self];simp
   have e2:row.length+1=(row++ [x]).length :=by simp
   rw [e1,e2,tF ws (row++ [x]) tail (by simp at h;omega)]
   simp
theorem aMz{P:Program}{V:Val}{n:Nat}{hR:PHeap}{w:World}{v u:AVal}{h:bE A}{k:Nat}{s:Sem Next}(hc: ∀V' x,Rep V' v x->Rep V' u x)(ho:dG I P V n hR w v h k s):dG I P V n hR w u h k s:=by
 obtain⟨nx,w',V',v',h1,h2,h3,h4,h5,h6,h7⟩:=ho;exact⟨nx,w',V',v',h1,h2,h3,h4,hc _ _ h5,h6,h7⟩
theorem lU{V:Val}{l n sz:Nat}{x:Value}(h:Rep V (.slice l 0 n sz) x):Rep V (.tslice l 0 n sz) x:=by
 obtain⟨base,cap,e,hc,hb⟩:=h;refine⟨base,cap,e,hc,?_⟩;rw [Nat.zero_mul];exact hb
theorem F2{st xt ty:TypeId}{s x:AVal}{h:aC A}{r:ORes A}{hR:PHeap}{w:World}{s' x':Value}{sem:Sem Next}(hr:zT P st xt s x h=some r)(ho:r.obl)(hi:Inv I V (toF h) hR w)
 (hn: ∀l,h.length<=l->l<h.length+r.new.length->V l=none) (hs:Rep V s s') (hx:Rep V x x') (hsem:sem=(do Pure.pure (.value (<-Builtin.append_ #[st,xt] ty #[s',x'])))):
 dG I P V h.length hR w r.v (toF (r.apply h)) r.new.length sem:=by
 subst hsem;unfold zT at hr;split at hr
 case h_2=>cases hr
 rename_i e e2 h1 h2;cases az:P.info? e with
 | none=>rw [az]at hr;cases hr
 | some i=>
   rw [az]at hr;simp only at hr;split at hr
   case isFalse=>cases hr
   rename_i bi;obtain⟨bu,au,ai⟩:=bi;have ao:bW P e=some i.size:=by simp [bW,az]
   obtain⟨z,hz,b5⟩: ∃z,i.zero=some z/\(jL z).cells.length =i.size:=by
    cases hz:i.zero with
    | none=>rw [hz]at ai;cases ai
    | some z=>rw [hz]at ai;exact⟨z,rfl,by simpa using ai⟩
   have bl:z.cells.size=i.size:=by
    have:=aH.length (dI V z);rw [Array.length_toList]at this;rw [this,b5]
   cases a6:lM x i.size h with
   | none=>rw [a6]at hr;cases hr
   | some q=>
     obtain⟨ey,m,lx,p⟩:=q;rw [a6]at hr;simp only at hr
     have src: ∀n,onp p-> ∃ws aa af,x'=.slice aa m af/\(Builtin.firstCells i.size m x').run P {w with drawn:=n} =.ok ws.toArray {w with drawn:=n} /\ws.length=m*i.size/\cR V ey ws/\ ∀v∈ws,v.oneCell'=true:=
      fun n hp=>by
       obtain⟨ws,aa,af,e1,e2,e3,e4,e5⟩:=i9 a6 hp (hi.drew n) hx;refine⟨ws,aa,af,e1,?_,e3,e4,e5⟩;have:=e2 m (Nat.le_refl _)
       rwa [<-e3,List.take_length]at this
     have main: ∀(l n:Nat) (en e':aG A) (base:Option Addr) (cap:Nat),aL h l=some en->s'=.slice base n cap->n<=cap->nV en ey=some e'->onp p->n+m<=4294967296->
      ((∃c xs,en=.ints c xs/\n=xs.length/\i.size=1)\/(∃vs,en=.cells vs/\n*i.size=vs.length)\/(∃ks rows,en=.tab ks rows/\n=rows.length/\i.size=ks.length))->
      ((∃b k,V l=some (b,k)/\base=some ⟨b,0,none⟩/\0+cap*i.size<=k)\/(n=0/\cap=0))->V h.length=none->
      dG I P V h.length hR w (.slice h.length 0 (n+m) i.size) (toF (hupd h [(l,none)]++ [e'].map some)) 1 (do Pure.pure (.value (<-Builtin.append_ #[st,xt] ty #[s',x']))):=by
      intro l n en e' base cap hl ae am hj hp b1 bf hb hV
      have b7:en.wide=true:=by
       rcases bf with⟨c,xs,rfl,_⟩ | ⟨vs,rfl,_⟩ | ⟨ks,rows,rfl,_,hk⟩
       ·rfl
       ·rfl
       ·show Nat.blt 0 ks.length=true;exact Nat.ble_eq_true_of_le omz
      subst ae;have b8:=cH hl
      have hF:toF (hupd h [(l,none)]++ [e'].map some)=((toF h).put l none).put h.length (some e'):=by
       have h1:hupd h [(l,none)]=h.set l none:=rfl;rw [h1];have h2:(h.set l none).length =h.length:=by simp
       have:=fO (h.set l none) e';rw [h2,eR none b8]at this;exact this
      rw [hF];have ag:h.length≠l:=by omega
      obtain⟨ws,aa,af,rfl,aj,av,ay,bg⟩:=src w.drawn hp;obtain⟨ba,b3,cf,cb,br,bq,bo,ci⟩:=src (w.drawn+1) hp;cases cb
      have grow: ∀row:List Value,cR V en row->row.length=n*i.size->cap<n+m->(∀d,(Builtin.firstCells i.size n (.slice base n cap)).run P {w with drawn:=d} =.ok row.toArray {w with drawn:=d})->
       dG I P V h.length hR w (.slice h.length 0 (n+m) i.size) (((toF h).put l none).put h.length (some e')) 1 (do Pure.pure (.value (<-Builtin.append_ #[st,xt] ty #[.slice base n cap,.slice aa m af]))):=by
       intro row r1 r2 bx r3;obtain⟨ah,rest,g1,g2,g3⟩:=lL (ty:=ty) h1 h2 az hz br bx au b1 (r3 _);have aq:cR V e' (row++ba):=yF hj r1 bo
       have ap:(row++ba++rest).toArray.size =ah*i.size:=by
        simp only [List.size_toArray,List.length_append,r2,bq,g2,bl];rw [<-Nat.add_mul,<-Nat.add_mul];congr 1;omega
       have al:=Inv.push (e:=e') (k:=ah*i.size) (o:=.cells (row++ba++rest).toArray e) ((hi.drew (w.drawn+1)).kill l) hV (by simp [bE.put,ag];exact cC (Nat.le_refl _))
        (lA (aLI _ _ _) (cR.mono (aLO hV) aq) (by simp;rfl) ap)
       have ac:(do Pure.pure (.value (<-Builtin.append_ #[st,xt] ty #[.slice base n cap,.slice aa m af])):Sem Next).run P w=.ok (.value (.slice (some ⟨w.heap.size,0,none⟩) (n+m) ah)) {w with drawn:=w.drawn+1,heap:=w.heap.push (.cells (row++ba++rest).toArray e) } :=by
        simp only [Sem.run_bind,g3,Result.andThen_ok,Sem.run_pure]
       refine⟨_,_,V.add h.length (w.heap.size,ah*i.size),_,ac,.inl rfl,aLO hV,iS,?_,al,⟨rfl,rfl,by simp,fun _ _=>d7 _ _ _ _⟩⟩
       exact⟨_,_,rfl,g1,.inl ⟨_,_,aLI _ _ _,rfl,by omega⟩⟩
      have cd: ∃V':Val,V.le V'/\(∀x,V l=some x->V' h.length=some x)/\(∀l,V l=none->V' l≠none->h.length<=l/\l<h.length+1):=by
       cases cj:V l with
       | none=>exact⟨V,V.le_refl,fun x e=>(by cases e),fun l e f=>(f e).elim⟩
       | some x=>exact⟨V.add h.length x,aLO hV,fun y e=>by cases e;exact aLI _ _ _,iS⟩
      obtain⟨V',v1,v2,v3⟩:=cd;obtain⟨row,r1,r2,r3⟩:=aGe hi hl bu bf hb;rcases r3 with⟨b,k,cs,T,tail,t1,t2,t3,t4,t5,t6,t7⟩ | ⟨t1,t2⟩
      ·subst t2
       have bb: ∀d,(Builtin.firstCells i.size n (.slice (some ⟨b,0,none⟩) n cap)).run P {w with drawn:=d} =.ok row.toArray {w with drawn:=d} :=by
        intro d;refine dN (w:= {w with drawn:=d}) t3 row r2 ?_
        intro j v hj;rw [<-Array.getElem?_toList,t5,Nat.zero_add,List.getElem?_append_left]
        ·exact hj
        ·cases Nat.lt_or_ge j row.length with
         | inl g=>exact g
         | inr g=>rw [List.getElem?_eq_none g]at hj;cases hj
       by_cases a8:n+m<=cap
       ·have bs:n*i.size+ws.length<=cs.size:=by
         rw [av,<-Nat.add_mul];exact Nat.le_trans (Nat.mul_le_mul_right _ a8) omz
        obtain⟨w',bk,q1,q2,q3,q4,q5⟩:=eG (P:=P) ws 0 w b (n*i.size) cs T t3 bg omz;have ac:=iK (ty:=ty) (a:=⟨b,0,none⟩) h1 h2 ao aj a8 (w':=w') (by rw [Addr.add_lit,Nat.zero_add];exact q1)
        have aq:cR V e' (row++ws):=yF hj r1 ay
        have b0:bk.toList=(row++ws)++tail.drop ws.length:=by
         rw [q3,t5,Nat.add_zero,<-r2];exact tF ws row tail (by rw [<-Array.length_toList,t5,<-r2]at bs;simp at bs;omega)
        have ca:bk.size=k:=by
         rw [<-Array.length_toList,q3,eP,Array.length_toList];exact t4
        have a7:=hi.replace (e:=en) (e':=e') hl (b:=b) (o':=.cells bk T) t7 (lA t1 aq b0 ca) q2 q4;have bw:=a7.move (m:=h.length) ag (e:=e') (e':=e') (by simp [bE.put]) (by simp [bE.put,ag];exact cC (Nat.le_refl _)) v1 (fun g hg=>sA v1 v2 hg)
        have bt:(((toF h).put l (some e')).put l none).put h.length (some e')=((toF h).put l none).put h.length (some e'):=by
         funext x;by_cases bm:x=h.length
         ·simp [bE.put,bm]
         ·by_cases b6:x=l<;>simp [bE.put,bm,b6]
        rw [bt]at bw;refine⟨_,w',V',_,dL ac,.inl rfl,v1,v3,?_,bw,q5⟩;exact⟨_,cap,rfl,a8,.inl ⟨b,k,v2 _ t1,rfl,by omega⟩⟩
       ·exact grow row r1 r2 omz bb
      ·subst t1 t2;have bh:row=[]:=List.length_eq_zero_iff.1 (by simpa using r2)
       subst bh
       by_cases hm:m=0
       ·subst hm;have ax:ws=[]:=List.length_eq_zero_iff.1 (by simpa using av)
        subst ax
        have ac:(Builtin.append_ #[st,xt] ty #[.slice base 0 0,.slice aa 0 af]).run P w=.ok (.slice base 0 0) w:=by
         cases base with
         | none=>exact gD h1 h2 ao aj (Nat.le_refl _)
         | some a=>exact iK h1 h2 ao aj (Nat.le_refl _) (by simp [storeCells])
        refine⟨_,w,V',_,dL ac,.inl rfl,v1,v3,?_,?_,aLS w⟩
        ·exact⟨base,0,rfl,Nat.le_refl _,.inr ⟨rfl,rfl⟩⟩
        ·exact hi.move ag hl (cC (Nat.le_refl _)) v1 (fun g hg=>K6 b7 hj r1 ay v1 v2 hg)
       ·exact grow [] r1 r2 omz (fun d=>cA)
     have nil0: ∀(base:Option Addr),s'=.slice base 0 0->onp p->m=0->Rep V (r.v) (.slice base 0 0)->dG I P V h.length hR w r.v (toF h) 0 (do Pure.pure (.value (<-Builtin.append_ #[st,xt] ty #[s',x']))):=by
      intro base ae hp hm a7;subst ae hm;obtain⟨ws,aa,af,rfl,aj,av,ay,bg⟩:=src w.drawn hp;have ax:ws=[]:=List.length_eq_zero_iff.1 (by simpa using av)
      subst ax
      have ac:(Builtin.append_ #[st,xt] ty #[.slice base 0 0,.slice aa 0 af]).run P w=.ok (.slice base 0 0) w:=by
       cases base with
       | none=>exact gD h1 h2 ao aj (Nat.le_refl _)
       | some a=>exact iK h1 h2 ao aj (Nat.le_refl _) (by simp [storeCells])
      exact dG.pure hi a7 (dL ac)
     have ar: ∀(base:Option Addr),s'=.slice base 0 0->onp p->m<=4294967296->(ey=.cells []->False)->V h.length=none->(cR V ey []-> ∀V':Val,(∃b,V' h.length=some (b,0))->ey.interp I V' h.length .emp)->
      dG I P V h.length hR w (.slice h.length 0 m i.size) (toF (h++ [some ey])) 1 (do Pure.pure (.value (<-Builtin.append_ #[st,xt] ty #[s',x']))):=by
      intro base ae o1 o2 ag hV bz;subst ae;obtain⟨ws,aa,af,rfl,aj,av,ay,bg⟩:=src (w.drawn+1) o1;obtain⟨b4,b2,ce,h0,bd,bp,bn,cg⟩:=src w.drawn o1;cases h0
      by_cases hm:m=0
      ·subst hm;have ax:b4=[]:=List.length_eq_zero_iff.1 (by simpa using bp)
       subst ax
       have ac:(Builtin.append_ #[st,xt] ty #[.slice base 0 0,.slice aa 0 af]).run P w=.ok (.slice base 0 0) w:=by
        cases base with
        | none=>exact gD h1 h2 ao bd (Nat.le_refl _)
        | some a=>exact iK h1 h2 ao bd (Nat.le_refl _) (by simp [storeCells])
       have al:=hi.emptyE hV (cC (Nat.le_refl _)) (bz bn);refine⟨_,w,V.add h.length (0,0),_,dL ac,.inl rfl,aLO hV,iS,⟨_,_,rfl,Nat.le_refl _,.inr ⟨rfl,rfl⟩⟩,?_,aLS w⟩;rw [fO];exact al
      ·obtain⟨ah,rest,g1,g2,g3⟩:=lL (ty:=ty) (base:=base) (sLen:=0) (sCap:=0) (row:=[]) h1 h2 az hz aj omz au omz cA
       have ap:([]++ws++rest).toArray.size =ah*i.size:=by
        simp only [List.size_toArray,List.length_append,av,g2,bl,List.length_nil,Nat.zero_add];rw [<-Nat.add_mul];congr 1;omega
       have al:=Inv.push (e:=ey) (k:=ah*i.size) (o:=.cells ([]++ws++rest).toArray e) (hi.drew (w.drawn+1)) hV (cC (Nat.le_refl _))
        (lA (aLI _ _ _) (cR.mono (aLO hV) ay) (by simp;rfl) ap)
       have ac:=dL g3;rw [Nat.zero_add]at ac g1;refine⟨_,_,V.add h.length (w.heap.size,ah*i.size),_,ac,.inl rfl,aLO hV,iS,?_,?_,⟨rfl,rfl,by simp,fun _ _=>d7 _ _ _ _⟩⟩
       ·exact⟨_,_,rfl,g1,.inl ⟨_,_,aLI _ _ _,rfl,by omega⟩⟩
       ·rw [fO];exact al
     have bc:(ey=.cells []->False)->(∀ks ys,ey=.tab ks ys->False)->cR V ey []-> ∀V':Val,(∃b,V' h.length=some (b,0))->ey.interp I V' h.length .emp :=by
      intro ag ak hr V' hb;cases ey with
      | ints c xs=>cases xs with
        | nil=>exact .inl ⟨rfl,rfl,hb⟩
        | cons y ys=>have e2:([]:List Value)=_:=hr;cases e2
      | cells vs=>
        have:vs=[]:=List.length_eq_zero_iff.1 (aH.length hr).symm;subst this;exact(ag rfl).elim
      | abs t ps=>exact hr.elim
      | tab ks ys=>exact(ak ks ys rfl).elim
      | imap kk vc m=>exact hr.elim
      | iter lm kk vc m left cur=>exact hr.elim
     split at hr
     ·rename_i l off n sz;split at hr
      case isFalse=>cases hr
      rename_i hc;obtain⟨bj,cc⟩:=hc;subst bj;obtain⟨base,cap,ae,am,hb⟩:=hs;split at hr
      ·rename_i c xs hl;cases hj:nV (.ints c xs) ey with
       | none=>rw [hj]at hr;cases hr
       | some e'=>
         rw [hj]at hr;simp only [sI']at hr;subst hr;obtain⟨o1,o2,o3,o4,o5⟩:=eY.1 ho;subst o2;exact main l n (.ints c xs) e' base cap hl ae am hj o1 o5 (.inl ⟨c,xs,rfl,o3,o4⟩) hb (hn _ (Nat.le_refl _) (by simp))
      ·rename_i vs hl;split at hr
       case isFalse=>cases hr
       rename_i hv;cases hj:nV (.cells vs) ey with
       | none=>rw [hj]at hr;cases hr
       | some e'=>
         rw [hj]at hr;simp only [sI']at hr;subst hr;obtain⟨o1,o5⟩:=eY.1 ho;rw [hv.1]at hb;exact main l n (.cells vs) e' base cap hl ae am hj o1 o5 (.inr (.inl ⟨vs,rfl,hv.2⟩)) hb (hn _ (Nat.le_refl _) (by simp))
      ·cases hr
     ·rename_i l r0 n w0;split at hr
      case isFalse=>cases hr
      rename_i hc;obtain⟨bj,cc⟩:=hc;subst bj;obtain⟨base,cap,ae,am,hb⟩:=hs;split at hr
      ·rename_i ks rows hl;split at hr
       case isFalse=>cases hr
       rename_i b9;cases hj:nV (.tab ks rows) ey with
       | none=>rw [hj]at hr;cases hr
       | some e'=>
         rw [hj]at hr;simp only [sI']at hr;subst hr;obtain⟨o1,o2,o3,o5⟩:=eY.1 ho;subst o2;rw [Nat.zero_mul]at hb;exact aMz (fun _ _=>lU) (main l n (.tab ks rows) e' base cap hl ae am hj o1 o5 (.inr (.inr ⟨ks,rows,rfl,o3,b9.symm⟩)) hb (hn _ (Nat.le_refl _) (by simp)))
      ·cases hr
     ·obtain⟨base,ae⟩:=hs;split at hr
      ·simp only [sI']at hr;subst hr;obtain⟨o1,o2⟩:=eY.1 ho;subst o2;rw [cZ rfl rfl];exact nil0 base ae o1 rfl ⟨base,rfl⟩
      ·split at hr
       case isFalse=>cases hr
       rename_i ks ys hk;simp only [sI']at hr;subst hr;obtain⟨o1,o2⟩:=eY.1 ho
       exact aMz (fun _ _=>lU) (ar base ae o1 o2 (fun h=>by cases h) (hn _ (Nat.le_refl _) (by simp)) (fun h=>by
        refine fun V' hb=>?_;have:ys=[]:=oU omz h;subst this;exact .inl ⟨rfl,rfl,hb⟩))
      ·rename_i ag ak;simp only [sI']at hr;subst hr;obtain⟨o1,o2⟩:=eY.1 ho;exact ar base ae o1 o2 (fun h=>ag h) (hn _ (Nat.le_refl _) (by simp)) (bc ag ak)
     ·split at hr
      case isFalse=>cases hr
      rename_i bv;have:=iW bv;subst this;have ae:s'=.slice none 0 0:=hs;split at hr
      ·simp only [sI']at hr;subst hr;obtain⟨o1,o2⟩:=eY.1 ho;subst o2;rw [cZ rfl rfl];exact nil0 none ae o1 rfl rfl
      ·split at hr
       case isFalse=>cases hr
       rename_i ks ys hk;simp only [sI']at hr;subst hr;obtain⟨o1,o2⟩:=eY.1 ho
       exact aMz (fun _ _=>lU) (ar none ae o1 o2 (fun h=>by cases h) (hn _ (Nat.le_refl _) (by simp)) (fun h=>by
        refine fun V' hb=>?_;have:ys=[]:=oU omz h;subst this;exact .inl ⟨rfl,rfl,hb⟩))
      ·rename_i ag ak;simp only [sI']at hr;subst hr;obtain⟨o1,o2⟩:=eY.1 ho;exact ar none ae o1 o2 (fun h=>ag h) (hn _ (Nat.le_refl _) (by simp)) (bc ag ak)
end
end Go.Sh
namespace Go.Sh
open Go
variable [Con] {A:Type} {I:Itp A}
section
variable {P:Program} {V:Val}
theorem P8{t ty:TypeId}{a v:AVal}{x:Value}{w:World}(h:aDf P t a=some v)(hx:Rep V a x): ∃v',(Builtin.len_ #[t] ty #[x]).run P w=.ok v' w/\Rep V v v':=by
 unfold aDf at h;split at h
 ·rename_i s hu;simp at h;subst h;have:x=.string s:=hx;subst this;exact⟨_,by simp [Builtin.len_,underlying,hu,goInt],rfl⟩
 ·rename_i hu;simp at h;subst h;obtain⟨base,cap,rfl,_⟩:=hx;exact⟨_,by simp [Builtin.len_,underlying,hu,goInt],rfl⟩
 ·rename_i hu;simp at h;subst h;have:x=.slice _ _ _:=hx;subst this;exact⟨_,by simp [Builtin.len_,underlying,hu,goInt],rfl⟩
 ·rename_i hu;simp at h;subst h;obtain⟨base,cap,rfl,_⟩:=hx;exact⟨_,by simp [Builtin.len_,underlying,hu,goInt],rfl⟩
 ·rename_i hu;simp at h;subst h;obtain⟨base,cap,rfl,_⟩:=hx;exact⟨_,by simp [Builtin.len_,underlying,hu,goInt],rfl⟩
 ·rename_i hu;simp at h;subst h;obtain⟨base,cap,rfl,_⟩:=hx;exact⟨_,by simp [Builtin.len_,underlying,hu,goInt],rfl⟩
 ·rename_i hu;simp at h;subst h;obtain⟨base,rfl⟩:=hx;exact⟨.int .i64 0,by simp [Builtin.len_,underlying,hu,goInt],rfl⟩
 ·rename_i n e hu;simp at h;subst h;exact⟨_,by simp [Builtin.len_,underlying,hu,goInt],rfl⟩
 ·cases h
theorem QJ{w:World} : ∀(xs:List AVal) (x v:AVal) (x':Value) (ys:List Value),jY (fun m n=>ilt m n) x xs=some v->Rep V x x'->aH V xs ys-> ∃v',(ys.foldlM Builtin.min2 x').run P w=.ok v' w/\Rep V v v':=by
 intro xs
 induction xs with
 | nil=>
   intro x v x' ys h hx hr;have:ys=[]:=hr;subst this;cases x<;>simp [jY]at h
   subst h;exact⟨x',by simp,hx⟩
 | cons y xs ih=>
   rintro x v x' _ h hx ⟨y',ys,rfl,ry,rs⟩;cases x<;>cases y<;>simp [jY]at h
   obtain⟨rfl,h⟩:=h;rename_i k n m;have e1:x'=.int k n:=hx;have e2:y'=.int k m:=ry;subst e1 e2;obtain⟨v',h1,h2⟩:=ih _ v (.int k (if m<n then m else n)) ys h (by by_cases hc:m<n<;>simp [hc,Rep,bC]) rs
   exact⟨v',by simp only [List.foldlM_cons,Builtin.min2,Sem.run_bind,Sem.run_pure,Result.andThen_ok,h1],h2⟩
theorem QI{w:World} : ∀(xs:List AVal) (x v:AVal) (x':Value) (ys:List Value),jY (fun m n=>ilt n m) x xs=some v->Rep V x x'->aH V xs ys-> ∃v',(ys.foldlM Builtin.max2 x').run P w=.ok v' w/\Rep V v v':=by
 intro xs
 induction xs with
 | nil=>
   intro x v x' ys h hx hr;have:ys=[]:=hr;subst this;cases x<;>simp [jY]at h
   subst h;exact⟨x',by simp,hx⟩
 | cons y xs ih=>
   rintro x v x' _ h hx ⟨y',ys,rfl,ry,rs⟩;cases x<;>cases y<;>simp [jY]at h
   obtain⟨rfl,h⟩:=h;rename_i k n m;have e1:x'=.int k n:=hx;have e2:y'=.int k m:=ry;subst e1 e2;obtain⟨v',h1,h2⟩:=ih _ v (.int k (if m>n then m else n)) ys h (by by_cases hc:m>n<;>simp [hc,Rep,bC]) rs
   exact⟨v',by simp only [List.foldlM_cons,Builtin.max2,Sem.run_bind,Sem.run_pure,Result.andThen_ok,h1],h2⟩
theorem v7{z:Value}{c:Code1}(h:sZ z=some c):z=c.val 0:=by
 unfold sZ at h;split at h
 ·simp at h;subst h;rfl
 ·simp at h;subst h;rfl
 ·cases h
theorem OV{v:Value}(n:Nat):((Array.range n).map fun i=>(#[v]:Array Value)[i%(#[v]:Array Value).size]!).toList =List.replicate n v:=by
 apply List.ext_getElem
 ·simp
 ·intro i h1 h2;simp at h1;simp [Nat.mod_one]
theorem tY{as:List AVal}{vs:List Value}(h:aH V as vs): ∀n:Nat,aH V (List.replicate n as).flatten (List.replicate n vs).flatten
 | 0=>by simp [aH]
 | n+1=>by
   simp only [List.replicate_succ,List.flatten_cons];exact aH.append h (tY h n)
theorem IG{zs:Array Value}(n:Nat):((Array.range (n*zs.size)).map fun i=>zs[i%zs.size]!).toList =(List.replicate n zs.toList).flatten :=by
 rw [Array.toList_map,Array.toList_range]
 induction n with
 | zero=>simp
 | succ n ih=>
   rw [Nat.succ_mul,Nat.add_comm,List.range_add,List.map_append];simp only [List.replicate_succ,List.flatten_cons];congr 1
   ·apply List.ext_getElem
    ·simp
    ·intro i h1 h2;simp at h1;simp [Nat.mod_eq_of_lt h1,h1]
   ·rw [<-ih,List.map_map];apply List.map_congr_left;intro i _
    simp
theorem pU{t e:TypeId}{i:TypeInfo}{z:Value}{k k':IntKind}{n:Int}{w:World}(hu:P.underlying t=some (.slice e))(hi:P.info? e=some i)(hz:i.zero=some z)(hb:i.bytes<=4096)(h0:0<=n)(hn:n<=4294967296)(hs:z.cells.size=i.size)(hp:0<i.size):
 (Instr.makeSlice t (.int k n) (.int k' n)).run P w=.ok (.slice (some ⟨w.heap.size,0,none⟩) n.toNat n.toNat) {w with heap:=w.heap.push (.cells (((Array.range (n.toNat*i.size)).map fun j=>z.cells[j%z.cells.size]!)) e) } :=by
 have hw:IntKind.i64.wrap n=n:=IntWalk.i64_in n ⟨by omega,by omega⟩
 have af:(typeInfo e).run P w=.ok i w:=by simp [typeInfo,hi]
 have aj: ¬((i.bytes:Int)*n>2^48):=by
  have:(i.bytes:Int)*n<=4096*4294967296:=Int.mul_le_mul omz hn h0 omz;omega
 have ah: ¬n<0:=by omega
 have ag:bW P e=some i.size:=by simp [bW,hi]
 have ai:(zeroValue e).run P w=.ok z w:=by simp [zeroValue,typeInfo,hi,hz]
 have ac:decide ((i.bytes:Int)*n>2^48)=false:=by simpa using aj
 have aa:decide (n<0)=false:=by simpa using ah
 by_cases ae:n.toNat*i.size=0
 ·simp only [Instr.makeSlice,underlying,hu,Sem.run_bind,run_program,Result.andThen_ok,Sem.run_pure,asInt,asIntOf,af,hw,aa,ac];simp [aV ag,ae,newRow,Array.range_zero']
 ·simp only [Instr.makeSlice,underlying,hu,Sem.run_bind,run_program,Result.andThen_ok,Sem.run_pure,asInt,asIntOf,af,hw,aa,ac];simp [aV ag,ae,newRow,ai]
theorem xW{t:TypeId}{n m:AVal}{h:aC A}{r:ORes A}{hR:PHeap}{w:World}{n' m':Value}{sem:Sem Next}(hr:qD P t n m h=some r)(ho:r.obl)(hi:Inv I V (toF h) hR w)
 (hn: ∀l,h.length<=l->l<h.length+r.new.length->V l=none) (h1:Rep V n n') (h2:Rep V m m') (hsem:sem=(do Pure.pure (.value (<-Instr.makeSlice t n' m')))):
 dG I P V h.length hR w r.v (toF (r.apply h)) r.new.length sem:=by
 subst hsem;unfold qD at hr;split at hr
 case h_2=>cases hr
 rename_i e k n k' m hu;have e1:n'=.int k n:=h1;have e2:m'=.int k' m:=h2;subst e1 e2;cases af:P.info? e with
 | none=>rw [af]at hr;cases hr
 | some i=>
   rw [af]at hr;simp only at hr;split at hr
   case isFalse=>cases hr
   rename_i hc;obtain⟨hb,hp⟩:=hc;cases hz:i.zero with
   | none=>rw [hz]at hr;cases hr
   | some z=>
     rw [hz]at hr;simp only at hr;have ai:=aH.length (dI V z);rw [Array.length_toList]at ai;cases ah:sZ z with
     | some c=>
       rw [ah]at hr;simp only at hr;split at hr
       case isFalse=>cases hr
       rename_i aj;simp only [sI']at hr;subst hr;obtain⟨o1,rfl,o3⟩:=ho;have am:=v7 ah;have ae:z.cells= #[c.val 0]:=by rw [am];cases c<;>rfl
       have aa:=pU (k:=k) (k':=k') (w:=w) hu af hz hb o1 o3 (by rw [ae,aj];rfl) hp
       have hV:=hn h.length (Nat.le_refl _) (by simp)
       rw [aj,Nat.mul_one,ae]at aa
       have ac:=Inv.push (e:=.ints c (List.replicate n.toNat 0)) (k:=n.toNat) (o:=.cells ((Array.range n.toNat).map fun j=>(#[c.val 0]:Array Value)[j%(#[c.val 0]:Array Value).size]!) e) hi hV (cC (Nat.le_refl _))
        (lA (row:=List.replicate n.toNat (c.val 0)) (tail:=[]) (aLI _ _ _) (by simp [cR]) (by rw [OV];simp) (by simp))
       refine⟨_,_,V.add h.length (w.heap.size,n.toNat),_,dL aa,.inl rfl,aLO hV,iS,?_,?_,⟨rfl,rfl,by simp,fun _ _=>d7 _ _ _ _⟩⟩
       ·exact⟨_,_,rfl,Nat.le_refl _,.inl ⟨_,_,aLI _ _ _,rfl,by omega⟩⟩
       ·show Inv I _ (toF (h++ [some _])) hR _;rw [fO];exact ac
     | none=>
       rw [ah]at hr;cases al:D5 z with
       | true=>rw [al]at hr;cases hr
       | false=>
       rw [al]at hr;simp only [cond_false,sI']at hr;subst hr;obtain⟨⟨o1,rfl,o3⟩,o4⟩:=ho;have ag:z.cells.size=i.size:=by rw [ai];exact o4
       have aa:=pU (k:=k) (k':=k') (w:=w) hu af hz hb o1 o3 ag hp;have hV:=hn h.length (Nat.le_refl _) (by simp)
       have ak:=tY (dI V z) n.toNat;rw [<-ag]at aa
       have ac:=Inv.push (e:=.cells ((List.replicate n.toNat (jL z).cells).flatten)) (k:=n.toNat*i.size) (o:=.cells ((Array.range (n.toNat*z.cells.size)).map fun j=>z.cells[j%z.cells.size]!) e) hi hV (cC (Nat.le_refl _))
        (lA (row:=(List.replicate n.toNat z.cells.toList).flatten) (tail:=[]) (aLI _ _ _) (aH.mono (aLO hV) _ _ ak) (by rw [IG];simp) (by simp [ag]))
       refine⟨_,_,V.add h.length (w.heap.size,n.toNat*i.size),_,dL aa,.inl rfl,aLO hV,iS,?_,?_,⟨rfl,rfl,by simp,fun _ _=>d7 _ _ _ _⟩⟩
       ·exact⟨_,_,rfl,Nat.le_refl _,.inl ⟨_,_,aLI _ _ _,rfl,by omega⟩⟩
       ·show Inv I _ (toF (h++ [some _])) hR _;rw [fO];exact ac
theorem xA(c:Code1): ∀(ys xs:List Int) (off:Nat),off+ys.length<=xs.length->dV (xs.map c.val) off (ys.map c.val)=(oM xs off ys).map c.val
 | [],xs,off,_=>by simp [dV,oM]
 | y::ys,xs,off,h=>by
   simp only [List.length_cons]at h;simp only [List.map_cons,dV];rw [<-List.map_set,xA c ys (xs.set off y) (off+1) (by simp;omega)]
   congr 1;unfold oM;rw [List.take_set,List.drop_set_of_lt omz];have hlt:off<xs.length:=by omega
   have e1:(xs.take (off+1)).set off y=xs.take off++ [y]:=by
    rw [List.take_succ_eq_append_getElem hlt,List.set_append_right _ _ (by simp;omega)]
    have:off - (List.take off xs).length =0:=by rw [List.length_take];omega
    rw [this];rfl
   rw [e1];simp [Nat.add_assoc,Nat.add_comm 1 ys.length]
theorem yO{dt xt ty e:TypeId}{base2:Option Addr}{n cap m cap2 sz:Nat}{w:World}{ws:List Value}(h1:P.underlying dt=some (.slice e))(h3:bW P e=some sz)
 (h4:(Builtin.firstCells sz (Nat.min m n) (.slice base2 m cap2)).run P w=.ok ws.toArray w):
 (Builtin.copy_ #[dt,xt] ty #[.slice none n cap,.slice base2 m cap2]).run P w=.ok (.int .i64 ((Nat.min m n:Nat):Int)) w:=by
 generalize hq:Nat.min m n=q at*;simp [Builtin.copy_,underlying,h1,Builtin.lenOf,aV h3,hq,h4,goInt]
theorem s8{dt xt ty e:TypeId}{a:Addr}{base2:Option Addr}{n cap m cap2 sz:Nat}{w w':World}{ws:List Value}(h1:P.underlying dt=some (.slice e))(h3:bW P e=some sz)
 (h4:(Builtin.firstCells sz (Nat.min m n) (.slice base2 m cap2)).run P w=.ok ws.toArray w) (h6:(storeCells a ws).run P w=.ok () w'):
 (Builtin.copy_ #[dt,xt] ty #[.slice (some a) n cap,.slice base2 m cap2]).run P w=.ok (.int .i64 ((Nat.min m n:Nat):Int)) w':=by
 generalize hq:Nat.min m n=q at*;simp [Builtin.copy_,underlying,h1,Builtin.lenOf,aV h3,hq,h4,h6,goInt]
theorem P2{dt xt ty:TypeId}{d x:AVal}{h:aC A}{r:ORes A}{hR:PHeap}{w:World}{d' x':Value}{sem:Sem Next}(hr:P1 P dt d x h=some r)(ho:r.obl)(hi:Inv I V (toF h) hR w)
 (h1:Rep V d d') (h2:Rep V x x') (hsem:sem=(do Pure.pure (.value (<-Builtin.copy_ #[dt,xt] ty #[d',x'])))):
 dG I P V h.length hR w r.v (toF (r.apply h)) r.new.length sem:=by
 subst hsem;unfold P1 at hr;split at hr
 case h_2=>cases hr
 rename_i e hu;split at hr
 case h_2=>cases hr
 rename_i l off n hs;obtain⟨base,cap,rfl,ay,hb⟩:=h1;split at hr
 ·rename_i c xs c' ys m lx p hl aa;split at hr
  case isFalse=>cases hr
  rename_i hc;obtain⟨rfl,a7⟩:=hc;simp only [sI']at hr;subst hr;obtain⟨o1,o2⟩:=eY.1 ho;obtain⟨ws,ac,cap2,rfl,s2,aq,s3,s4⟩:=i9 (V:=V) aa o1 hi h2;have e3:ws=ys.map c.val:=s3;have ax:=cH hl;have first:=s2 (Nat.min m n) (Nat.min_le_left _ _)
  rw [Nat.mul_one]at first
  have hF:toF (hupd h [(l,some (.ints c (oM xs off (ys.take (min m n)))))]++([]:List (Option (aG A))))=(toF h).put l (some (.ints c (oM xs off (ys.take (min m n))))):=by
   rw [List.append_nil];exact eR _ ax
  have af:(ws.take (Nat.min m n)).length =min m n:=by
   rw [List.length_take,aq];show min (min m n) (m*1)=min m n;omega
  show dG I P V h.length hR w _ (toF (hupd h [(l,some (.ints c (oM xs off (ys.take (min m n)))))]++ [])) 0 _;rw [hF]
  by_cases am:min m n=0
  ·have ag:ys.take (min m n)=[]:=by rw [am];rfl
   have ai:(toF h).put l (some (.ints c (oM xs off (ys.take (min m n)))))=toF h:=by
    rw [ag];have:oM xs off []=xs:=by simp [oM]
    rw [this];funext q
    by_cases hq:q=l
    ·subst hq;simp [bE.put];exact hl.symm
    ·simp [bE.put,hq]
   rw [ai];refine dG.pure (v':=.int .i64 ((min m n:Nat):Int)) hi rfl ?_;have au:ws.take (Nat.min m n)=[]:=List.length_eq_zero_iff.1 (by rw [af];exact am)
   rw [au]at first
   refine dL ?_;cases base with
   | none=>exact yO hu hs first
   | some a=>exact s8 hu hs first (by simp [storeCells])
  ·have av:n≠0:=by omega
   have ah:xs≠ []:=by intro e;subst e;simp at o2;omega
   obtain⟨b,k,cs,T,tail,t1,t2,t3,t4⟩:=hi.ints (l:=l) hl ah;rcases hb with⟨b',k',t5,rfl,t6⟩ | ⟨t5,_⟩
   ·rw [t1]at t5;cases t5;have a6:cs.size=xs.length+tail.length:=by rw [<-Array.length_toList,t4];simp
    obtain⟨w',ap,q1,q2,q3,q4,q5⟩:=eG (P:=P) (ws.take (Nat.min m n)) 0 w b off cs T t2 (fun v hv=>s4 v (List.mem_of_mem_take hv)) (by rw [af];omega)
    have al:(Builtin.copy_ #[dt,xt] ty #[.slice (some ⟨b,off,none⟩) n cap,.slice ac m cap2]).run P w=.ok (.int .i64 ((min m n:Nat):Int)) w':=by
     exact s8 hu hs first q1
    have e5:ws.take (Nat.min m n)=(ys.take (min m n)).map c.val:=by rw [e3];exact(List.map_take ..).symm
    have ak:(ys.take (min m n)).length =min m n:=by
     have:=congrArg List.length e5;rw [af,List.length_map]at this;exact this.symm
    have aj:dV (xs.map c.val) off ((ys.take (min m n)).map c.val)=(oM xs off (ys.take (min m n))).map c.val:=xA c _ _ _ (by rw [ak];omega)
    refine⟨_,w',V,_,dL al,.inl rfl,V.le_refl,fun l e f=>(f e).elim,rfl,?_,q5⟩;refine hi.replace (e:=.ints c xs) hl (b:=b) (o':=.cells ap T) ?_ ?_ q2 q4
    ·intro g hg;rcases hg with⟨e,_⟩ | ⟨b1,k1,ao,a8,T1,az,e4,_⟩
     ·exact(ah e).elim
     ·rw [t1]at ao;cases ao;exact⟨_,e4⟩
    ·refine .inr ⟨b,k,t1,ap,T,tail,rfl,?_,?_⟩
     ·rw [<-Array.length_toList,q3,eP,Array.length_toList];exact t3
     ·rw [q3,t4,Nat.add_zero,e5,hO _ _ _ _ (by simp only [List.length_map];rw [ak];omega),aj]
   ·exact(av t5).elim
 ·rename_i c xs lx p hl aa;simp only [sI']at hr;subst hr;rw [cZ rfl rfl];refine dG.pure (v':=.int .i64 0) hi rfl (dL ?_)
  have ar: ∃ac cap2,x'=.slice ac 0 cap2:=by
   unfold lM at aa;split at aa
   ·split at aa
    ·split at aa
     ·split at aa<;>simp at aa
     ·split at aa
      ·simp only [sI',pI']at aa;obtain⟨_,rfl,_⟩:=aa;obtain⟨ac,cap2,e,_⟩:=h2;exact⟨ac,cap2,e⟩
      ·cases aa
     ·cases aa
    ·cases aa
   ·split at aa<;>simp at aa
   ·split at aa
    ·split at aa
     ·split at aa<;>simp at aa
     ·cases aa
    ·cases aa
   ·obtain⟨ac,e⟩:=h2;exact⟨ac,0,e⟩
   ·split at aa
    ·rename_i ag;have:=iW ag;subst this;exact⟨none,0,h2⟩
    ·cases aa
  obtain⟨ac,cap2,rfl⟩:=ar;have first:(Builtin.firstCells 1 0 (.slice ac 0 cap2)).run P w=.ok #[] w:=cA
  have e0:Nat.min 0 n=0:=Nat.zero_min n;have ae:(Builtin.firstCells 1 (Nat.min 0 n) (.slice ac 0 cap2)).run P w=.ok ([]:List Value).toArray w:=by rw [e0];exact first
  have:(Value.int .i64 0)=.int .i64 ((Nat.min 0 n:Nat):Int):=by rw [e0];rfl
  rw [this];cases base with
  | none=>exact yO hu hs ae
  | some a=>exact s8 hu hs ae (by simp [storeCells])
 ·cases hr
end
end Go.Sh
namespace Go.Sh
open Go
variable [Con] {A:Type} {I:Itp A}
section
variable {P:Program} {V:Val}
theorem uP(w:World)(es:Array MapEntry)(clock:Nat)(a:Addr):(w.alloc (.map es clock)).frozen? a=w.frozen? a:=by
 unfold World.frozen? World.alloc;simp only [Array.getElem?_push]
 by_cases h:a.block=w.heap.size
 ·have e:w.heap[a.block]? =none:=by rw [h];simp
  rw [if_pos h,e]
 ·rw [if_neg h]
theorem BT{t:TypeId}{h:aC A}{r:ORes A}{hR:PHeap}{w:World}{sem:Sem Next}(hr:vS P t h=some r)(hi:Inv I V (toF h) hR w)
 (hn: ∀l,h.length<=l->l<h.length+r.new.length->V l=none) (hsem:sem=(do Pure.pure (.value (<-Instr.makeMap t none)))):
 dG I P V h.length hR w r.v (toF (r.apply h)) r.new.length sem:=by
 subst hsem;unfold vS at hr;split at hr
 ·split at hr
  ·split at hr
   ·rename_i kt vt hu _ _ kk z hk hz _ vc ac;simp only [sI']at hr;subst hr;have hV:=hn h.length (Nat.le_refl _) (by simp)
    have aa:=Inv.push (e:=.imap kk vc []) (k:=0) (o:=.map #[] 0) hi hV (cC (Nat.le_refl _)) ⟨_,_,aLI _ _ _, #[],0,rfl,rfl,fun e he=>by simp at he,by simp⟩
    refine⟨.value (.map (some w.heap.size)),{w with heap:=w.heap.push (.map #[] 0) },V.add h.length (w.heap.size,0),.map (some w.heap.size),?_,.inl rfl,aLO hV,iS,⟨_,_,aLI _ _ _,rfl⟩,?_,⟨rfl,rfl,by simp,fun _ _=>uP _ _ _ _⟩⟩
    ·simp [Instr.makeMap]
    ·show Inv I _ (toF (h++ [some _])) hR _;rw [fO];exact aa
   ·cases hr
  ·cases hr
 ·cases hr
theorem Inv.imap{h:bE A}{hR:PHeap}{w:World}(hi:Inv I V h hR w){l:Nat}{kk:IntKind}{vc:Code1}{m:List (Int×Int)}(hl:h l=some (.imap kk vc m)):
 ∃b k es clock,V l=some (b,k)/\w.heap[b]? =some (.map es clock)/\es.toList.map (fun e=>(e.key,e.val))=m.map (fun x=>(Value.int kk x.1,Code1.val vc x.2)):=by
 obtain⟨hs,h1,h2,h3,h4,h5,h6⟩:=hi;obtain⟨b,k,e1,es,clock,e2,e3,_⟩:=h1 l _ hl;have:=h5 l;rw [e2]at this;exact⟨b,k,es,clock,e1,PHeap.one_sub.1 this,e3⟩
theorem Inv.imapB{h:bE A}{hR:PHeap}{w:World}(hi:Inv I V h hR w){l:Nat}{kk:IntKind}{vc:Code1}{m:List (Int×Int)}(hl:h l=some (.imap kk vc m)):
 ∃b k es clock,V l=some (b,k)/\w.heap[b]? =some (.map es clock)/\es.toList.map (fun e=>(e.key,e.val))=m.map (fun x=>(Value.int kk x.1,Code1.val vc x.2))/\(∀e∈es.toList,e.born<clock)/\(es.toList.map (·.born)).Nodup :=by
 obtain⟨hs,h1,h2,h3,h4,h5,h6⟩:=hi;obtain⟨b,k,e1,es,clock,e2,e3⟩:=h1 l _ hl;have:=h5 l;rw [e2]at this;exact⟨b,k,es,clock,e1,PHeap.one_sub.1 this,e3⟩
def lT:List (Int×Int)->Int->Nat->Option (Nat×Int)
 | [],_,_=>none
 | x::m,k,i=>if x.1=k then some (i,x.2)else lT m k (i+1)
theorem yY: ∀(m:List (Int×Int)) (k:Int) (i:Nat),(lT m k i).map (·.2)=mget m k
 | [],k,i=>rfl
 | x::m,k,i=>by
   unfold lT mget
   by_cases h:x.1=k
   ·simp [h]
   ·rw [if_neg h,yY m k (i+1)];simp [mget,h]
theorem wU: ∀(m:List (Int×Int)) (k v:Int) (i:Nat),lT m k i=none->dX m k v=m++ [(k,v)]
 | [],k,v,i,_=>rfl
 | x::m,k,v,i,h=>by
   unfold lT at h
   by_cases hx:x.1=k
   ·rw [if_pos hx]at h;cases h
   ·rw [if_neg hx]at h;unfold dX;rw [if_neg hx,wU m k v (i+1) h];rfl
theorem wV: ∀(m:List (Int×Int)) (k v:Int) (i j:Nat) (u:Int),lT m k i=some (j,u)->i<=j/\dX m k v=m.set (j - i) (k,v)/\ ∃u,m[j - i]? =some (k,u)
 | [],k,v,i,j,u,h=>by simp [lT]at h
 | x::m,k,v,i,j,u,h=>by
   unfold lT at h
   by_cases hx:x.1=k
   ·rw [if_pos hx]at h;simp only [sI',pI']at h;obtain⟨rfl,_⟩:=h;refine⟨Nat.le_refl _,?_,x.2,?_⟩
    ·unfold dX;rw [if_pos hx,Nat.sub_self];rfl
    ·rw [Nat.sub_self,<-hx];rfl
   ·rw [if_neg hx]at h;obtain⟨h1,h2,u',h3⟩:=wV m k v (i+1) j u h;refine⟨by omega,?_,u',?_⟩
    ·unfold dX;rw [if_neg hx,h2,show j - i=(j - (i+1))+1 from by omega];rfl
    ·rw [show j - i=(j - (i+1))+1 from by omega];exact h3
theorem tX{kk:IntKind}{vc:Code1}{q:IntKind}{n:Int} : ∀(es:List MapEntry) (m:List (Int×Int)) (i:Nat),es.map (fun e=>(e.key,e.val))=m.map (fun x=>(Value.int kk x.1,Code1.val vc x.2))->
 Instr.findNow (.int q) (.int kk n) es i=some ((lT m n i).map fun x=>(x.1,Code1.val vc x.2))
 | [],m,i,h=>by
   have:m=[]:=by cases m<;>simp at h⊢
   subst this;rfl
 | e::es,[],i,h=>by simp at h
 | e::es,x::m,i,h=>by
   simp only [List.map_cons,lI',pI']at h;obtain⟨⟨h1,h2⟩,h3⟩:=h;unfold Instr.findNow;rw [h1];simp only [Instr.sameNow,if_true]
   by_cases hx:x.1=n
   ·have:(n == x.1)=true:=by simp [hx]
    rw [this];unfold lT;rw [if_pos hx,h2];rfl
   ·have:(n == x.1)=false:=by simpa using fun e=>hx e.symm
    rw [this];unfold lT;rw [if_neg hx];exact tX es m (i+1) h3
theorem tW{kt:TypeId}{kk q:IntKind}{vc:Code1}{n:Int}{es:List MapEntry}{m:List (Int×Int)}{w:World}(hk:P.underlying kt=some (.int q))(h:es.map (fun e=>(e.key,e.val))=m.map (fun x=>(Value.int kk x.1,Code1.val vc x.2))):
 (Instr.findKey kt (.int kk n) es).run P w=.ok ((lT m n 0).map fun x=>(x.1,Code1.val vc x.2)) w:=by
 simp [Instr.findKey,underlying,hk,tX (q:=q) es m 0 h]
theorem mV{kt:TypeId}{q:IntKind}{b:Bool}{v:Value}{w:World}(hk:P.underlying kt=some (.int q)):(Instr.checkKey b 10000 kt v).run P w=.ok () w:=by
 show(Instr.checkKey b (9999+1) kt v).run P w=_;unfold Instr.checkKey;simp only [Sem.run_bind,underlying,run_program,hk,Result.andThen_ok,Sem.run_pure]
theorem GB{t:TypeId}{x i:AVal}{ck:Bool}{h:aC A}{r:ORes A}{hR:PHeap}{w:World}{x' i':Value}{sem:Sem Next}(hr:zU P t x i ck h=some r)(ho:r.obl)(hi:Inv I V (toF h) hR w)(hx:Rep V x x')(hy:Rep V i i')
 (hsem:sem=(do Pure.pure (.value (<-Instr.lookup t x' i' ck)))):dG I P V h.length hR w r.v (toF (r.apply h)) r.new.length sem:=by
 subst hsem;unfold zU at hr;split at hr
 ·rename_i kt vt l kk n hu;split at hr
  ·rename_i q ah vc m hk hh;split at hr
   ·rename_i hc;obtain⟨rfl,hz⟩:=hc;simp only [sI']at hr;subst hr;rw [cZ rfl rfl];obtain⟨b,k,es,clock,e1,e2,e3⟩:=hi.imap (l:=l) hh;obtain⟨b',k',hl,rfl⟩:=hx;rw [e1]at hl;cases hl;have:i'=.int kk n:=hy;subst this
    have ac:(zeroValue vt).run P w=.ok (Code1.val vc 0) w:=by
     cases af:P.info? vt with
     | none=>rw [af]at hz;cases hz
     | some inf=>
       rw [af]at hz;cases ae:inf.zero with
       | none=>simp [ae]at hz
       | some z=>
         simp [ae]at hz;rw [<-v7 hz];simp [zeroValue,typeInfo,af,ae]
    have ag:(Instr.lookup t (.map (some b)) (.int kk n) ck).run P w=.ok (if ck then .tuple #[Code1.val vc ((mget m n).getD 0),.bool (mget m n).isSome]else Code1.val vc ((mget m n).getD 0)) w:=by
     have hg:=yY m n 0;have aa:=tW (P:=P) (w:=w) (kk:=kk) (n:=n) hk e3;simp only [Instr.lookup,underlying,Sem.run_bind,run_program,Result.andThen_ok,hu,Sem.run_pure,MapKept.run_getObj_map e2,mV hk];cases hf:lT m n 0 with
     | none=>
       rw [hf]at hg aa;rw [<-hg];simp only [Option.map_none]at aa;simp only [aa,Result.andThen_ok,Sem.run_bind,ac,Sem.run_pure];cases ck<;>rfl
     | some p=>
       rw [hf]at hg aa;rw [<-hg];simp only [Option.map_some]at aa;simp only [aa,Result.andThen_ok,Sem.run_bind,Sem.run_pure];cases ck<;>rfl
    refine dG.pure hi (v':=if ck then .tuple #[Code1.val vc ((mget m n).getD 0),.bool (mget m n).isSome]else Code1.val vc ((mget m n).getD 0)) ?_ (by rw [Sem.run_bind,ag];rfl)
    cases ck with
    | true=>exact⟨_,rfl,_,_,rfl,aMh V vc _,_,_,rfl,rfl,rfl⟩
    | false=>exact aMh V vc _
   ·cases hr
  ·cases hr
 ·cases hr
theorem P7{t ty:TypeId}{x:AVal}{h:aC A}{r:ORes A}{hR:PHeap}{w:World}{x':Value}{sem:Sem Next}(hr:P6 P t x h=some r)(ho:r.obl)(hi:Inv I V (toF h) hR w)(hx:Rep V x x')
 (hsem:sem=(do let v<-Builtin.len_ #[t] ty #[x'];Pure.pure (.value v))):dG I P V h.length hR w r.v (toF (r.apply h)) r.new.length sem:=by
 subst hsem;unfold P6 at hr;split at hr
 ·rename_i kt vt l hu;split at hr
  ·rename_i kk vc m hh;simp only [sI']at hr;subst hr;rw [cZ rfl rfl];obtain⟨b,k,es,clock,e1,e2,e3⟩:=hi.imap (l:=l) hh;obtain⟨b',k',hl,rfl⟩:=hx;rw [e1]at hl;cases hl
   have ac:es.size=m.length:=by
    have:=congrArg List.length e3
    simpa using this
   have aa:(Builtin.len_ #[t] ty #[.map (some b)]).run P w=.ok (Value.int .i64 (m.length:Int)) w:=by
    simp only [Builtin.len_,underlying,Sem.run_bind,run_program,Result.andThen_ok,hu,Sem.run_pure,MapKept.run_getObj_map e2];simp [hu,goInt,ac,MapKept.run_getObj_map e2]
   refine dG.pure hi (v':=Value.int .i64 (m.length:Int)) ?_ (by rw [Sem.run_bind,aa];rfl)
   rfl
  ·cases hr
 ·cases hr
theorem xX{t:TypeId}{x i y:AVal}{h:aC A}{r:ORes A}{hR:PHeap}{w:World}{x' i' y':Value}{sem:Sem Next}(hr:qE P t x i y h=some r)(ho:r.obl)(hi:Inv I V (toF h) hR w)(hx:Rep V x x')(hk0:Rep V i i')(hy:Rep V y y')
 (hsem:sem=(do Instr.mapUpdate t x' i' y';Pure.pure .skip)):dG I P V h.length hR w r.v (toF (r.apply h)) r.new.length sem:=by
 subst hsem;unfold qE at hr;split at hr
 ·rename_i kt vt l kk n hu;split at hr
  ·rename_i q az vc m hk hh;split at hr
   ·rename_i hc;subst hc;cases ah:f0 vc y with
    | none=>rw [ah]at hr;cases hr
    | some v=>
      rw [ah]at hr;simp only [sI']at hr;subst hr;obtain⟨b,k,es,clock,e1,e2,e3,e0,en⟩:=hi.imapB (l:=l) hh;obtain⟨b',k',hl,rfl⟩:=hx;rw [e1]at hl;cases hl;have:i'=.int kk n:=hk0;subst this;have am:=kB ah hy;subst am;have af:=tW (P:=P) (w:=w) (kk:=kk) (n:=n) hk e3
      have al:b<w.heap.size:=by
       cases Nat.lt_or_ge b w.heap.size with
       | inl g=>exact g
       | inr g=>rw [Array.getElem?_eq_none g]at e2;cases e2
      have key: ∃ae aa,(Instr.mapUpdate t (.map (some b)) (.int kk n) (Code1.val vc v)).run P w=.ok () {w with heap:=w.heap.setIfInBounds b (.map ae aa) } /\ae.toList.map (fun e=>(e.key,e.val))=(dX m n v).map (fun x=>(Value.int kk x.1,Code1.val vc x.2))/\(∀e∈ae.toList,e.born<aa)/\(ae.toList.map (·.born)).Nodup :=by
       cases hf:lT m n 0 with
       | none=>
         rw [hf]at af;refine⟨es.push {key:=.int kk n,val:=Code1.val vc v,born:=clock},clock+1,?_,?_,?_,?_⟩
         ·simp only [Instr.mapUpdate,underlying,Sem.run_bind,run_program,Result.andThen_ok,hu,Sem.run_pure,MapKept.run_getObj_map e2,mV hk,af,Option.map_none,MapKept.run_setObj_map _ e2]
         ·rw [wU m n v 0 hf];simp [e3]
         ·intro e he;simp only [Array.toList_push,List.mem_append,List.mem_singleton]at he;rcases he with he | rfl
          ·exact Nat.lt_succ_of_lt (e0 e he)
          ·exact Nat.lt_succ_self _
         ·rw [Array.toList_push,List.map_append,List.nodup_append];refine⟨en,by simp,?_⟩
          intro a ha b hb;obtain⟨e,he,rfl⟩:=List.mem_map.1 ha;simp only [List.map_cons,List.map_nil,List.mem_singleton]at hb;have:=e0 e he;omega
       | some p=>
         obtain⟨j,u⟩:=p;rw [hf]at af;obtain⟨_,q2,u',q3⟩:=wV m n v 0 j u hf;rw [Nat.sub_zero]at q2 q3
         have av: ∃e,es[j]? =some e/\e.key=.int kk n:=by
          have:=congrArg (fun l=>l[j]?) e3;simp only [List.getElem?_map,q3,Option.map_some]at this;rw [Array.getElem?_toList]at this;cases he:es[j]? with
          | none=>rw [he]at this;cases this
          | some e=>rw [he]at this;simp at this;exact⟨e,rfl,this.1⟩
         obtain⟨e,ak,ax⟩:=av;refine⟨es.modify j fun e=> {e with key:=.int kk n,val:=Code1.val vc v},clock,?_,?_,?_,?_⟩
         ·have ao:Instr.sameBits 10000 (.int kk n) (.int kk n)=true:=by simp [Instr.sameBits]
          simp only [Instr.mapUpdate,underlying,Sem.run_bind,run_program,Result.andThen_ok,hu,Sem.run_pure,MapKept.run_getObj_map e2,mV hk,af,Option.map_some,ak,ax,Option.getD_some,Instr.keyThatStays,ao,if_true,MapKept.run_setObj_map _ e2]
         ·rw [q2];apply List.ext_getElem?;intro i;have:=congrArg (fun l=>l[i]?) e3;simp only [List.getElem?_map]at this⊢;rw [Array.getElem?_toList]at this⊢;rw [Array.getElem?_modify,List.getElem?_set]
          by_cases ag:j=i
          ·subst ag
           have ar:j<m.length:=by
            cases Nat.lt_or_ge j m.length with
            | inl g=>exact g
            | inr g=>rw [List.getElem?_eq_none g]at q3;cases q3
           rw [if_pos rfl,if_pos rfl,ak,if_pos ar];rfl
          ·rw [if_neg ag,if_neg ag];exact this
         ·intro e' ay;obtain⟨i,ac⟩:=List.getElem?_of_mem ay;rw [Array.getElem?_toList,Array.getElem?_modify]at ac;split at ac
          ·cases h2:es[i]? with
           | none=>rw [h2]at ac;cases ac
           | some e2=>
             rw [h2]at ac;simp only [Option.map_some,sI']at ac;rw [<-ac];exact e0 e2 (List.mem_of_getElem? (by rw [Array.getElem?_toList];exact h2))
          ·exact e0 e' (List.mem_of_getElem? (by rw [Array.getElem?_toList];exact ac))
         ·have ap:(es.modify j fun e=> {e with key:=.int kk n,val:=Code1.val vc v}).toList.map (·.born)=es.toList.map (·.born):=by
           apply List.ext_getElem?;intro i;simp only [List.getElem?_map,Array.getElem?_toList,Array.getElem?_modify];split
           ·cases es[i]? <;>rfl
           ·rfl
          rw [ap];exact en
      obtain⟨ae,aa,ai,au⟩:=key;refine⟨.skip,{w with heap:=w.heap.setIfInBounds b (.map ae aa) },V,undef,by simp only [Sem.run_bind,ai,Result.andThen_ok,Sem.run_pure],.inr ⟨rfl,rfl⟩,V.le_refl,fun l e f=>(f e).elim,rfl,?_,⟨rfl,rfl,by simp,?_⟩⟩
      ·have aq:=cH hh;show Inv I V (toF (hupd h [(l,some (.imap kk vc (dX m n v)))]++ [])) hR _;simp only [hupd,List.foldl_cons,List.foldl_nil,List.append_nil];rw [eR _ aq];refine hi.replace (e:=.imap kk vc m) hh (b:=b) (o':=.map ae aa) ?_ ?_ ?_ ?_
       ·rintro g ⟨b1,k1,aj,a6,c1,e4,_⟩;rw [e1]at aj;cases aj;exact⟨_,e4⟩
       ·exact⟨b,k,e1,ae,aa,rfl,au⟩
       ·simp [al]
       ·intro c hc;simp only [Array.getElem?_setIfInBounds];rw [if_neg (fun e=>hc e.symm)]
      ·intro a _;unfold World.frozen?;simp only [Array.getElem?_setIfInBounds]
       by_cases ha:b=a.block
       ·rw [if_pos ha,if_pos omz,<-ha,e2]
       ·rw [if_neg ha]
   ·cases hr
  ·cases hr
 ·cases hr
end
end Go.Sh
namespace Go.Sh
open Go
variable [Con] {A:Type} {I:Itp A}
section
variable {P:Program} {V:Val}
theorem xY{t:TypeId}{a:AVal}{lo hi mx:Option AVal}{h:aC A}{r:ORes A}{hR:PHeap}{w:World}{x:Value}{lo' hi' mx':Option Value}(hr:sW P t a lo hi mx h=some r)(ho:r.obl)(hi0:Inv I V (toF h) hR w)(hx:Rep V a x)
 (hlo: ∀z,lo=some z-> ∃z',lo'=some z'/\Rep V z z') (hlo0:lo=none->lo'=none) (hhi: ∀z,hi=some z-> ∃z',hi'=some z'/\Rep V z z') (hhi0:hi=none->hi'=none) (hmx0:mx=none->mx'=none):
 ∃v',(Instr.sliceAt t x lo' hi' mx').run P w=.ok v' w/\Rep V r.v v'/\r.upd=[]/\r.new=[]:=by
 unfold sW at hr;split at hr
 ·rename_i n e l off hu;rw [hmx0 rfl];split at hr
  ·rename_i s vs hs hh;split at hr
   ·rename_i ai;obtain⟨b,k,cs,T,rs,tail,hl,hb,hk,ah,ae⟩:=hi0.cells (l:=l) hh;obtain⟨b',k',af,rfl⟩:=hx;rw [hl]at af;cases af
    have ag:off+n*s<=k:=by
     rw [<-hk,<-Array.length_toList,ah,List.length_append,aH.length ae];omega
    have ac:(∃b' k',V l=some (b',k')/\(some ⟨b,off,none⟩:Option Addr)=some ⟨b',off,none⟩/\off+n*s<=k')\/(n=0/\n=0):=.inl ⟨b,k,hl,rfl,ag⟩
    have aa: ∀m lo:Nat,(if m=lo then(some ⟨b,off,none⟩:Option Addr)else(some ⟨b,off,none⟩:Option Addr).map (·.add (lo*s)))=some (if m=lo then⟨b,off,none⟩else(⟨b,off,none⟩:Addr).add (lo*s)):=by
     intro m lo;split<;>rfl
    split at hr
    ·simp at hr;subst hr;rw [hlo0 rfl,hhi0 rfl];have hr:=dJ (Nat.le_refl n) ac (Nat.zero_le n) (Nat.le_refl n);rw [aa]at hr;simp only [Nat.zero_mul,Nat.add_zero,Nat.sub_zero]at hr;refine⟨_,?_,hr,rfl,rfl⟩;simp [Instr.sliceAt,underlying,hu,Instr.sliceBounds,aV hs,Instr.sureAddr]
    ·rename_i k1 m;simp only [sI']at hr;subst hr;obtain⟨z',e1,r1⟩:=hhi _ rfl;have:z'=.int k1 m:=r1;subst this;rw [hlo0 rfl,e1];have hr:=dJ (Nat.le_refl n) ac (lo:=0) (hi:=m.toNat) (Nat.zero_le _) ho.2;rw [aa]at hr;simp only [Nat.zero_mul,Nat.add_zero,Nat.sub_zero]at hr;refine⟨_,?_,hr,rfl,rfl⟩;simp [Instr.sliceAt,underlying,hu,Instr.sliceBounds,aV hs,Instr.sureAddr,bA (y:=n) ho.1 ho.2]
    ·rename_i k1 m;simp only [sI']at hr;subst hr;obtain⟨z',e1,r1⟩:=hlo _ rfl;have:z'=.int k1 m:=r1;subst this;rw [hhi0 rfl,e1];have hr:=dJ (Nat.le_refl n) ac (lo:=m.toNat) (hi:=n) ho.2 (Nat.le_refl _);rw [aa]at hr;refine⟨_,?_,hr,rfl,rfl⟩;simp [Instr.sliceAt,underlying,hu,Instr.sliceBounds,aV hs,Instr.sureAddr,bA (y:=n) ho.1 ho.2]
    ·cases hr
   ·cases hr
  ·cases hr
 ·cases hr
theorem AU{ρ:Operand->AVal}{ρ':Operand->Value}(hρ: ∀x,Rep V (ρ x) (ρ' x))(o:Option Operand):
 (∀z,o.map ρ=some z-> ∃z',o.map ρ'=some z'/\Rep V z z')/\(o.map ρ=none->o.map ρ'=none):=by
 cases o with
 | none=>simp
 | some x=>simp;exact hρ x
theorem yK{ρ:Operand->AVal}{ρ':Operand->Value}{o:Oper}{h:aC A}{r:ORes A}{hR:PHeap}{w:World}(hr:aop P ρ o.op h=some r)(ho:r.obl)(hi:Inv I V (toF h) hR w)
 (hn: ∀l,h.length<=l->l<h.length+r.new.length->V l=none) (hρ: ∀x,Rep V (ρ x) (ρ' x)):
 dG I P V h.length hR w r.v (toF (r.apply h)) r.new.length (execOp ρ' o):=by
 have pureIf: ∀ {s:Sem Value} {q:Option (AVal×Option Prop)},pA q=some r->(∀v p,q=some (v,p)->onp p-> ∃v',s.run P w=.ok v' w/\Rep V v v')->
  execOp ρ' o=(do Pure.pure (.value (<-s)))->dG I P V h.length hR w r.v (toF (r.apply h)) r.new.length (execOp ρ' o):=by
  intro s q hq hs he;cases q with
  | none=>cases hq
  | some x=>
    obtain⟨v,p⟩:=x;simp [pA]at hq;subst hq;obtain⟨v',h1,h2⟩:=hs v p rfl ho;rw [cZ rfl rfl,he];exact dG.pure hi h2 (by simp [h1])
 have ac: ∀ {s:Sem Value} {q:Option AVal},fW q=some r->(∀v,q=some v-> ∃v',s.run P w=.ok v' w/\Rep V v v')->
  execOp ρ' o=(do Pure.pure (.value (<-s)))->dG I P V h.length hR w r.v (toF (r.apply h)) r.new.length (execOp ρ' o):=by
  intro s q hq hs he;cases q with
  | none=>cases hq
  | some v=>
    simp [fW]at hq;subst hq;obtain⟨v',h1,h2⟩:=hs v rfl;rw [cZ rfl rfl,he];exact dG.pure hi h2 (by simp [h1])
 cases aa:o.op with
 | move x=>
   rw [aa]at hr;simp [aop]at hr;subst hr;rw [cZ rfl rfl];exact dG.pure hi (hρ x) (by simp [execOp,aa])
 | assign x=>
   rw [aa]at hr;simp [aop]at hr;subst hr;rw [cZ rfl rfl];exact dG.pure hi (hρ x) (by simp [execOp,aa])
 | pick c a b=>
   rw [aa]at hr;refine ac (s:=do Pure.pure (if<-asBool (ρ' c)then ρ' a else ρ' b)) hr ?_ (by simp [execOp,aa])
   intro v hv;unfold aCa at hv;split at hv
   ·rename_i b0 p q e1 e2 e3;simp at hv;subst hv;have r1:=hρ c;rw [e1]at r1;have r2:=hρ a;rw [e2]at r2;have r3:=hρ b;rw [e3]at r3;have s1:ρ' c=.bool b0:=r1;have s2:ρ' a=.bool p:=r2;have s3:ρ' b=.bool q:=r3;rw [s1,s2,s3];refine⟨.bool (cond b0 p q),?_,rfl⟩;cases b0<;>simp [asBool]
   ·rename_i b0 e1 e2;simp at hv;subst hv;have r1:=hρ c;rw [e1]at r1;have s1:ρ' c=.bool b0:=r1;rw [s1];cases b0
    ·exact⟨ρ' b,by simp [asBool],hρ b⟩
    ·exact⟨ρ' a,by simp [asBool],hρ a⟩
   ·cases hv
 | alloc e=>
   rw [aa]at hr;simp only [aop]at hr;cases hz:yN P e with
   | none=>rw [hz]at hr;cases hr
   | some z=>
     rw [hz]at hr;simp at hr;subst hr;obtain⟨zv,rfl,au⟩:=pD (w:=w) hz;refine aMv (T:=e) hi (hn _ (Nat.le_refl _) (by simp)) (dI V zv) ?_
     simp [execOp,aa,Instr.alloc,au,newVar,newRow]
 | box e x=>
   rw [aa]at hr;simp only [aop]at hr;split at hr
   ·rename_i al;simp at hr;subst hr;refine aMv (T:=e) hi (hn _ (Nat.le_refl _) (by simp)) (mJ (hρ x) al) ?_
    simp [execOp,aa,Instr.box,newVar,newRow]
   ·cases hr
 | build t parts=>
   rw [aa]at hr;refine ac (s:=Instr.build t (parts.map fun(i,x)=>(i,ρ' x))) hr ?_ (by simp [execOp,aa])
   intro v hv;have:=F4 (V:=V) (w:=w) hv (xJ hρ parts.toList)
   have e:(parts.map fun(i,x)=>(i,ρ' x))=(List.map (fun x=>(x.1,ρ' x.2)) parts.toList).toArray :=by
    apply Array.ext';simp
   rw [e];exact this
 | buildSlice t len parts=>
   rw [aa]at hr;refine vI hr (xJ hρ parts.toList) hi hn ?_
   have e:(parts.map fun(i,x)=>(i,ρ' x))=(List.map (fun x=>(x.1,ρ' x.2)) parts.toList).toArray :=by
    apply Array.ext';simp
   simp only [execOp,aa,e]
 | load t a=>
   rw [aa]at hr;simp only [aop]at hr;split at hr
   ·rename_i l off e1;have r1:=hρ a;rw [e1]at r1;obtain⟨v',h1,h2,h3,h4⟩:=yJ hr ho hi r1;rw [cZ h3 h4,h4];exact dG.pure hi h2 (by simp [execOp,aa,h1])
   ·rename_i cs e1;have r1:=hρ a;rw [e1]at r1;cases hv:fI P t cs with
    | none=>rw [hv]at hr;cases hr
    | some v=>
      rw [hv]at hr;simp [fW]at hr;subst hr;obtain⟨v',h1,h2⟩:=F8 (V:=V) hv hi r1;rw [cZ rfl rfl];exact dG.pure hi h2 (by simp [execOp,aa,h1])
   ·rename_i l r0 w0 j e1;have r1:=hρ a;rw [e1]at r1;obtain⟨v',h1,h2,h3,h4⟩:=GA hr ho hi r1;rw [cZ h3 h4,h4];exact dG.pure hi h2 (by simp [execOp,aa,h1])
   ·cases hr
 | store t a x=>
   rw [aa]at hr;simp only [aop]at hr;split at hr
   ·rename_i l off e1;have r1:=hρ a;rw [e1]at r1;obtain⟨w',h1,h2,h3,h4,h5⟩:=GK hr ho hi r1 (hρ x);exact⟨.skip,w',V,undef,by simp [execOp,aa,h1],.inr ⟨rfl,rfl⟩,V.le_refl,fun l e f=>(f e).elim,by rw [h4];rfl,h2,h3⟩
   ·rename_i l r0 w0 j e1;have r1:=hρ a;rw [e1]at r1;obtain⟨w',h1,h2,h3,h4,h5⟩:=B3 hr ho hi r1 (hρ x);exact⟨.skip,w',V,undef,by simp [execOp,aa,h1],.inr ⟨rfl,rfl⟩,V.le_refl,fun l e f=>(f e).elim,by rw [h4];rfl,h2,h3⟩
   ·cases hr
 | nilCheck x=>
   rw [aa]at hr;simp only [aop]at hr;cases hv:o9 (ρ x)with
   | none=>rw [hv]at hr;cases hr
   | some v=>
     rw [hv]at hr;simp [fW]at hr;subst hr;rw [cZ rfl rfl];have rx:=hρ x
     have am:v=ρ x:=by
      unfold o9 at hv;split at hv<;>simp at hv<;>(rename_i e;rw [e];exact hv.symm)
     refine dG.pure (v':=ρ' x) hi (by rw [show(ORes.pure (A:=A) v).v =ρ x from am];exact rx) ?_
     unfold o9 at hv;split at hv
     ·rename_i e;rw [e]at rx;obtain⟨b,k,_,e2⟩:=rx;simp [execOp,aa,e2]
     ·rename_i e;rw [e]at rx;obtain⟨b,off,cs,T,fz,e2,_⟩:=rx;simp [execOp,aa,e2]
     ·rename_i e;rw [e]at rx;obtain⟨b,k,_,e2⟩:=rx;simp [execOp,aa,e2]
     ·rename_i e;rw [e]at rx;obtain⟨y,e2,_⟩:=rx;simp [execOp,aa,e2]
     ·rename_i e;rw [e]at rx;obtain⟨f,c,e2,_⟩:=rx;simp [execOp,aa,e2]
     ·cases hv
 | binOp op t x y yt=>
   rw [aa]at hr;refine pureIf (s:=do eqGuard op t x y (ρ' x) (ρ' y);binOp op t (ρ' x) (ρ' y)) hr ?_ (by simp [execOp,aa])
   intro v p hv hp;exact P0 hv hp (hρ x) (hρ y)
 | unOp op t x=>
   rw [aa]at hr;refine ac (s:=Op.unary op (ρ' x)) hr ?_ (by simp [execOp,aa])
   intro v hv;have rx:=hρ x;unfold aun at hv;split at hv
   ·rename_i b e;simp at hv;subst hv;rw [e]at rx;have:ρ' x=.bool b:=rx;rw [this];exact⟨.bool (!b),by simp [Op.unary],rfl⟩
   ·rename_i k n e;simp at hv;subst hv;rw [e]at rx;have:ρ' x=.int k n:=rx;rw [this];exact⟨.int k (k.wrap (-n)),by simp [Op.unary,Op.intArith],rfl⟩
   ·cases hv
 | convert src dst x=>
   rw [aa]at hr;refine ac (s:=convert src dst (ρ' x)) hr ?_ (by simp [execOp,aa])
   intro v hv;have rx:=hρ x;unfold aB3 at hv;split at hv
   ·rename_i d k k' n hs hu e;simp at hv;subst hv;rw [e]at rx;have:ρ' x=.int k' n:=rx;rw [this];refine⟨.int k (k.wrap n),?_,rfl⟩;simp only [convert,underlying,Sem.run_bind,run_program,Result.andThen_ok,hs,hu,Sem.run_pure,Conv.intToInt]
   ·rename_i d s hs hu e;simp at hv;subst hv;rw [e]at rx;have:ρ' x=.string s:=rx;rw [this];refine⟨.string s,?_,rfl⟩;simp only [convert,underlying,Sem.run_bind,run_program,Result.andThen_ok,hs,hu,Sem.run_pure]
   ·cases hv
 | makeInterface t x=>
   rw [aa]at hr;simp only [aop]at hr;split at hr
   ·cases hr
   ·rename_i d ax hu;simp at hr;subst hr;rw [cZ rfl rfl];refine dG.pure (v':=.iface t (ρ' x)) hi ⟨_,rfl,hρ x⟩ ?_;simp only [execOp,aa,Instr.makeInterface,underlying,Sem.run_bind,run_program,Result.andThen_ok,hu,Sem.run_pure]
   ·cases hr
 | makeFunc fn first caps=>
   rw [aa]at hr;simp [aop]at hr;subst hr;rw [cZ rfl rfl];refine dG.pure (v':=.func fn (first.map ρ') (caps.map ρ')) hi ⟨_,_,rfl,by simpa using jN hρ first.toList,by simpa using jN hρ caps.toList⟩ ?_
   simp [execOp,aa,Instr.makeFunc]
 | slice t x lo hi' mx=>
   rw [aa]at hr;simp only [aop]at hr;obtain⟨o1,o2⟩:=AU hρ lo;obtain⟨o3,o4⟩:=AU hρ hi';obtain⟨o5,o6⟩:=AU hρ mx;split at hr
   ·obtain⟨v',h1,h2,h3,h4⟩:=xY hr ho hi (hρ x) o1 o2 o3 o4 o6;rw [cZ h3 h4,h4];exact dG.pure hi h2 (by simp [execOp,aa,h1])
   ·refine pureIf (s:=Instr.sliceAt t (ρ' x) (lo.map ρ') (hi'.map ρ') (mx.map ρ')) hr ?_ (by simp [execOp,aa])
    intro v p hv hp;exact GI hv hp (hρ x) o1 o2 o3 o4 o5 o6
 | fieldAddr s x f=>
   rw [aa]at hr;refine ac (s:=Instr.fieldAt s (ρ' x) f) hr ?_ (by simp [execOp,aa])
   intro v hv;have rx:=hρ x;unfold vN at hv;split at hv
   ·rename_i fs l off hu e;split at hv
    ·rename_i fd ag;split at hv
     ·rename_i m hs;simp at hv;subst hv;rw [e]at rx;obtain⟨b,k,hl,e2⟩:=rx;rw [e2];refine⟨.pointer (some ⟨b,off+fd.offset,none⟩),?_,⟨b,k,hl,rfl⟩⟩;simp [Instr.fieldAt,underlying,hu,ag,Instr.sureAddr,fieldPlace,aV hs,Addr.add_lit]
     ·cases hv
    ·cases hv
   ·rename_i fs as hu e;split at hv
    ·rename_i fd ag;split at hv
     ·rename_i m hs;simp at hv;subst hv;rw [e]at rx;obtain⟨b,off,cs,T,fz,e2,ap,ao⟩:=rx;rw [e2];refine⟨.pointer (some ⟨b,off+fd.offset,none⟩),?_,yP ap ao⟩;simp [Instr.fieldAt,underlying,hu,ag,Instr.sureAddr,fieldPlace,aV hs,Addr.add_lit]
     ·cases hv
    ·cases hv
   ·rename_i fs l r0 w0 j hu e;split at hv
    ·rename_i fd ag;split at hv
     ·rename_i m hs;simp at hv;subst hv;rw [e]at rx;obtain⟨b,k,hl,e2⟩:=rx;rw [e2];refine⟨.pointer (some ⟨b,r0*w0+j+fd.offset,none⟩),?_,b,k,hl,by rw [Nat.add_assoc]⟩
      simp [Instr.fieldAt,underlying,hu,ag,Instr.sureAddr,fieldPlace,aV hs,Addr.add_lit]
     ·cases hv
    ·cases hv
   ·cases hv
 | field s x f=>
   rw [aa]at hr;refine ac (s:=Instr.field s (ρ' x) f) hr ?_ (by simp [execOp,aa])
   intro v hv;have rx:=hρ x;unfold P4 at hv;split at hv
   ·rename_i fs cs hu e;split at hv
    ·rename_i fd ag;rw [e]at rx;obtain⟨xs,e2,rx⟩:=rx;rw [e2];obtain⟨v',h1,h2⟩:=pC (w:=w) hv rx;exact⟨v',by simp [Instr.field,underlying,hu,ag,asAgg,h1],h2⟩
    ·cases hv
   ·cases hv
 | indexAddr t x i=>
   rw [aa]at hr;refine pureIf (s:=Instr.indexAt t (ρ' x) (ρ' i)) hr ?_ (by simp [execOp,aa])
   intro v p hv hp;exact vO hv hp (hρ x) (hρ i)
 | index t x i=>
   rw [aa]at hr;refine pureIf (s:=Instr.index t (ρ' x) (ρ' i)) hr ?_ (by simp [execOp,aa])
   intro v p hv hp;exact F7 hv hp (hρ x) (hρ i)
 | extract x i=>
   rw [aa]at hr;simp only [aop]at hr;split at hr
   ·rename_i vs e;have rx:=hρ x;rw [e]at rx;obtain⟨xs,e2,rx⟩:=rx;refine ac (s:=Instr.extract (ρ' x) i) hr ?_ (by simp [execOp,aa])
    intro v hv;obtain⟨y,hy,ry⟩:=aH.get rx i v hv;rw [e2];rw [Array.getElem?_toList]at hy;exact⟨y,by simp [Instr.extract,hy],ry⟩
   ·cases hr
 | makeSlice t n m=>
   rw [aa]at hr;exact xW hr ho hi hn (hρ n) (hρ m) (by simp only [execOp,aa])
 | makeMap t aq=>
   rw [aa]at hr;cases aq with
   | some x=>simp [aop]at hr
   | none=>exact BT hr hi hn (by simp only [execOp,aa];rfl)
 | lookup t x i ck=>
   rw [aa]at hr;exact GB hr ho hi (hρ x) (hρ i) (by simp only [execOp,aa])
 | mapUpdate t m k v=>
   rw [aa]at hr;exact xX hr ho hi (hρ m) (hρ k) (hρ v) (by simp only [execOp,aa])
 | call c=>
   rw [aa]at hr;simp only [aop]at hr;split at hr
   case h_2=>cases hr
   rename_i b hb
   have af: ∃cs,execOp ρ' o=builtin b c.argTypes o.type cs (c.args.map ρ'):=by
    have h0:execOp ρ' o=(do let d<-resolve ρ' c o.type;invoke d.target d.args):=by simp only [execOp,aa]
    rw [h0];unfold resolve;rw [hb];exact⟨_,rfl⟩
   obtain⟨cs,af⟩:=af;have ae:=jN hρ c.args.toList;have ai:(c.args.map ρ').toList =c.args.toList.map ρ':=by simp
   rw [<-ai]at ae;generalize hxs:c.args.toList.map ρ=xs at hr ae;generalize hts:c.argTypes.toList=ts at hr;have ah:c.argTypes=ts.toArray:=by rw [<-hts]
   unfold BO at hr;split at hr
   ·rename_i t x;obtain⟨y,ys,e1,r1,r2⟩:=ae;have ar:ys=[]:=r2;subst ar;have e2:c.args.map ρ'= #[y]:=by apply Array.ext';rw [e1]
    split at hr
    ·rename_i v0 av;refine ac (s:=Builtin.len_ #[t] o.type #[y]) hr ?_ (by rw [af,ah,e2];rfl)
     intro v hv;cases hv;exact P8 av r1
    ·exact P7 (ty:=o.type) hr ho hi r1 (by rw [af,ah,e2];rfl)
   ·rename_i x aj;obtain⟨y,ys,e1,r1,r2⟩:=ae;refine ac (s:=Builtin.min_ c.argTypes o.type (c.args.map ρ')) hr ?_ (by rw [af];rfl)
    intro v hv;obtain⟨v',h1,h2⟩:=QJ (w:=w) aj x v y ys hv r1 r2;exact⟨v',by unfold Builtin.min_;rw [e1];exact h1,h2⟩
   ·rename_i x aj;obtain⟨y,ys,e1,r1,r2⟩:=ae;refine ac (s:=Builtin.max_ c.argTypes o.type (c.args.map ρ')) hr ?_ (by rw [af];rfl)
    intro v hv;obtain⟨v',h1,h2⟩:=QI (w:=w) aj x v y ys hv r1 r2;exact⟨v',by unfold Builtin.max_;rw [e1];exact h1,h2⟩
   ·rename_i st xt s x;obtain⟨y,ys,e1,r1,z,zs,e3,r3,r4⟩:=ae;have ak:zs=[]:=r4;subst ak e3;have e2:c.args.map ρ'= #[y,z]:=by apply Array.ext';rw [e1]
    cases hg:JB s x h with
    | true=>rw [hg]at hr;cases hr
    | false=>
    rw [hg]at hr;exact F2 (ty:=o.type) hr ho hi hn r1 r3 (by rw [af,ah,e2];rfl)
   ·rename_i dt xt d x;obtain⟨y,ys,e1,r1,z,zs,e3,r3,r4⟩:=ae;have ak:zs=[]:=r4;subst ak e3;have e2:c.args.map ρ'= #[y,z]:=by apply Array.ext';rw [e1]
    exact P2 (xt:=xt) (ty:=o.type) hr ho hi r1 r3 (by rw [af,ah,e2];rfl)
   ·cases hr
 | _=>rw [aa]at hr;simp [aop]at hr
end
end Go.Sh
namespace Go.Sh
open Go
variable [Con] {A:Type}
abbrev yB(A:Type):=List AVal->aC A->(AVal->aC A->Prop)->Prop
abbrev nR(A:Type):=List AVal->aC A->Option (ORes A)
def zR(I:Itp A)(V:Val)(n:Nat)(hR:PHeap)(K:AVal->aC A->Prop)(w:World)(e:Ending)(w':World):Prop:=
 ∃v v' V' h',K v h'/\e=.returned v'/\Rep V' v v'/\V.le V'/\(∀l,h'.length<=l->V' l=none)/\n<=h'.length/\Inv I V' (toF h') hR w'/\bP w w'
def bO(V:Val)(n:Nat):Prop:= ∀l,n<=l->V l=none
def gT(V:Val)(n k:Nat):Prop:= ∀l,n<=l->l<n+k->V l=none
theorem bO.on{V:Val}{n k:Nat}(h:bO V n):gT V n k:=fun l hl _=>h l hl
def yB.ok(I:Itp A)(P:Program)(f:FuncId)(S:yB A):Prop:=
 ∀args h K,S args h K-> ∀V hR w (args':Array Value),Inv I V (toF h) hR w->bO V h.length->aH V args args'.toList->Calls P f args' w (zR I V h.length hR K w)
def nR.ok(I:Itp A)(P:Program)(f:FuncId)(S:nR A):Prop:=
 ∀args h r,S args h=some r->r.obl-> ∀V hR w (args':Array Value),Inv I V (toF h) hR w->gT V h.length r.new.length->aH V args args'.toList->
  Calls P f args' w fun e w'=> ∃v' V',e=.returned v'/\Rep V' r.v v'/\V.le V'/\(∀l,V l=none->V' l≠none->h.length<=l/\l<h.length+r.new.length)/\Inv I V' (toF (r.apply h)) hR w'/\bP w w'
def nD(P:Program)(f:FuncId):Bool:=
 match P.funcs[f]? with
 | some fn=>fn.name != "runtime.NumGoroutine" &&fn.body.isSome
 | none=>false
structure Env (A:Type) (P:Program) where
 I:Itp A
 cps:FuncId->Option (yB A)
 det:FuncId->Option (nR A)
 meth:TypeId->String->Option FuncId
 cpsOk: ∀f S,cps f=some S->yB.ok I P f S
 detOk: ∀f S,det f=some S->nR.ok I P f S
 methOk: ∀t name f,meth t name=some f-> ∀(v:Value) (w:World),(∃a,v=.pointer (some a))->(method (P.types.size+Made.depth) t v name).run P w=.ok (f,v) w
 row:(Operand->AVal)->Op->aC A->(AVal->aC A->Prop)->Prop:=fun _ _ _ _=>False
 rowOk: ∀(ρ:Operand->AVal) (o:Oper) (h:aC A) (K:AVal->aC A->Prop),row ρ o.op h K-> ∀(V:Val) (hR:PHeap) (w:World) (ρ':Operand->Value),Inv I V (toF h) hR w->(∀l,h.length<=l->V l=none)->(∀x,Rep V (ρ x) (ρ' x))->
  ∃nx w' V' v v' h2,K v h2/\(execOp ρ' o).run P w=.ok nx w'/\(nx=.value v'\/nx=.skip /\v'=undef)/\Rep V' v v'/\V.le V'/\(∀l,h2.length<=l->V' l=none)/\h.length<=h2.length/\Inv I V' (toF h2) hR w'/\bP w w':=by intro ρ o h K hh;exact hh.elim
 fld:TypeId->Nat->Nat->aC A->Option (AVal×Option Prop):=fun _ _ _ _=>none
 fldOk: ∀(t:TypeId) (l off:Nat) (h:aC A) (v:AVal) (q:Option Prop),fld t l off h=some (v,q)->onp q-> ∀(V:Val) (hR:PHeap) (w:World) (b k:Nat),Inv I V (toF h) hR w->V l=some (b,k)-> ∃v',(Instr.loadAt t (.pointer (some ⟨b,off,none⟩))).run P w=.ok v' w/\Rep V v v':=by intro t l off h v q hh;cases hh
 dro:(Operand->AVal)->Op->aC A->Option (ORes A):=fun _ _ _=>none
 droCongr: ∀(ρ ρ2:Operand->AVal) (op:Op) (h:aC A),(∀x∈op.operands,ρ x=ρ2 x)->dro ρ op h=dro ρ2 op h:=by intro _ _ _ _ _;rfl
 droOk: ∀(ρ:Operand->AVal) (o:Oper) (h:aC A) (r:ORes A),dro ρ o.op h=some r->r.obl-> ∀(V:Val) (hR:PHeap) (w:World) (ρ':Operand->Value),Inv I V (toF h) hR w->gT V h.length r.new.length->(∀x,Rep V (ρ x) (ρ' x))->dG I P V h.length hR w r.v (toF (r.apply h)) r.new.length (execOp ρ' o):=by intro _ _ _ _ hh;cases hh
 yld:Nat->List AVal->aC A->(AVal->aC A->Prop)->Prop:=fun _ _ _ _=>False
 yldOk: ∀(l:Nat) (args:List AVal) (h:aC A) (K:AVal->aC A->Prop),yld l args h K-> ∀(V:Val) (hR:PHeap) (w:World) (args':Array Value),Inv I V (toF h) hR w->(∀l,h.length<=l->V l=none)->aH V args args'.toList->YieldAt Fence.wide 0 P l args' w (zR I V h.length hR K w):=by
  intro l args h K hk;exact hk.elim
def fL: ∀(u:List (Nat×Option (aG A))) (h:aC A),(hupd h u).length =h.length
 | [],h=>rfl
 | x::u,h=>by
   show(hupd (h.set x.1 x.2) u).length =_;rw [fL u];simp
theorem mU(r:ORes A)(h:aC A):(r.apply h).length =h.length+r.new.length:=by
 simp [ORes.apply,fL]
abbrev vF(A:Type):=FuncId->List AVal->aC A->(AVal->aC A->Prop)->Prop
section
variable {P:Program} (E:Env A P)
def ZL(inl:vF A)(g:FuncId)(args:List AVal)(h:aC A)(K:AVal->aC A->Prop):Prop:=
 match E.cps g with
 | some S=>S args h K
 | none=>
   match E.det g with
   | some D=>match D args h with
     | some r=>AR r.need (K r.v (r.applyF h))
     | none=>False
   | none=>inl g args h K
def callee(ρ:Operand->AVal)(c:Call):Option (FuncId×List AVal):=
 match c.callee with
 | .value f=>
   match ρ f with
   | .func (.func g) first caps=>some (g,first++c.args.toList.map ρ++caps)
   | _=>none
 | .invoke recv name=>
   match ρ recv with
   | .iface t (.ptr l off)=>(E.meth t name).map fun g=>(g,.ptr l off::c.args.toList.map ρ)
   | _=>none
 | .builtin _=>none
def qQ:AVal->Option Prop
 | .slice _ _ n _=>some (n=0)
 | .tslice _ _ n _=>some (n=0)
 | .iview _ xs=>some (xs=[])
 | .view n _ _=>some (n=0)
 | .empty =>some True
 | _=>none
def anil(P:Program)(ρ:Operand->AVal):Op->Option (Prop×(Bool->Bool))
 | .binOp .eql t x y _=>match P.underlying t,ρ y with
   | some (.slice _),.raw (.slice none 0 0)=>(qQ (ρ x)).map fun p=>(p,fun b=>b)
   | _,_=>none
 | .binOp .neq t x y _=>match P.underlying t,ρ y with
   | some (.slice _),.raw (.slice none 0 0)=>(qQ (ρ x)).map fun p=>(p,fun b=>!b)
   | _,_=>none
 | _=>none
def x4(inl:vF A)(ρ:Operand->AVal)(op:Op)(h:aC A)(K:AVal->aC A->Prop):Prop:=
 match op with
 | .call c=>
   match callee E ρ c with
   | some (g,args)=>cK (nD P g) (ZL E inl g args h K)
   | none=>match aop P ρ (.call c) h with
     | some r=>AR r.need (K r.v (r.applyF h))
     | none=>E.row ρ (.call c) h K
 | op=>match anil P ρ op with
   | some (p,f)=> ∀b:Bool,(b=true->p)->K (.bool (f b)) h
   | none=>match aop P ρ op h with
     | some r=>AR r.need (K r.v (r.applyF h))
     | none=>E.row ρ op h K
def vV(tm:List AVal)(dst:Option Tmp)(v:AVal):List AVal:=
 match dst with
 | some d=>tm.set d v
 | none=>tm
def iX:AVal->Bool
 | .raw (.tuple _)=>true
 | _=>false
def lK(inl:vF A):Prop:=
 ∀g args h K,inl g args h K-> ∀V hR w (args':Array Value),Inv E.I V (toF h) hR w->bO V h.length->aH V args args'.toList->Calls P g args' w (zR E.I V h.length hR K w)
variable {E}
theorem tZ{V V':Val}{r:ORes A}{h:aC A}(hf:bO V h.length)(hd: ∀l,V l=none->V' l≠none->h.length<=l/\l<h.length+r.new.length):bO V' (r.apply h).length :=by
 intro l hl;rw [mU]at hl;cases e:V' l with
 | none=>rfl
 | some x=>
   have:=hd l (hf l omz) (by rw [e];simp)
   omega
theorem G4{inl:vF A}(hinl:lK E inl){g:FuncId}{args:List AVal}{h:aC A}{K:AVal->aC A->Prop}(he:ZL E inl g args h K){V:Val}{hR:PHeap}{w:World}{args':Array Value}
 (hi:Inv E.I V (toF h) hR w) (hf:bO V h.length) (hr:aH V args args'.toList):Calls P g args' w (zR E.I V h.length hR K w):=by
 unfold ZL at he;split at he
 ·rename_i S hS;exact E.cpsOk g S hS args h K he V hR w args' hi hf hr
 ·split at he
  ·rename_i D hD;split at he
   ·rename_i r aa;have he:=oK.1 he;rw [sV]at he;refine(E.detOk g D hD args h r aa he.1 V hR w args' hi hf.on hr).mono ?_;rintro e w' ⟨v',V',h1,h2,h3,h4,h5,h6⟩;refine⟨r.v,v',V',r.apply h,he.2,h1,h2,h3,tZ hf h4,?_,h5,h6⟩;rw [mU];omega
   ·exact he.elim
  ·exact hinl g args h K he V hR w args' hi hf hr
theorem gM{V:Val}{tm:List AVal}{a:Act}(h:aH V tm a.tmps.toList)(x:Operand):Rep V (dK tm x) (a.eval x):=by
 cases x with
 | tmp t=>
   show Rep V (tm.getD t (.raw undef)) (a.tmps.getD t undef);rw [gD',Array.getD_eq_getD_getElem?];cases e:tm[t]? with
   | some v=>
     obtain⟨y,hy,ry⟩:=aH.get h t v e;rw [Array.getElem?_toList]at hy;rw [hy];exact ry
   | none=>
     have hl:=aH.length h;rw [List.getElem?_eq_none_iff]at e;have:a.tmps[t]? =none:=by rw [Array.getElem?_eq_none];rw [<-Array.length_toList];omega
     rw [this];exact rfl
 | const v=>exact zG V v
 | global g=>exact rfl
 | func f=>exact⟨#[], #[],rfl,by simp [aH],by simp [aH]⟩
theorem mD{V:Val}{tm:List AVal}{a:Act}{dst:Option Tmp}{v:AVal}{v':Value}(h:aH V tm a.tmps.toList)(hv:Rep V v v'):aH V (vV tm dst v) (a.put dst v').tmps.toList :=by
 cases dst with
 | none=>exact h
 | some d=>
   show aH V (tm.set d v) (a.tmps.setIfInBounds d v').toList;rw [Array.toList_setIfInBounds];exact aH.set h d v v' hv
theorem iQ(a:Act)(dst:Option Tmp)(v:Value):(a.put dst v).defers =a.defers:=by
 cases dst<;>rfl
theorem gV{g:FuncId}(hp:nD P g=true)(args:Array Value)(w:World):(callFunc g args).run P w=.ok (.enter g args) w:=by
 unfold nD at hp;cases e:P.funcs[g]? with
 | none=>rw [e]at hp;cases hp
 | some fn=>
   rw [e]at hp;simp only [Bool.and_eq_true,bne_iff_ne,ne_eq]at hp;have h2:fn.body.isNone=false:=by cases hb:fn.body<;>simp_all
   simp only [callFunc,Sem.run_bind,run_program,Result.andThen_ok,e];have h1:(fn.name == "runtime.NumGoroutine")=false:=by simpa using hp.1
   simp [h1,h2]
theorem aCL(x:Value)(ys:Array Value):(#[x]++ys)[0]? =some x:=by
 rw [Array.getElem?_append_left (by simp)];rfl
theorem aCM(x:Value)(ys:Array Value):(#[x]++ys).extract 1 (#[x]++ys).size =ys:=by
 apply Array.ext';rw [Array.toList_extract];have e:(#[x]++ys).toList =x::ys.toList:=by simp
 have e2:(#[x]++ys).size =ys.toList.length+1:=by simp;omega
 rw [e,e2];show List.take (ys.toList.length+1 - 1) (List.drop 1 (x::ys.toList))=ys.toList;rw [Nat.add_sub_cancel];exact List.take_length
theorem H5{V:Val}{a:AVal}{p:Prop}{x:Value}(h:qQ a=some p)(hx:Rep V a x): ∃base len cap,x=.slice base len cap/\(base=none->p):=by
 unfold qQ at h;split at h
 ·simp only [sI']at h;subst h;obtain⟨base,cap,e,hc,hb⟩:=hx;refine⟨base,_,cap,e,?_⟩;rintro rfl;rcases hb with⟨b,k,_,hb,_⟩ | ⟨h0,_⟩
  ·cases hb
  ·exact h0
 ·simp only [sI']at h;subst h;obtain⟨base,cap,e,hc,hb⟩:=hx;refine⟨base,_,cap,e,?_⟩;rintro rfl;rcases hb with⟨b,k,_,hb,_⟩ | ⟨h0,_⟩
  ·cases hb
  ·exact h0
 ·simp only [sI']at h;subst h;obtain⟨base,cap,e,hc,hb⟩:=hx;refine⟨base,_,cap,e,?_⟩;rintro rfl;rcases hb with⟨b,off,cs,T,fz,hb,_⟩ | h0
  ·cases hb
  ·exact h0
 ·simp only [sI']at h;subst h;obtain⟨base,cap,e,hc,hb⟩:=hx;refine⟨base,_,cap,e,?_⟩;rintro rfl;rcases hb with⟨b,off,cs,T,fz,hb,_⟩ | h0
  ·cases hb
  ·exact h0
 ·simp only [sI']at h;subst h;obtain⟨base,e⟩:=hx;exact⟨base,0,0,e,fun _=>trivial⟩
 ·cases h
theorem aA7{w:World}{t e:TypeId}{X Y:Operand}{base:Option Addr}{len cap:Nat}(hu:P.underlying t=some (.slice e)):
 (do eqGuard .eql t X Y (.slice base len cap) (.slice none 0 0);binOp .eql t (.slice base len cap) (.slice none 0 0):Sem Value).run P w=.ok (.bool base.isNone) w/\
 (do eqGuard .neq t X Y (.slice base len cap) (.slice none 0 0);binOp .neq t (.slice base len cap) (.slice none 0 0):Sem Value).run P w=.ok (.bool (!base.isNone)) w:=by
 have h1: ∀D,(Op.equalIn (D+1) t (.slice base len cap) (.slice none 0 0)).run P w=.ok base.isNone w:=by
  intro D;cases base<;>simp [Op.equalIn,underlying,hu]
 have h2:(Op.equal t (.slice base len cap) (.slice none 0 0)).run P w=.ok base.isNone w:=h1 _
 have g: ∀op,(eqGuard op t X Y (.slice base len cap) (.slice none 0 0)).run P w=.ok () w:=by
  intro op;cases op<;>rfl
 have b1:binOp .eql t (.slice base len cap) (.slice none 0 0)=(do let e<-Op.equal t (.slice base len cap) (.slice none 0 0);Pure.pure (.bool e)):=rfl
 have b2:binOp .neq t (.slice base len cap) (.slice none 0 0)=(do let e<-Op.equal t (.slice base len cap) (.slice none 0 0);Pure.pure (.bool (!e))):=rfl
 constructor
 ·simp only [Sem.run_bind,g,Result.andThen_ok,b1,h2,Sem.run_pure]
 ·simp only [Sem.run_bind,g,Result.andThen_ok,b2,h2,Sem.run_pure]
theorem qJ{inl:vF A}(hinl:lK E inl){a:Act}{o:Oper}{tm:List AVal}{h:aC A}{K:AVal->aC A->Prop}(he:x4 E inl (dK tm) o.op h K){V:Val}{hR:PHeap}{w:World}
 (hi:Inv E.I V (toF h) hR w) (hf:bO V h.length) (ht:aH V tm a.tmps.toList) {next:Act->World->Prop} {Q:Exit->Act->World->Prop}
 (hn: ∀v v' V' h' w',K v h'->Rep V' v v'->V.le V'->bO V' h'.length->h.length<=h'.length->Inv E.I V' (toF h') hR w'->bP w w'->next (a.put o.dst v') w'):
 o.wp P a w next Q:=by
 have hρ: ∀x,Rep V (dK tm x) (a.eval x):=gM ht
 have ai: ∀(r:ORes A),aop P (dK tm) o.op h=some r->r.obl->K r.v (r.apply h)->o.wp P a w next Q:=by
  intro r hr ho hK;obtain⟨nx,w',V',v',h1,h2,h3,h4,h5,h6,h7⟩:=yK hr ho hi hf.on hρ;have:=hn r.v v' V' (r.apply h) w' hK h5 h3 (tZ hf h4) (by rw [mU];omega) h6 h7
  unfold Oper.wp;rw [h1];rcases h2 with rfl | ⟨rfl,rfl⟩
  ·exact this
  ·exact this
 have other:(match aop P (dK tm) o.op h with | some r=>AR r.need (K r.v (r.applyF h)) | none=>E.row (dK tm) o.op h K)->o.wp P a w next Q:=by
  intro hh;split at hh
  ·rename_i r hr;exact ai r hr (oK.1 hh).1 (by rw [<-sV];exact(oK.1 hh).2)
  ·obtain⟨nx,w',V',v,v',h2,r1,r2,r3,r4,r5,r6,r7,r8,r9⟩:=E.rowOk (dK tm) o h K hh V hR w a.eval hi hf hρ;have:=hn v v' V' h2 w' r1 r4 r5 r6 r7 r8 r9;unfold Oper.wp;rw [r2];rcases r3 with rfl | ⟨rfl,rfl⟩
   ·exact this
   ·exact this
 have fin: ∀(g:FuncId) (args:List AVal) (ae:Array Value),nD P g=true->ZL E inl g args h K->aH V args ae.toList->(execOp a.eval o).run P w=.ok (.enter g ae) w->o.wp P a w next Q:=by
  intro g args ae hp aj hr af;unfold Oper.wp;rw [af];refine(G4 hinl aj hi hf hr).mono ?_;rintro e w' ⟨v,v',V',h',h1,rfl,h3,h4,h5,h6,h7,h8⟩;exact hn v v' V' h' w' h1 h3 h4 h5 h6 h7 h8
 cases ac:o.op with
 | call c=>
   rw [ac]at he;simp only [x4]at he;have ah:aH V (c.args.toList.map (dK tm)) (c.args.toList.map a.eval):=jN hρ c.args.toList;cases hc:callee E (dK tm) c with
   | none=>
     rw [hc]at he;exact other (by rw [ac];exact he)
   | some x=>
     obtain⟨g,args⟩:=x;rw [hc]at he;obtain⟨hp,aj⟩:=bL.1 he;unfold callee at hc;split at hc
     ·rename_i f ag;split at hc
      ·rename_i g' first ar al
       simp only [sI',pI']at hc;obtain⟨rfl,rfl⟩:=hc;have rf:=hρ f;rw [al]at rf;obtain⟨fs,cs,e1,r1,r2⟩:=rf;refine fin g' _ (fs++c.args.map a.eval++cs) hp aj ?_ ?_
       ·simp only [Array.toList_append,Array.toList_map];exact aH.append (aH.append r1 ah) r2
       ·simp only [execOp,ac,resolve,ag,e1,Deferred.ofValue,Sem.run_bind,Sem.run_pure,Result.andThen_ok,invoke,gV hp]
      ·cases hc
     ·rename_i recv name ag;split at hc
      ·rename_i t l off al;cases hm:E.meth t name with
       | none=>rw [hm]at hc;cases hc
       | some g'=>
         rw [hm]at hc;simp only [Option.map_some,sI',pI']at hc;obtain⟨rfl,rfl⟩:=hc;have rf:=hρ recv;rw [al]at rf;obtain⟨x,e1,b,k,hl,e2⟩:=rf;subst e2;refine fin g' _ (#[.pointer (some ⟨b,off,none⟩)]++c.args.map a.eval) hp aj ?_ ?_
         ·simp only [Array.toList_append,Array.toList_map];exact⟨_,_,rfl,⟨b,k,hl,rfl⟩,ah⟩
         ·have ap:=E.methOk t name g' hm (.pointer (some ⟨b,off,none⟩)) w ⟨_,rfl⟩;simp only [execOp,ac,resolve,ag,Sem.run_bind,Sem.run_pure,Result.andThen_ok,invoke,e1,aCL,aCM,callMethod,run_program,ap,gV hp]
      ·cases hc
     ·cases hc
 | binOp bo t X Y yt=>
   rw [ac]at he;cases aa:anil P (dK tm) (.binOp bo t X Y yt)with
   | none=>
     have he':=he;simp only [x4,aa]at he';exact other (by rw [ac];exact he')
   | some q=>
     obtain⟨p,f⟩:=q;simp only [x4,aa]at he
     have ak: ∀(e:TypeId),P.underlying t=some (.slice e)->dK tm Y=.raw (.slice none 0 0)->qQ (dK tm X)=some p->(bo=.eql /\f=(fun b=>b)\/bo=.neq /\f=(fun b=>!b))->o.wp P a w next Q:=by
      intro e hu hy hx aq;obtain⟨base,len,cap,ex,hp⟩:=H5 hx (hρ X);have ey:a.eval Y=.slice none 0 0:=by have:=hρ Y;rw [hy]at this;exact this
      have hb:base.isNone=true->p:=fun h=>hp (by cases base<;>simp_all)
      obtain⟨r1,r2⟩:=aA7 (P:=P) (w:=w) (X:=X) (Y:=Y) (base:=base) (len:=len) (cap:=cap) hu
      have af:(execOp a.eval o).run P w=.ok (.value (.bool (f base.isNone))) w:=by
       rcases aq with⟨rfl,rfl⟩ | ⟨rfl,rfl⟩
       ·have:execOp a.eval o=(do Pure.pure (.value (<-(do eqGuard .eql t X Y (a.eval X) (a.eval Y);binOp .eql t (a.eval X) (a.eval Y):Sem Value)))):=by simp only [execOp,ac]
        rw [this,ex,ey,Sem.run_bind,r1];rfl
       ·have:execOp a.eval o=(do Pure.pure (.value (<-(do eqGuard .neq t X Y (a.eval X) (a.eval Y);binOp .neq t (a.eval X) (a.eval Y):Sem Value)))):=by simp only [execOp,ac]
        rw [this,ex,ey,Sem.run_bind,r2];rfl
      unfold Oper.wp;rw [af];exact hn _ _ V h w (he base.isNone hb) rfl V.le_refl hf (Nat.le_refl _) hi (aLS w)
     unfold anil at aa;split at aa
     ·rename_i t' X' Y' ao am;cases am;split at aa
      ·rename_i e hu hy;cases hl:qQ (dK tm X)with
       | none=>rw [hl]at aa;cases aa
       | some p'=>
         rw [hl]at aa;simp only [Option.map_some,sI',pI']at aa;obtain⟨rfl,rfl⟩:=aa;exact ak e hu hy hl (.inl ⟨rfl,rfl⟩)
      ·cases aa
     ·rename_i t' X' Y' ao am;cases am;split at aa
      ·rename_i e hu hy;cases hl:qQ (dK tm X)with
       | none=>rw [hl]at aa;cases aa
       | some p'=>
         rw [hl]at aa;simp only [Option.map_some,sI',pI']at aa;obtain⟨rfl,rfl⟩:=aa;exact ak e hu hy hl (.inr ⟨rfl,rfl⟩)
      ·cases aa
     ·cases aa
 | _=>exact other (by rw [ac]at he⊢;exact he)
end
end Go.Sh
namespace Go.Sh
open Go
variable [Con] {A:Type}
section
variable {P:Program} {E:Env A P}
def BN(E:Env A P)(ds:List Deferred)(V:Val)(n:Nat)(hR:PHeap)(w:World)(K:List AVal->aC A->Prop)(a:Act)(w':World):Prop:=
 ∃tm V' h',K tm h'/\aH V' tm a.tmps.toList/\V.le V'/\bO V' h'.length/\n<=h'.length/\Inv E.I V' (toF h') hR w'/\bP w w'/\a.defers=ds
theorem BN.chain{ds:List Deferred}{V V1:Val}{n n1:Nat}{hR:PHeap}{w w1:World}{K:List AVal->aC A->Prop}{a:Act}{w':World}(h:BN E ds V1 n1 hR w1 K a w')(hV:V.le V1)(hn:n<=n1)(hg:bP w w1):BN E ds V n hR w K a w':=by
 obtain⟨tm,V',h',h1,h2,h3,h4,h5,h6,h7,h8⟩:=h;exact⟨tm,V',h',h1,h2,Val.le_trans hV h3,h4,by omega,h6,hg.trans h7,h8⟩
theorem kH{ops:Array Oper}{j d:Nat}{tmps:Array Value}{b:Bool}(h1:(ops[j]?).bind (·.dst)=some d)(h2:tmps[d]? =some (.bool b)):yielded ops tmps j=some b:=by
 simp [yielded,h1,h2]
theorem mB{ops:Array Oper}{j d:Nat}{tmps:Array Value}(h1:(ops[j]?).bind (·.dst)=some d)(h2:tmps[d]? =none\/ ∃vs,tmps[d]? =some (.tuple vs)):yielded ops tmps j=none:=by
 rcases h2 with h2 | ⟨vs,h2⟩<;>simp [yielded,h1,h2]
theorem mM{α:Type} : ∀(l:List α) (i:Nat) (x:α),l[i]? =some x->l.set i x=l
 | [],_,_,h=>by simp at h
 | a::l,0,x,h=>by simp at h;subst h;rfl
 | a::l,i+1,x,h=>by simp at h;simp [mM l i x h]
theorem tB{tm:List AVal}{d:Nat}{b:Bool}(h:tm.getD d (.raw undef)=.bool b):tm[d]? =some (.bool b):=by
 rw [gD']at h;cases e:tm[d]? with
 | none=>rw [e]at h;cases h
 | some x=>rw [e]at h;exact congrArg some h
end
end Go.Sh
namespace Go.Sh
open Go
variable [Con] {A:Type}
def CG:List (Nat×AVal)->Nat->AVal->AVal
 | [],_,b=>b
 | (s,v)::δ,t,b=>cond (Nat.beq s t) v (CG δ t b)
def GZ(δ:List (Nat×AVal))(base:List AVal)(t:Nat):AVal:=
 match δ with
 | []=>base.getD t (.raw undef)
 | (s,v)::δ=>cond (Nat.beq s t) v (GZ δ base t)
def rM(δ:List (Nat×AVal)):Nat->List AVal->List AVal
 | _,[]=>[]
 | i,b::bs=>CG δ i b::rM δ (i+1) bs
def DJ:List AVal->(List AVal->Prop)->Prop
 | [],K=>K []
 | x::xs,K=>DJ xs fun ys=>K (x::ys)
theorem rT: ∀(l:List AVal) (K:List AVal->Prop),DJ l K=K l
 | [],K=>rfl
 | x::xs,K=>rT xs _
def bU:List (Nat×AVal)->List AVal->List AVal
 | [],base=>base
 | (s,v)::δ,base=>(bU δ base).set s v
theorem iU: ∀(δ:List (Nat×AVal)) (base:List AVal),(bU δ base).length =base.length
 | [],_=>rfl
 | (s,v)::δ,base=>by simp [bU,iU δ base]
def wC(n:Nat):List (Nat×AVal)->Prop
 | []=>True
 | (s,_)::δ=>s<n/\wC n δ
theorem QV(a b:Nat):Nat.beq a b=decide (a=b):=by
 cases h:Nat.beq a b with
 | true=>simp [Nat.eq_of_beq_eq_true h]
 | false=>
   have:a≠b:=Nat.ne_of_beq_eq_false h;simp [this]
theorem rL: ∀(δ:List (Nat×AVal)) (base:List AVal) (t:Nat),wC base.length δ->GZ δ base t=(bU δ base).getD t (.raw undef)
 | [],_,_,_=>rfl
 | (s,v)::δ,base,t,h=>by
   unfold GZ bU;rw [rL δ base t h.2,QV]
   by_cases e:s=t
   ·subst e;simp [gD',List.getElem?_set,iU,h.1]
   ·simp [e,gD',List.getElem?_set_ne e]
theorem CH: ∀(δ:List (Nat×AVal)) (base:List AVal) (t:Nat) (b:AVal),wC base.length δ->base[t]? =some b->(bU δ base)[t]? =some (CG δ t b)
 | [],_,_,_,_,h=>h
 | (s,v)::δ,base,t,b,h,hb=>by
   unfold CG bU;rw [QV]
   by_cases e:s=t
   ·subst e;simp [List.getElem?_set,iU,h.1]
   ·simp only [e,decide_false,cond_false];rw [List.getElem?_set_ne e];exact CH δ base t b h.2 hb
theorem yQ(δ:List (Nat×AVal)): ∀(bs:List AVal) (i t:Nat),(rM δ i bs)[t]? =bs[t]?.map (CG δ (i+t))
 | [],i,t=>by simp [rM]
 | b::bs,i,0=>by simp [rM]
 | b::bs,i,t+1=>by
   simp only [rM,List.getElem?_cons_succ];rw [yQ δ bs (i+1) t,show i+1+t=i+(t+1)from by omega]
theorem wD{δ:List (Nat×AVal)}{base:List AVal}(h:wC base.length δ):rM δ 0 base=bU δ base:=by
 apply List.ext_getElem?;intro t;rw [yQ];cases hb:base[t]? with
 | none=>
   rw [List.getElem?_eq_none_iff]at hb;simp only [Option.map_none];rw [List.getElem?_eq_none];rw [iU];exact hb
 | some b=>rw [CH δ base t b h hb];simp
section
variable {P:Program} (E:Env A P)
def gH(δ:List (Nat×AVal))(base:List AVal):Operand->AVal
 | .tmp t=>GZ δ base t
 | .const v=>jL v
 | .global g=>.raw (.pointer (some ⟨g,0,none⟩))
 | .func f=>.func (.func f) [] []
theorem sR{δ:List (Nat×AVal)}{base:List AVal}(h:wC base.length δ):gH δ base=dK (bU δ base):=by
 funext x;cases x with
 | tmp t=>exact rL δ base t h
 | _=>rfl
def j9(δ:List (Nat×AVal))(dst:Option Tmp)(v:AVal):List (Nat×AVal):=
 match dst with
 | some d=>(d,v)::δ
 | none=>δ
def dok(n:Nat)(dst:Option Tmp):Bool:=
 match dst with
 | some d=>Nat.blt d n
 | none=>true
theorem mX{n:Nat}{δ:List (Nat×AVal)}{base:List AVal}{dst:Option Tmp}{v:AVal} :vV (bU δ base) dst v=bU (j9 δ dst v) base:=by
 cases dst<;>rfl
theorem mY{n:Nat}{δ:List (Nat×AVal)}{dst:Option Tmp}{v:AVal}(h:wC n δ)(hd:dok n dst=true):wC n (j9 δ dst v):=by
 cases dst with
 | none=>exact h
 | some d=>exact⟨Nat.le_of_ble_eq_true hd,h⟩
def sH(seen:List (Option Tmp))(i j:Nat):Option Tmp:=match seen[Nat.sub (Nat.pred i) j]? with
 | some d=>d
 | none=>none
def kW(inl:vF A)(base:List AVal)(n:Nat):List Oper->List (Option Tmp)->Nat->List (Nat×AVal)->aC A->(List AVal->aC A->Prop)->Prop
 | [],_,_,δ,h,K=>DJ (rM δ 0 base) fun tm=>K tm h
 | o::rest,seen,i,δ,h,K=>
   cK (dok n o.dst) <|
   match o.guard with
   | none=>x4 E inl (gH δ base) o.op h fun v h'=>kW inl base n rest (o.dst::seen) (Nat.succ i) (j9 δ o.dst v) h' K
   | some (j,want)=>
     cK (Nat.blt j i) <|
     match sH seen i j with
     | none=>False
     | some d=>
       match GZ δ base d with
       | .bool b=>cK (Nat.blt d n) <|
         cond b
          (if want then x4 E inl (gH ((d,.bool true)::δ) base) o.op h fun v h'=>kW inl base n rest (o.dst::seen) (Nat.succ i) (j9 ((d,.bool true)::δ) o.dst v) h' K
            else kW inl base n rest (o.dst::seen) (Nat.succ i) (j9 ((d,.bool true)::δ) o.dst (.raw undef)) h K)
          (if want then kW inl base n rest (o.dst::seen) (Nat.succ i) (j9 ((d,.bool false)::δ) o.dst (.raw undef)) h K
            else x4 E inl (gH ((d,.bool false)::δ) base) o.op h fun v h'=>kW inl base n rest (o.dst::seen) (Nat.succ i) (j9 ((d,.bool false)::δ) o.dst v) h' K)
       | v=>if iX v then kW inl base n rest (o.dst::seen) (Nat.succ i) (j9 δ o.dst (.raw undef)) h K else False
variable {E}
def uM(ops:Array Oper)(rest:List Oper)(seen:List (Option Tmp))(i:Nat):Prop:= ∃pre:List Oper,ops.toList=pre++rest/\seen=(pre.map (·.dst)).reverse /\i=pre.length
theorem uM.next{ops:Array Oper}{o:Oper}{rest:List Oper}{seen:List (Option Tmp)}{i:Nat}(h:uM ops (o::rest) seen i):uM ops rest (o.dst::seen) (Nat.succ i):=by
 obtain⟨pre,h1,h2,h3⟩:=h;exact⟨pre++ [o],by rw [h1];simp,by rw [h2];simp,by rw [h3];simp⟩
theorem uM.dst{ops:Array Oper}{rest:List Oper}{seen:List (Option Tmp)}{i j:Nat}(h:uM ops rest seen i)(hj:Nat.blt j i=true):(ops[j]?).bind (·.dst)=sH seen i j:=by
 obtain⟨pre,h1,h2,h3⟩:=h;have aa:j<pre.length:=by rw [<-h3];exact Nat.le_of_ble_eq_true hj
 have e1:ops[j]? =pre[j]? :=by rw [<-Array.getElem?_toList,h1,List.getElem?_append_left aa]
 unfold sH
 have e2:seen[Nat.sub (Nat.pred i) j]? =(pre.map (·.dst))[j]? :=by
  rw [h2];have hs:Nat.sub (Nat.pred i) j=pre.length - 1 - j:=by rw [h3];rfl
  rw [hs,List.getElem?_reverse (by simp;omega)]
  congr 1;simp;omega
 rw [e1,e2,List.getElem?_map,gE' aa];rfl
theorem AH{ds:List Deferred}{inl:vF A}(hinl:lK E inl){ops:Array Oper}{base:List AVal}{n:Nat}(hbn:base.length=n){Q:Exit->Act->World->Prop} : ∀(rest:List Oper) (seen:List (Option Tmp)) (i:Nat) (δ:List (Nat×AVal)) (h:aC A) (K:List AVal->aC A->Prop) (a:Act) (w:World) (V:Val) (hR:PHeap),
 uM ops rest seen i->kW E inl base n rest seen i δ h K->wC n δ->Inv E.I V (toF h) hR w->bO V h.length->aH V (bU δ base) a.tmps.toList->a.defers=ds->
 (∀a' w',BN E ds V h.length hR w K a' w'->Q .normal a' w')->wpList P ops Q rest a w:=by
 intro rest
 induction rest with
 | nil=>
   intro seen i δ h K a w V hR ai he ae hi hf ht hd hQ;unfold kW at he;rw [rT,wD (by rw [hbn];exact ae)]at he
   exact wpList_nil (hQ a w ⟨bU δ base,V,h,he,ht,V.le_refl,hf,Nat.le_refl _,hi,aLS w,hd⟩)
 | cons o rest ih=>
   intro seen i δ h K a w V hR ai he ae hi hf ht hd hQ;have he:=bL.1 he;obtain⟨am,he⟩:=he
   have run: ∀δ':List (Nat×AVal),wC n δ'->aH V (bU δ' base) a.tmps.toList->(x4 E inl (gH δ' base) o.op h fun v h'=>kW E inl base n rest (o.dst::seen) (Nat.succ i) (j9 δ' o.dst v) h' K)->Region.wanted o (yielded ops a.tmps)=true->wpList P ops Q (o::rest) a w:=by
    intro δ' ac ah aj hw;refine wpList_step fun K' al=>?_;rw [if_pos hw];rw [sR (by rw [hbn];exact ac)]at aj
    refine qJ hinl aj hi hf ah ?_;intro v v' V' h' w' k1 k2 k3 k4 k5 k6 k7;refine al _ _ (ih _ _ _ _ _ _ _ V' hR ai.next k1 (mY ac am) k6 k4 (by rw [<-mX (n:=n)];exact mD (aH.mono k3 _ _ ah) k2) (by rw [iQ];exact hd) ?_)
    intro a' au hT;exact hQ a' au (hT.chain k3 k5 k7)
   have skip: ∀δ':List (Nat×AVal),wC n δ'->aH V (bU δ' base) a.tmps.toList->kW E inl base n rest (o.dst::seen) (Nat.succ i) (j9 δ' o.dst (.raw undef)) h K->Region.wanted o (yielded ops a.tmps)=false->wpList P ops Q (o::rest) a w:=by
    intro δ' ac ah aj hw;refine wpList_step fun K' al=>?_;rw [if_neg (by rw [hw];simp)]
    exact al _ _ (ih _ _ _ _ _ _ _ V hR ai.next aj (mY ac am) hi hf (by rw [<-mX (n:=n)];exact mD ah rfl) (by rw [iQ];exact hd) hQ)
   cases hg:o.guard with
   | none=>
     rw [hg]at he;exact run δ ae ht he (by simp [Region.wanted,hg])
   | some g=>
     obtain⟨j,want⟩:=g;rw [hg]at he;simp only at he;obtain⟨ax,he⟩:=bL.1 he;have ap:=ai.dst ax;cases hj:(ops[j]?).bind (·.dst)with
     | none=>rw [<-ap,hj]at he;exact he.elim
     | some d=>
       rw [<-ap,hj]at he;simp only at he;have ar:=rL δ base d (by rw [hbn];exact ae)
       split at he
       ·rename_i b hb;obtain⟨ay,he⟩:=bL.1 he;rw [ar]at hb;have aq:=tB hb;obtain⟨y,hy,ry⟩:=aH.get ht d _ aq;rw [Array.getElem?_toList]at hy;have av:y=.bool b:=ry;subst av;have ak:yielded ops a.tmps j=some b:=kH hj hy;have hs:bU ((d,.bool b)::δ) base=bU δ base:=mM _ d _ aq;have aa: ∀v,wC n ((d,v)::δ):=fun v=>⟨Nat.le_of_ble_eq_true ay,ae⟩;have ag:Region.wanted o (yielded ops a.tmps)=(b == want):=by simp [Region.wanted,hg,ak]
        cases b with
        | true=>
          simp only [cond_true]at he;cases want with
          | true=>rw [if_pos rfl]at he;exact run _ (aa _) (by rw [hs];exact ht) he (by rw [ag];rfl)
          | false=>rw [if_neg (by simp)]at he;exact skip _ (aa _) (by rw [hs];exact ht) he (by rw [ag];rfl)
        | false=>
          simp only [cond_false]at he;cases want with
          | true=>rw [if_pos rfl]at he;exact skip _ (aa _) (by rw [hs];exact ht) he (by rw [ag];rfl)
          | false=>rw [if_neg (by simp)]at he;exact run _ (aa _) (by rw [hs];exact ht) he (by rw [ag];rfl)
       ·rename_i az;split at he
        ·rename_i af;rw [ar]at af
         have ak:yielded ops a.tmps j=none:=by
          refine mB hj ?_;cases e:a.tmps[d]? with
          | none=>exact .inl rfl
          | some x=>
            right
            have ao:d<(bU δ base).length :=by
             have h1:=aH.length ht;rw [Array.length_toList]at h1;cases Nat.lt_or_ge d a.tmps.size with
             | inl g=>exact Nat.lt_of_lt_of_eq g h1
             | inr g=>rw [Array.getElem?_eq_none g]at e;cases e
            obtain⟨y,hy,ry⟩:=aH.get ht d _ (gE' ao);rw [Array.getElem?_toList,e]at hy;cases hy;have e2:(bU δ base).getD d (.raw undef)=(bU δ base)[d]:=by rw [gD',gE' ao];rfl
            rw [e2]at af;unfold iX at af;split at af
            ·rename_i vs e3;rw [e3]at ry;have:x=.tuple vs:=ry;exact⟨vs,by rw [this]⟩
            ·cases af
         exact skip δ ae ht he (by simp [Region.wanted,hg,ak])
        ·exact he.elim
end
end Go.Sh
namespace Go.Sh
open Go
variable [Con] {A:Type}
def hres(foot:List Nat):Nat->aC A->aC A
 | _,[]=>[]
 | i,e::h=>(cond (foot.contains i) e none)::hres foot (i+1) h
structure Item (A:Type) where
 o:Oper
 ran:Bool
 v:AVal
 upd:List (Nat×Option (aG A))
 new:List (aG A)
 foot:List Nat
 n:Nat
section
variable {P:Program} (E:Env A P)
def dop(ρ:Operand->AVal)(op:Op)(h:aC A):Option (ORes A):=
 match op with
 | .call c=>
   match callee E ρ c with
   | some (g,args)=>if nD P g=true then
      match E.det g with
      | some D=>D args h
      | none=>none
     else none
   | none=>
     match aop P ρ (.call c) h with
     | some r=>some r
     | none=>E.dro ρ (.call c) h
 | .load t a=>
   match aop P ρ (.load t a) h with
   | some r=>some r
   | none=>
     match ρ a with
     | .ptr l off=>
       match E.fld t l off h with
       | some (v,q)=>some {v:=v,upd:=[],new:=[],foot:=[l],need:=q}
       | none=>E.dro ρ (.load t a) h
     | _=>none
 | .store t a x=>
   match aop P ρ (.store t a x) h with
   | some r=>some r
   | none=>E.dro ρ (.store t a x) h
 | op=>aop P ρ op h
def Item.puts(it:Item A)(l:Nat):Bool:=it.upd.any (fun x=>x.1 == l)||(decide (it.n<=l)&&decide (l<it.n+it.new.length))
def jR(it:Item A):Bool:=it.upd.all fun x=>it.foot.contains x.1&&decide (x.1<it.n)
def mE(ops:Array Oper)(x y:Oper):Bool:=
 match x.dst with
 | some d=> !(y.looksAt ops).contains d&&y.dst !=some d
 | none=>true
def fM(ops:Array Oper)(x y:Item A):Bool:=
 mE ops x.o y.o&&mE ops y.o x.o&&y.foot.all (fun l=>!x.puts l)&&x.foot.all (fun l=>!y.puts l)
def mask(acc:List Nat)(o:Oper):Nat:=
 o.after.toList.foldl (fun s e=>if Region.binds .any e then s|||2^e.on|||acc.getD e.on 0 else s) 0
def masks:List Nat->List Oper->List Nat
 | acc,[]=>acc
 | acc,o::rest=>masks (acc++ [mask acc o]) rest
def F0(ops:Array Oper)(ms:List Nat)(its:List (Item A)):Prop:=
 ∀i j x y,its[i]? =some x->its[j]? =some y->i<j->(ms.getD j 0).testBit i=true\/fM ops x y=true
def lN(j:Nat)(o:Oper):Bool:=o.after.toList.all fun e=>!Region.binds .any e||Nat.blt e.on j
def mZ(ops:List Oper):Prop:= ∀(i:Nat) (o:Oper),ops[i]? =some o->lN i o=true
def U6(ops:Array Oper)(y:Item A):List (Item A)->Nat->Nat->Bool
 | [],_,_=>true
 | x::prev,u,i=>cond (Nat.beq u 0) true (cond (Nat.ble (2^Nat.pred i) u) (fM ops x y&&U6 ops y prev (Nat.sub u (2^Nat.pred i)) (Nat.pred i)) (U6 ops y prev u (Nat.pred i)))
theorem tK{ops:Array Oper}{y:Item A} : ∀(prev:List (Item A)) (u:Nat),u<2^prev.length->U6 ops y prev u prev.length=true-> ∀(k:Nat) (x:Item A),prev.reverse[k]? =some x->u.testBit k=true->fM ops x y=true
 | [],u,_,_,k,x,hk,_=>by simp at hk
 | z::prev,u,hu,h,k,x,hk,hb=>by
   unfold U6 at h;simp only [List.length_cons,Nat.pred_succ]at h hu;rw [List.reverse_cons]at hk;cases h0:Nat.beq u 0 with
   | true=>
     have:u=0:=Nat.eq_of_beq_eq_true h0;subst this;simp at hb
   | false=>
     rw [h0]at h;simp only [cond_false]at h
     have hkl:k<prev.length\/k=prev.length:=by
      cases Nat.lt_or_ge k (prev.length+1)with
      | inl g=>omega
      | inr g=>rw [List.getElem?_eq_none (by simp;omega)]at hk;cases hk
     have ac:k<prev.length->prev.reverse[k]? =some x:=by
      intro aa;rw [List.getElem?_append_left (by simpa using aa)]at hk;exact hk
     have ae:k=prev.length->z=x:=by
      intro e;subst e;rw [List.getElem?_append_right (by simp)]at hk
      simpa using hk
     cases h1:Nat.ble (2^prev.length) u with
     | true=>
       rw [h1]at h;simp only [cond_true,Bool.and_eq_true]at h;have af:2^prev.length<=u:=Nat.le_of_ble_eq_true h1;have aa:u - 2^prev.length<2^prev.length:=by rw [Nat.pow_succ]at hu;omega
       rcases hkl with hkl | hkl
       ·refine tK prev _ aa h.2 k x (ac hkl) ?_;have e:u=2^prev.length+(u - 2^prev.length):=by omega
        rw [e,Nat.testBit_two_pow_add_gt omz]at hb;exact hb
       ·rw [<-ae hkl];exact h.1
     | false=>
       rw [h1]at h;simp only [cond_false]at h
       have aa:u<2^prev.length:=by
        have: ¬2^prev.length<=u:=fun af=>by rw [Nat.ble_eq_true_of_le af]at h1;cases h1
        omega
       rcases hkl with hkl | hkl
       ·exact tK prev u aa h k x (ac hkl) hb
       ·subst hkl;rw [Nat.testBit_lt_two_pow aa]at hb;cases hb
def maskR(pm:List Nat)(j:Nat)(o:Oper):Nat:=
 o.after.toList.foldl (fun s e=>cond (Region.binds .any e) (Nat.lor (Nat.lor s (2^e.on)) (pm.getD (Nat.sub (Nat.pred j) e.on) 0)) s) 0
theorem D9{pm:List Nat}{o:Oper}(he:lN pm.length o=true):maskR pm pm.length o=mask pm.reverse o:=by
 unfold maskR mask;unfold lN at he;generalize o.after.toList=l at he
 have key: ∀s,l.foldl (fun s e=>cond (Region.binds .any e) (Nat.lor (Nat.lor s (2^e.on)) (pm.getD (Nat.sub (Nat.pred pm.length) e.on) 0)) s) s=l.foldl (fun s e=>if Region.binds .any e then s|||2^e.on|||pm.reverse.getD e.on 0 else s) s:=by
  induction l with
  | nil=>intro s;rfl
  | cons e l ih=>
    intro s;simp only [List.all_cons,Bool.and_eq_true]at he;simp only [List.foldl_cons];rw [ih he.2];congr 1;cases hb:Region.binds .any e with
    | false=>rfl
    | true=>
      simp only [cond_true,if_true]
      have aa:e.on<pm.length:=by
       have h1:=he.1;rw [hb]at h1;have h2:Nat.blt e.on pm.length=true:=by simpa only [Bool.not_true,Bool.false_or]using h1
       exact Nat.le_of_ble_eq_true h2
      have:pm.reverse.getD e.on 0=pm.getD (Nat.sub (Nat.pred pm.length) e.on) 0:=by
       rw [gD',gD',List.getElem?_reverse aa];rfl
      rw [this];rfl
 exact key 0
theorem lC: ∀(l:List Oper) (acc:List Nat) (o:Oper),masks acc (l++ [o])=masks acc l++ [mask (masks acc l) o]
 | [],acc,o=>rfl
 | x::l,acc,o=>by
   show masks (acc++ [mask acc x]) (l++ [o])=_;rw [lC l];rfl
theorem fR: ∀(l:List Oper) (acc:List Nat),(masks acc l).length =acc.length+l.length
 | [],acc=>rfl
 | x::l,acc=>by
   show(masks (acc++ [mask acc x]) l).length =_;rw [fR l];simp;omega
def oT(ops:Array Oper)(prev:List (Item A))(j m:Nat)(y:Item A):Bool:=
 lN j y.o&&jR y&&U6 ops y prev (Nat.xor (Nat.pred (2^j)) (Nat.land m (Nat.pred (2^j)))) j
def kX(n:Nat)(K:Nat->Prop):Prop:=match n with
 | 0=>K 0
 | p+1=>K (Nat.succ p)
theorem oD(n:Nat)(K:Nat->Prop):kX n K=K n:=by cases n<;>rfl
structure nQ (ops:Array Oper) (prev:List (Item A)) (pm:List Nat):Prop where
 masks:pm=(masks [] (prev.reverse.map (·.o))).reverse
 edges:mZ (prev.reverse.map (·.o))
 wells:prev.reverse.all jR=true
 pairs:F0 ops pm.reverse prev.reverse
theorem nQ.nil(ops:Array Oper):nQ ops ([]:List (Item A)) []:=
 ⟨rfl,fun i o h=>by simp at h,rfl,fun i j x y h=>by simp at h⟩
theorem nQ.cons{ops:Array Oper}{prev:List (Item A)}{pm:List Nat}(h:nQ ops prev pm){y:Item A}{m j:Nat}(hj:j=prev.length)(hm:m=maskR pm j y.o)(hs:oT ops prev j m y=true):nQ ops (y::prev) (m::pm):=by
 obtain⟨h1,h2,h3,h4⟩:=h;unfold oT at hs;rw [Bool.and_eq_true,Bool.and_eq_true]at hs;obtain⟨⟨s1,s2⟩,s3⟩:=hs;have ac:pm.length=prev.length:=by rw [h1,List.length_reverse,fR];simp
 have ag:m=mask pm.reverse y.o:=by rw [hm,hj,<-ac];exact D9 (by rw [ac,<-hj];exact s1)
 refine⟨?_,?_,?_,?_⟩
 ·rw [List.reverse_cons,List.map_append,List.map_cons,List.map_nil,lC,List.reverse_append,<-h1.symm.symm];have:pm.reverse=Go.Sh.masks [] (prev.reverse.map (·.o)):=by rw [h1,List.reverse_reverse]
  rw [<-this,ag];simp
 ·intro i o hi;rw [List.reverse_cons,List.map_append]at hi
  by_cases ae:i<prev.length
  ·rw [List.getElem?_append_left (by simpa using ae)]at hi;exact h2 i o hi
  ·rw [List.getElem?_append_right (by simp;omega)]at hi
   simp only [List.length_map,List.length_reverse,List.map_cons,List.map_nil]at hi
   have:i=prev.length:=by
    cases hq:i - prev.length with
    | zero=>omega
    | succ n=>rw [hq]at hi;simp at hi
   subst this;simp at hi;subst hi;rw [<-hj];exact s1
 ·rw [List.reverse_cons,List.all_append,h3];simpa using s2
 ·intro i k x z hi hk af;rw [List.reverse_cons]at hi hk⊢
  by_cases ae:k<prev.length
  ·rw [List.getElem?_append_left (by simp;omega)]at hi
   rw [List.getElem?_append_left (by simp;omega)]at hk
   have:=h4 i k x z hi hk af;rw [gD',List.getElem?_append_left (by simp;omega),<-gD'];exact this
  ·have ah:k=prev.length:=by
    cases Nat.lt_or_ge k (prev.length+1)with
    | inl g=>omega
    | inr g=>rw [List.getElem?_eq_none (by simp;omega)]at hk;cases hk
   subst ah;rw [List.getElem?_append_left (by simp;omega)]at hi
   rw [List.getElem?_append_right (by simp)]at hk
   simp at hk;subst hk
   have e:(pm.reverse++ [m]).getD prev.length 0=m:=by
    rw [gD',List.getElem?_append_right (by simp;omega)]
    simp [ac]
   rw [e];cases hb:m.testBit i with
   | true=>exact .inl rfl
   | false=>
     right;subst hj;have aa:Nat.pred (2^prev.length)=2^prev.length - 1:=rfl;refine tK prev _ ?_ s3 i x hi ?_
     ·have ai:0<2^prev.length:=Nat.two_pow_pos _;refine Nat.xor_lt_two_pow (n:=prev.length) (by rw [aa];omega) ?_
      exact Nat.lt_of_le_of_lt Nat.and_le_right (by rw [aa];omega)
     ·show Nat.testBit (Nat.pred (2^prev.length) ^^^ (m&&&Nat.pred (2^prev.length))) i=true;rw [Nat.testBit_xor,Nat.testBit_and,aa,Nat.testBit_two_pow_sub_one,hb];simp [af]
def aBO:List Nat->Nat->List Oper->Bool
 | _,_,[]=>true
 | pm,i,o::rest=>lN i o&&Nat.beq (maskR pm i o) (Nat.pred (2^i))&&aBO (maskR pm i o::pm) (Nat.succ i) rest
def AD(ρ:Operand->AVal)(op:Op)(h:aC A):Option (Nat×List AVal×Nat):=
 match op with
 | .load t a=>match eZ P t with
   | some false=>match ρ a with
     | .ptr l off=>match aL h l with
       | some (.cells (.ptr a b:: .ptr c d::r))=>some (l,.ptr a b:: .ptr c d::r,off)
       | _=>none
     | _=>none
   | _=>none
 | _=>none
def EK:List AVal->Nat->Nat->(AVal->Prop)->Prop
 | [],_,_,_=>False
 | v::r,off,j,k=>cond (Nat.beq off j) (k v) (EK r off (Nat.succ j) k)
def m8(S:List Oper->List (Option Tmp)->Nat->List (Nat×AVal)->aC A->List Nat->Prop)(ops:Array Oper)(base:List AVal)(n:Nat):List Oper->List (Option Tmp)->Nat->List (Nat×AVal)->aC A->List (Item A)->List Nat->(List AVal->aC A->Prop)->Prop
 | [],_,_,δ,h,_,_,K=>DJ (rM δ 0 base) fun tm=>K tm h
 | o::rest,seen,i,δ,h,prev,pm,K=>
   cK (dok n o.dst) <|
   let run (δ':List (Nat×AVal)):Prop:=
    match AD (P:=P) (gH δ' base) o.op h with
    | some (l,vs,off)=>EK vs off 0 fun v=>kX (maskR pm i o) fun m=>cK (oT ops prev i m ⟨o,true,v,[],[],[l],h.length⟩)
       (m8 S ops base n rest (o.dst::seen) (Nat.succ i) (j9 δ' o.dst v) h (⟨o,true,v,[],[],[l],h.length⟩::prev) (m::pm) K)
    | none=>
    match dop E (gH δ' base) o.op h with
    | some r0=>
      match dop E (gH δ' base) o.op (hres r0.foot 0 h)with
      | some r=>AR r.need (kX (maskR pm i o) fun m=>cK (oT ops prev i m ⟨o,true,r.v,r.upd,r.new,r0.foot,h.length⟩)
         (m8 S ops base n rest (o.dst::seen) (Nat.succ i) (j9 δ' o.dst r.v) (r.applyF h) (⟨o,true,r.v,r.upd,r.new,r0.foot,h.length⟩::prev) (m::pm) K))
      | none=>S (o::rest) seen i δ h pm
    | none=>S (o::rest) seen i δ h pm
   let skip (δ:List (Nat×AVal)):Prop:=kX (maskR pm i o) fun m=>cK (oT ops prev i m ⟨o,false,.raw undef,[],[],[],h.length⟩)
    (m8 S ops base n rest (o.dst::seen) (Nat.succ i) (j9 δ o.dst (.raw undef)) h (⟨o,false,.raw undef,[],[],[],h.length⟩::prev) (m::pm) K)
   match o.guard with
   | none=>run δ
   | some (j,want)=>
     cK (Nat.blt j i) <|
     match sH seen i j with
     | none=>False
     | some d=>
       match GZ δ base d with
       | .bool b=>cK (Nat.blt d n) <| cond b (if want then run ((d,.bool true)::δ)else skip ((d,.bool true)::δ)) (if want then skip ((d,.bool false)::δ)else run ((d,.bool false)::δ))
       | v=>if iX v then skip δ else False
variable {E}
def PQ(E:Env A P)(ops:Array Oper)(tm:List AVal)(h:aC A)(it:Item A):Prop:=
 it.n=h.length/\
 ((it.ran=true/\(∃r,dop E (dK tm) it.o.op (hres it.foot 0 h)=some r/\r.obl/\r.v=it.v/\r.upd=it.upd/\r.new=it.new)/\
    (∀j want,it.o.guard=some (j,want)-> ∃d,(ops[j]?).bind (·.dst)=some d/\tm[d]? =some (.bool want)))\/
  (it.ran=false/\it.v=.raw undef/\it.upd=[]/\it.new=[]/\
    ∃j want d,it.o.guard=some (j,want)/\(ops[j]?).bind (·.dst)=some d/\(tm[d]? =some (.bool (!want))\/iX (tm.getD d (.raw undef))=true)))
def Item.applyH(it:Item A)(h:aC A):aC A:=hupd h it.upd++it.new.map some
inductive gU (E:Env A P) (ops:Array Oper):List AVal->aC A->List (Item A)->List AVal->aC A->Prop
 | nil (tm:List AVal) (h:aC A):gU E ops tm h [] tm h
 | cons {tm tm':List AVal} {h h':aC A} {it:Item A} {its:List (Item A)} :PQ E ops tm h it->gU E ops (vV tm it.o.dst it.v) (it.applyH h) its tm' h'->gU E ops tm h (it::its) tm' h'
theorem yW(foot:List Nat): ∀(h:aC A) (i l:Nat),aL (hres foot i h) l=if foot.contains (i+l)then aL h l else none
 | [],i,l=>by simp [hres,aL]
 | e::h,i,0=>by
   simp only [hres,aL,List.getD_cons_zero,Nat.add_zero];cases foot.contains i<;>rfl
 | e::h,i,l+1=>by
   have:=yW foot h (i+1) l;simp only [aL]at this;simp only [hres,aL,List.getD_cons_succ];rw [this,show i+1+l=i+(l+1)from by omega]
theorem zE{off:Nat}{k:AVal->Prop} : ∀ {vs:List AVal} {j:Nat},EK vs off j k-> ∃v,(∃q,off=j+q/\vs[q]? =some v)/\k v
 | [],_,h=>h.elim
 | v::r,j,h=>by
   unfold EK at h;cases hb:Nat.beq off j with
   | true=>
     rw [hb]at h;exact⟨v,⟨0,Nat.eq_of_beq_eq_true hb,rfl⟩,h⟩
   | false=>
     rw [hb]at h;obtain⟨v',⟨q,h1,h2⟩,h3⟩:=zE (j:=Nat.succ j) h;exact⟨v',⟨q+1,by omega,by simpa using h2⟩,h3⟩
theorem G1{ρ:Operand->AVal}{op:Op}{h:aC A}{l off:Nat}{vs:List AVal}{v:AVal}(hd:AD (P:=P) ρ op h=some (l,vs,off))(hv: ∃q,off=0+q/\vs[q]? =some v):dop E ρ op (hres [l] 0 h)=some {v,upd:=[],new:=[],foot:=[l],need:=none} :=by
 obtain⟨q,rfl,hv⟩:=hv;rw [Nat.zero_add]at hd;unfold AD at hd;split at hd
 case h_2=>cases hd
 rename_i t a;split at hd
 case h_2=>cases hd
 rename_i ac;split at hd
 case h_2=>cases hd
 rename_i l' ae hρ;split at hd
 case h_2=>cases hd
 rename_i a' b' c' d' r hl;simp only [sI',pI']at hd;obtain⟨rfl,rfl,rfl⟩:=hd
 have e:aop P ρ (.load t a) (hres [l'] 0 h)=some {v,upd:=[],new:=[],foot:=[l'],need:=none} :=by
  have aa:aL (hres [l'] 0 h) l'=some (.cells (.ptr a' b':: .ptr c' d'::r)):=by
   rw [yW];simp [hl]
  simp only [aop,hρ,yI,aa,ac,hv]
 simp only [dop,e]
theorem AG{S:List Oper->List (Option Tmp)->Nat->List (Nat×AVal)->aC A->List Nat->Prop}{ops:Array Oper}{base:List AVal}{n:Nat}(hbn:base.length=n){K:List AVal->aC A->Prop} : ∀(rest:List Oper) (seen:List (Option Tmp)) (i:Nat) (δ:List (Nat×AVal)) (h:aC A) (prev:List (Item A)) (pm:List Nat),uM ops rest seen i->wC n δ->i=prev.length->nQ ops prev pm->
 m8 E S ops base n rest seen i δ h prev pm K->
 ∃its rest2 tm' h' pm',gU E ops (bU δ base) h its tm' h'/\its.map (·.o)++rest2=rest/\nQ ops (its.reverse++prev) pm'/\((rest2=[]/\K tm' h')\/(∃seen' δ',tm'=bU δ' base/\wC n δ'/\uM ops rest2 seen' (i+its.length)/\S rest2 seen' (i+its.length) δ' h' pm')):=by
 intro rest
 induction rest with
 | nil=>
   intro seen i δ h prev pm _ af _ hb he;unfold m8 at he;rw [rT,wD (by rw [hbn];exact af)]at he
   exact⟨[],[],_,h,pm,.nil _ h,rfl,hb,.inl ⟨rfl,he⟩⟩
 | cons o rest ih=>
   intro seen i δ h prev pm ak af hi hb he;obtain⟨am,he⟩:=bL.1 he
   have run: ∀δ':List (Nat×AVal),wC n δ'->bU δ' base=bU δ base->(∀j want,o.guard=some (j,want)-> ∃d,(ops[j]?).bind (·.dst)=some d/\(bU δ base)[d]? =some (.bool want))->
    (match AD (P:=P) (gH δ' base) o.op h with
      | some (l,vs,off)=>EK vs off 0 fun v=>kX (maskR pm i o) fun m=>cK (oT ops prev i m ⟨o,true,v,[],[],[l],h.length⟩)
         (m8 E S ops base n rest (o.dst::seen) (Nat.succ i) (j9 δ' o.dst v) h (⟨o,true,v,[],[],[l],h.length⟩::prev) (m::pm) K)
      | none=>
      match dop E (gH δ' base) o.op h with
      | some r0=>
        match dop E (gH δ' base) o.op (hres r0.foot 0 h)with
        | some r=>AR r.need (kX (maskR pm i o) fun m=>cK (oT ops prev i m ⟨o,true,r.v,r.upd,r.new,r0.foot,h.length⟩)
           (m8 E S ops base n rest (o.dst::seen) (Nat.succ i) (j9 δ' o.dst r.v) (r.applyF h) (⟨o,true,r.v,r.upd,r.new,r0.foot,h.length⟩::prev) (m::pm) K))
        | none=>S (o::rest) seen i δ h pm
      | none=>S (o::rest) seen i δ h pm)-> ∃its rest2 tm' h' pm',gU E ops (bU δ base) h its tm' h'/\its.map (·.o)++rest2=o::rest/\nQ ops (its.reverse++prev) pm'/\((rest2=[]/\K tm' h')\/(∃seen' δ',tm'=bU δ' base/\wC n δ'/\uM ops rest2 seen' (i+its.length)/\S rest2 seen' (i+its.length) δ' h' pm')):=by
    intro δ' ac al hg hh;have stop:S (o::rest) seen i δ h pm-> ∃its rest2 tm' h' pm',gU E ops (bU δ base) h its tm' h'/\its.map (·.o)++rest2=o::rest/\nQ ops (its.reverse++prev) pm'/\((rest2=[]/\K tm' h')\/(∃seen' δ',tm'=bU δ' base/\wC n δ'/\uM ops rest2 seen' (i+its.length)/\S rest2 seen' (i+its.length) δ' h' pm')):=fun hS=>⟨[],o::rest,_,h,pm,.nil _ h,rfl,hb,.inr ⟨seen,δ,rfl,af,ak,hS⟩⟩;rw [sR (by rw [hbn];exact ac),al]at hh
    split at hh
    ·rename_i l vs off ax;obtain⟨v,hv,aa⟩:=zE hh;rw [oD]at aa;obtain⟨aj,aa⟩:=bL.1 aa;obtain⟨its,rest2,ah,h2,ai,h3,h4,h5,h6⟩:=ih _ _ _ _ _ _ ak.next (mY ac am) (by rw [hi];rfl) (hb.cons hi rfl aj) aa
     refine⟨⟨o,true,v,[],[],[l],h.length⟩::its,rest2,ah,h2,ai,.cons ⟨rfl,.inl ⟨rfl,⟨_,G1 ax hv,trivial,rfl,rfl,rfl⟩,hg⟩⟩ ?_,by simp [h4],by simpa using h5,?_⟩
     ·rw [<-mX (n:=n),al]at h3
      simpa [Item.applyH,hupd]using h3
     ·rw [show Nat.succ i+its.length=i+(its.length+1)from by omega]at h6;exact h6
    split at hh
    ·rename_i r0 az;split at hh
     ·rename_i r hr;obtain⟨ho,aa⟩:=oK.1 hh;rw [oD,sV]at aa;obtain⟨aj,aa⟩:=bL.1 aa;obtain⟨its,rest2,ah,h2,ai,h3,h4,h5,h6⟩:=ih _ _ _ _ _ _ ak.next (mY ac am) (by rw [hi];rfl) (hb.cons hi rfl aj) aa
      refine⟨⟨o,true,r.v,r.upd,r.new,r0.foot,h.length⟩::its,rest2,ah,h2,ai,.cons ⟨rfl,.inl ⟨rfl,⟨r,hr,ho,rfl,rfl,rfl⟩,hg⟩⟩ ?_,by simp [h4],by simpa using h5,?_⟩
      ·rw [<-mX (n:=n),al]at h3;exact h3
      ·rw [show Nat.succ i+its.length=i+(its.length+1)from by omega]at h6;exact h6
     ·exact stop hh
    ·exact stop hh
   have skip: ∀δ':List (Nat×AVal),wC n δ'->bU δ' base=bU δ base->(∃j want d,o.guard=some (j,want)/\(ops[j]?).bind (·.dst)=some d/\((bU δ base)[d]? =some (.bool (!want))\/iX ((bU δ base).getD d (.raw undef))=true))->
    (kX (maskR pm i o) fun m=>cK (oT ops prev i m ⟨o,false,.raw undef,[],[],[],h.length⟩)
      (m8 E S ops base n rest (o.dst::seen) (Nat.succ i) (j9 δ' o.dst (.raw undef)) h (⟨o,false,.raw undef,[],[],[],h.length⟩::prev) (m::pm) K))->
    ∃its rest2 tm' h' pm',gU E ops (bU δ base) h its tm' h'/\its.map (·.o)++rest2=o::rest/\nQ ops (its.reverse++prev) pm'/\((rest2=[]/\K tm' h')\/(∃seen' δ',tm'=bU δ' base/\wC n δ'/\uM ops rest2 seen' (i+its.length)/\S rest2 seen' (i+its.length) δ' h' pm')):=by
    intro δ' ac al hg aa;rw [oD]at aa;obtain⟨aj,aa⟩:=bL.1 aa;obtain⟨its,rest2,ah,h2,ai,h3,h4,h5,h6⟩:=ih _ _ _ _ _ _ ak.next (mY ac am) (by rw [hi];rfl) (hb.cons hi rfl aj) aa
    refine⟨⟨o,false,.raw undef,[],[],[],h.length⟩::its,rest2,ah,h2,ai,.cons ⟨rfl,.inr ⟨rfl,rfl,rfl,rfl,hg⟩⟩ ?_,by simp [h4],by simpa using h5,?_⟩
    ·rw [<-mX (n:=n),al]at h3
     simpa [Item.applyH,hupd]using h3
    ·rw [show Nat.succ i+its.length=i+(its.length+1)from by omega]at h6;exact h6
   cases hg:o.guard with
   | none=>
     rw [hg]at he;exact run δ af rfl (fun j want e=>by rw [hg]at e;cases e) he
   | some g=>
     obtain⟨j,want⟩:=g;rw [hg]at he;simp only at he;obtain⟨av,he⟩:=bL.1 he;have aq:=ak.dst av;cases hj:(ops[j]?).bind (·.dst)with
     | none=>rw [<-aq,hj]at he;exact he.elim
     | some d=>
       rw [<-aq,hj]at he;simp only at he;have ar:=rL δ base d (by rw [hbn];exact af)
       split at he
       ·rename_i b au;obtain⟨ay,he⟩:=bL.1 he;rw [ar]at au;have ao:=tB au;have hs:bU ((d,.bool b)::δ) base=bU δ base:=mM _ d _ ao;have ag: ∀v,wC n ((d,v)::δ):=fun v=>⟨Nat.le_of_ble_eq_true ay,af⟩
        have r1:want=b-> ∀j' ae,o.guard=some (j',ae)-> ∃d,(ops[j']?).bind (·.dst)=some d/\(bU δ base)[d]? =some (.bool ae):=by
         intro e j' ae e2;rw [hg]at e2;cases e2;exact⟨d,hj,by rw [e];exact ao⟩
        have r2:want= !b -> ∃j want d,o.guard=some (j,want)/\(ops[j]?).bind (·.dst)=some d/\((bU δ base)[d]? =some (.bool (!want))\/iX ((bU δ base).getD d (.raw undef))=true):=by
         intro e;exact⟨j,want,d,hg,hj,.inl (by rw [e];simpa using ao)⟩
        cases b with
        | true=>
          simp only [cond_true]at he;cases want with
          | true=>rw [if_pos rfl]at he;exact run _ (ag _) hs (r1 rfl) he
          | false=>rw [if_neg (by simp)]at he;exact skip _ (ag _) hs (r2 rfl) he
        | false=>
          simp only [cond_false]at he;cases want with
          | true=>rw [if_pos rfl]at he;exact skip _ (ag _) hs (r2 rfl) he
          | false=>rw [if_neg (by simp)]at he;exact run _ (ag _) hs (r1 rfl) he
       ·rename_i a6;split at he
        ·rename_i ap;rw [ar]at ap;exact skip δ af rfl ⟨j,want,d,hg,hj,.inr ap⟩ he
        ·exact he.elim
end
end Go.Sh
namespace Go.Sh
open Go
variable [Con] {A:Type}
def BG(u:List (Nat×Option (aG A)))(h:bE A):bE A:=u.foldl (fun h x=>h.put x.1 x.2) h
def Item.putF(it:Item A)(h:bE A):bE A:=fun l=>if it.n<=l/\l<it.n+it.new.length then it.new[l - it.n]? else BG it.upd h l
theorem xP: ∀(u:List (Nat×Option (aG A))) (h:bE A) (l:Nat),u.any (fun x=>x.1 == l)=false->BG u h l=h l
 | [],h,l,_=>rfl
 | x::u,h,l,hl=>by
   simp only [List.any_cons,Bool.or_eq_false_iff,beq_eq_false_iff_ne,ne_eq]at hl;show BG u (h.put x.1 x.2) l=h l;rw [xP u _ l hl.2];simp [bE.put,Ne.symm hl.1]
theorem zL: ∀(u:List (Nat×Option (aG A))) (h g:bE A) (l:Nat),(u.any (fun x=>x.1 == l)=true\/h l=g l)->BG u h l=BG u g l
 | [],h,g,l,hl=>by
   rcases hl with hl | hl
   ·cases hl
   ·exact hl
 | x::u,h,g,l,hl=>by
   show BG u (h.put x.1 x.2) l=BG u (g.put x.1 x.2) l;apply zL
   by_cases hx:x.1=l
   ·right;simp [bE.put,hx]
   ·rcases hl with hl | hl
    ·left;have hb:(x.1 == l)=false:=by simpa using hx
     simpa only [List.any_cons,hb,Bool.false_or]using hl
    ·right;simp only [bE.put];rw [if_neg (Ne.symm hx),if_neg (Ne.symm hx)];exact hl
theorem lE(it:Item A)(h:bE A)(l:Nat)(hp:it.puts l=false):it.putF h l=h l:=by
 simp only [Item.puts,Bool.or_eq_false_iff,Bool.and_eq_false_iff,dF']at hp;unfold Item.putF;rw [if_neg omz];exact xP _ _ _ hp.1
theorem tJ(it:Item A)(h g:bE A)(l:Nat)(hp:it.puts l=true\/h l=g l):it.putF h l=it.putF g l:=by
 unfold Item.putF
 by_cases hc:it.n<=l/\l<it.n+it.new.length
 ·rw [if_pos hc,if_pos hc]
 ·rw [if_neg hc,if_neg hc];apply zL;rcases hp with hp | hp
  ·simp only [Item.puts,Bool.or_eq_true,Bool.and_eq_true,dT']at hp;rcases hp with hp | hp
   ·exact .inl hp
   ·exact(hc hp).elim
  ·exact .inr hp
theorem FL: ∀(u:List (Nat×Option (aG A))) (h:aC A),(∀x∈u,x.1<h.length)->toF (hupd h u)=BG u (toF h)
 | [],h,_=>rfl
 | x::u,h,hx=>by
   show toF (hupd (h.set x.1 x.2) u)=BG u ((toF h).put x.1 x.2);rw [FL u _ (by intro y hy;simp;exact hx y (by simp [hy])),eR x.2 (hx x (by simp))]
theorem nW{it:Item A}{h:aC A}(hn:it.n=h.length)(hw:jR it=true):toF (it.applyH h)=it.putF (toF h):=by
 have hu: ∀x∈it.upd,x.1<h.length:=by
  intro x hx;have:=List.all_eq_true.1 hw x hx;simp only [Bool.and_eq_true,dT']at this;omega
 funext l;show aL (hupd h it.upd++it.new.map some) l=it.putF (toF h) l;unfold Item.putF
 by_cases hc:it.n<=l/\l<it.n+it.new.length
 ·rw [if_pos hc];have e1:(hupd h it.upd).length =it.n:=by rw [fL,hn]
  simp only [aL,gD'];rw [List.getElem?_append_right omz,e1,List.getElem?_map];have aa:l - it.n<it.new.length:=by omega
  rw [gE' aa];rfl
 ·rw [if_neg hc,<-FL _ _ hu];show _=aL (hupd h it.upd) l
  by_cases aa:l<(hupd h it.upd).length
  ·exact cN aa
  ·rw [fL]at aa;rw [cC (by rw [List.length_append,fL,List.length_map];omega),cC (by rw [fL];omega)]
def tmF(D:Nat->Bool):Nat->List (Item A)->List AVal->List AVal
 | _,[],tm=>tm
 | i,it::its,tm=>tmF D (i+1) its (if D i then vV tm it.o.dst it.v else tm)
def hF(D:Nat->Bool):Nat->List (Item A)->bE A->bE A
 | _,[],h=>h
 | i,it::its,h=>hF D (i+1) its (if D i then it.putF h else h)
theorem nY(tm:List AVal)(d:Option Tmp)(v:AVal):(vV tm d v).length =tm.length:=by
 cases d<;>simp [vV]
theorem nX(tm:List AVal)(d:Option Tmp)(v:AVal)(t:Nat):(vV tm d v)[t]? =if d=some t/\t<tm.length then some v else tm[t]? :=by
 cases d with
 | none=>simp [vV]
 | some e=>
   show(tm.set e v)[t]? =_;rw [List.getElem?_set]
   by_cases he:e=t
   ·subst he
    by_cases aa:e<tm.length
    ·simp [aa]
    ·simp [aa]
   ·simp [he]
theorem qV(D:Nat->Bool): ∀(its:List (Item A)) (i:Nat) (tm:List AVal),(tmF D i its tm).length =tm.length
 | [],_,_=>rfl
 | it::its,i,tm=>by
   unfold tmF;rw [qV D its];split
   ·exact nY _ _ _
   ·rfl
theorem pM{D1 D2:Nat->Bool}{t:Nat} : ∀(its:List (Item A)) (i:Nat) (tm1 tm2:List AVal),tm1.length=tm2.length->tm1[t]? =tm2[t]? ->
 (∀k it,its[k]? =some it->it.o.dst=some t->D1 (i+k)=D2 (i+k))->(tmF D1 i its tm1)[t]? =(tmF D2 i its tm2)[t]?
 | [],_,_,_,_,h,_=>h
 | it::its,i,tm1,tm2,hl,h,hD=>by
   unfold tmF;apply pM its
   ·split<;>split<;>simp [nY,hl]
   ·by_cases hd:it.o.dst=some t
    ·have e:=hD 0 it rfl hd;rw [Nat.add_zero]at e;rw [e];split
     ·rw [nX,nX,hl,h]
     ·exact h
    ·have e1: ∀tm:List AVal,(vV tm it.o.dst it.v)[t]? =tm[t]? :=fun tm=>by rw [nX,if_neg (by simp [hd])]
     split<;>split<;>simp only [e1,h]
   ·intro k it' hk hd;have:=hD (k+1) it' (by simpa using hk) hd
    rw [show i+1+k=i+(k+1)from by omega];exact this
theorem oE{D1 D2:Nat->Bool}{l:Nat} : ∀(its:List (Item A)) (i:Nat) (h1 h2:bE A),h1 l=h2 l->
 (∀k it,its[k]? =some it->it.puts l=true->D1 (i+k)=D2 (i+k))->hF D1 i its h1 l=hF D2 i its h2 l
 | [],_,_,_,h,_=>h
 | it::its,i,h1,h2,h,hD=>by
   unfold hF;apply oE its
   ·cases hp:it.puts l with
    | true=>
      have e:=hD 0 it rfl hp;rw [Nat.add_zero]at e;rw [e];split
      ·exact tJ it h1 h2 l (.inl hp)
      ·exact h
    | false=>split<;>split<;>simp only [lE it _ l hp,h]
   ·intro k it' hk hd;have:=hD (k+1) it' (by simpa using hk) hd
    rw [show i+1+k=i+(k+1)from by omega];exact this
theorem sL{D:Nat->Bool} : ∀(its:List (Item A)) (i:Nat) (tm:List AVal),(∀k,i<=k->D k=false)->tmF D i its tm=tm
 | [],_,_,_=>rfl
 | it::its,i,tm,h=>by
   unfold tmF;rw [h i (Nat.le_refl _)];exact sL its (i+1) tm (fun k hk=>h k omz)
theorem rV{D:Nat->Bool} : ∀(its:List (Item A)) (i:Nat) (h:bE A),(∀k,i<=k->D k=false)->hF D i its h=h
 | [],_,_,_=>rfl
 | it::its,i,g,h=>by
   unfold hF;rw [h i (Nat.le_refl _)];exact rV its (i+1) g (fun k hk=>h k omz)
section
variable {P:Program} {E:Env A P}
theorem eV(it:Item A)(h:aC A):(it.applyH h).length =h.length+it.new.length:=by
 simp [Item.applyH,fL]
theorem gU.le{ops:Array Oper}{tm tm':List AVal}{h h':aC A}{its:List (Item A)}(ht:gU E ops tm h its tm' h'):h.length<=h'.length:=by
 induction ht with
 | nil=>exact Nat.le_refl _
 | cons _ _ ih2=>rw [eV]at ih2;omega
theorem gU.low{ops:Array Oper}{tm tm':List AVal}{h h':aC A}{its:List (Item A)}(ht:gU E ops tm h its tm' h'): ∀(j:Nat) (y:Item A),its[j]? =some y->h.length<=y.n:=by
 induction ht with
 | nil=>intro j y hy;simp at hy
 | cons ho ht ih2=>
   intro j y hy;cases j with
   | zero=>simp at hy;subst hy;rw [ho.1];exact Nat.le_refl _
   | succ j=>simp at hy;have:=ih2 j y hy;rw [eV]at this;omega
theorem gU.at{ops:Array Oper}{tm tm':List AVal}{h h':aC A}{its:List (Item A)}(ht:gU E ops tm h its tm' h')(hw:its.all jR=true): ∀(base k:Nat) (it:Item A),its[k]? =some it->
 ∃hk,PQ E ops (tmF (fun i=>decide (i<base+k)) base its tm) hk it/\toF hk=hF (fun i=>decide (i<base+k)) base its (toF h)/\h.length<=hk.length/\hk.length+it.new.length<=h'.length:=by
 induction ht with
 | nil tm h=>intro base k it hk;simp at hk
 | @cons tm tm' h h' it0 its ho ht ih=>
   simp only [List.all_cons,Bool.and_eq_true]at hw;have ih:=ih hw.2;intro base k it hk;cases k with
   | zero=>
     simp at hk;subst hk;refine⟨h,?_,?_,Nat.le_refl _,?_⟩
     ·rw [sL _ _ _ (by intro k hk;simp;omega)];exact ho
     ·rw [rV _ _ _ (by intro k hk;simp;omega)]
     ·have:=ht.le;rw [eV]at this;exact this
   | succ k=>
     simp at hk;obtain⟨aa,h1,h2,h3,h4⟩:=ih (base+1) k it hk;have e: ∀i,decide (i<base+1+k)=decide (i<base+(k+1)):=fun i=>by congr 1;rw [Nat.add_assoc,Nat.add_comm 1 k]
     have e':(fun i=>decide (i<base+1+k))=(fun i=>decide (i<base+(k+1))):=funext e;rw [e']at h1 h2;refine⟨aa,?_,?_,by rw [eV]at h3;omega,h4⟩
     ·unfold tmF;rw [if_pos (by simp)]
      exact h1
     ·unfold hF;rw [if_pos (by simp),<-nW ho.1 hw.1]
      exact h2
theorem gU.end{ops:Array Oper}{tm tm':List AVal}{h h':aC A}{its:List (Item A)}(ht:gU E ops tm h its tm' h')(hw:its.all jR=true): ∀(base:Nat) (D:Nat->Bool),(∀k,k<its.length->D (base+k)=true)->
 tmF D base its tm=tm'/\hF D base its (toF h)=toF h':=by
 induction ht with
 | nil tm h=>intro base D _;exact⟨rfl,rfl⟩
 | @cons tm tm' h h' it0 its ho ht ih=>
   simp only [List.all_cons,Bool.and_eq_true]at hw;intro base D hD;have h0:=hD 0 (by simp)
   rw [Nat.add_zero]at h0
   have:=ih hw.2 (base+1) D (by
    intro k hk;have:=hD (k+1) (by simp;omega)
    rw [Nat.add_assoc,Nat.add_comm 1 k];exact this)
   unfold tmF hF;rw [h0,if_pos rfl,if_pos rfl,<-nW ho.1 hw.1];exact this
theorem gU.news{ops:Array Oper}{tm tm':List AVal}{h h':aC A}{its:List (Item A)}(ht:gU E ops tm h its tm' h'): ∀(i j:Nat) (x y:Item A),its[i]? =some x->its[j]? =some y->i<j->h.length<=x.n/\x.n+x.new.length<=y.n:=by
 induction ht with
 | nil=>intro i j x y hx;simp at hx
 | cons ho ht ih=>
   intro i j x y hx hy aa;cases j with
   | zero=>omega
   | succ j=>
     simp at hy;cases i with
     | zero=>
       simp at hx;subst hx;have:=ht.low j y hy;rw [eV]at this;rw [ho.1];exact⟨Nat.le_refl _,this⟩
     | succ i=>
       simp at hx;obtain⟨h1,h2⟩:=ih i j x y hx hy omz;rw [eV]at h1;exact⟨by omega,h2⟩
end
end Go.Sh
namespace Go.Sh
open Go
variable [Con] {A:Type}
theorem nM{ρ ρ2:Operand->AVal}(l:List (Nat×Operand))(h: ∀x∈l.map (·.2),ρ x=ρ2 x):(l.map fun x=>(x.1,ρ x.2))=l.map fun x=>(x.1,ρ2 x.2):=by
 apply List.map_congr_left;intro x hx;rw [h x.2 (List.mem_map.2 ⟨x,hx,rfl⟩)]
theorem gA{ρ ρ2:Operand->AVal}(l:List Operand)(h: ∀x∈l,ρ x=ρ2 x):l.map ρ=l.map ρ2:=List.map_congr_left h
theorem pB{P:Program}{ρ ρ2:Operand->AVal}(op:Op)(h:aC A)(hρ: ∀x∈op.operands,ρ x=ρ2 x):aop P ρ op h=aop P ρ2 op h:=by
 cases op<;>simp only [Op.operands]at hρ<;>simp only [aop]
 case move x=>rw [hρ x (by simp)]
 case assign x=>rw [hρ x (by simp)]
 case pick c a b=>rw [hρ c (by simp),hρ a (by simp),hρ b (by simp)]
 case box e x=>rw [hρ x (by simp)]
 case build t ps=>rw [nM ps.toList (fun x hx=>hρ x (by simpa using hx))]
 case buildSlice t n ps=>rw [nM ps.toList (fun x hx=>hρ x (by simpa using hx))]
 case load t a=>rw [hρ a (by simp)]
 case store t a x=>rw [hρ a (by simp),hρ x (by simp)]
 case nilCheck x=>rw [hρ x (by simp)]
 case binOp o t x y yt=>rw [hρ x (by simp),hρ y (by simp)]
 case unOp o t x=>rw [hρ x (by simp)]
 case convert s d x=>rw [hρ x (by simp)]
 case makeInterface t x=>rw [hρ x (by simp)]
 case makeFunc fn f c=>rw [gA f.toList (fun x hx=>hρ x (by simp at hx⊢;exact .inl hx)),gA c.toList (fun x hx=>hρ x (by simp at hx⊢;exact .inr hx))]
 case makeSlice t n m=>rw [hρ n (by simp),hρ m (by simp)]
 case makeMap t r=>cases r<;>rfl
 case lookup t x i ck=>rw [hρ x (by simp),hρ i (by simp)]
 case mapUpdate t m k v=>rw [hρ m (by simp),hρ k (by simp),hρ v (by simp)]
 case slice t x lo hi mx=>
  have e1:lo.map ρ=lo.map ρ2:=by cases lo with | none=>rfl | some y=>simp [hρ y (by simp)]
  have e2:hi.map ρ=hi.map ρ2:=by cases hi with | none=>rfl | some y=>simp [hρ y (by simp)]
  have e3:mx.map ρ=mx.map ρ2:=by cases mx with | none=>rfl | some y=>simp [hρ y (by simp)]
  rw [hρ x (by simp),e1,e2,e3]
 case fieldAddr s x f=>rw [hρ x (by simp)]
 case field s x f=>rw [hρ x (by simp)]
 case indexAddr t x i=>rw [hρ x (by simp),hρ i (by simp)]
 case index t x i=>rw [hρ x (by simp),hρ i (by simp)]
 case extract x i=>rw [hρ x (by simp)]
 case call c=>
  have e1:c.args.toList.map ρ=c.args.toList.map ρ2:=gA _ (fun x hx=>hρ x (by simp [Call.operands];right;simpa using hx))
  rw [e1]
section
variable {P:Program} {E:Env A P}
theorem zY{ρ ρ2:Operand->AVal}(c:Call)(hρ: ∀x∈c.operands,ρ x=ρ2 x):callee E ρ c=callee E ρ2 c:=by
 have e1:c.args.toList.map ρ=c.args.toList.map ρ2:=gA _ (fun x hx=>hρ x (by simp [Call.operands];right;simpa using hx))
 unfold callee;cases hc:c.callee with
 | value f=>simp only;rw [hρ f (by simp [Call.operands,hc]),e1]
 | invoke r m=>simp only;rw [hρ r (by simp [Call.operands,hc]),e1]
 | builtin b=>rfl
theorem LQ{ρ ρ2:Operand->AVal}(op:Op)(h:aC A)(hρ: ∀x∈op.operands,ρ x=ρ2 x):dop E ρ op h=dop E ρ2 op h:=by
 cases op
 case call c=>
  simp only [dop];rw [zY c hρ,pB (.call c) h hρ,E.droCongr ρ ρ2 (.call c) h hρ]
 case load t a=>
  simp only [dop];rw [pB (.load t a) h hρ,hρ a (by simp [Op.operands]),E.droCongr ρ ρ2 (.load t a) h hρ]
 case store t a x=>
  simp only [dop];rw [pB (.store t a x) h hρ,E.droCongr ρ ρ2 (.store t a x) h hρ]
 all_goals (simp only [dop];exact pB _ h hρ)
theorem LR{a:Act}{o:Oper}{tm:List AVal}{h:aC A}{r:ORes A}(hr:dop E (dK tm) o.op h=some r)(ho:r.obl){V:Val}{hR:PHeap}{w:World}
 (hi:Inv E.I V (toF h) hR w) (hf:gT V h.length r.new.length) (ht:aH V tm a.tmps.toList) {next:Act->World->Prop} {Q:Exit->Act->World->Prop}
 (hn: ∀v' V' w',Rep V' r.v v'->V.le V'->(∀l,V l=none->V' l≠none->h.length<=l/\l<h.length+r.new.length)->Inv E.I V' (toF (r.apply h)) hR w'->bP w w'->next (a.put o.dst v') w'):
 o.wp P a w next Q:=by
 have hρ: ∀x,Rep V (dK tm x) (a.eval x):=gM ht
 have ac:aop P (dK tm) o.op h=some r->o.wp P a w next Q:=by
  intro hr;obtain⟨nx,w',V',v',h1,h2,h3,h4,h5,h6,h7⟩:=yK hr ho hi hf hρ;have:=hn v' V' w' h5 h3 h4 h6 h7;unfold Oper.wp;rw [h1];rcases h2 with rfl | ⟨rfl,rfl⟩
  ·exact this
  ·exact this
 have drawn:E.dro (dK tm) o.op h=some r->o.wp P a w next Q:=by
  intro hr;obtain⟨nx,w',V',v',h1,h2,h3,h4,h5,h6,h7⟩:=E.droOk (dK tm) o h r hr ho V hR w a.eval hi hf hρ;have:=hn v' V' w' h5 h3 h4 h6 h7;unfold Oper.wp;rw [h1];rcases h2 with rfl | ⟨rfl,rfl⟩
  ·exact this
  ·exact this
 have fin: ∀(g:FuncId) (args:List AVal) (ae:Array Value) (D:nR A),E.det g=some D->D args h=some r->aH V args ae.toList->(execOp a.eval o).run P w=.ok (.enter g ae) w->o.wp P a w next Q:=by
  intro g args ae D hD ap ak af;unfold Oper.wp;rw [af];refine(E.detOk g D hD args h r ap ho V hR w ae hi hf ak).mono ?_;rintro e w' ⟨v',V',rfl,h2,h3,h4,h5,h6⟩;exact hn v' V' w' h2 h3 h4 h5 h6
 cases aa:o.op with
 | call c=>
   rw [aa]at hr;simp only [dop]at hr;have ah:aH V (c.args.toList.map (dK tm)) (c.args.toList.map a.eval):=jN hρ c.args.toList;cases hc:callee E (dK tm) c with
   | none=>
     rw [hc]at hr;simp only at hr;split at hr
     ·rename_i r' al;simp only [sI']at hr;subst hr;exact ac (by rw [aa];exact al)
     ·exact drawn (by rw [aa];exact hr)
   | some x=>
     obtain⟨g,args⟩:=x;rw [hc]at hr;simp only at hr;split at hr
     case isFalse=>cases hr
     rename_i hp;split at hr
     case h_2=>cases hr
     rename_i D hD;unfold callee at hc;split at hc
     ·rename_i f ag;split at hc
      ·rename_i g' first aq aj
       simp only [sI',pI']at hc;obtain⟨rfl,rfl⟩:=hc;have rf:=hρ f;rw [aj]at rf;obtain⟨fs,cs,e1,r1,r2⟩:=rf;refine fin g' _ (fs++c.args.map a.eval++cs) D hD hr ?_ ?_
       ·simp only [Array.toList_append,Array.toList_map];exact aH.append (aH.append r1 ah) r2
       ·simp only [execOp,aa,resolve,ag,e1,Deferred.ofValue,Sem.run_bind,Sem.run_pure,Result.andThen_ok,invoke,gV hp]
      ·cases hc
     ·rename_i recv name ag;split at hc
      ·rename_i t l off aj;cases hm:E.meth t name with
       | none=>rw [hm]at hc;cases hc
       | some g'=>
         rw [hm]at hc;simp only [Option.map_some,sI',pI']at hc;obtain⟨rfl,rfl⟩:=hc;have rf:=hρ recv;rw [aj]at rf;obtain⟨x,e1,b,k,hl,e2⟩:=rf;subst e2;refine fin g' _ (#[.pointer (some ⟨b,off,none⟩)]++c.args.map a.eval) D hD hr ?_ ?_
         ·simp only [Array.toList_append,Array.toList_map];exact⟨_,_,rfl,⟨b,k,hl,rfl⟩,ah⟩
         ·have am:=E.methOk t name g' hm (.pointer (some ⟨b,off,none⟩)) w ⟨_,rfl⟩;simp only [execOp,aa,resolve,ag,Sem.run_bind,Sem.run_pure,Result.andThen_ok,invoke,e1,aCL,aCM,callMethod,run_program,am,gV hp]
      ·cases hc
     ·cases hc
 | load t x=>
   rw [aa]at hr;simp only [dop]at hr;split at hr
   ·rename_i r1 ai;exact ac (by rw [aa,ai];exact hr)
   ·split at hr
    ·rename_i l off ao;split at hr
     ·rename_i v q hv;simp only [sI']at hr;subst hr;have hq:onp q:=ho;have hx:=hρ x;rw [ao]at hx;obtain⟨b,k,hV,hx⟩:=hx;obtain⟨v',g8,g9⟩:=E.fldOk t l off h v q hv hq V hR w b k hi hV;have af:(execOp a.eval o).run P w=.ok (.value v') w:=by simp [execOp,aa,hx,g8]
      unfold Oper.wp;rw [af];refine hn v' V w g9 V.le_refl (fun l h1 h2=>(h2 h1).elim) ?_ (aLS w)
      simpa [ORes.apply,hupd]using hi
     ·exact drawn (by rw [aa];exact hr)
    ·cases hr
 | store t x y=>
   rw [aa]at hr;simp only [dop]at hr;split at hr
   ·rename_i r1 ai;exact ac (by rw [aa,ai];exact hr)
   ·exact drawn (by rw [aa];exact hr)
 | _=>exact ac (by rw [aa]at hr⊢;exact hr)
def mR(ops:List Oper)(D:Nat->Bool):Prop:= ∀(j:Nat) (o:Oper),ops[j]? =some o->D j=true-> ∀e∈o.after.toList,Region.binds .any e=true->D e.on=true
theorem NZ{acc:List Nat}{o:Oper}{i:Nat}(h:(mask acc o).testBit i=true): ∃e∈o.after.toList,Region.binds .any e=true/\(i=e.on\/(acc.getD e.on 0).testBit i=true):=by
 unfold mask at h
 have key: ∀(l:List Edge) (s:Nat),(l.foldl (fun s e=>if Region.binds .any e then s|||2^e.on|||acc.getD e.on 0 else s) s).testBit i=true->
  s.testBit i=true\/ ∃e∈l,Region.binds .any e=true/\(i=e.on\/(acc.getD e.on 0).testBit i=true):=by
  intro l
  induction l with
  | nil=>intro s hs;exact .inl hs
  | cons e l ih=>
    intro s hs;simp only [List.foldl_cons]at hs;rcases ih _ hs with h1 | ⟨e',h1,h2,h3⟩
    ·split at h1
     ·rename_i hb;rw [Nat.testBit_or,Nat.testBit_or,Bool.or_eq_true,Bool.or_eq_true]at h1;rcases h1 with(h1 | h1) | h1
      ·exact .inl h1
      ·rw [Nat.testBit_two_pow]at h1;simp only [dT']at h1;exact .inr ⟨e,by simp,hb,.inl h1.symm⟩
      ·exact .inr ⟨e,by simp,hb,.inr h1⟩
     ·exact .inl h1
    ·exact .inr ⟨e',by simp [h1],h2,h3⟩
 rcases key _ _ h with h1 | h1
 ·simp at h1
 ·exact h1
theorem sB{ops:List Oper}{D:Nat->Bool}(hc:mR ops D): ∀(rest:List Oper) (acc:List Nat),(∀k,rest[k]? =ops[acc.length+k]?)->
 (∀j m,acc[j]? =some m->D j=true-> ∀i,m.testBit i=true->D i=true)->
 ∀j m,(masks acc rest)[j]? =some m->D j=true-> ∀i,m.testBit i=true->D i=true:=by
 intro rest
 induction rest with
 | nil=>intro acc _ h;exact h
 | cons o rest ih=>
   intro acc ho h;unfold masks;apply ih
   ·intro k;have:=ho (k+1);simp only [List.getElem?_cons_succ]at this;rw [this];congr 1;simp;omega
   ·intro j m hj hD i hi;rw [List.getElem?_append]at hj;split at hj
    ·exact h j m hj hD i hi
    ·rename_i ag
     have af:j - acc.length=0:=by
      cases hq:j - acc.length with
      | zero=>rfl
      | succ n=>rw [hq]at hj;simp at hj
     rw [af]at hj;simp at hj;subst hj;obtain⟨e,he,hb,aa⟩:=NZ hi
     have ae:ops[j]? =some o:=by
      have:=ho 0;simp at this;rw [show j=acc.length from by omega];exact this.symm
     have ac:=hc j o ae hD e he hb;rcases aa with rfl | aa
     ·exact ac
     ·cases hq:acc[e.on]? with
      | none=>rw [gD',hq]at aa;simp at aa
      | some m=>rw [gD',hq]at aa;exact h e.on m hq ac i aa
theorem qS{ops:List Oper}{D:Nat->Bool}(hc:mR ops D){k:Nat}{o:Oper}(hk:ops[k]? =some o)(hr: ∀e∈o.after.toList,Region.binds .any e=true->D e.on=true){i:Nat}
 (hi:((masks [] ops).getD k 0).testBit i=true):i=k\/D i=true:=by
 have aa:mR ops (fun j=>decide (j=k)||D j):=by
  intro j o' hj hD e he hb;simp only [Bool.or_eq_true,dT']at hD⊢;right;rcases hD with rfl | hD
  ·rw [hk]at hj;cases hj;exact hr e he hb
  ·exact hc j o' hj hD e he hb
 cases hm:(masks [] ops)[k]? with
 | none=>rw [gD',hm]at hi;simp at hi
 | some m=>
   rw [gD',hm]at hi;have:=sB aa ops [] (by intro k;simp) (by intro j m h;simp at h) k m hm (by simp) i hi
   simpa using this
theorem LP{ops:List Oper}{D:Nat->Bool}(hc:mR ops D){k:Nat}(hk:D k=true){i:Nat}(hi:((masks [] ops).getD k 0).testBit i=true):D i=true:=by
 cases hm:(masks [] ops)[k]? with
 | none=>rw [gD',hm]at hi;simp at hi
 | some m=>
   rw [gD',hm]at hi;exact sB hc ops [] (by intro k;simp) (by intro j m h;simp at h) k m hm hk i hi
end
end Go.Sh
