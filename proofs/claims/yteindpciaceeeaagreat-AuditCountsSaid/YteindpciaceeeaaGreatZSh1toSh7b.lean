import Derived.Orders
import Derived.KernelRfl
import Derived.Laws.Cells
import Derived.Laws.World
import Derived.Laws.StructEq
import Derived.Laws.Build
import Derived.Laws.Rows
import Derived.Laws.Append
set_option linter.all false
set_option maxHeartbeats 8000000
namespace Go.Sh
theorem sI'{α:Type _}{a b:α}:(some a=some b)=(a=b):=Option.some.injEq a b
theorem pI'{α:Type _}{β:Type _}{a c:α}{b d:β}:((a,b)=(c,d))=(a=c/\b=d):=Prod.mk.injEq a b c d
theorem lI'{α:Type _}{a b:α}{l m:List α}:(a::l=b::m)=(a=b/\l=m):=List.cons.injEq a l b m
theorem gD'{α:Type _}{l:List α}{i:Nat}{a:α}:l.getD i a=(l[i]?).getD a:=List.getD_eq_getElem?_getD
theorem gE'{α:Type _}{l:List α}{i:Nat}(h:i<l.length):l[i]?=some l[i]:=List.getElem?_eq_getElem h
theorem dF'{p:Prop}{x:Decidable p}:decide p=false↔¬p:=decide_eq_false_iff_not
theorem dT'{p:Prop}[Decidable p]:(decide p=true)=p:=decide_eq_true_eq
open Go
inductive AVal where
 | bool (b:Bool)
 | int (k:IntKind) (n:Int)
 | str (s:ByteArray)
 | ptr (l:Nat) (off:Nat)
 | slice (l off len sz:Nat)
 | map (l:Nat)
 | func (fn:Fn) (first caps:List AVal)
 | iface (t:TypeId) (v:AVal)
 | agg (cs:List AVal)
 | tup (vs:List AVal)
 | raw (v:Value)
 | any
 | O
 | iview (c:Option IntKind) (xs:List Int)
 | view (n w:Nat) (row:Nat->List AVal)
 | cptr (cs:List AVal)
 | tslice (l r n w:Nat)
 | tptr (l r w j:Nat)
 | empty
abbrev Code1:=Option IntKind
def Code1.val:Code1->Int->Value
 | some k,n=>.int k n
 | none,n=>.bool (n !=0)
def Code1.aval:Code1->Int->AVal
 | some k,n=>.int k n
 | none,n=>.bool (n !=0)
abbrev PHeap:=Nat->Option Obj
class Con where
 con:PHeap
abbrev Val:=Nat->Option (Nat×Nat)
def Val.le(V V':Val):Prop:= ∀l x,V l=some x->V' l=some x
variable [Con]
mutual
def Rep(V:Val):AVal->Value->Prop
 | .bool b,v=>v=.bool b
 | .int k n,v=>v=.int k n
 | .str s,v=>v=.string s
 | .ptr l off,v=> ∃b k,V l=some (b,k)/\v=.pointer (some ⟨b,off,none⟩)
 | .slice l off len sz,v=> ∃base cap,v=.slice base len cap/\len<=cap/\
    ((∃b k,V l=some (b,k)/\base=some ⟨b,off,none⟩/\off+cap*sz<=k)\/(len=0/\cap=0))
 | .map l,v=> ∃b k,V l=some (b,k)/\v=.map (some b)
 | .func fn first caps,v=> ∃fs cs,v=.func fn fs cs/\aI V first fs.toList/\aI V caps cs.toList
 | .iface t a,v=> ∃x,v=.iface t x/\Rep V a x
 | .agg as,v=> ∃cs,v=.agg cs/\aI V as cs.toList
 | .tup as,v=> ∃cs,v=.tuple cs/\aI V as cs.toList
 | .raw v',v=>v=v'
 | .any,v=>v.oneCell'=true
 | .O,_=>True
 | .iview c xs,v=> ∃base cap,v=.slice base xs.length cap/\xs.length<=cap/\
    ((∃b off cs T fz,base=some ⟨b,off,none⟩/\Con.con b=some (.cells cs T fz)/\ ∃tail,cs.toList.drop off=xs.map (Code1.val c)++tail)\/xs=[])
 | .view n w row,v=> ∃base cap,v=.slice base n cap/\n<=cap/\
    ((∃b off cs T fz,base=some ⟨b,off,none⟩/\Con.con b=some (.cells cs T fz)/\ ∀i,i<n->(row i).length =w/\aI (fun _=>none) (row i) ((cs.toList.drop (off+i*w)).take w))\/n=0)
 | .tslice l r n w,v=> ∃base cap,v=.slice base n cap/\n<=cap/\
    ((∃b k,V l=some (b,k)/\base=some ⟨b,r*w,none⟩/\r*w+cap*w<=k)\/(n=0/\cap=0))
 | .tptr l r w j,v=> ∃b k,V l=some (b,k)/\v=.pointer (some ⟨b,r*w+j,none⟩)
 | .empty,v=> ∃base,v=.slice base 0 0
 | .cptr as,v=> ∃b off cs T fz,v=.pointer (some ⟨b,off,none⟩)/\Con.con b=some (.cells cs T fz)/\aI (fun _=>none) as ((cs.toList.drop off).take as.length)
def aI(V:Val):List AVal->List Value->Prop
 | [],l=>l=[]
 | a::as,l=> ∃v vs,l=v::vs/\Rep V a v/\aI V as vs
end
mutual
theorem Rep.mono{V V':Val}(h:V.le V'): ∀(a:AVal) (v:Value),Rep V a v->Rep V' a v
 | .bool _,_,r=>r
 | .int _ _,_,r=>r
 | .str _,_,r=>r
 | .ptr _ _,_,⟨b,k,hl,hv⟩=>⟨b,k,h _ _ hl,hv⟩
 | .slice _ _ _ _,_,⟨base,cap,hv,hc,r⟩=>⟨base,cap,hv,hc,r.imp (fun⟨b,k,hl,e⟩=>⟨b,k,h _ _ hl,e⟩) id⟩
 | .map _,_,⟨b,k,hl,hv⟩=>⟨b,k,h _ _ hl,hv⟩
 | .func _ f c,_,⟨fs,cs,hv,r,s⟩=>⟨fs,cs,hv,aI.mono h f _ r,aI.mono h c _ s⟩
 | .iface _ a,_,⟨x,hv,r⟩=>⟨x,hv,Rep.mono h a _ r⟩
 | .agg as,_,⟨cs,hv,r⟩=>⟨cs,hv,aI.mono h as _ r⟩
 | .tup as,_,⟨cs,hv,r⟩=>⟨cs,hv,aI.mono h as _ r⟩
 | .raw _,_,r=>r
 | .any,_,r=>r
 | .O,_,r=>r
 | .iview _ _,_,r=>r
 | .view _ _ _,_,r=>r
 | .tslice _ _ _ _,_,⟨base,cap,hv,hc,r⟩=>⟨base,cap,hv,hc,r.imp (fun⟨b,k,hl,e⟩=>⟨b,k,h _ _ hl,e⟩) id⟩
 | .tptr _ _ _ _,_,⟨b,k,hl,hv⟩=>⟨b,k,h _ _ hl,hv⟩
 | .empty,_,r=>r
 | .cptr _,_,r=>r
theorem aI.mono{V V':Val}(h:V.le V'): ∀(a:List AVal) (v:List Value),aI V a v->aI V' a v
 | [],_,r=>r
 | a::as,_,⟨v,vs,e,r,s⟩=>⟨v,vs,e,Rep.mono h a v r,aI.mono h as vs s⟩
end
theorem aI.length{V:Val} : ∀ {a:List AVal} {v:List Value},aI V a v->v.length=a.length
 | [],_,r=>by rw [r];rfl
 | _::_,_,⟨_,_,e,_,s⟩=>by rw [e];simp [aI.length s]
theorem aI.get{V:Val} : ∀ {a:List AVal} {v:List Value} (_:aI V a v) (i:Nat) (x:AVal),a[i]? =some x-> ∃y,v[i]? =some y/\Rep V x y
 | [],_,_,i,x,h=>by simp at h
 | a::as,_,⟨v,vs,e,r,s⟩,i,x,h=>by
   subst e;cases i with
   | zero=>simp at h;subst h;exact⟨v,by simp,r⟩
   | succ i=>simp at h;obtain⟨y,hy,hr⟩:=aI.get s i x h;exact⟨y,by simpa using hy,hr⟩
theorem aI.append{V:Val} : ∀ {a b:List AVal} {v w:List Value},aI V a v->aI V b w->aI V (a++b) (v++w)
 | [],_,_,_,r,s=>by rw [r];exact s
 | _::_,_,_,_,⟨v,vs,e,r,t⟩,s=>⟨v,_,by rw [e];rfl,r,aI.append t s⟩
theorem aI.take{V:Val} : ∀ {a:List AVal} {v:List Value} (_:aI V a v) (n:Nat),aI V (a.take n) (v.take n)
 | [],_,r,n=>by rw [r];simp [aI]
 | a::as,_,⟨v,vs,e,r,s⟩,n=>by
   subst e;cases n with
   | zero=>simp [aI]
   | succ n=>exact⟨v,vs.take n,by simp,r,aI.take s n⟩
theorem aI.drop{V:Val} : ∀ {a:List AVal} {v:List Value} (_:aI V a v) (n:Nat),aI V (a.drop n) (v.drop n)
 | [],_,r,n=>by rw [r];simp [aI]
 | a::as,_,⟨v,vs,e,r,s⟩,n=>by
   subst e;cases n with
   | zero=>exact⟨v,vs,by simp,r,s⟩
   | succ n=>simpa using aI.drop s n
theorem aI.set{V:Val} : ∀ {a:List AVal} {v:List Value} (_:aI V a v) (i:Nat) (x:AVal) (y:Value),Rep V x y->aI V (a.set i x) (v.set i y)
 | [],_,r,i,x,y,_=>by rw [r];simp [aI]
 | a::as,_,⟨v,vs,e,r,s⟩,i,x,y,h=>by
   subst e;cases i with
   | zero=>exact⟨y,vs,by simp,h,s⟩
   | succ i=>exact⟨v,vs.set i y,by simp,r,aI.set s i x y h⟩
def PHeap.emp:PHeap:=fun _=>none
def PHeap.one(b:Nat)(o:Obj):PHeap:=fun x=>if x=b then some o else none
def PHeap.sub(h:PHeap)(w:World):Prop:= ∀b o,h b=some o->w.heap[b]? =some o
def PHeap.disj(h g:PHeap):Prop:= ∀b,h b=none\/g b=none
theorem PHeap.disj.symm{h g:PHeap}(d:PHeap.disj h g):PHeap.disj g h:=fun b=>(d b).symm
theorem aJ3(h:PHeap):PHeap.disj h .emp :=fun _=>.inr rfl
theorem aKt(w:World):PHeap.emp.sub w:=fun _ _ h=>by cases h
def cL:List Code1->List Int->List Value
 | [],_=>[]
 | k::ks,xs=>Code1.val k (xs.headD 0)::cL ks xs.tail
def bN(ks:List Code1)(rows:List (List Int)):List Value:=(rows.map (cL ks)).flatten
inductive aG (A:Type) where
 | cells (vs:List AVal)
 | ints (c:Code1) (xs:List Int)
 | abs (t:A) (ps:List Nat)
 | tab (ks:List Code1) (rows:List (List Int))
 | imap (kk:IntKind) (vc:Code1) (m:List (Int×Int))
 | iter (lm:Nat) (kk:IntKind) (vc:Code1) (m left:List (Int×Int)) (cur:Option (Int×Int))
variable {A:Type}
abbrev Itp(A:Type):=A->Nat×Nat->List (Nat×Nat)->PHeap->Prop
def fQ(V:Val):List Nat->List (Nat×Nat)->Prop
 | [],bs=>bs=[]
 | l::ls,bs=> ∃x r,V l=some x/\bs=x::r/\fQ V ls r
theorem fQ.mono{V V':Val}(h:V.le V'): ∀ {ls:List Nat} {bs:List (Nat×Nat)},fQ V ls bs->fQ V' ls bs
 | [],_,e=>e
 | _::_,_,⟨x,r,h1,h2,h3⟩=>⟨x,r,h _ _ h1,h2,fQ.mono h h3⟩
theorem fQ.congr{V V':Val} : ∀ {ls:List Nat} {bs:List (Nat×Nat)},(∀l∈ls,V l=V' l)->fQ V ls bs->fQ V' ls bs
 | [],_,_,e=>e
 | l::ls,_,h,⟨x,r,h1,h2,h3⟩=>⟨x,r,by rw [<-h l List.mem_cons_self];exact h1,h2,fQ.congr (fun m hm=>h m (List.mem_cons_of_mem _ hm)) h3⟩
theorem fQ.ren{V:Val}{ι:Nat->Nat} : ∀ {ls:List Nat} {bs:List (Nat×Nat)},fQ V (ls.map ι) bs↔fQ (fun l=>V (ι l)) ls bs
 | [],_=>Iff.rfl
 | _::_,_=>⟨fun⟨x,r,h1,h2,h3⟩=>⟨x,r,h1,h2,fQ.ren.1 h3⟩,fun⟨x,r,h1,h2,h3⟩=>⟨x,r,h1,h2,fQ.ren.2 h3⟩⟩
def PHeap.two(b:Nat)(o:Obj)(c:Nat)(q:Obj):PHeap:=fun x=>if x=b then some o else if x=c then some q else none
def aBy(b bm:Nat)(kk:IntKind)(vc:Code1)(m left:List (Int×Int))(cur:Option (Int×Int))(h:PHeap):Prop:=
 b≠bm/\ ∃es clock since seen c0,h=.two b (.mapIter (some bm) since seen c0) bm (.map es clock)/\es.toList.map (fun e=>(e.key,e.val))=m.map (fun x=>(Value.int kk x.1,Code1.val vc x.2))/\
  (∀e∈es.toList,e.born<since)/\since<=c0/\since<=clock/\(es.filter fun e=>!seen.contains e.born).toList.map (fun e=>(e.key,e.val))=left.map (fun x=>(Value.int kk x.1,Code1.val vc x.2))/\
  (es.toList.map (·.born)).Nodup /\ ∀y,cur=some y->c0=clock/\ ∃e∈es.toList,e.key=.int kk y.1/\e.val=Code1.val vc y.2/\seen.back?=some e.born
def aG.interp(I:Itp A)(V:Val)(l:Nat):aG A->PHeap->Prop
 | .cells vs,h=> ∃b k,V l=some (b,k)/\ ∃cs T,h=.one b (.cells cs T)/\cs.size=k/\ ∃rs tail,cs.toList=rs++tail/\aI V vs rs
 | .ints c xs,h=>(xs=[]/\h=.emp /\ ∃b,V l=some (b,0))\/ ∃b k,V l=some (b,k)/\ ∃cs T tail,h=.one b (.cells cs T)/\cs.size=k/\cs.toList=xs.map c.val++tail
 | .abs t ps,h=> ∃b k,V l=some (b,k)/\ ∃bs,fQ V ps bs/\I t (b,k) bs h
 | .tab ks rows,h=>(rows=[]/\h=.emp /\ ∃b,V l=some (b,0))\/ ∃b k,V l=some (b,k)/\ ∃cs T tail,h=.one b (.cells cs T)/\cs.size=k/\cs.toList=bN ks rows++tail
 | .imap kk vc m,h=> ∃b k,V l=some (b,k)/\ ∃es clock,h=.one b (.map es clock)/\es.toList.map (fun e=>(e.key,e.val))=m.map (fun x=>(Value.int kk x.1,Code1.val vc x.2))/\(∀e∈es.toList,e.born<clock)/\(es.toList.map (·.born)).Nodup
 | .iter lm kk vc m left cur,h=> ∃b k,V l=some (b,k)/\ ∃bm km,V lm=some (bm,km)/\aBy b bm kk vc m left cur h
theorem aKk{I:Itp A}{V V':Val}(hV:V.le V'){l:Nat}{e:aG A}{h:PHeap}(hi:e.interp I V l h):e.interp I V' l h:=by
 cases e with
 | cells vs=>
   obtain⟨b,k,hl,cs,T,e1,e2,rs,tail,e3,r⟩:=hi;exact⟨b,k,hV _ _ hl,cs,T,e1,e2,rs,tail,e3,aI.mono hV _ _ r⟩
 | ints c xs=>
   rcases hi with⟨e1,e2,b,hl⟩ | ⟨b,k,hl,r⟩
   ·exact .inl ⟨e1,e2,b,hV _ _ hl⟩
   ·exact .inr ⟨b,k,hV _ _ hl,r⟩
 | abs t ps=>
   obtain⟨b,k,hl,bs,hb,r⟩:=hi;exact⟨b,k,hV _ _ hl,bs,fQ.mono hV hb,r⟩
 | tab ks rows=>
   rcases hi with⟨e1,e2,b,hl⟩ | ⟨b,k,hl,r⟩
   ·exact .inl ⟨e1,e2,b,hV _ _ hl⟩
   ·exact .inr ⟨b,k,hV _ _ hl,r⟩
 | imap kk vc m=>
   obtain⟨b,k,hl,r⟩:=hi;exact⟨b,k,hV _ _ hl,r⟩
 | iter lm kk vc m left cur=>
   obtain⟨b,k,hl,bm,km,hm,r⟩:=hi;exact⟨b,k,hV _ _ hl,bm,km,hV _ _ hm,r⟩
abbrev bH(A:Type):=Nat->Option (aG A)
def aIu(hR:PHeap)(w:World):Prop:=hR.sub w/\ ∀b o,Con.con b=some o->hR b=some o
def Inv(I:Itp A)(V:Val)(h:bH A)(hR:PHeap)(w:World):Prop:=
 ∃hs:Nat->PHeap,(∀l e,h l=some e->e.interp I V l (hs l))/\(∀l,h l=none->hs l=.emp)/\
  (∀l m,l≠m->(hs l).disj (hs m))/\(∀l,(hs l).disj hR)/\(∀l,(hs l).sub w)/\aIu hR w
structure bX (w w':World):Prop where
 os:w'.os=w.os
 output:w'.output=w.output
 size:w.heap.size<=w'.heap.size
 frz: ∀a:Addr,a.block<w.heap.size->w'.frozen? a=w.frozen? a
theorem dP(w:World)(c:Array Value)(t:TypeId)(a:Addr):(w.alloc (.cells c t)).frozen? a=w.frozen? a:=by
 unfold World.frozen? World.alloc;simp only [Array.getElem?_push]
 by_cases h:a.block=w.heap.size
 ·have e:w.heap[a.block]? =none:=by rw [h];simp
  rw [if_pos h,e];simp
 ·rw [if_neg h]
theorem aKp(w:World):bX w w:=⟨rfl,rfl,Nat.le_refl _,fun _ _=>rfl⟩
theorem bX.trans{a b c:World}(h:bX a b)(k:bX b c):bX a c:=⟨k.os.trans h.os,k.output.trans h.output,Nat.le_trans h.size k.size,fun x hx=>(k.frz x (Nat.lt_of_lt_of_le hx h.size)).trans (h.frz x hx)⟩
theorem Inv.mono{I:Itp A}{V V':Val}{h:bH A}{hR:PHeap}{w:World}(hV:V.le V')(hi:Inv I V h hR w):Inv I V' h hR w:=by
 obtain⟨hs,h1,h2,h3,h4,h5,h6⟩:=hi;exact⟨hs,fun l e he=>aKk hV (h1 l e he),h2,h3,h4,h5,h6⟩
theorem Inv.drew{I:Itp A}{V:Val}{h:bH A}{hR:PHeap}{w:World}(n:Nat)(hi:Inv I V h hR w):Inv I V h hR {w with drawn:=n} :=by
 obtain⟨hs,h1,h2,h3,h4,h5,h6⟩:=hi;exact⟨hs,h1,h2,h3,h4,h5,h6⟩
theorem Val.le_refl(V:Val):V.le V:=fun _ _ h=>h
theorem Val.le_trans{a b c:Val}(h:a.le b)(k:b.le c):a.le c:=fun l x e=>k l x (h l x e)
def Val.add(V:Val)(l:Nat)(x:Nat×Nat):Val:=fun m=>if m=l then some x else V m
theorem aKh{V:Val}{l:Nat}{x:Nat×Nat}(h:V l=none):V.le (V.add l x):=by
 intro m y e;unfold Val.add;split
 ·rename_i hm;subst hm;rw [h]at e;cases e
 ·exact e
theorem aKa(V:Val)(l:Nat)(x:Nat×Nat):V.add l x l=some x:=by simp [Val.add]
theorem aKC(V:Val){l m:Nat}(x:Nat×Nat)(h:m≠l):V.add l x m=V m:=by simp [Val.add,h]
def bH.put(h:bH A)(l:Nat)(e:Option (aG A)):bH A:=fun m=>if m=l then e else h m
end Go.Sh
namespace Go.Sh
open Go
variable [Con] {A:Type} {I:Itp A}
theorem aKJ(b:Nat)(o:Obj):PHeap.one b o b=some o:=by simp [PHeap.one]
theorem aKP{b c:Nat}(o:Obj)(h:c≠b):PHeap.one b o c=none:=by simp [PHeap.one,h]
theorem PHeap.one_sub{b:Nat}{o:Obj}{w:World} :(PHeap.one b o).sub w↔w.heap[b]? =some o:=by
 constructor
 ·intro h;exact h b o (aKJ b o)
 ·intro h c p e
  by_cases hc:c=b
  ·subst hc;rw [aKJ]at e;cases e;exact h
  ·rw [aKP _ hc]at e;cases e
theorem Inv.cells{V:Val}{h:bH A}{hR:PHeap}{w:World}(hi:Inv I V h hR w){l:Nat}{vs:List AVal}(hl:h l=some (.cells vs)):
 ∃b k cs T rs tail,V l=some (b,k)/\w.heap[b]? =some (.cells cs T)/\cs.size=k/\cs.toList=rs++tail/\aI V vs rs:=by
 obtain⟨hs,h1,h2,h3,h4,h5,h6⟩:=hi;obtain⟨b,k,e1,cs,T,e2,e3,rs,tail,e4,r⟩:=h1 l _ hl;have:=h5 l;rw [e2]at this;exact⟨b,k,cs,T,rs,tail,e1,PHeap.one_sub.1 this,e3,e4,r⟩
theorem Inv.ints{V:Val}{h:bH A}{hR:PHeap}{w:World}(hi:Inv I V h hR w){l:Nat}{c:Code1}{xs:List Int}(hl:h l=some (.ints c xs))(hne:xs≠ []):
 ∃b k cs T tail,V l=some (b,k)/\w.heap[b]? =some (.cells cs T)/\cs.size=k/\cs.toList=xs.map c.val++tail:=by
 obtain⟨hs,h1,h2,h3,h4,h5,h6⟩:=hi;rcases h1 l _ hl with⟨e,_⟩ | ⟨b,k,e1,cs,T,tail,e2,e3,e4⟩
 ·exact(hne e).elim
 ·have:=h5 l;rw [e2]at this;exact⟨b,k,cs,T,tail,e1,PHeap.one_sub.1 this,e3,e4⟩
theorem Inv.replace{V:Val}{h:bH A}{hR:PHeap}{w w':World}(hi:Inv I V h hR w){l:Nat}{e e':aG A}(hl:h l=some e){b:Nat}{o':Obj}
 (hb: ∀g,e.interp I V l g-> ∃o,g=.one b o) (he':e'.interp I V l (.one b o')) (hw:w'.heap[b]? =some o') (hne: ∀c,c≠b->w'.heap[c]? =w.heap[c]?):
 Inv I V (h.put l (some e')) hR w':=by
 obtain⟨hs,h1,h2,h3,h4,h5,h6⟩:=hi;obtain⟨o,ho⟩:=hb _ (h1 l e hl)
 have key: ∀g:PHeap,PHeap.disj (hs l) g->g b=none:=by
  intro g d;rcases d b with d | d
  ·rw [ho,aKJ]at d;cases d
  ·exact d
 have dis: ∀g:PHeap,PHeap.disj (hs l) g->PHeap.disj (.one b o') g:=by
  intro g d c
  by_cases hc:c=b
  ·subst hc;exact .inr (key g d)
  ·exact .inl (aKP _ hc)
 refine⟨fun m=>if m=l then .one b o' else hs m,?_,?_,?_,?_,?_,?_⟩
 ·intro m x hm
  by_cases hml:m=l
  ·subst hml;simp [bH.put]at hm;subst hm;simpa using he'
  ·simp [bH.put,hml]at hm;simpa [hml]using h1 m x hm
 ·intro m hm
  by_cases hml:m=l
  ·subst hml;simp [bH.put]at hm
  ·simp [bH.put,hml]at hm;simpa [hml]using h2 m hm
 ·intro m n hmn
  by_cases hml:m=l
  ·have hnl:n≠l:=fun e=>hmn (hml.trans e.symm);simp only [hml,if_true,hnl,if_false];exact dis _ (h3 l n (fun e=>hnl e.symm))
  ·by_cases hnl:n=l
   ·simp only [hnl,if_true,hml,if_false];exact(dis _ (h3 l m (fun e=>hml e.symm))).symm
   ·simp only [hml,hnl,if_false];exact h3 m n hmn
 ·intro m
  by_cases hml:m=l
  ·simp only [hml,if_true];exact dis _ (h4 l)
  ·simp only [hml,if_false];exact h4 m
 ·intro m
  by_cases hml:m=l
  ·simp only [hml,if_true];exact PHeap.one_sub.2 hw
  ·simp only [hml,if_false];intro c p hc
   have:c≠b:=by
    intro e;subst e;rw [key _ (h3 l m (fun e=>hml e.symm))]at hc;cases hc
   rw [hne c this];exact h5 m c p hc
 ·refine⟨?_,h6.2⟩;intro c p hc
  have:c≠b:=by
   intro e;subst e;rw [key _ (h4 l)]at hc;cases hc
  rw [hne c this];exact h6.1 c p hc
theorem aK1{h:PHeap}{w:World}(hs:h.sub w){b:Nat}(hb:w.heap.size<=b):h b=none:=by
 cases e:h b with
 | none=>rfl
 | some o=>
   have:=hs b o e;rw [Array.getElem?_eq_none (by omega)]at this
   cases this
theorem aKT{h:PHeap}{w:World}(hs:h.sub w)(o:Obj):h.sub {w with heap:=w.heap.push o} :=by
 intro b p e;have:=hs b p e
 have hlt:b<w.heap.size:=by
  cases Nat.lt_or_ge b w.heap.size with
  | inl h=>exact h
  | inr h=>rw [aK1 hs h]at e;cases e
 show(w.heap.push o)[b]? =_;rw [Array.getElem?_push,if_neg (by omega)]
 exact this
theorem Inv.push{V:Val}{h:bH A}{hR:PHeap}{w:World}(hi:Inv I V h hR w){l:Nat}(hV:V l=none)(hl:h l=none){o:Obj}{k:Nat}{e:aG A}
 (he:e.interp I (V.add l (w.heap.size,k)) l (.one w.heap.size o)):
 Inv I (V.add l (w.heap.size,k)) (h.put l (some e)) hR {w with heap:=w.heap.push o} :=by
 obtain⟨hs,h1,h2,h3,h4,h5,h6⟩:=hi
 have dis: ∀g:PHeap,g.sub w->PHeap.disj (.one w.heap.size o) g:=by
  intro g d c
  by_cases hc:c=w.heap.size
  ·subst hc;exact .inr (aK1 d (Nat.le_refl _))
  ·exact .inl (aKP _ hc)
 refine⟨fun m=>if m=l then .one w.heap.size o else hs m,?_,?_,?_,?_,?_,⟨aKT h6.1 o,h6.2⟩⟩
 ·intro m x hm
  by_cases hml:m=l
  ·subst hml;simp [bH.put]at hm;subst hm;simpa using he
  ·simp [bH.put,hml]at hm;simpa [hml]using aKk (aKh hV) (h1 m x hm)
 ·intro m hm
  by_cases hml:m=l
  ·subst hml;simp [bH.put]at hm
  ·simp [bH.put,hml]at hm;simpa [hml]using h2 m hm
 ·intro m n hmn
  by_cases hml:m=l
  ·have hnl:n≠l:=fun e=>hmn (hml.trans e.symm);simp only [hml,if_true,hnl,if_false];exact dis _ (h5 n)
  ·by_cases hnl:n=l
   ·simp only [hnl,if_true,hml,if_false];exact(dis _ (h5 m)).symm
   ·simp only [hml,hnl,if_false];exact h3 m n hmn
 ·intro m
  by_cases hml:m=l
  ·simp only [hml,if_true];exact dis _ h6.1
  ·simp only [hml,if_false];exact h4 m
 ·intro m
  by_cases hml:m=l
  ·simp only [hml,if_true];refine PHeap.one_sub.2 ?_;show(w.heap.push o)[w.heap.size]? =_
   simp
  ·simp only [hml,if_false];exact aKT (h5 m) o
theorem Inv.kill{V:Val}{h:bH A}{hR:PHeap}{w:World}(hi:Inv I V h hR w)(l:Nat):Inv I V (h.put l none) hR w:=by
 obtain⟨hs,h1,h2,h3,h4,h5,h6⟩:=hi;refine⟨fun m=>if m=l then .emp else hs m,?_,?_,?_,?_,?_,h6⟩
 ·intro m x hm
  by_cases hml:m=l
  ·subst hml;simp [bH.put]at hm
  ·simp [bH.put,hml]at hm;simpa [hml]using h1 m x hm
 ·intro m hm
  by_cases hml:m=l
  ·simp [hml]
  ·simp [bH.put,hml]at hm;simpa [hml]using h2 m hm
 ·intro m n hmn
  by_cases hml:m=l
  ·simp only [hml,if_true];exact(aJ3 _).symm
  ·by_cases hnl:n=l
   ·simp only [hnl,if_true];exact aJ3 _
   ·simp only [hml,hnl,if_false];exact h3 m n hmn
 ·intro m
  by_cases hml:m=l
  ·simp only [hml,if_true];exact(aJ3 _).symm
  ·simp only [hml,if_false];exact h4 m
 ·intro m
  by_cases hml:m=l
  ·simp only [hml,if_true];exact aKt _
  ·simp only [hml,if_false];exact h5 m
theorem Inv.move{V V':Val}{h:bH A}{hR:PHeap}{w:World}(hi:Inv I V h hR w){l m:Nat}(hne:m≠l){e e':aG A}(hl:h l=some e)(hm:h m=none)(hV:V.le V')
 (hc: ∀g,e.interp I V l g->e'.interp I V' m g):Inv I V' ((h.put l none).put m (some e')) hR w:=by
 obtain⟨hs,h1,h2,h3,h4,h5,h6⟩:=hi;refine⟨fun n=>if n=m then hs l else if n=l then .emp else hs n,?_,?_,?_,?_,?_,h6⟩
 ·intro n x hn
  by_cases hnm:n=m
  ·subst hnm;simp [bH.put]at hn;subst hn;simpa using hc _ (h1 l e hl)
  ·by_cases hnl:n=l
   ·subst hnl;simp [bH.put,hnm]at hn
   ·simp [bH.put,hnm,hnl]at hn;simpa [hnm,hnl]using aKk hV (h1 n x hn)
 ·intro n hn
  by_cases hnm:n=m
  ·subst hnm;simp [bH.put]at hn
  ·by_cases hnl:n=l
   ·simp [hnl,hne.symm]
   ·simp [bH.put,hnm,hnl]at hn;simpa [hnm,hnl]using h2 n hn
 ·intro n p hnp;have em:hs m=.emp :=h2 m hm
  by_cases hnm:n=m
  ·have hpm:p≠m:=fun e=>hnp (hnm.trans e.symm);simp only [hnm,if_true,hpm,if_false]
   by_cases hpl:p=l
   ·simp only [hpl,if_true];exact aJ3 _
   ·simp only [hpl,if_false];exact h3 l p (fun e=>hpl e.symm)
  ·simp only [hnm,if_false]
   by_cases hnl:n=l
   ·simp only [hnl,if_true];exact(aJ3 _).symm
   ·simp only [hnl,if_false]
    by_cases hpm:p=m
    ·simp only [hpm,if_true];exact h3 n l hnl
    ·simp only [hpm,if_false]
     by_cases hpl:p=l
     ·simp only [hpl,if_true];exact aJ3 _
     ·simp only [hpl,if_false];exact h3 n p hnp
 ·intro n
  by_cases hnm:n=m
  ·simp only [hnm,if_true];exact h4 l
  ·by_cases hnl:n=l
   ·have: ∀g:PHeap,(if n=m then hs l else if n=l then PHeap.emp else g)=.emp :=fun g=>by rw [if_neg hnm,if_pos hnl]
    show(if n=m then hs l else if n=l then PHeap.emp else hs n).disj hR
    rw [this];exact(aJ3 _).symm
   ·simp only [hnm,hnl,if_false];exact h4 n
 ·intro n
  by_cases hnm:n=m
  ·simp only [hnm,if_true];exact h5 l
  ·by_cases hnl:n=l
   ·have: ∀g:PHeap,(if n=m then hs l else if n=l then PHeap.emp else g)=.emp :=fun g=>by rw [if_neg hnm,if_pos hnl]
    show(if n=m then hs l else if n=l then PHeap.emp else hs n).sub w
    rw [this];exact aKt _
   ·simp only [hnm,hnl,if_false];exact h5 n
theorem Inv.empty{V:Val}{h:bH A}{hR:PHeap}{w:World}(hi:Inv I V h hR w){l:Nat}(hV:V l=none)(hl:h l=none)(c:Code1):Inv I (V.add l (0,0)) (h.put l (some (.ints c []))) hR w:=by
 obtain⟨hs,h1,h2,h3,h4,h5,h6⟩:=hi;refine⟨hs,?_,?_,h3,h4,h5,h6⟩
 ·intro m x hm
  by_cases hml:m=l
  ·subst hml;simp [bH.put]at hm;subst hm;exact .inl ⟨rfl,h2 m hl,0,aKa _ _ _⟩
  ·simp [bH.put,hml]at hm;exact aKk (aKh hV) (h1 m x hm)
 ·intro m hm
  by_cases hml:m=l
  ·subst hml;exact h2 m hl
  ·simp [bH.put,hml]at hm;exact h2 m hm
noncomputable def aKe(hs:Nat->PHeap):PHeap:=fun b=>
 open Classical in if h: ∃l,hs l b≠none then hs (Classical.choose h) b else none
theorem aKl{hs:Nat->PHeap}(d: ∀l m,l≠m->(hs l).disj (hs m)){l b:Nat}{o:Obj}(h:hs l b=some o):aKe hs b=some o:=by
 have hex: ∃l,hs l b≠none:=⟨l,by rw [h];simp⟩
 unfold aKe;rw [dif_pos hex];have hc:=Classical.choose_spec hex
 by_cases hl:Classical.choose hex=l
 ·rw [hl];exact h
 ·rcases d _ _ hl b with d | d
  ·exact(hc d).elim
  ·rw [h]at d;cases d
theorem aKm{hs:Nat->PHeap}{b:Nat}{o:Obj}(h:aKe hs b=some o): ∃l,hs l b=some o:=by
 unfold aKe at h;split at h
 ·rename_i hex;exact⟨_,h⟩
 ·cases h
theorem aKE{hs:Nat->PHeap}{b:Nat}(h: ∀l,hs l b=none):aKe hs b=none:=by
 cases e:aKe hs b with
 | none=>rfl
 | some o=>obtain⟨l,hl⟩:=aKm e;rw [h l]at hl;cases hl
def PHeap.join(h g:PHeap):PHeap:=fun b=>match h b with | some o=>some o | none=>g b
theorem PHeap.join_none{h g:PHeap}{b:Nat} :PHeap.join h g b=none↔h b=none/\g b=none:=by
 unfold PHeap.join;cases h b<;>simp
theorem aKy{h g:PHeap}{b:Nat}{o:Obj}(e:h b=some o):PHeap.join h g b=some o:=by simp [PHeap.join,e]
theorem aKG{h g:PHeap}{b:Nat}(e:h b=none):PHeap.join h g b=g b:=by simp [PHeap.join,e]
theorem Inv.split{V:Val}{h:bH A}{hR:PHeap}{w:World}(hi:Inv I V h hR w)(S:Nat->Bool):
 ∃hR',Inv I V (fun l=>if S l then h l else none) hR' w/\
  ∀V' g w',V.le V'->Inv I V' g hR' w'->(∀l,S l=false->h l≠none->g l=none)->
   Inv I V' (fun l=>if S l=false/\h l≠none then h l else g l) hR w':=by
 obtain⟨hs,h1,h2,h3,h4,h5,h6⟩:=hi
 let rs:Nat->PHeap:=fun l=>if S l then .emp else hs l
 have rd: ∀l m,l≠m->(rs l).disj (rs m):=by
  intro l m hlm;show PHeap.disj (if S l then .emp else hs l) (if S m then .emp else hs m)
  split
  ·exact(aJ3 _).symm
  ·split
   ·exact aJ3 _
   ·exact h3 l m hlm
 have rhR: ∀b,aKe rs b=none\/hR b=none:=by
  intro b;cases e:aKe rs b with
  | none=>exact .inl rfl
  | some o=>
    obtain⟨l,hl⟩:=aKm e
    have:hs l b≠none:=by
     have hl':(if S l then PHeap.emp else hs l) b=some o:=hl
     split at hl'
     ·cases hl'
     ·rw [hl'];simp
    rcases h4 l b with d | d
    ·exact(this d).elim
    ·exact .inr d
 refine⟨PHeap.join hR (aKe rs),⟨fun l=>if S l then hs l else .emp,?_,?_,?_,?_,?_,?_⟩,?_⟩
 ·intro l e he;cases hS:S l with
  | true=>simp [hS]at he⊢;exact h1 l e he
  | false=>simp [hS]at he
 ·intro l hl;cases hS:S l with
  | true=>simp [hS]at hl⊢;exact h2 l hl
  | false=>simp [hS]
 ·intro l m hlm;show PHeap.disj (if S l then hs l else .emp) (if S m then hs m else .emp)
  split
  ·split
   ·exact h3 l m hlm
   ·exact aJ3 _
  ·exact(aJ3 _).symm
 ·intro l b;show(if S l then hs l else PHeap.emp) b=none\/_
  cases hS:S l with
  | false=>exact .inl rfl
  | true=>
    simp only [if_true];cases e:hs l b with
    | none=>exact .inl rfl
    | some o=>
      refine .inr (PHeap.join_none.2 ⟨?_,aKE fun m=>?_⟩)
      ·rcases h4 l b with d | d
       ·rw [e]at d;cases d
       ·exact d
      ·show(if S m then PHeap.emp else hs m) b=none
       by_cases hm:S m=true
       ·rw [if_pos hm];rfl
       ·rw [if_neg hm];have:l≠m:=fun e'=>hm (e'▸hS);rcases h3 l m this b with d | d
        ·rw [e]at d;cases d
        ·exact d
 ·intro l;show(if S l then hs l else PHeap.emp).sub w
  split
  ·exact h5 l
  ·exact aKt _
 ·refine⟨?_,fun b o e=>aKy (h6.2 b o e)⟩;intro b o e;unfold PHeap.join at e;cases er:hR b with
  | some p=>rw [er]at e;cases e;exact h6.1 b _ er
  | none=>
    rw [er]at e;obtain⟨l,hl⟩:=aKm e;have hl':(if S l then PHeap.emp else hs l) b=some o:=hl
    split at hl'
    ·cases hl'
    ·exact h5 l b o hl'
 ·intro V' g w' hV hg hz;obtain⟨gs,g1,g2,g3,g4,g5,g6⟩:=hg
  have rsub: ∀l,(rs l).sub w':=by
   intro l b o e;have:=aKl rd e;refine g6.1 b o ?_;rcases rhR b with d | d
   ·rw [this]at d;cases d
   ·rw [aKG d];exact this
  have hRsub:hR.sub w':=fun b o e=>g6.1 b o (aKy e)
  have grs: ∀l m,(gs l).disj (rs m):=by
   intro l m b;rcases g4 l b with d | d
   ·exact .inl d
   ·cases e:rs m b with
    | none=>exact .inr rfl
    | some o=>rw [(PHeap.join_none.1 d).2.symm,aKl rd e];exact .inr rfl
  have ghR: ∀l,(gs l).disj hR:=fun l b=>(g4 l b).imp id (fun d=>(PHeap.join_none.1 d).1)
  have rshR: ∀l,(rs l).disj hR:=by
   intro l;show PHeap.disj (if S l then .emp else hs l) hR
   split
   ·exact(aJ3 _).symm
   ·exact h4 l
  classical
  refine⟨fun l=>if S l=false/\h l≠none then rs l else gs l,?_,?_,?_,?_,?_,⟨hRsub,h6.2⟩⟩
  ·intro l e he
   by_cases hc:S l=false/\h l≠none
   ·simp only [if_pos hc]at he⊢;show e.interp I V' l (if S l then .emp else hs l)
    rw [if_neg (by simp [hc.1])]
    exact aKk hV (h1 l e he)
   ·simp only [if_neg hc]at he⊢;exact g1 l e he
  ·intro l hl
   by_cases hc:S l=false/\h l≠none
   ·simp only [if_pos hc]at hl;exact(hc.2 hl).elim
   ·simp only [if_neg hc]at hl⊢;exact g2 l hl
  ·intro l m hlm
   by_cases hc:S l=false/\h l≠none
   ·simp only [if_pos hc]
    by_cases hd:S m=false/\h m≠none
    ·simp only [if_pos hd];exact rd l m hlm
    ·simp only [if_neg hd];exact(grs m l).symm
   ·simp only [if_neg hc]
    by_cases hd:S m=false/\h m≠none
    ·simp only [if_pos hd];exact grs l m
    ·simp only [if_neg hd];exact g3 l m hlm
  ·intro l
   by_cases hc:S l=false/\h l≠none
   ·simp only [if_pos hc];exact rshR l
   ·simp only [if_neg hc];exact ghR l
  ·intro l
   by_cases hc:S l=false/\h l≠none
   ·simp only [if_pos hc];exact rsub l
   ·simp only [if_neg hc];exact g5 l
mutual
def AVal.ren(ι:Nat->Nat):AVal->AVal
 | .bool b=>.bool b
 | .int k n=>.int k n
 | .str s=>.str s
 | .ptr l off=>.ptr (ι l) off
 | .slice l off len sz=>.slice (ι l) off len sz
 | .map l=>.map (ι l)
 | .func fn f c=>.func fn (aKg ι f) (aKg ι c)
 | .iface t a=>.iface t (AVal.ren ι a)
 | .agg as=>.agg (aKg ι as)
 | .tup as=>.tup (aKg ι as)
 | .raw v=>.raw v
 | .any =>.any
 | .O =>.O
 | .iview c xs=>.iview c xs
 | .view n w row=>.view n w row
 | .cptr as=>.cptr as
 | .tslice l r n w=>.tslice (ι l) r n w
 | .tptr l r w j=>.tptr (ι l) r w j
 | .empty =>.empty
def aKg(ι:Nat->Nat):List AVal->List AVal
 | []=>[]
 | a::as=>AVal.ren ι a::aKg ι as
end
mutual
theorem Rep.ren{V:Val}{ι:Nat->Nat} : ∀(a:AVal) (v:Value),Rep V (a.ren ι) v↔Rep (fun l=>V (ι l)) a v
 | .bool _,_=>Iff.rfl
 | .int _ _,_=>Iff.rfl
 | .str _,_=>Iff.rfl
 | .ptr _ _,_=>Iff.rfl
 | .slice _ _ _ _,_=>Iff.rfl
 | .map _,_=>Iff.rfl
 | .func fn f c,v=>by
   simp only [AVal.ren,Rep];constructor
   ·rintro⟨fs,cs,e,r,s⟩;exact⟨fs,cs,e,(aI.ren f _).1 r,(aI.ren c _).1 s⟩
   ·rintro⟨fs,cs,e,r,s⟩;exact⟨fs,cs,e,(aI.ren f _).2 r,(aI.ren c _).2 s⟩
 | .iface t a,v=>by
   simp only [AVal.ren,Rep];constructor
   ·rintro⟨x,e,r⟩;exact⟨x,e,(Rep.ren a _).1 r⟩
   ·rintro⟨x,e,r⟩;exact⟨x,e,(Rep.ren a _).2 r⟩
 | .agg as,v=>by
   simp only [AVal.ren,Rep];constructor
   ·rintro⟨x,e,r⟩;exact⟨x,e,(aI.ren as _).1 r⟩
   ·rintro⟨x,e,r⟩;exact⟨x,e,(aI.ren as _).2 r⟩
 | .tup as,v=>by
   simp only [AVal.ren,Rep];constructor
   ·rintro⟨x,e,r⟩;exact⟨x,e,(aI.ren as _).1 r⟩
   ·rintro⟨x,e,r⟩;exact⟨x,e,(aI.ren as _).2 r⟩
 | .raw _,_=>Iff.rfl
 | .any,_=>Iff.rfl
 | .O,_=>Iff.rfl
 | .iview _ _,_=>Iff.rfl
 | .view _ _ _,_=>Iff.rfl
 | .cptr _,_=>Iff.rfl
 | .tslice _ _ _ _,_=>Iff.rfl
 | .tptr _ _ _ _,_=>Iff.rfl
 | .empty,_=>Iff.rfl
theorem aI.ren{V:Val}{ι:Nat->Nat} : ∀(a:List AVal) (v:List Value),aI V (aKg ι a) v↔aI (fun l=>V (ι l)) a v
 | [],_=>Iff.rfl
 | a::as,v=>by
   simp only [aKg,aI];constructor
   ·rintro⟨x,xs,e,r,s⟩;exact⟨x,xs,e,(Rep.ren a _).1 r,(aI.ren as _).1 s⟩
   ·rintro⟨x,xs,e,r,s⟩;exact⟨x,xs,e,(Rep.ren a _).2 r,(aI.ren as _).2 s⟩
end
def aG.ren(ι:Nat->Nat):aG A->aG A
 | .cells vs=>.cells (aKg ι vs)
 | .ints c xs=>.ints c xs
 | .abs t ps=>.abs t (ps.map ι)
 | .tab ks rows=>.tab ks rows
 | .imap kk vc m=>.imap kk vc m
 | .iter lm kk vc m left cur=>.iter (ι lm) kk vc m left cur
theorem aG.interp_ren{V:Val}{ι:Nat->Nat}{l:Nat}{e:aG A}{g:PHeap} :
 (e.ren ι).interp I V (ι l) g↔e.interp I (fun l=>V (ι l)) l g:=by
 cases e with
 | cells vs=>
   simp only [aG.ren,aG.interp];constructor
   ·rintro⟨b,k,e1,cs,T,e2,e3,rs,tail,e4,r⟩;exact⟨b,k,e1,cs,T,e2,e3,rs,tail,e4,(aI.ren vs _).1 r⟩
   ·rintro⟨b,k,e1,cs,T,e2,e3,rs,tail,e4,r⟩;exact⟨b,k,e1,cs,T,e2,e3,rs,tail,e4,(aI.ren vs _).2 r⟩
 | ints c xs=>exact Iff.rfl
 | abs t ps=>
   simp only [aG.ren,aG.interp];constructor
   ·rintro⟨b,k,e1,bs,hb,r⟩;exact⟨b,k,e1,bs,fQ.ren.1 hb,r⟩
   ·rintro⟨b,k,e1,bs,hb,r⟩;exact⟨b,k,e1,bs,fQ.ren.2 hb,r⟩
 | tab ks rows=>exact Iff.rfl
 | imap kk vc m=>exact Iff.rfl
 | iter lm kk vc m left cur=>exact Iff.rfl
theorem aKz{V:Val}{h h0:bH A}{hR:PHeap}{w:World}{ι:Nat->Nat}(hinj: ∀l m,ι l=ι m->l=m)
 (he: ∀l,h (ι l)=(h0 l).map (aG.ren ι)) (hz: ∀m,(∀l,ι l≠m)->h m=none):
 Inv I V h hR w↔Inv I (fun l=>V (ι l)) h0 hR w:=by
 constructor
 ·rintro⟨hs,h1,h2,h3,h4,h5,h6⟩;refine⟨fun l=>hs (ι l),?_,?_,?_,fun l=>h4 _,fun l=>h5 _,h6⟩
  ·intro l e hl;exact aG.interp_ren.1 (h1 (ι l) (e.ren ι) (by rw [he,hl];rfl))
  ·intro l hl;exact h2 (ι l) (by rw [he,hl];rfl)
  ·intro l m hlm;exact h3 _ _ (fun e=>hlm (hinj _ _ e))
 ·rintro⟨hs,h1,h2,h3,h4,h5,h6⟩
  classical
  let gs:Nat->PHeap:=fun m=>if hm: ∃l,ι l=m then hs (Classical.choose hm)else .emp
  have hgs: ∀l,gs (ι l)=hs l:=by
   intro l;have hm: ∃k,ι k=ι l:=⟨l,rfl⟩;show(if hm: ∃k,ι k=ι l then hs (Classical.choose hm)else PHeap.emp)=hs l
   rw [dif_pos hm,hinj _ _ (Classical.choose_spec hm)]
  have hge: ∀m,(∀l,ι l≠m)->gs m=.emp :=by
   intro m hm;show(if hm: ∃k,ι k=m then hs (Classical.choose hm)else PHeap.emp)=.emp
   rw [dif_neg (by rintro⟨l,hl⟩;exact hm l hl)]
  have hcase: ∀m,(∃l,ι l=m)\/(∀l,ι l≠m):=by
   intro m
   by_cases hm: ∃l,ι l=m
   ·exact .inl hm
   ·exact .inr fun l hl=>hm ⟨l,hl⟩
  refine⟨gs,?_,?_,?_,?_,?_,h6⟩
  ·intro m e hm;rcases hcase m with⟨l,rfl⟩ | hn
   ·rw [he]at hm;cases h0l:h0 l with
    | none=>rw [h0l]at hm;cases hm
    | some e0=>
      rw [h0l]at hm;cases hm;rw [hgs];exact aG.interp_ren.2 (h1 l e0 h0l)
   ·rw [hz m hn]at hm;cases hm
  ·intro m hm;rcases hcase m with⟨l,rfl⟩ | hn
   ·rw [he]at hm;cases h0l:h0 l with
    | none=>rw [hgs];exact h2 l h0l
    | some e0=>rw [h0l]at hm;cases hm
   ·exact hge m hn
  ·intro m n hmn;rcases hcase m with⟨l,rfl⟩ | hm
   ·rcases hcase n with⟨k,rfl⟩ | hn
    ·rw [hgs,hgs];exact h3 l k (fun e=>hmn (e▸rfl))
    ·rw [hge n hn];exact aJ3 _
   ·rw [hge m hm];exact(aJ3 _).symm
  ·intro m;rcases hcase m with⟨l,rfl⟩ | hm
   ·rw [hgs];exact h4 l
   ·rw [hge m hm];exact(aJ3 _).symm
  ·intro m;rcases hcase m with⟨l,rfl⟩ | hm
   ·rw [hgs];exact h5 l
   ·rw [hge m hm];exact aKt _
end Go.Sh
namespace Go.Sh
open Go
def ilt(a b:Int):Bool:=decide (a<b)
def ile(a b:Int):Bool:=decide (a<=b)
def ieq(a b:Int):Bool:=a == b
def seq(a b:ByteArray):Bool:=a.toList == b.toList
theorem bI(a b:Int):ilt a b=decide (a<b):=rfl
theorem bZ(a b:Int):ile a b=decide (a<=b):=rfl
theorem cI(a b:Int):ieq a b=(a == b):=rfl
theorem HH(a b:ByteArray):seq a b=(a.toList == b.toList):=rfl
end Go.Sh
namespace Go.Sh
open Go
variable {A:Type} {I:Itp A}
abbrev aC(A:Type):=List (Option (aG A))
def aL(h:aC A)(l:Nat):Option (aG A):=h.getD l none
def toF(h:aC A):bH A:=fun l=>aL h l
structure ORes (A:Type) where
 v:AVal
 upd:List (Nat×Option (aG A))
 new:List (aG A)
 foot:List Nat
 need:Option Prop
abbrev onp:Option Prop->Prop
 | none=>True
 | some p=>p
def ORes.obl(r:ORes A):Prop:=onp r.need
def zA:Option Prop->Prop->Prop
 | none,q=>q
 | some p,q=>p/\q
theorem nH{p:Option Prop}{q:Prop} :zA p q↔onp p/\q:=by
 cases p with
 | none=>exact⟨fun h=>⟨trivial,h⟩,fun h=>h.2⟩
 | some p=>exact Iff.rfl
def cK(b:Bool)(q:Prop):Prop:=cond b q False
theorem bM{b:Bool}{q:Prop} :cK b q↔b=true/\q:=by
 cases b with
 | true=>exact⟨fun h=>⟨rfl,h⟩,fun h=>h.2⟩
 | false=>exact⟨fun h=>h.elim,fun h=>Bool.noConfusion h.1⟩
def nG:Option Prop->Prop->Option Prop
 | none,q=>some q
 | some p,q=>some (p/\q)
theorem eH{p:Option Prop}{q:Prop} :onp (nG p q)↔onp p/\q:=by
 cases p with
 | none=>exact⟨fun h=>⟨trivial,h⟩,fun h=>h.2⟩
 | some p=>exact Iff.rfl
def hupd(h:aC A)(u:List (Nat×Option (aG A))):aC A:=u.foldl (fun h x=>h.set x.1 x.2) h
def ORes.apply(r:ORes A)(h:aC A):aC A:=hupd h r.upd++r.new.map some
def ORes.applyF(r:ORes A)(h:aC A):aC A:=match r.upd,r.new with
 | [],[]=>h
 | u,[]=>hupd h u
 | u,n=>hupd h u++n.map some
theorem rJ(r:ORes A)(h:aC A):r.applyF h=r.apply h:=by
 obtain⟨v,upd,new,foot,need⟩:=r;cases upd<;>cases new<;>simp [ORes.applyF,ORes.apply,hupd]
def rT:Value->AVal
 | .bool b=>.bool b
 | .int k n=>.int k n
 | .string s=>.str s
 | v=>.raw v
def fW:Value->AVal
 | .agg cs=>.agg (cs.toList.map rT)
 | .bool b=>.bool b
 | .int k n=>.int k n
 | .string s=>.str s
 | .func fn fs cs=>.func fn (fs.toList.map rT) (cs.toList.map rT)
 | v=>.raw v
def AVal.cells:AVal->List AVal
 | .agg cs=>cs
 | .raw v=>v.cells.toList.map .raw
 | a=>[a]
def AVal.told:AVal->Bool
 | .O =>false
 | _=>true
def AVal.atom:AVal->Bool
 | .O =>false
 | .agg _=>false
 | .tup _=>false
 | .raw v=>v.oneCell'
 | _=>true
def dL(tm:List AVal):Operand->AVal
 | .tmp t=>tm.getD t (.raw undef)
 | .const v=>fW v
 | .global g=>.raw (.pointer (some ⟨g,0,none⟩))
 | .func f=>.func (.func f) [] []
def d6(P:Program)(t:TypeId):Option Bool:=
 match P.underlying t with
 | some (.struct _)=>some true
 | some (.array _ _)=>some true
 | some _=>some false
 | none=>none
def bW(P:Program)(t:TypeId):Option Nat:=(P.info? t).map (·.size)
def apart(P:Program)(t:TypeId)(cs:List AVal)(off:Nat):Option AVal:=
 match d6 P t,bW P t with
 | some true,some n=>some (.agg ((cs.drop off).take n))
 | some false,_=>cs[off]?
 | _,_=>none
def over:List AVal->Nat->List AVal->List AVal
 | cs,_,[]=>cs
 | cs,off,x::xs=>over (cs.set off x) (off+1) xs
def lF(place:Nat->Option (Nat×Nat))(cells:List AVal):List (Nat×AVal)->Option (List AVal)
 | []=>some cells
 | (i,v)::rest=>
   match place i with
   | none=>none
   | some (off,size)=>
     if (v.cells.length=size/\off+v.cells.length<=cells.length)/\v.told=true then lF place (over cells off v.cells) rest else none
def kN(P:Program)(fs:Array Field)(i:Nat):Option (Nat×Nat):=
 match fs[i]? with
 | some f=>(bW P f.type).map fun n=>(f.offset,n)
 | none=>none
def ORes.pure(v:AVal):ORes A:= {v,upd:=[],new:=[],foot:=[],need:=none}
def ORes.pureIf(v:AVal)(p:Option Prop):ORes A:= {v,upd:=[],new:=[],foot:=[],need:=p}
def aeqF(P:Program)(rec:TypeId->AVal->AVal->Option Bool)(xs ys:List AVal):List Field->Option Bool
 | []=>some true
 | f::fs=>
   if f.name= "_" then aeqF P rec xs ys fs else
   match apart P f.type xs f.offset,apart P f.type ys f.offset with
   | some a,some b=>
     match rec f.type a b with
     | some r=>match aeqF P rec xs ys fs with
       | some q=>some (r&&q)
       | none=>none
     | none=>none
   | _,_=>none
def aeq(P:Program):Nat->TypeId->AVal->AVal->Option Bool
 | 0,_,_,_=>none
 | d+1,t,x,y=>
   match P.underlying t,x,y with
   | some .bool,.bool a,.bool b=>some (cond a b (!b))
   | some (.int _),.int k a,.int k' b=>if k=k' then some (ieq a b)else none
   | some .string,.str a,.str b=>some (seq a b)
   | some (.pointer _),.raw (.pointer none),.raw (.pointer none)=>some true
   | some (.pointer _),.raw (.pointer none),.ptr _ _=>some false
   | some (.pointer _),.ptr _ _,.raw (.pointer none)=>some false
   | some (.struct fs),.agg xs,.agg ys=>
     if P.stoodInHeld t then none else aeqF P (aeq P d) xs ys fs.toList
   | _,_,_=>none
def aBC(P:Program)(op:BinOp)(t:TypeId)(x y:AVal):Option (AVal×Option Prop):=
 match x,y with
 | .int k a,.int k' b=>
   match op with
   | .shl =>some (.int k (k.wrap (a*2^(min b.toNat k.bits))),some (0<=b))
   | .shr =>some (.int k (a.fdiv (2^(min b.toNat k.bits))),some (0<=b))
   | .add =>if k=k' then some (.int k (k.wrap (a+b)),none)else none
   | .sub =>if k=k' then some (.int k (k.wrap (a - b)),none)else none
   | .mul =>if k=k' then some (.int k (k.wrap (a*b)),none)else none
   | .quo =>if k=k' then some (.int k (k.wrap (a.tdiv b)),some (b≠0))else none
   | .rem =>if k=k' then some (.int k (a.tmod b),some (b≠0))else none
   | .and =>if k=k' then some (.int k (k.wrap (BitVec.ofInt k.bits a&&&BitVec.ofInt k.bits b).toNat),none)else none
   | .or =>if k=k' then some (.int k (k.wrap (BitVec.ofInt k.bits a|||BitVec.ofInt k.bits b).toNat),none)else none
   | .xor =>if k=k' then some (.int k (k.wrap (BitVec.ofInt k.bits a ^^^ BitVec.ofInt k.bits b).toNat),none)else none
   | .andNot =>if k=k' then some (.int k (k.wrap (BitVec.ofInt k.bits a&&& ~~~ BitVec.ofInt k.bits b).toNat),none)else none
   | .eql =>if k=k' then some (.bool (ieq a b),none)else none
   | .neq =>if k=k' then some (.bool (!ieq a b),none)else none
   | .lss =>if k=k' then some (.bool (ilt a b),none)else none
   | .leq =>if k=k' then some (.bool (ile a b),none)else none
   | .gtr =>if k=k' then some (.bool (ilt b a),none)else none
   | .geq =>if k=k' then some (.bool (ile b a),none)else none
 | .str a,.str b=>
   match op with
   | .add =>some (.str (a++b),some (a.size+b.size<=9223372036854775807))
   | .eql =>some (.bool (seq a b),none)
   | .neq =>some (.bool (!(seq a b)),none)
   | _=>none
 | x,y=>
   if P.eqGuardType P.depth t=true then none else
   match op with
   | .eql =>(aeq P 50 t x y).map fun r=>(.bool r,none)
   | .neq =>(aeq P 50 t x y).map fun r=>(.bool (!r),none)
   | _=>none
def rowA:List Code1->List Int->List AVal
 | [],_=>[]
 | k::ks,xs=>Code1.aval k (xs.headD 0)::rowA ks xs.tail
def kG(w:Nat)(row:List Int)(j:Nat)(ns:List Int):List Int:=
 (List.range w).map fun i=>if j<=i/\i<j+ns.length then ns.getD (i - j) 0 else row.getD i 0
def fH:Code1->AVal->Option Int
 | some k,.int k' n=>if k=k' then some n else none
 | none,.bool b=>some (cond b 1 0)
 | _,_=>none
def oS:List Code1->List AVal->Option (List Int)
 | [],[]=>some []
 | k::ks,v::vs=>match fH k v,oS ks vs with
   | some n,some ns=>some (n::ns)
   | _,_=>none
 | _,_=>none
def mD(ks:List Code1):Nat->List AVal->Option (List (List Int))
 | 0,[]=>some []
 | 0,_::_=>none
 | n+1,vs=>match oS ks (vs.take ks.length),mD ks n (vs.drop ks.length)with
   | some r,some rs=>some (r::rs)
   | _,_=>none
def EL(P:Program)(t:TypeId)(l r w j:Nat)(h:aC A):Option (ORes A):=
 match aL h l,d6 P t,bW P t with
 | some (.tab ks rows),some true,some n=>
   if ks.length=w/\j+n<=w then some {v:=.agg (((rowA ks (rows.getD r [])).drop j).take n),upd:=[],new:=[],foot:=[l],need:=some (r<rows.length) } else none
 | some (.tab ks rows),some false,_=>
   if ks.length=w then
    match (rowA ks (rows.getD r []))[j]? with
    | some v=>some {v,upd:=[],new:=[],foot:=[l],need:=some (r<rows.length) }
    | none=>none
   else none
 | _,_,_=>none
def yG(P:Program)(t:TypeId)(l r w j:Nat)(x:AVal)(h:aC A):Option (ORes A):=
 match aL h l with
 | some (.tab ks rows)=>
   if bW P t=some x.cells.length/\ks.length=w/\j+x.cells.length<=w then
    match oS ((ks.drop j).take x.cells.length) x.cells with
    | some ns=>some {v:=.raw undef,upd:=[(l,some (.tab ks (rows.set r (kG w (rows.getD r []) j ns))))],new:=[],foot:=[l],need:=some (r<rows.length) }
    | none=>none
   else none
 | _=>none
def w6(P:Program)(t:TypeId)(l off:Nat)(h:aC A):Option (ORes A):=
 match aL h l,d6 P t,bW P t with
 | some (.cells vs),some true,some n=>
   if off+n<=vs.length then some {v:=.agg ((vs.drop off).take n),upd:=[],new:=[],foot:=[l],need:=none} else none
 | some (.cells vs),some false,_=>
   match vs[off]? with
   | some v=>some {v,upd:=[],new:=[],foot:=[l],need:=none}
   | none=>none
 | some (.ints c xs),some false,_=>some {v:=c.aval (xs.getD off 0),upd:=[],new:=[],foot:=[l],need:=some (off<xs.length) }
 | _,_,_=>none
def EW(P:Program)(t:TypeId)(l off:Nat)(x:AVal)(h:aC A):Option (ORes A):=
 match aL h l with
 | some (.cells vs)=>
   if bW P t=some x.cells.length/\x.cells.all AVal.atom=true/\off+x.cells.length<=vs.length then
    some {v:=.raw undef,upd:=[(l,some (.cells (over vs off x.cells)))],new:=[],foot:=[l],need:=none}
   else none
 | some (.ints c xs)=>
   if bW P t=some 1 then
    match fH c x with
    | some n=>some {v:=.raw undef,upd:=[(l,some (.ints c (xs.set off n)))],new:=[],foot:=[l],need:=some (off<xs.length) }
    | none=>none
   else none
 | _=>none
def oY(P:Program)(t:TypeId)(x i:AVal):Option (AVal×Option Prop):=
 match P.underlying t,x,i with
 | some (.slice e),.slice l off len _,.int _ n=>
   match bW P e with
   | some s=>some (.ptr l (off+n.toNat*s),some (0<=n/\n<len))
   | none=>none
 | some (.array len e),.ptr l off,.int _ n=>
   match bW P e with
   | some s=>some (.ptr l (off+n.toNat*s),some (0<=n/\n<len))
   | none=>none
 | some (.slice e),.iview c xs,.int _ n=>if bW P e=some 1 then some (.cptr [Code1.aval c (xs.getD n.toNat 0)],some (0<=n/\n<xs.length))else none
 | some (.slice e),.view m w row,.int _ n=>if bW P e=some w then some (.cptr (row n.toNat),some (0<=n/\n<m))else none
 | some (.slice e),.tslice l r m w,.int _ n=>if bW P e=some w then some (.tptr l (r+n.toNat) w 0,some (0<=n/\n<m))else none
 | some (.array len e),.tptr l r w j,.int _ n=>
   match bW P e with
   | some s=>some (.tptr l r w (j+n.toNat*s),some (0<=n/\n<len))
   | none=>none
 | some (.array len e),.cptr cs,.int _ n=>
   match bW P e with
   | some s=>some (.cptr (cs.drop (n.toNat*s)),some (0<=n/\n<len))
   | none=>none
 | _,_,_=>none
def eJ(P:Program)(t:TypeId)(cs:List AVal):Option AVal:=
 match d6 P t,bW P t with
 | some true,some n=>if n<=cs.length then some (.agg (cs.take n))else none
 | some false,_=>cs[0]?
 | _,_=>none
def EG(P:Program)(t:TypeId)(x i:AVal):Option (AVal×Option Prop):=
 match P.underlying t,x,i with
 | some (.array len e),.agg cs,.int _ n=>
   match bW P e with
   | some s=>(apart P e cs (n.toNat*s)).map fun v=>(v,some (0<=n/\n<len))
   | none=>none
 | some .string,.str s,.int _ n=>some (.int .u8 ((s.data.getD n.toNat 0).toNat :Int),some (0<=n/\n.toNat<s.size))
 | _,_,_=>none
def AVal.isSlice:AVal->Bool
 | .slice _ _ _ _=>true
 | .tslice _ _ _ _=>true
 | .iview _ _=>true
 | .view _ _ _=>true
 | .empty =>true
 | .raw (.slice none 0 0)=>true
 | _=>false
def EU(P:Program)(t:TypeId)(x:AVal)(lo hi mx:Option AVal):Option (AVal×Option Prop):=
 match P.underlying t,x,mx with
 | some (.slice e),x,some (.int _ m)=>
   match bW P e,lo,hi with
   | some _,none,some (.int _ b)=>if x.isSlice=true then some (.empty,some (b=0/\m=0))else none
   | _,_,_=>none
 | some (.slice e),.tslice l r n w,none=>
   if bW P e=some w then
    match lo,hi with
    | none,none=>some (.tslice l r n w,none)
    | some (.int _ a),none=>some (.tslice l (r+a.toNat) (n - a.toNat) w,some (0<=a/\a.toNat<=n))
    | none,some (.int _ b)=>some (.tslice l r b.toNat w,some (0<=b/\b.toNat<=n))
    | some (.int _ a),some (.int _ b)=>some (.tslice l (r+a.toNat) (b.toNat - a.toNat) w,some (0<=a/\a.toNat<=b.toNat/\0<=b/\b.toNat<=n))
    | _,_=>none
   else none
 | some (.slice e),.slice l off len sz,none=>
   match bW P e,lo,hi with
   | some s,none,none=>if s=sz then some (.slice l off len sz,none)else none
   | some s,some (.int _ a),none=>if s=sz then some (.slice l (off+a.toNat*sz) (len - a.toNat) sz,some (0<=a/\a.toNat<=len))else none
   | some s,none,some (.int _ b)=>if s=sz then some (.slice l off b.toNat sz,some (0<=b/\b.toNat<=len))else none
   | some s,some (.int _ a),some (.int _ b)=>if s=sz then some (.slice l (off+a.toNat*sz) (b.toNat - a.toNat) sz,some (0<=a/\a.toNat<=b.toNat/\0<=b/\b.toNat<=len))else none
   | _,_,_=>none
 | some (.slice e),.iview c xs,none=>
   if bW P e=some 1 then
    match lo,hi with
    | none,none=>some (.iview c xs,none)
    | some (.int _ a),none=>some (.iview c (xs.drop a.toNat),some (0<=a/\a.toNat<=xs.length))
    | none,some (.int _ b)=>some (.iview c (xs.take b.toNat),some (0<=b/\b.toNat<=xs.length))
    | some (.int _ a),some (.int _ b)=>some (.iview c ((xs.take b.toNat).drop a.toNat),some (0<=a/\a.toNat<=b.toNat/\0<=b/\b.toNat<=xs.length))
    | _,_=>none
   else none
 | some (.slice e),.view m w row,none=>
   if bW P e=some w then
    match lo,hi with
    | none,none=>some (.view m w row,none)
    | some (.int _ a),none=>some (.view (m - a.toNat) w (fun i=>row (a.toNat+i)),some (0<=a/\a.toNat<=m))
    | none,some (.int _ b)=>some (.view b.toNat w row,some (0<=b/\b.toNat<=m))
    | some (.int _ a),some (.int _ b)=>some (.view (b.toNat - a.toNat) w (fun i=>row (a.toNat+i)),some (0<=a/\a.toNat<=b.toNat/\0<=b/\b.toNat<=m))
    | _,_=>none
   else none
 | some .string,.str s,none=>
   match lo,hi with
   | none,none=>some (.str (s.extract 0 s.size),none)
   | some (.int _ a),none=>some (.str (s.extract a.toNat s.size),some (0<=a/\a.toNat<=s.size))
   | none,some (.int _ b)=>some (.str (s.extract 0 b.toNat),some (0<=b/\b.toNat<=s.size))
   | some (.int _ a),some (.int _ b)=>some (.str (s.extract a.toNat b.toNat),some (0<=a/\a.toNat<=b.toNat/\0<=b/\b.toNat<=s.size))
   | _,_=>none
 | _,_,_=>none
def rL(P:Program)(t:TypeId)(x:AVal)(lo hi mx:Option AVal)(h:aC A):Option (ORes A):=
 match P.underlying t,x,mx with
 | some (.array n e),.ptr l off,none=>
   match bW P e,aL h l with
   | some s,some (.cells vs)=>
     if off+n*s<=vs.length then
      match lo,hi with
      | none,none=>some {v:=.slice l off n s,upd:=[],new:=[],foot:=[l],need:=none}
      | none,some (.int _ b)=>some {v:=.slice l off b.toNat s,upd:=[],new:=[],foot:=[l],need:=some (0<=b/\b.toNat<=n) }
      | some (.int _ a),none=>some {v:=.slice l (off+a.toNat*s) (n - a.toNat) s,upd:=[],new:=[],foot:=[l],need:=some (0<=a/\a.toNat<=n) }
      | _,_=>none
     else none
   | _,_=>none
 | _,_,_=>none
def aAt(P:Program)(src dst:TypeId)(x:AVal):Option AVal:=
 match P.underlying src,P.underlying dst,x with
 | some _,some (.int k),.int _ n=>some (.int k (k.wrap n))
 | some _,some .string,.str s=>some (.str s)
 | _,_,_=>none
def aun(op:UnOp)(x:AVal):Option AVal:=
 match op,x with
 | .not,.bool b=>some (.bool !b)
 | .neg,.int k n=>some (.int k (k.wrap (0 - n)))
 | _,_=>none
def aAz(c x y:AVal):Option AVal:=
 match c,x,y with
 | .bool b,.bool p,.bool q=>some (.bool (cond b p q))
 | .bool b,x,y=>some (cond b x y)
 | _,_,_=>none
def nY(x:AVal):Option AVal:=
 match x with
 | .ptr l off=>some (.ptr l off)
 | .cptr cs=>some (.cptr cs)
 | .tptr l r w j=>some (.tptr l r w j)
 | .iface t v=>some (.iface t v)
 | .func (.func f) a b=>some (.func (.func f) a b)
 | _=>none
def xC(P:Program)(t:TypeId):Option AVal:=((P.info? t).bind (·.zero)).map fW
def EB(P:Program)(t:TypeId)(parts:List (Nat×AVal)):Option AVal:=
 match xC P t,P.underlying t with
 | some z,some (.struct fs)=>if fs.toList.all (fun f=>(bW P f.type).isSome)=true then(lF (kN P fs) z.cells parts).map .agg else none
 | some z,some (.array _ e)=>
   match bW P e with
   | some s=>(lF (fun i=>some (i*s,s)) z.cells parts).map .agg
   | none=>none
 | _,_=>none
def mR(P:Program)(t:TypeId)(len:Nat)(parts:List (Nat×AVal))(h:aC A):Option (ORes A):=
 match P.underlying t with
 | some (.slice e)=>
   match bW P e,xC P e with
   | some s,some z=>
     if len*s<=16777216/\z.cells.length=s/\0<s then
      match lF (fun i=>some (i*s,s)) ((List.range (len*s)).map fun j=>z.cells.getD (j%s) (.raw undef)) parts with
      | some cs=>some {v:=cond (Nat.beq len 0) .empty (.slice h.length 0 len s),upd:=[],new:=[.cells cs],foot:=[],need:=none}
      | none=>none
     else none
   | _,_=>none
 | _=>none
def nZ(r:Option (AVal×Option Prop)):Option (ORes A):=r.map fun x=>ORes.pureIf x.1 x.2
def fE(r:Option AVal):Option (ORes A):=r.map fun x=>ORes.pure x
def uE(P:Program)(s:TypeId)(x:AVal)(f:Nat):Option AVal:=
 match P.underlying s,x with
 | some (.struct fs),.ptr l off=>
   match fs[f]? with
   | some fd=>match bW P fd.type with
     | some (_+1)=>some (.ptr l (off+fd.offset))
     | _=>none
   | none=>none
 | some (.struct fs),.cptr cs=>
   match fs[f]? with
   | some fd=>match bW P fd.type with
     | some (_+1)=>some (.cptr (cs.drop fd.offset))
     | _=>none
   | none=>none
 | some (.struct fs),.tptr l r w j=>
   match fs[f]? with
   | some fd=>match bW P fd.type with
     | some (_+1)=>some (.tptr l r w (j+fd.offset))
     | _=>none
   | none=>none
 | _,_=>none
def OF(P:Program)(s:TypeId)(x:AVal)(f:Nat):Option AVal:=
 match P.underlying s,x with
 | some (.struct fs),.agg cs=>
   match fs[f]? with
   | some fd=>apart P fd.type cs fd.offset
   | none=>none
 | _,_=>none
def fS:AVal->Bool
 | .raw (.slice none 0 0)=>true
 | _=>false
def i7(lt:Int->Int->Bool):AVal->List AVal->Option AVal
 | .int k n,[]=>some (.int k n)
 | .int k n,.int k' m::rest=>if k=k' then i7 lt (.int k (cond (lt m n) m n)) rest else none
 | _,_=>none
def gK(c:Code1):List AVal->Option (List Int)
 | []=>some []
 | x::xs=>match fH c x,gK c xs with
   | some n,some ns=>some (n::ns)
   | _,_=>none
def kK(x:AVal)(sz:Nat)(h:aC A):Option (aG A×Nat×List Nat×Option Prop):=
 match x with
 | .slice l off n s=>
   if s=sz then
    match aL h l with
    | some (.ints c xs)=>if sz=1 then some (.ints c ((xs.drop off).take n),n,[l],some (off+n<=xs.length))else none
    | some (.cells vs)=>if off+n*sz<=vs.length/\((vs.drop off).take (n*sz)).all AVal.atom=true then some (.cells ((vs.drop off).take (n*sz)),n,[l],none)else none
    | _=>none
   else none
 | .iview c xs=>if sz=1 then some (.ints c xs,xs.length,[],none)else none
 | .tslice l r n w=>if w=sz then
    match aL h l with
    | some (.tab ks rows)=>if ks.length=w then some (.tab ks ((rows.drop r).take n),n,[l],some (r+n<=rows.length))else none
    | _=>none
   else none
 | .empty =>some (.cells [],0,[],none)
 | x=>if fS x then some (.cells [],0,[],none)else none
def mS:aG A->aG A->Option (aG A)
 | .ints c xs,.ints c' ys=>if c=c' then some (.ints c (xs++ys))else none
 | .ints c xs,.cells vs=>(gK c vs).map fun ys=>.ints c (xs++ys)
 | .cells vs,.ints c ys=>(gK c vs).map fun xs=>.ints c (xs++ys)
 | .cells vs,.cells ws=>some (.cells (vs++ws))
 | .tab ks xs,.tab ks' ys=>if ks=ks' then some (.tab ks (xs++ys))else none
 | .tab ks xs,.cells vs=>(mD ks (vs.length / ks.length) vs).map fun ys=>.tab ks (xs++ys)
 | _,_=>none
def yD(P:Program)(st xt:TypeId)(s x:AVal)(h:aC A):Option (ORes A):=
 match P.underlying st,P.underlying xt with
 | some (.slice e),some (.slice _)=>
   match P.info? e with
   | some i=>
     if 0<i.size/\i.bytes<=4096/\(i.zero.map fun z=>(fW z).cells.length)=some i.size then
      match kK x i.size h with
      | some (ey,m,lx,p)=>
        match s with
        | .slice l off n sz=>
          if sz=i.size/\lx.contains l=false then
           match aL h l with
           | some (.ints c xs)=>
             match mS (.ints c xs) ey with
             | some e'=>some {v:=.slice h.length 0 (n+m) sz,upd:=[(l,none)],new:=[e'],foot:=l::lx,need:=nG p (off=0/\n=xs.length/\sz=1/\n+m<=4294967296) }
             | none=>none
           | some (.cells vs)=>
             if off=0/\n*sz=vs.length then
              match mS (.cells vs) ey with
              | some e'=>some {v:=.slice h.length 0 (n+m) sz,upd:=[(l,none)],new:=[e'],foot:=l::lx,need:=nG p (n+m<=4294967296) }
              | none=>none
             else none
           | _=>none
          else none
        | .tslice l r n w=>
          if w=i.size/\lx.contains l=false then
           match aL h l with
           | some (.tab ks rows)=>
             if ks.length=w then
              match mS (.tab ks rows) ey with
              | some e'=>some {v:=.tslice h.length 0 (n+m) w,upd:=[(l,none)],new:=[e'],foot:=l::lx,need:=nG p (r=0/\n=rows.length/\n+m<=4294967296) }
              | none=>none
             else none
           | _=>none
          else none
        | .empty =>
           match ey with
           | .cells []=>some {v:=.empty,upd:=[],new:=[],foot:=lx,need:=nG p (m=0) }
           | .tab ks ys=>if ks.length=i.size then some {v:=.tslice h.length 0 m i.size,upd:=[],new:=[.tab ks ys],foot:=lx,need:=nG p (m<=4294967296) } else none
           | ey=>some {v:=.slice h.length 0 m i.size,upd:=[],new:=[ey],foot:=lx,need:=nG p (m<=4294967296) }
        | s=>if fS s then
           match ey with
           | .cells []=>some {v:=.raw (.slice none 0 0),upd:=[],new:=[],foot:=lx,need:=nG p (m=0) }
           | .tab ks ys=>if ks.length=i.size then some {v:=.tslice h.length 0 m i.size,upd:=[],new:=[.tab ks ys],foot:=lx,need:=nG p (m<=4294967296) } else none
           | ey=>some {v:=.slice h.length 0 m i.size,upd:=[],new:=[ey],foot:=lx,need:=nG p (m<=4294967296) }
          else none
      | none=>none
     else none
   | none=>none
 | _,_=>none
def aBM(P:Program)(t:TypeId)(x:AVal):Option AVal:=
 match P.underlying t,x with
 | some .string,.str s=>some (.int .i64 (s.size:Int))
 | some (.slice _),.slice _ _ n _=>some (.int .i64 (n:Int))
 | some (.slice _),.raw (.slice _ n _)=>some (.int .i64 (n:Int))
 | some (.slice _),.iview _ xs=>some (.int .i64 (xs.length:Int))
 | some (.slice _),.view n _ _=>some (.int .i64 (n:Int))
 | some (.slice _),.tslice _ _ n _=>some (.int .i64 (n:Int))
 | some (.slice _),.empty =>some (.int .i64 0)
 | some (.array n _),_=>some (.int .i64 (n:Int))
 | _,_=>none
def nJ(xs:List Int)(off:Nat)(ys:List Int):List Int:=xs.take off++ys++xs.drop (off+ys.length)
def OC(P:Program)(dt:TypeId)(d x:AVal)(h:aC A):Option (ORes A):=
 match P.underlying dt with
 | some (.slice e)=>
   match bW P e,d with
   | some 1,.slice l off n 1=>
     match aL h l,kK x 1 h with
     | some (.ints c xs),some (.ints c' ys,m,lx,p)=>
       if c=c'/\lx.contains l=false then
        some {v:=.int .i64 (min m n:Nat),upd:=[(l,some (.ints c (nJ xs off (ys.take (min m n)))))],new:=[],foot:=l::lx,need:=nG p (off+n<=xs.length) }
       else none
     | some (.ints _ _),some (.cells [],0,_,_)=>some {v:=.int .i64 0,upd:=[],new:=[],foot:=[l],need:=none}
     | _,_=>none
   | _,_=>none
 | _=>none
def OG(P:Program)(t:TypeId)(x:AVal)(h:aC A):Option (ORes A):=
 match P.underlying t,x with
 | some (.map _ _),.map l=>(match aL h l with
   | some (.imap _ _ m)=>some {v:=.int .i64 (m.length:Int),upd:=[],new:=[],foot:=[l],need:=none}
   | _=>none)
 | _,_=>none
def HU(s x:AVal)(h:aC A):Bool:=cond (fS s) (match x with
 | .slice lx _ _ _=>match aL h lx with
   | some (.cells [v])=>v.isSlice
   | _=>false
 | _=>false) false
def AD(P:Program)(b:Builtin)(ts:List TypeId)(xs:List AVal)(h:aC A):Option (ORes A):=
 match b,ts,xs with
 | .len,[t],[x]=>(match aBM P t x with
   | some v=>fE (some v)
   | none=>OG P t x h)
 | .min,_,x::xs=>fE (i7 (fun m n=>ilt m n) x xs)
 | .max,_,x::xs=>fE (i7 (fun m n=>ilt n m) x xs)
 | .append,[st,xt],[s,x]=>cond (HU s x h) none (yD P st xt s x h)
 | .copy,[dt,_],[d,x]=>OC P dt d x h
 | _,_,_=>none
def rN:Value->Option Code1
 | .int k 0=>some (some k)
 | .bool false=>some none
 | _=>none
def CO:Value->Bool
 | .pointer none=>true
 | .slice none 0 0=>true
 | _=>false
def oZ(P:Program)(t:TypeId)(n m:AVal)(h:aC A):Option (ORes A):=
 match P.underlying t,n,m with
 | some (.slice e),.int _ n,.int _ m=>
   match P.info? e with
   | some i=>
     if i.bytes<=4096/\0<i.size then
      match i.zero with
      | some z=>
        match rN z with
        | some c=>if i.size=1 then some {v:=.slice h.length 0 n.toNat 1,upd:=[],new:=[.ints c (List.replicate n.toNat 0)],foot:=[],need:=some (0<=n/\n=m/\n<=4294967296) } else none
        | none=>cond (CO z) none (some {v:=.slice h.length 0 n.toNat i.size,upd:=[],new:=[.cells ((List.replicate n.toNat (fW z).cells).flatten)],foot:=[],need:=some ((0<=n/\n=m/\n<=4294967296)/\(fW z).cells.length =i.size) })
      | none=>none
     else none
   | none=>none
 | _,_,_=>none
def mget(m:List (Int×Int))(k:Int):Option Int:=(m.find? fun x=>x.1 == k).map (·.2)
def dB:List (Int×Int)->Int->Int->List (Int×Int)
 | [],k,v=>[(k,v)]
 | x::m,k,v=>if x.1=k then(k,v)::m else x::dB m k v
def yE(P:Program)(t:TypeId)(x i:AVal)(ck:Bool)(h:aC A):Option (ORes A):=
 match P.underlying t,x,i with
 | some (.map kt vt),.map l,.int kk n=>
   match P.underlying kt,aL h l with
   | some (.int _),some (.imap kk' vc m)=>
     if kk=kk'/\((P.info? vt).bind (·.zero)).bind rN=some vc then
      some {v:=if ck then .tup [Code1.aval vc ((mget m n).getD 0),.bool (mget m n).isSome]else Code1.aval vc ((mget m n).getD 0),upd:=[],new:=[],foot:=[l],need:=none}
     else none
   | _,_=>none
 | _,_,_=>none
def o0(P:Program)(t:TypeId)(x i y:AVal)(h:aC A):Option (ORes A):=
 match P.underlying t,x,i with
 | some (.map kt _),.map l,.int kk n=>
   match P.underlying kt,aL h l with
   | some (.int _),some (.imap kk' vc m)=>
     if kk=kk' then
      match fH vc y with
      | some v=>some {v:=.raw undef,upd:=[(l,some (.imap kk vc (dB m n v)))],new:=[],foot:=[l],need:=none}
      | none=>none
     else none
   | _,_=>none
 | _,_,_=>none
def uI(P:Program)(t:TypeId)(h:aC A):Option (ORes A):=
 match P.underlying t with
 | some (.map kt vt)=>
   match P.underlying kt,(P.info? vt).bind (·.zero)with
   | some (.int kk),some z=>match rN z with
     | some vc=>some {v:=.map h.length,upd:=[],new:=[.imap kk vc []],foot:=[],need:=none}
     | none=>none
   | _,_=>none
 | _=>none
def aop(P:Program)(ρ:Operand->AVal)(op:Op)(h:aC A):Option (ORes A):=
 match op with
 | .move x=>some (.pure (ρ x))
 | .assign x=>some (.pure (ρ x))
 | .pick c a b=>fE (aAz (ρ c) (ρ a) (ρ b))
 | .alloc e=>match xC P e with
   | some z=>some {v:=.ptr h.length 0,upd:=[],new:=[.cells z.cells],foot:=[],need:=none}
   | none=>none
 | .box _ x=>if (ρ x).told =true then some {v:=.ptr h.length 0,upd:=[],new:=[.cells (ρ x).cells],foot:=[],need:=none} else none
 | .build t parts=>fE (EB P t (parts.toList.map fun x=>(x.1,ρ x.2)))
 | .buildSlice t len parts=>mR P t len (parts.toList.map fun x=>(x.1,ρ x.2)) h
 | .load t a=>match ρ a with
   | .ptr l off=>w6 P t l off h
   | .cptr cs=>fE (eJ P t cs)
   | .tptr l r w j=>EL P t l r w j h
   | _=>none
 | .store t a x=>match ρ a with
   | .ptr l off=>EW P t l off (ρ x) h
   | .tptr l r w j=>yG P t l r w j (ρ x) h
   | _=>none
 | .nilCheck x=>fE (nY (ρ x))
 | .binOp op t x y _=>nZ (aBC P op t (ρ x) (ρ y))
 | .unOp op _ x=>fE (aun op (ρ x))
 | .convert src dst x=>fE (aAt P src dst (ρ x))
 | .makeInterface t x=>match P.underlying t with
   | some (.interface _)=>none
   | some _=>some (.pure (.iface t (ρ x)))
   | none=>none
 | .makeFunc fn first caps=>some (.pure (.func fn (first.toList.map ρ) (caps.toList.map ρ)))
 | .slice t x lo hi mx=>match P.underlying t with
   | some (.array _ _)=>rL P t (ρ x) (lo.map ρ) (hi.map ρ) (mx.map ρ) h
   | _=>nZ (EU P t (ρ x) (lo.map ρ) (hi.map ρ) (mx.map ρ))
 | .fieldAddr s x f=>fE (uE P s (ρ x) f)
 | .field s x f=>fE (OF P s (ρ x) f)
 | .indexAddr t x i=>nZ (oY P t (ρ x) (ρ i))
 | .index t x i=>nZ (EG P t (ρ x) (ρ i))
 | .extract x i=>match ρ x with
   | .tup vs=>fE vs[i]?
   | _=>none
 | .makeSlice t n m=>oZ P t (ρ n) (ρ m) h
 | .makeMap t none=>uI P t h
 | .lookup t x i ck=>yE P t (ρ x) (ρ i) ck h
 | .mapUpdate t m k v=>o0 P t (ρ m) (ρ k) (ρ v) h
 | .call c=>match c.callee with
   | .builtin b=>AD P b c.argTypes.toList (c.args.toList.map ρ) h
   | _=>none
 | _=>none
end Go.Sh
namespace Go.Sh
open Go
variable [Con] {A:Type} {I:Itp A}
theorem G1(V:Val)(v:Value):Rep V (rT v) v:=by
 cases v<;>simp [rT,Rep]
theorem jD(V:Val): ∀l:List Value,aI V (l.map rT) l
 | []=>by simp [aI]
 | v::l=>⟨v,l,rfl,G1 V v,jD V l⟩
theorem xY(V:Val)(v:Value):Rep V (fW v) v:=by
 cases v with
 | agg cs=>exact⟨cs,rfl,jD V _⟩
 | func fn fs cs=>exact⟨fs,cs,rfl,jD V _,jD V _⟩
 | _=>simp [fW,Rep]
theorem DA(V:Val): ∀l:List Value,aI V (l.map .raw) l
 | []=>by simp [aI]
 | v::l=>⟨v,l,rfl,by simp [Rep],DA V l⟩
theorem lM{V:Val}{a:AVal}{v:Value}(h:Rep V a v)(ht:a.told=true):aI V a.cells v.cells.toList:=by
 have one: ∀(a:AVal) (v:Value),Rep V a v->v.cells= #[v]->aI V [a] v.cells.toList:=by
  intro a v h e;rw [e];exact⟨v,[],rfl,h,by simp [aI]⟩
 cases a with
 | agg as=>obtain⟨cs,e,r⟩:=h;subst e;exact r
 | raw v'=>have:v=v':=h;subst this;exact DA V _
 | tup as=>have h':=h;obtain⟨cs,e,r⟩:=h;subst e;exact one _ _ h' rfl
 | bool b=>have h':=h;have:v=.bool b:=h;subst this;exact one _ _ h' rfl
 | int k n=>have h':=h;have:v=.int k n:=h;subst this;exact one _ _ h' rfl
 | str s=>have h':=h;have:v=.string s:=h;subst this;exact one _ _ h' rfl
 | ptr l off=>have h':=h;obtain⟨b,k,_,e⟩:=h;subst e;exact one _ _ h' rfl
 | slice l off len sz=>have h':=h;obtain⟨b,c,e,_⟩:=h;subst e;exact one _ _ h' rfl
 | map l=>have h':=h;obtain⟨b,k,_,e⟩:=h;subst e;exact one _ _ h' rfl
 | func fn f c=>have h':=h;obtain⟨b,k,e,_⟩:=h;subst e;exact one _ _ h' rfl
 | iface t x=>have h':=h;obtain⟨b,e,_⟩:=h;subst e;exact one _ _ h' rfl
 | iview c xs=>have h':=h;obtain⟨b,c,e,_⟩:=h;subst e;exact one _ _ h' rfl
 | view n w row=>have h':=h;obtain⟨b,c,e,_⟩:=h;subst e;exact one _ _ h' rfl
 | cptr as=>have h':=h;obtain⟨b,off,cs,T,fz,e,_⟩:=h;subst e;exact one _ _ h' rfl
 | tslice l r n w=>have h':=h;obtain⟨b,c,e,_⟩:=h;subst e;exact one _ _ h' rfl
 | tptr l r w j=>have h':=h;obtain⟨b,k,_,e⟩:=h;subst e;exact one _ _ h' rfl
 | empty=>have h':=h;obtain⟨b,e⟩:=h;subst e;exact one _ _ h' rfl
 | any=>
   have h':v.oneCell'=true:=h;refine one _ _ h ?_;cases v<;>first | rfl | cases h'
 | O=>cases ht
theorem GM(v:Value):(fW v).told =true:=by cases v<;>rfl
theorem cY(V:Val)(v:Value):aI V (fW v).cells v.cells.toList:=lM (xY V v) (GM v)
theorem SM{V:Val}{a:AVal}{v:Value}(h:Rep V a v)(ha:a.atom=true):v.oneCell'=true:=by
 cases a with
 | agg as=>cases ha
 | tup as=>cases ha
 | raw v'=>have:v=v':=h;subst this;exact ha
 | bool b=>have:v=.bool b:=h;subst this;rfl
 | int k n=>have:v=.int k n:=h;subst this;rfl
 | str s=>have:v=.string s:=h;subst this;rfl
 | ptr l off=>obtain⟨b,k,_,e⟩:=h;subst e;rfl
 | slice l off len sz=>obtain⟨b,c,e,_⟩:=h;subst e;rfl
 | map l=>obtain⟨b,k,_,e⟩:=h;subst e;rfl
 | func fn f c=>obtain⟨b,k,e,_⟩:=h;subst e;rfl
 | iface t x=>obtain⟨b,e,_⟩:=h;subst e;rfl
 | any=>exact h
 | iview c xs=>obtain⟨b,c,e,_⟩:=h;subst e;rfl
 | view n w row=>obtain⟨b,c,e,_⟩:=h;subst e;rfl
 | cptr as=>obtain⟨b,off,cs,T,fz,e,_⟩:=h;subst e;rfl
 | tslice l r n w=>obtain⟨b,c,e,_⟩:=h;subst e;rfl
 | tptr l r w j=>obtain⟨b,k,_,e⟩:=h;subst e;rfl
 | empty=>obtain⟨b,e⟩:=h;subst e;rfl
 | O=>cases ha
theorem aKK(V:Val)(c:Code1)(n:Int):Rep V (c.aval n) (c.val n):=by
 cases c<;>simp [Code1.aval,Code1.val,Rep]
theorem cE{h:aC A}{k:aC A}{l:Nat}(hl:l<h.length):aL (h++k) l=aL h l:=by
 simp [aL,List.getD,List.getElem?_append_left hl]
theorem cA{h:aC A}{l:Nat}(hl:h.length<=l):aL h l=none:=by
 simp [aL,List.getD,List.getElem?_eq_none hl]
theorem cB{h:aC A}{l:Nat}{e:aG A}(hl:aL h l=some e):l<h.length:=by
 cases Nat.lt_or_ge l h.length with
 | inl h=>exact h
 | inr g=>rw [cA g]at hl;cases hl
theorem fK(h:aC A)(e:aG A):toF (h++ [some e])=(toF h).put h.length (some e):=by
 funext l;show aL (h++ [some e]) l=if l=h.length then some e else aL h l
 by_cases hl:l=h.length
 ·subst hl;simp [aL,List.getD]
 ·rw [if_neg hl];cases Nat.lt_or_ge l h.length with
  | inl g=>exact cE g
  | inr g=>rw [cA (by simp;omega),cA g]
theorem fP{h:aC A}{l:Nat}(e:Option (aG A))(hl:l<h.length):toF (h.set l e)=(toF h).put l e:=by
 funext m;show aL (h.set l e) m=if m=l then e else aL h m
 by_cases hm:m=l
 ·subst hm;simp [aL,List.getD,hl]
 ·rw [if_neg hm];simp [aL,List.getD,List.getElem?_set_ne (Ne.symm hm)]
def dG(I:Itp A)(P:Program)(V:Val)(n:Nat)(hR:PHeap)(w:World)(v:AVal)(h':bH A)(k:Nat)(s:Sem Next):Prop:=
 ∃nx w' V' v',s.run P w=.ok nx w'/\(nx=.value v'\/nx=.skip /\v'=undef)/\V.le V'/\
  (∀l,V l=none->V' l≠none->n<=l/\l<n+k)/\Rep V' v v'/\Inv I V' h' hR w'/\bX w w'
theorem dG.pure{P:Program}{V:Val}{n:Nat}{hR:PHeap}{w:World}{v:AVal}{h:bH A}{s:Sem Next}{v':Value}
 (hi:Inv I V h hR w) (hr:Rep V v v') (hs:s.run P w=.ok (.value v') w):dG I P V n hR w v h 0 s:=
 ⟨_,w,V,v',hs,.inl rfl,V.le_refl,fun l e h=>(h e).elim,hr,hi,aKp w⟩
section
variable {P:Program} {V:Val} {w:World}
theorem aV{t:TypeId}{n:Nat}(h:bW P t=some n):(sizeOf t).run P w=.ok n w:=by
 unfold bW at h;cases e:P.info? t with
 | none=>rw [e]at h;cases h
 | some i=>
   rw [e]at h;simp at h;simp [sizeOf,typeInfo,e,h]
theorem d7{t:TypeId}{b:Bool}(h:d6 P t=some b):(isAgg t).run P w=.ok b w:=by
 unfold d6 at h;simp only [isAgg,underlying];cases e:P.underlying t with
 | none=>rw [e]at h;cases h
 | some d=>
   rw [e]at h;cases d<;>simp at h<;>subst h<;>simp [e]
theorem oA{t:TypeId}{z:AVal}(h:xC P t=some z): ∃v,z=fW v/\(zeroValue t).run P w=.ok v w:=by
 unfold xC at h;cases e:P.info? t with
 | none=>rw [e]at h;cases h
 | some i=>
   rw [e]at h;cases e2:i.zero with
   | none=>simp [e2]at h
   | some v=>
     simp [e2]at h;exact⟨v,h.symm,by simp [zeroValue,typeInfo,e,e2]⟩
theorem n9{t:TypeId}{cs:List AVal}{off:Nat}{v:AVal}{xs:Array Value}(hp:apart P t cs off=some v)(hr:aI V cs xs.toList):
 ∃v',(part t xs off).run P w=.ok v' w/\Rep V v v':=by
 unfold apart at hp;cases e1:d6 P t with
 | none=>simp [e1]at hp
 | some b=>
   cases b with
   | true=>
     cases e2:bW P t with
     | none=>simp [e1,e2]at hp
     | some n=>
       simp [e1,e2]at hp;subst hp;refine⟨.agg (xs.extract off (off+n)),by simp [part,d7 e1,aV e2],?_⟩
       refine⟨_,rfl,?_⟩;rw [Array.toList_extract];have:=(aI.take (aI.drop hr off) n)
       have e:xs.toList.extract off (off+n)=List.take n (List.drop off xs.toList):=by
        simp [List.extract]
       rw [e];exact this
   | false=>
     simp [e1]at hp;obtain⟨y,hy,r⟩:=aI.get hr off v hp;refine⟨y,?_,r⟩;have:xs[off]? =some y:=by rw [<-Array.getElem?_toList];exact hy
     simp [part,d7 e1,this]
theorem s6: ∀(xs cs:List AVal) (off:Nat),(over cs off xs).length =cs.length
 | [],_,_=>rfl
 | x::xs,cs,off=>by simp [over,s6 xs]
def dN:List Value->Nat->List Value->List Value
 | cs,_,[]=>cs
 | cs,off,x::xs=>dN (cs.set off x) (off+1) xs
theorem vO: ∀ {xs:List AVal} {ys:List Value} {cs:List AVal} {ds:List Value} (off:Nat),aI V xs ys->aI V cs ds->aI V (over cs off xs) (dN ds off ys)
 | [],_,_,_,_,r,s=>by rw [r];exact s
 | x::xs,_,cs,ds,off,⟨v,vs,e,r,s⟩,t=>by
   subst e;exact vO (off+1) s (aI.set t off x v r)
theorem gD: ∀(ys ds tl:List Value) (off:Nat),off+ys.length<=ds.length->dN (ds++tl) off ys=dN ds off ys++tl
 | [],_,_,_,_=>rfl
 | y::ys,ds,tl,off,h=>by
   simp only [List.length_cons]at h;simp only [dN];rw [List.set_append_left _ _ (by omega)]
   exact gD ys (ds.set off y) tl (off+1) (by simp;omega)
theorem eB: ∀(ys ds:List Value) (off:Nat),(dN ds off ys).length =ds.length
 | [],_,_=>rfl
 | y::ys,ds,off=>by simp [dN,eB ys]
theorem C1(ys:List Value): ∀(j:Nat) (cs:Array Value) (off:Nat),
 ((ys.zipIdx j).foldl (fun cs (c,i)=>cs.setIfInBounds (off+i) c) cs).toList =dN cs.toList (off+j) ys:=by
 induction ys with
 | nil=>intro j cs off;rfl
 | cons y ys ih=>
   intro j cs off;simp only [List.zipIdx_cons,List.foldl_cons,dN];rw [ih (j+1) _ off];simp [Nat.add_assoc]
theorem FP(v:Value)(cells:Array Value)(off:Nat):
 (v.cells.zipIdx.foldl (fun cs (c,j)=>cs.setIfInBounds (off+j) c) cells).toList =dN cells.toList off v.cells.toList:=by
 have:=C1 v.cells.toList 0 cells off;simp only [Nat.add_zero]at this;rw [<-this,<-Array.foldl_toList]
 simp
inductive D9 (V:Val):List (Nat×AVal)->List (Nat×Value)->Prop
 | nil:D9 V [] []
 | cons {i:Nat} {a:AVal} {v:Value} {as vs} :Rep V a v->D9 V as vs->D9 V ((i,a)::as) ((i,v)::vs)
theorem nX{place:Nat->Option (Nat×Nat)} : ∀ {ps:List (Nat×AVal)} {qs:List (Nat×Value)} {cs:List AVal} {ds:Array Value} {out:List AVal},
 D9 V ps qs->aI V cs ds.toList->lF place cs ps=some out-> ∃out',Instr.fill place ds qs=some out'/\aI V out out'.toList
 | [],_,cs,ds,out,.nil,r,h=>by
   simp [lF]at h;subst h;exact⟨ds,rfl,r⟩
 | (i,a)::ps,_,cs,ds,out,.cons (v:=v) (vs:=vs) ra rp,r,h=>by
   simp only [lF]at h;cases hp:place i with
   | none=>rw [hp]at h;cases h
   | some x=>
     obtain⟨off,size⟩:=x;rw [hp]at h;simp only at h;split at h
     ·rename_i hc;obtain⟨hc,hct⟩:=hc;have rc:=lM ra hct;have hlen:v.cells.size=a.cells.length:=by rw [<-Array.length_toList];exact aI.length rc
      have hlen2:ds.size=cs.length:=by rw [<-Array.length_toList];exact aI.length r
      have r2:=vO (cs:=cs) off rc r;rw [<-FP v ds off]at r2;obtain⟨out',h1,h2⟩:=nX rp r2 h;refine⟨out',?_,h2⟩;simp only [Instr.fill,hp];rw [if_neg (by simp;omega)]
      exact h1
     ·cases h
end
end Go.Sh
namespace Go.Sh
open Go
variable [Con] {A:Type} {I:Itp A}
section
variable {P:Program} {V:Val}
theorem HT: ∀(d:Nat) (t:TypeId) (x y:AVal) (r:Bool) (x' y':Value) (w:World),aeq P d t x y=some r->Rep V x x'->Rep V y y'->
 ∀D,d<=D->(Op.equalIn D t x' y').run P w=.ok r w:=by
 intro d
 induction d with
 | zero=>intro t x y r x' y' w h;simp [aeq]at h
 | succ d ih=>
   intro t x y r x' y' w h hx hy D hD;obtain⟨D,rfl⟩: ∃E,D=E+1:=⟨D - 1,by omega⟩
   have hD':d<=D:=by omega
   have hgo: ∀(fs:List Field) (xs ys:List AVal) (r:Bool) (xs' ys':Array Value) (w:World),aeqF P (aeq P d) xs ys fs=some r->aI V xs xs'.toList->aI V ys ys'.toList->
    (Op.eqFields D xs' ys' fs).run P w=.ok r w:=by
    intro fs
    induction fs with
    | nil=>intro xs ys r xs' ys' w h _ _;simp [aeqF]at h;subst h;simp [Op.eqFields]
    | cons f fs ihf=>
      intro xs ys r xs' ys' w h hxs hys;unfold aeqF at h
      by_cases hf:f.name= "_"
      ·rw [if_pos hf]at h;simp only [Op.eqFields,hf,ne_eq,not_true_eq_false,if_false];exact ihf xs ys r xs' ys' w h hxs hys
      ·rw [if_neg hf]at h;simp only [Op.eqFields,ne_eq,hf,not_false_eq_true,if_true];cases ha:apart P f.type xs f.offset with
       | none=>rw [ha]at h;cases h
       | some a=>
         cases hb:apart P f.type ys f.offset with
         | none=>rw [ha,hb]at h;cases h
         | some b=>
           rw [ha,hb]at h;simp only at h;cases hq:aeq P d f.type a b with
           | none=>rw [hq]at h;cases h
           | some q=>
             rw [hq]at h;simp only at h;cases hg:aeqF P (aeq P d) xs ys fs with
             | none=>rw [hg]at h;cases h
             | some q2=>
               rw [hg]at h;simp only [sI']at h;obtain⟨a',ra,ra'⟩:=n9 (w:=w) ha hxs;obtain⟨b',rb,rb'⟩:=n9 (w:=w) hb hys;have e:=ih f.type a b q a' b' w hq ra' rb' D hD';simp only [Sem.run_bind,ra,rb,Result.andThen_ok,e,Sem.run_ite];cases q with
               | false=>simp at h;subst h;simp
               | true=>
                 simp at h;subst h;simp only [Bool.not_true,Bool.false_eq_true,if_false];exact ihf xs ys _ xs' ys' w hg hxs hys
   unfold aeq at h;split at h
   ·rename_i hu;simp at h;subst h;have e1:x'=.bool _:=hx;have e2:y'=.bool _:=hy;subst e1 e2;rw [show∀a b:Bool,cond a b (!b)=(a == b)from by decide];exact run_equalIn_bool' w D t _ _ hu
   ·rename_i hu;split at h
    ·simp at h;subst h;have e1:x'=.int _ _:=hx;have e2:y'=.int _ _:=hy;rename_i hk;subst hk;subst e1 e2;rw [cI];exact run_equalIn_int w D t _ _ _ _ hu
    ·cases h
   ·rename_i hu;simp at h;subst h;have e1:x'=.string _:=hx;have e2:y'=.string _:=hy;subst e1 e2;rw [HH];exact run_equalIn_string w D t _ _ hu
   ·rename_i hu;simp at h;subst h;have e1:x'=.pointer none:=hx;have e2:y'=.pointer none:=hy;subst e1 e2;simp [Op.equalIn,underlying,hu]
   ·rename_i hu;simp at h;subst h;have e1:x'=.pointer none:=hx;obtain⟨b,k,_,e2⟩:=hy;subst e1 e2;simp [Op.equalIn,underlying,hu]
   ·rename_i hu;simp at h;subst h;have e1:y'=.pointer none:=hy;obtain⟨b,k,_,e2⟩:=hx;subst e1 e2;simp [Op.equalIn,underlying,hu]
   ·rename_i fs xs ys hu;split at h
    ·cases h
    ·rename_i hs;obtain⟨xs',e1,rx⟩:=hx;obtain⟨ys',e2,ry⟩:=hy;subst e1 e2;have hfs:P.fieldsOf t=fs:=by simp [Program.fieldsOf,hu]
     rw [run_equalIn_struct w D t xs' ys' (by rw [hfs];exact hu) (by simpa using hs),hfs]
     exact hgo fs.toList xs ys r xs' ys' w h rx ry
   ·cases h
theorem sL{op:BinOp}{t:TypeId}{X Y:Operand}{x y:Value}{w:World}(h:P.eqGuardType P.depth t=false)(hn:x≠ .nilIface \/y≠ .nilIface):
 (eqGuard op t X Y x y).run P w=.ok () w:=by
 have key: ∀op:BinOp,(op=.eql \/op=.neq)->(eqGuard op t X Y x y).run P w=.ok () w:=by
  intro op ho
  have hagg: ∀cs ds,(eqGuard op t X Y (.agg cs) (.agg ds)).run P w=.ok () w:=by
   intro cs ds
   obtain⟨u,hu⟩: ∃u:Sem Unit,eqGuard op t X Y (.agg cs) (.agg ds)=(do
    if !(<-program).eqGuardType (<-program).depth t then return
    if<-Op.eqGuardIn Op.maxDepth t (.agg cs) (.agg ds)then u:Sem Unit):=by
    rcases ho with rfl | rfl<;>exact⟨_,rfl⟩
   rw [hu];simp [h]
  cases x with
  | agg cs=>
    cases y with
    | agg ds=>exact hagg cs ds
    | _=>rcases ho with rfl | rfl<;>rfl
  | nilIface=>
    cases y with
    | nilIface=>simp at hn
    | _=>rcases ho with rfl | rfl<;>rfl
  | _=>rcases ho with rfl | rfl<;>rfl
 cases op<;>first | rfl | exact key _ (.inl rfl) | exact key _ (.inr rfl)
theorem JP{d:Nat}{t:TypeId}{a b:AVal}{r:Bool}(h:aeq P d t a b=some r):
 (∃p q,a=.bool p/\b=.bool q)\/(∃k n k' m,a=.int k n/\b=.int k' m)\/(∃p q,a=.str p/\b=.str q)\/
 (a=.raw (.pointer none)/\b=.raw (.pointer none))\/(∃l o,a=.raw (.pointer none)/\b=.ptr l o)\/(∃l o,a=.ptr l o/\b=.raw (.pointer none))\/
 (∃xs ys,a=.agg xs/\b=.agg ys):=by
 cases d with
 | zero=>simp [aeq]at h
 | succ d=>
   unfold aeq at h;split at h
   ·exact .inl ⟨_,_,rfl,rfl⟩
   ·exact .inr (.inl ⟨_,_,_,_,rfl,rfl⟩)
   ·exact .inr (.inr (.inl ⟨_,_,rfl,rfl⟩))
   ·exact .inr (.inr (.inr (.inl ⟨rfl,rfl⟩)))
   ·exact .inr (.inr (.inr (.inr (.inl ⟨_,_,rfl,rfl⟩))))
   ·exact .inr (.inr (.inr (.inr (.inr (.inl ⟨_,_,rfl,rfl⟩)))))
   ·exact .inr (.inr (.inr (.inr (.inr (.inr ⟨_,_,rfl,rfl⟩)))))
   ·cases h
theorem AT{op:BinOp}(ho:op=.eql \/op=.neq){d:Nat}{t:TypeId}{a b:AVal}{r:Bool}{x y:Value}(h:aeq P d t a b=some r)(hx:Rep V a x)(hy:Rep V b y)
 (h1: ∀k n k' m,a=.int k n->b=.int k' m->False) (h2: ∀p q,a=.str p->b=.str q->False):
 binOp op t x y=(do let e<-Op.equal t x y;Pure.pure (.bool (if op=.neq then !e else e))):=by
 rcases JP h with⟨p,q,rfl,rfl⟩ | ⟨k,n,k',m,rfl,rfl⟩ | ⟨p,q,rfl,rfl⟩ | ⟨rfl,rfl⟩ | ⟨l,o,rfl,rfl⟩ | ⟨l,o,rfl,rfl⟩ | ⟨xs,ys,rfl,rfl⟩
 ·have e1:x=.bool p:=hx;have e2:y=.bool q:=hy;subst e1 e2;rcases ho with rfl | rfl<;>rfl
 ·exact(h1 _ _ _ _ rfl rfl).elim
 ·exact(h2 _ _ rfl rfl).elim
 ·have e1:x=.pointer none:=hx;have e2:y=.pointer none:=hy;subst e1 e2;rcases ho with rfl | rfl<;>rfl
 ·have e1:x=.pointer none:=hx;obtain⟨b,k,_,e2⟩:=hy;subst e1 e2;rcases ho with rfl | rfl<;>rfl
 ·have e1:y=.pointer none:=hy;obtain⟨b,k,_,e2⟩:=hx;subst e1 e2;rcases ho with rfl | rfl<;>rfl
 ·obtain⟨x',e1,_⟩:=hx;obtain⟨y',e2,_⟩:=hy;subst e1 e2;rcases ho with rfl | rfl<;>rfl
theorem lN{a b:AVal}{r:Bool}{d:Nat}{t:TypeId}{x y:Value}(h:aeq P d t a b=some r)(hx:Rep V a x):x≠ .nilIface :=by
 cases d with
 | zero=>simp [aeq]at h
 | succ d=>
   unfold aeq at h;split at h
   ·rintro rfl;cases hx
   ·rintro rfl;cases hx
   ·rintro rfl;cases hx
   ·rintro rfl;cases hx
   ·rintro rfl;cases hx
   ·rintro rfl;obtain⟨_,_,_,e⟩:=hx;cases e
   ·rintro rfl;obtain⟨_,e,_⟩:=hx;cases e
   ·cases h
theorem OA{op:BinOp}{t:TypeId}{X Y:Operand}{a b v:AVal}{p:Option Prop}{x y:Value}{w:World}(h:aBC P op t a b=some (v,p))(hp:onp p)(hx:Rep V a x)(hy:Rep V b y):
 ∃v',(do eqGuard op t X Y x y;binOp op t x y:Sem Value).run P w=.ok v' w/\Rep V v v':=by
 unfold aBC at h;split at h
 ·rename_i k n k' m;have e1:x=.int k n:=hx;have e2:y=.int k' m:=hy;subst e1 e2;have hg: ∀op,eqGuard op t X Y (.int k n) (.int k' m)=Pure.pure ():=fun op=>eqGuard_at_int ..;split at h
  ·simp only [sI',pI']at h;obtain⟨rfl,rfl⟩:=h;refine⟨.int k (k.wrap (n*2^(min m.toNat k.bits))),?_,rfl⟩;have: ¬m<0:=by omega
   simp [hg,binOp,Op.shift,this]
  ·simp only [sI',pI']at h;obtain⟨rfl,rfl⟩:=h;refine⟨.int k (n.fdiv (2^(min m.toNat k.bits))),?_,rfl⟩;have: ¬m<0:=by omega
   simp [hg,binOp,Op.shift,this]
  all_goals (split at h)
  all_goals first
   | (cases h;done)
   | (simp only [sI',pI']at h
      obtain⟨rfl,rfl⟩:=h;rename_i hk;subst hk;simp [hg,binOp,Op.intArith,Op.intDiv,Op.intBits,Op.intCmp,hp,Rep,bI,bZ,cI,bne])
 ·rename_i n m;have e1:x=.string n:=hx;have e2:y=.string m:=hy;subst e1 e2;have hg: ∀op,eqGuard op t X Y (.string n) (.string m)=Pure.pure ():=fun op=>eqGuard_at_string ..;split at h
  ·simp only [sI',pI']at h;obtain⟨rfl,rfl⟩:=h;have hmx:IntKind.i64.max=9223372036854775807:=by decide
   have: ¬(((n.size+m.size:Nat):Int)>IntKind.i64.max):=by rw [hmx];omega
   simp only [hg,binOp,Op.stringOp,Sem.run_bind,Sem.run_pure,Result.andThen_ok];rw [if_neg this];exact⟨_,rfl,rfl⟩
  ·simp only [sI',pI']at h;obtain⟨rfl,rfl⟩:=h;simp [hg,binOp,Op.stringOp,Rep,HH]
  ·simp only [sI',pI']at h;obtain⟨rfl,rfl⟩:=h;simp [hg,binOp,Op.stringOp,Rep,HH]
  ·cases h
 ·rename_i hne1 hne2;split at h
  ·cases h
  ·rename_i hgt;have hgt':P.eqGuardType P.depth t=false:=by simpa using hgt
   have h1: ∀k n k' m,a=.int k n->b=.int k' m->False:=fun k n k' m e1 e2=>hne1 k n k' m e1 e2;have h2: ∀p q,a=.str p->b=.str q->False:=fun p q e1 e2=>hne2 p q e1 e2;split at h
   ·cases he:aeq P 50 t a b with
    | none=>rw [he]at h;cases h
    | some r=>
      rw [he]at h;simp only [Option.map_some,sI',pI']at h;obtain⟨rfl,rfl⟩:=h;have hrun:=HT (V:=V) 50 t a b r x y w he hx hy Op.maxDepth (by decide)
      refine⟨.bool r,?_,rfl⟩;simp only [Sem.run_bind,sL hgt' (.inl (lN (y:=y) he hx)),Result.andThen_ok,AT (.inl rfl) he hx hy h1 h2,Op.equal,hrun];rfl
   ·cases he:aeq P 50 t a b with
    | none=>rw [he]at h;cases h
    | some r=>
      rw [he]at h;simp only [Option.map_some,sI',pI']at h;obtain⟨rfl,rfl⟩:=h;have hrun:=HT (V:=V) 50 t a b r x y w he hx hy Op.maxDepth (by decide)
      refine⟨.bool (!r),?_,rfl⟩;simp only [Sem.run_bind,sL hgt' (.inl (lN (y:=y) he hx)),Result.andThen_ok,AT (.inr rfl) he hx hy h1 h2,Op.equal,hrun];rfl
   ·cases h
end
end Go.Sh
namespace Go.Sh
open Go
variable [Con] {A:Type} {I:Itp A}
section
variable {P:Program} {V:Val}
theorem hY{w:World}{b off:Nat}{cs:Array Value}{T:TypeId}{fz:Nat×Nat}(hb:w.heap[b]? =some (.cells cs T fz))(l:List Value)(h: ∀j v,l[j]? =some v->cs[off+j]? =some v):
 (loadCells ⟨b,off,none⟩ l.length).run P w=.ok l.toArray w:=by
 refine run_loadCells_list w _ l fun j v hj=>?_;rw [Addr.add_lit,cell_of_row w b (off+j) cs T fz hb];exact h j v hj
theorem d4: ∀(l:List Value) (i:Nat) (w:World) (b off:Nat) (cs:Array Value) (T:TypeId),w.heap[b]? =some (.cells cs T)->(∀v∈l,v.oneCell'=true)->off+i+l.length<=cs.size->
 ∃w' cs',(storeCells ⟨b,off,none⟩ l i).run P w=.ok () w'/\w'.heap[b]? =some (.cells cs' T)/\cs'.toList=dN cs.toList (off+i) l/\(∀c,c≠b->w'.heap[c]? =w.heap[c]?)/\bX w w':=by
 intro l
 induction l with
 | nil=>intro i w b off cs T hb _ _;exact⟨w,cs,by simp [storeCells],hb,rfl,fun _ _=>rfl,aKp w⟩
 | cons v l ih=>
   intro i w b off cs T hb ho hlen;simp only [List.length_cons]at hlen
   have hc:w.cell? ⟨b,off+i,none⟩=some cs[off+i]:=by
    rw [cell_of_row w b (off+i) cs T (0,0) hb];exact Array.getElem?_eq_getElem (by omega)
   have hf:w.frozen? ⟨b,off+i,none⟩=false:=frozen_of_row w b (off+i) cs T hb;have hb1:=heap_setCell_same w b (off+i) cs T v hb;obtain⟨w',cs',h1,h2,h3,h4,h5⟩:=ih (i+1) (w.setCell ⟨b,off+i,none⟩ v) b off (cs.setIfInBounds (off+i) v) T hb1 (fun v hv=>ho v (by simp [hv])) (by simp;omega)
   refine⟨w',cs',?_,h2,?_,?_,?_⟩
   ·simp only [storeCells,Sem.run_bind,Addr.add_lit,run_store P w _ v .plain (ho v (by simp)),hc,hf]
    exact h1
   ·rw [h3];simp [dN,Nat.add_assoc]
   ·intro c hc;rw [h4 c hc,heap_setCell_other w ⟨b,off+i,none⟩ c v hc]
   ·exact bX.trans (b:=w.setCell ⟨b,off+i,none⟩ v) ⟨rfl,rfl,by simp,fun _ _=>by simp⟩ h5
theorem w7{t:TypeId}{l off:Nat}{h:aC A}{r:ORes A}{hR:PHeap}{w:World}{x:Value}(hr:w6 P t l off h=some r)(ho:r.obl)(hi:Inv I V (toF h) hR w)(hx:Rep V (.ptr l off) x):
 ∃v',(Instr.loadAt t x).run P w=.ok v' w/\Rep V r.v v'/\r.upd=[]/\r.new=[]:=by
 obtain⟨b,k,hl,rfl⟩:=hx;unfold w6 at hr;split at hr
 ·rename_i vs n hh e1 e2;split at hr
  ·rename_i hlen;simp at hr;subst hr;obtain⟨b',k',cs,T,rs,tail,hl',hb,hk,hcs,hrep⟩:=hi.cells (l:=l) hh;rw [hl]at hl';cases hl';have hrl:=aI.length hrep;refine⟨.agg ((rs.drop off).take n).toArray,?_,⟨_,rfl,by simpa using aI.take (aI.drop hrep off) n⟩,rfl,rfl⟩
   have:=hY (P:=P) hb ((rs.drop off).take n) (off:=off) (fun j v hj=>by
    rw [<-Array.getElem?_toList,hcs];rw [List.getElem?_take]at hj;split at hj
    ·rw [List.getElem?_drop]at hj;rw [List.getElem?_append_left]
     ·exact hj
     ·cases Nat.lt_or_ge (off+j) rs.length with
      | inl h=>exact h
      | inr h=>rw [List.getElem?_eq_none h]at hj;cases hj
    ·cases hj)
   have hln:((rs.drop off).take n).length =n:=by simp;omega
   rw [hln]at this;simp [Instr.loadAt,Instr.sureAddr,loadVar,d7 e1,aV e2,this]
  ·cases hr
 ·rename_i vs e0 hh e1;split at hr
  ·rename_i v hv;simp at hr;subst hr;obtain⟨b',k',cs,T,rs,tail,hl',hb,hk,hcs,hrep⟩:=hi.cells (l:=l) hh;rw [hl]at hl';cases hl';obtain⟨y,hy,ry⟩:=aI.get hrep off v hv;refine⟨y,?_,ry,rfl,rfl⟩
   have hc:w.cell? ⟨b,off,none⟩=some y:=by
    rw [cell_of_row w b off cs T (0,0) hb,<-Array.getElem?_toList,hcs,List.getElem?_append_left]
    ·exact hy
    ·cases Nat.lt_or_ge off rs.length with
     | inl h=>exact h
     | inr h=>rw [List.getElem?_eq_none h]at hy;cases hy
   simp [Instr.loadAt,Instr.sureAddr,loadVar,d7 e1,hc]
  ·cases hr
 ·rename_i c xs hh e1;simp at hr;subst hr;have ho':off<xs.length:=ho;obtain⟨b',k',cs,T,tail,hl',hb,hk,hcs⟩:=hi.ints (l:=l) hh (by intro e;subst e;simp at ho')
  rw [hl]at hl';cases hl';refine⟨c.val (xs.getD off 0),?_,aKK V c _,rfl,rfl⟩
  have hc:w.cell? ⟨b,off,none⟩=some (c.val (xs.getD off 0)):=by
   rw [cell_of_row w b off cs T (0,0) hb,<-Array.getElem?_toList,hcs,List.getElem?_append_left (by simpa using ho')]
   simp [List.getD,ho']
  simp [Instr.loadAt,Instr.sureAddr,loadVar,d7 e1,hc]
 ·cases hr
theorem Inv.conW{h:bH A}{hR:PHeap}{w:World}(hi:Inv I V h hR w){b:Nat}{o:Obj}(hb:Con.con b=some o):w.heap[b]? =some o:=by
 obtain⟨_,_,_,_,_,_,h6⟩:=hi;exact h6.1 b o (h6.2 b o hb)
theorem I9(V:Val):Val.le (fun _=>none) V:=fun _ _ h=>by cases h
theorem EK{t:TypeId}{as:List AVal}{v:AVal}{h:bH A}{hR:PHeap}{w:World}{x:Value}(hr:eJ P t as=some v)(hi:Inv I V h hR w)(hx:Rep V (.cptr as) x):
 ∃v',(Instr.loadAt t x).run P w=.ok v' w/\Rep V v v':=by
 obtain⟨b,off,cs,T,fz,rfl,hb0,hrep⟩:=hx;have hb:=hi.conW hb0;unfold eJ at hr;split at hr
 ·rename_i n e1 e2;split at hr
  ·rename_i hlen;simp at hr;subst hr;have hrl:=aI.length hrep;have htake:=aI.take hrep n;refine⟨.agg (((cs.toList.drop off).take as.length).take n).toArray,?_,⟨_,rfl,by simpa using aI.mono (I9 V) _ _ htake⟩⟩
   have:=hY (P:=P) hb (((cs.toList.drop off).take as.length).take n) (off:=off) (fun j v hj=>by
    rw [List.getElem?_take]at hj;split at hj
    ·rw [List.getElem?_take]at hj;split at hj
     ·rw [List.getElem?_drop]at hj;rw [<-Array.getElem?_toList];exact hj
     ·cases hj
    ·cases hj)
   have hln:(((cs.toList.drop off).take as.length).take n).length =n:=by rw [List.length_take,hrl];omega
   rw [hln]at this;simp [Instr.loadAt,Instr.sureAddr,loadVar,d7 e1,aV e2,this]
  ·cases hr
 ·rename_i e0 e1;obtain⟨y,hy,ry⟩:=aI.get hrep 0 v hr;refine⟨y,?_,Rep.mono (I9 V) _ _ ry⟩
  have hc:w.cell? ⟨b,off,none⟩=some y:=by
   rw [cell_of_row w b off cs T fz hb,<-Array.getElem?_toList];rw [List.getElem?_take]at hy;split at hy
   ·rw [List.getElem?_drop]at hy;exact hy
   ·cases hy
  simp [Instr.loadAt,Instr.sureAddr,loadVar,d7 e1,hc]
 ·cases hr
theorem xE{as:List AVal}{b off k:Nat}{cs:Array Value}{T:TypeId}{fz:Nat×Nat}(hb:Con.con b=some (.cells cs T fz))(hr:aI (fun _=>none) as ((cs.toList.drop off).take as.length)):
 Rep V (.cptr (as.drop k)) (.pointer (some ⟨b,off+k,none⟩)):=by
 refine⟨b,off+k,cs,T,fz,rfl,hb,?_⟩;have:=aI.drop hr k
 have e:List.drop k (List.take as.length (List.drop off cs.toList))=List.take (as.drop k).length (List.drop (off+k) cs.toList):=by
  rw [List.drop_take,List.drop_drop,List.length_drop]
 rw [<-e];exact this
theorem aI.all{V:Val} : ∀ {a:List AVal} {v:List Value},aI V a v->a.all AVal.atom=true-> ∀x∈v,x.oneCell'=true
 | [],_,r,_=>by rw [r];simp
 | a::as,_,⟨v,vs,e,r,s⟩,h=>by
   subst e;simp only [List.all_cons,Bool.and_eq_true]at h;intro x hx;rcases List.mem_cons.1 hx with rfl | hx
   ·exact SM r h.1
   ·exact aI.all s h.2 x hx
theorem jB{c:Code1}{x:AVal}{n:Int}{x':Value}(h:fH c x=some n)(hx:Rep V x x'):x'=c.val n:=by
 cases c with
 | some k=>
   cases x<;>simp [fH]at h
   obtain⟨rfl,rfl⟩:=h;exact hx
 | none=>
   cases x<;>simp [fH]at h
   rename_i b;subst h;have:x'=.bool b:=hx;subst this;cases b<;>rfl
theorem MC(ds:List Value)(off:Nat)(v:Value):dN ds off [v]=ds.set off v:=rfl
theorem EX{t:TypeId}{l off:Nat}{x:AVal}{h:aC A}{r:ORes A}{hR:PHeap}{w:World}{p y:Value}(hr:EW P t l off x h=some r)(ho:r.obl)(hi:Inv I V (toF h) hR w)(hp:Rep V (.ptr l off) p)(hy:Rep V x y):
 ∃w',(Instr.storeAt t p y).run P w=.ok () w'/\Inv I V (toF (r.apply h)) hR w'/\bX w w'/\r.v=.raw undef/\r.new=[]:=by
 obtain⟨b,k,hl,rfl⟩:=hp;unfold EW at hr;split at hr
 ·rename_i vs hh;split at hr
  ·rename_i hc;obtain⟨e1,e2,e3⟩:=hc;simp at hr;subst hr;obtain⟨b',k',cs,T,rs,tail,hl',hb,hk,hcs,hrep⟩:=hi.cells (l:=l) hh;rw [hl]at hl';cases hl';have hrl:=aI.length hrep;have rc:=lM hy (by cases x<;>first | rfl | (simp [AVal.cells,AVal.atom]at e2))
   have hlen:y.cells.toList.length=x.cells.length:=aI.length rc;have hsz:cs.size=rs.length+tail.length:=by rw [<-Array.length_toList,hcs];simp
   obtain⟨w',cs',h1,h2,h3,h4,h5⟩:=d4 (P:=P) y.cells.toList 0 w b off cs T hb (aI.all rc e2) (by omega)
   refine⟨w',?_,?_,h5,rfl,rfl⟩
   ·have:y.cells.size=x.cells.length:=by rw [<-Array.length_toList];exact hlen
    simp [Instr.storeAt,Instr.sureAddr,storeVar,aV e1,this,h1]
   ·have hlt:=cB hh;show Inv I V (toF (hupd h [(l,some (.cells (over vs off x.cells)))]++ [])) hR w';simp only [hupd,List.foldl_cons,List.foldl_nil,List.append_nil];rw [fP _ hlt];refine hi.replace (e:=.cells vs) hh (b:=b) (o':=.cells cs' T) ?_ ?_ h2 h4
    ·rintro g ⟨b1,k1,hl1,cs1,T1,e4,_⟩;rw [hl]at hl1;cases hl1;exact⟨_,e4⟩
    ·refine⟨b,k,hl,cs',T,rfl,?_,dN rs off y.cells.toList,tail,?_,vO off rc hrep⟩
     ·rw [<-Array.length_toList,h3,eB,Array.length_toList];exact hk
     ·rw [h3,hcs];simp only [Nat.add_zero];exact gD _ _ _ _ (by omega)
  ·cases hr
 ·rename_i c xs hh;split at hr
  ·rename_i e1;cases hfc:fH c x with
   | none=>rw [hfc]at hr;cases hr
   | some n=>
     rw [hfc]at hr;simp at hr;subst hr;have ho':off<xs.length:=ho;obtain⟨b',k',cs,T,tail,hl',hb,hk,hcs⟩:=hi.ints (l:=l) hh (by intro e;subst e;simp at ho')
     rw [hl]at hl';cases hl';have hyv:=jB hfc hy;have hcells:y.cells= #[c.val n]:=by rw [hyv];cases c<;>rfl
     have hone:(c.val n).oneCell' =true:=by cases c<;>rfl
     have hsz:cs.size=xs.length+tail.length:=by rw [<-Array.length_toList,hcs];simp
     obtain⟨w',cs',h1,h2,h3,h4,h5⟩:=d4 (P:=P) [c.val n] 0 w b off cs T hb (by simpa using hone) (by simp;omega)
     refine⟨w',?_,?_,h5,rfl,rfl⟩
     ·simp [Instr.storeAt,Instr.sureAddr,storeVar,aV e1,hcells,h1]
     ·have hlt:=cB hh;show Inv I V (toF (hupd h [(l,some (.ints c (xs.set off n)))]++ [])) hR w';simp only [hupd,List.foldl_cons,List.foldl_nil,List.append_nil];rw [fP _ hlt];have hne:xs≠ []:=by intro e;subst e;simp at ho'
      obtain⟨hs,g1,g2,g3,g4,g5,g6⟩:=hi;have hi':Inv I V (toF h) hR w:=⟨hs,g1,g2,g3,g4,g5,g6⟩;refine hi'.replace (e:=.ints c xs) hh (b:=b) (o':=.cells cs' T) ?_ ?_ h2 h4
      ·intro g hg;rcases hg with⟨e,_⟩ | ⟨b1,k1,hl1,cs1,T1,tl1,e4,_⟩
       ·exact(hne e).elim
       ·rw [hl]at hl1;cases hl1;exact⟨_,e4⟩
      ·refine .inr ⟨b,k,hl,cs',T,tail,rfl,?_,?_⟩
       ·rw [<-Array.length_toList,h3,eB,Array.length_toList];exact hk
       ·rw [h3,hcs];simp only [Nat.add_zero,MC];rw [List.set_append_left _ _ (by simpa using ho'),List.map_set]
  ·cases hr
 ·cases hr
theorem xP{h:aC A}{hR:PHeap}{w:World}(hi:Inv I V (toF h) hR w)(hV:V h.length=none){vs:List AVal}{cs:Array Value}{T:TypeId}(hr:aI V vs cs.toList):
 Inv I (V.add h.length (w.heap.size,cs.size)) (toF (h++ [some (.cells vs)])) hR {w with heap:=w.heap.push (.cells cs T) } :=by
 rw [fK];refine hi.push hV (cA (Nat.le_refl _)) ?_;exact⟨_,_,aKa _ _ _,cs,T,rfl,rfl,cs.toList,[],by simp,aI.mono (aKh hV) _ _ hr⟩
theorem i6{V:Val}{n:Nat}{x:Nat×Nat} : ∀l,V l=none->(V.add n x) l≠none->n<=l/\l<n+1:=by
 intro l h1 h2
 by_cases e:l=n
 ·subst e;omega
 ·rw [aKC V x e]at h2;exact(h2 h1).elim
theorem aKX{h:aC A}{hR:PHeap}{w:World}{s:Sem Next}(hi:Inv I V (toF h) hR w)(hV:V h.length=none){vs:List AVal}{cs:Array Value}{T:TypeId}(hr:aI V vs cs.toList)
 (hs:s.run P w=.ok (.value (.pointer (some ⟨w.heap.size,0,none⟩))) {w with heap:=w.heap.push (.cells cs T) }):
 dG I P V h.length hR w (.ptr h.length 0) (toF (h++ [some (.cells vs)])) 1 s:=by
 refine⟨_,_,V.add h.length (w.heap.size,cs.size),_,hs,.inl rfl,aKh hV,i6,?_,xP hi hV hr,⟨rfl,rfl,by simp,fun _ _=>dP _ _ _ _⟩⟩
 exact⟨_,_,aKa _ _ _,rfl⟩
end
end Go.Sh
namespace Go.Sh
open Go
variable [Con] {A:Type} {I:Itp A}
theorem cD: ∀(ks:List Code1) (xs:List Int),(cL ks xs).length =ks.length
 | [],_=>rfl
 | k::ks,xs=>by simp [cL,cD ks]
theorem nM: ∀(ks:List Code1) (xs:List Int),(rowA ks xs).length =ks.length
 | [],_=>rfl
 | k::ks,xs=>by simp [rowA,nM ks]
theorem iO: ∀(ks:List Code1) (xs:List Int) (i:Nat),(cL ks xs)[i]? =ks[i]?.map fun k=>Code1.val k (xs.getD i 0)
 | [],_,i=>by simp [cL]
 | k::ks,xs,0=>by cases xs<;>simp [cL]
 | k::ks,xs,i+1=>by
   simp only [cL,List.getElem?_cons_succ];rw [iO ks xs.tail i];congr 1;funext k;cases xs<;>simp
theorem DF(V:Val): ∀(ks:List Code1) (xs:List Int),aI V (rowA ks xs) (cL ks xs)
 | [],_=>rfl
 | k::ks,xs=>⟨_,_,rfl,aKK V k _,DF V ks xs.tail⟩
theorem cS(ks:List Code1): ∀rows:List (List Int),(bN ks rows).length =rows.length*ks.length
 | []=>by simp [bN]
 | r::rows=>by
   have:=cS ks rows;simp only [bN]at this;simp only [bN,List.map_cons,List.flatten_cons,List.length_append,cD,List.length_cons,this,Nat.succ_mul];omega
theorem gJ(ks:List Code1)(a b:List (List Int)):bN ks (a++b)=bN ks a++bN ks b:=by simp [bN]
theorem qZ(ks:List Code1)(rows:List (List Int))(r:Nat):(bN ks rows).drop (r*ks.length)=bN ks (rows.drop r):=by
 induction r generalizing rows with
 | zero=>simp
 | succ r ih=>
   cases rows with
   | nil=>simp [bN]
   | cons x rows=>
     rw [Nat.succ_mul,Nat.add_comm,<-List.drop_drop]
     have:(bN ks (x::rows)).drop ks.length=bN ks rows:=by
      simp only [bN,List.map_cons,List.flatten_cons];rw [List.drop_append_of_le_length (by rw [cD];exact Nat.le_refl _),List.drop_of_length_le (by rw [cD];exact Nat.le_refl _)]
      rfl
     rw [this,ih];rfl
theorem zQ(ks:List Code1)(rows:List (List Int))(r:Nat):(bN ks rows).take (r*ks.length)=bN ks (rows.take r):=by
 induction r generalizing rows with
 | zero=>simp [bN]
 | succ r ih=>
   cases rows with
   | nil=>simp [bN]
   | cons x rows=>
     rw [Nat.succ_mul,Nat.add_comm];simp only [bN,List.map_cons,List.flatten_cons,List.take_succ_cons]
     rw [List.take_add,List.take_append_of_le_length (by rw [cD];exact Nat.le_refl _),List.take_of_length_le (by rw [cD];exact Nat.le_refl _),
      List.drop_append_of_le_length (by rw [cD];exact Nat.le_refl _),List.drop_of_length_le (by rw [cD];exact Nat.le_refl _)]
     have:=ih rows;simp only [bN]at this;simp [this]
theorem aE0{ks:List Code1}{rows:List (List Int)}{r j:Nat}(hr:r<rows.length)(hj:j<=ks.length):
 ∃rest,(bN ks rows).drop (r*ks.length+j)=(cL ks (rows.getD r [])).drop j++rest:=by
 refine⟨bN ks (rows.drop (r+1)),?_⟩;rw [<-List.drop_drop,qZ,List.drop_eq_getElem_cons hr,gD',gE' hr];simp only [bN,List.map_cons,List.flatten_cons,Option.getD_some];rw [List.drop_append_of_le_length (by rw [cD];exact hj)]
theorem Inv.tab{V:Val}{h:bH A}{hR:PHeap}{w:World}(hi:Inv I V h hR w){l:Nat}{ks:List Code1}{rows:List (List Int)}(hl:h l=some (.tab ks rows))(hne:rows≠ []):
 ∃b k cs T tail,V l=some (b,k)/\w.heap[b]? =some (.cells cs T)/\cs.size=k/\cs.toList=bN ks rows++tail:=by
 obtain⟨hs,h1,h2,h3,h4,h5,h6⟩:=hi;rcases h1 l _ hl with⟨e,_⟩ | ⟨b,k,e1,cs,T,tail,e2,e3,e4⟩
 ·exact(hne e).elim
 ·have:=h5 l;rw [e2]at this;exact⟨b,k,cs,T,tail,e1,PHeap.one_sub.1 this,e3,e4⟩
theorem Inv.emptyE{V:Val}{h:bH A}{hR:PHeap}{w:World}(hi:Inv I V h hR w){l:Nat}(hV:V l=none)(hl:h l=none){e:aG A}(he: ∀V':Val,(∃b,V' l=some (b,0))->e.interp I V' l .emp):Inv I (V.add l (0,0)) (h.put l (some e)) hR w:=by
 obtain⟨hs,h1,h2,h3,h4,h5,h6⟩:=hi;refine⟨hs,?_,?_,h3,h4,h5,h6⟩
 ·intro m x hm
  by_cases hml:m=l
  ·subst hml;simp [bH.put]at hm;subst hm;rw [h2 m hl];exact he _ ⟨0,aKa _ _ _⟩
  ·simp [bH.put,hml]at hm;exact aKk (aKh hV) (h1 m x hm)
 ·intro m hm
  by_cases hml:m=l
  ·subst hml;exact h2 m hl
  ·simp [bH.put,hml]at hm;exact h2 m hm
section
variable {P:Program} {V:Val}
theorem fI{t:TypeId}{b off:Nat}{cs:Array Value}{T:TypeId}{w:World}{seg rest:List Value}{av:List AVal}{v:AVal}(hb:w.heap[b]? =some (.cells cs T))(hseg:cs.toList.drop off=seg++rest)(hr:aI V av seg)
 (hv:eJ P t av=some v): ∃v',(Instr.loadAt t (.pointer (some ⟨b,off,none⟩))).run P w=.ok v' w/\Rep V v v':=by
 have hrl:=aI.length hr;unfold eJ at hv;split at hv
 ·rename_i n e1 e2;split at hv
  ·rename_i hlen;simp at hv;subst hv;refine⟨.agg (seg.take n).toArray,?_,⟨_,rfl,by simpa using aI.take hr n⟩⟩
   have:=hY (P:=P) hb (seg.take n) (off:=off) (fun j v hj=>by
    rw [List.getElem?_take]at hj;split at hj
    ·rw [<-Array.getElem?_toList,<-List.getElem?_drop,hseg,List.getElem?_append_left]
     ·exact hj
     ·cases Nat.lt_or_ge j seg.length with
      | inl h=>exact h
      | inr h=>rw [List.getElem?_eq_none h]at hj;cases hj
    ·cases hj)
   have hln:(seg.take n).length =n:=by rw [List.length_take];omega
   rw [hln]at this;simp [Instr.loadAt,Instr.sureAddr,loadVar,d7 e1,aV e2,this]
  ·cases hv
 ·rename_i e0 e1;obtain⟨y,hy,ry⟩:=aI.get hr 0 v hv;refine⟨y,?_,ry⟩
  have hc:w.cell? ⟨b,off,none⟩=some y:=by
   rw [cell_of_row w b off cs T (0,0) hb,<-Array.getElem?_toList];have:cs.toList[off]? =(cs.toList.drop off)[0]? :=by rw [List.getElem?_drop];rfl
   rw [this,hseg,List.getElem?_append_left]
   ·exact hy
   ·cases Nat.lt_or_ge 0 seg.length with
    | inl h=>exact h
    | inr h=>rw [List.getElem?_eq_none h]at hy;cases hy
  simp [Instr.loadAt,Instr.sureAddr,loadVar,d7 e1,hc]
 ·cases hv
theorem EM{t:TypeId}{l r0 w0 j:Nat}{h:aC A}{r:ORes A}{hR:PHeap}{w:World}{x:Value}(hr:EL P t l r0 w0 j h=some r)(ho:r.obl)(hi:Inv I V (toF h) hR w)(hx:Rep V (.tptr l r0 w0 j) x):
 ∃v',(Instr.loadAt t x).run P w=.ok v' w/\Rep V r.v v'/\r.upd=[]/\r.new=[]:=by
 obtain⟨b,k,hl,rfl⟩:=hx;unfold EL at hr
 have go: ∀(ks:List Code1) (rows:List (List Int)) (v:AVal),aL h l=some (.tab ks rows)->ks.length=w0->r0<rows.length->j<=w0->eJ P t ((rowA ks (rows.getD r0 [])).drop j)=some v->
  ∃v',(Instr.loadAt t (.pointer (some ⟨b,r0*w0+j,none⟩))).run P w=.ok v' w/\Rep V v v':=by
  intro ks rows v hh hw hlt hj hv;obtain⟨b',k',cs,T,tail,hl',hb,hk,hcs⟩:=hi.tab (l:=l) hh (by intro e;subst e;simp at hlt)
  rw [hl]at hl';cases hl';obtain⟨rest,hrest⟩:=aE0 (ks:=ks) (j:=j) hlt (by omega)
  rw [hw]at hrest;refine fI hb (seg:=(cL ks (rows.getD r0 [])).drop j) (rest:=rest++tail) ?_ (aI.drop (DF V ks _) j) hv;rw [hcs,List.drop_append_of_le_length,hrest,List.append_assoc];rw [cS,hw];have:(r0+1)*w0<=rows.length*w0:=Nat.mul_le_mul_right _ hlt;rw [Nat.succ_mul]at this;omega
 split at hr
 ·rename_i ks rows n hh e1 e2;split at hr
  ·rename_i hc;simp at hr;subst hr;have hlt:r0<rows.length:=ho
   obtain⟨v',g1,g2⟩:=go ks rows (.agg (((rowA ks (rows.getD r0 [])).drop j).take n)) hh hc.1 hlt (by omega) (by
    unfold eJ;rw [e1,e2];simp only;rw [if_pos];rw [List.length_drop,nM];omega)
   exact⟨v',g1,g2,rfl,rfl⟩
  ·cases hr
 ·rename_i e0 ks rows hh e1;split at hr
  ·rename_i hw;split at hr
   ·rename_i v hv;simp at hr;subst hr;have hlt:r0<rows.length:=ho
    have hj:j<(rowA ks (rows.getD r0 [])).length :=by
     cases Nat.lt_or_ge j (rowA ks (rows.getD r0 [])).length with
     | inl h=>exact h
     | inr h=>rw [List.getElem?_eq_none h]at hv;cases hv
    rw [nM]at hj
    obtain⟨v',g1,g2⟩:=go ks rows v hh hw hlt (by omega) (by
     unfold eJ;rw [e1];simp only [List.getElem?_drop,Nat.add_zero];exact hv)
    exact⟨v',g1,g2,rfl,rfl⟩
   ·cases hr
  ·cases hr
 ·cases hr
theorem pL: ∀ {ks:List Code1} {vs:List AVal} {ns:List Int} {l:List Value},oS ks vs=some ns->aI V vs l->l=cL ks ns/\ns.length=ks.length
 | [],[],ns,l,h,r=>by simp [oS]at h;subst h;exact⟨r,rfl⟩
 | k::ks,v::vs,ns,l,h,⟨x,xs,e,r,s⟩=>by
   simp only [oS]at h;split at h
   ·rename_i n ns' h1 h2;simp at h;subst h;subst e;obtain⟨q1,q2⟩:=pL h2 s;rw [jB h1 r,q1];exact⟨rfl,by simp [q2]⟩
   ·cases h
 | [],_::_,_,_,h,_=>by simp [oS]at h
 | _::_,[],_,_,h,_=>by simp [oS]at h
theorem xT: ∀(ys ds:List Value) (off i:Nat),off+ys.length<=ds.length->(dN ds off ys)[i]? =if off<=i/\i<off+ys.length then ys[i - off]? else ds[i]?
 | [],ds,off,i,_=>by
   simp only [dN,List.length_nil,Nat.add_zero];rw [if_neg (by omega)]
 | y::ys,ds,off,i,h=>by
   simp only [List.length_cons]at h;simp only [dN];rw [xT ys (ds.set off y) (off+1) i (by simp;omega)]
   simp only [List.length_cons]
   by_cases h1:off+1<=i/\i<off+1+ys.length
   ·rw [if_pos h1,if_pos (by omega),show i - off=(i - (off+1))+1 from by omega,List.getElem?_cons_succ]
   ·rw [if_neg h1]
    by_cases h2:i=off
    ·subst h2;rw [if_pos (by omega),Nat.sub_self]
     simp [List.getElem?_set];omega
    ·rw [if_neg (by omega),List.getElem?_set_ne (by omega)]
theorem xU(A:List Value): ∀(N R:List Value) (j:Nat),dN (A++R) (A.length+j) N=A++dN R j N
 | [],R,j=>rfl
 | x::N,R,j=>by
   simp only [dN];rw [List.set_append_right _ _ (by omega),show A.length+j - A.length=j from by omega,show A.length+j+1=A.length+(j+1)from rfl]
   exact xU A N (R.set j x) (j+1)
theorem MB(A R S N:List Value)(j:Nat)(h:j+N.length<=R.length):dN (A++(R++S)) (A.length+j) N=A++(dN R j N++S):=by
 rw [xU,gD _ _ _ _ h]
theorem DH{ks:List Code1}{row ns:List Int}{j:Nat}(hj:j+ns.length<=ks.length):
 cL ks (kG ks.length row j ns)=dN (cL ks row) j (cL ((ks.drop j).take ns.length) ns):=by
 have hlen:(cL ((ks.drop j).take ns.length) ns).length =ns.length:=by rw [cD,List.length_take,List.length_drop];omega
 apply List.ext_getElem?;intro i;rw [xT _ _ _ _ (by rw [hlen,cD];exact hj),hlen,iO]
 by_cases hi:i<ks.length
 ·have e:(kG ks.length row j ns).getD i 0=if j<=i/\i<j+ns.length then ns.getD (i - j) 0 else row.getD i 0:=by
   unfold kG;rw [gD',List.getElem?_map,List.getElem?_range hi];rfl
  rw [e]
  by_cases hc:j<=i/\i<j+ns.length
  ·rw [if_pos hc,if_pos hc,iO,List.getElem?_take,if_pos (by omega),List.getElem?_drop,show j+(i - j)=i from by omega]
  ·rw [if_neg hc,if_neg hc,iO]
 ·have e:ks[i]? =none:=List.getElem?_eq_none (by omega)
  rw [e];rw [if_neg (by omega),iO,e]
  rfl
theorem AR{t:TypeId}{l r0 w0 j:Nat}{x:AVal}{h:aC A}{r:ORes A}{hR:PHeap}{w:World}{p y:Value}(hr:yG P t l r0 w0 j x h=some r)(ho:r.obl)(hi:Inv I V (toF h) hR w)(hp:Rep V (.tptr l r0 w0 j) p)(hy:Rep V x y):
 ∃w',(Instr.storeAt t p y).run P w=.ok () w'/\Inv I V (toF (r.apply h)) hR w'/\bX w w'/\r.v=.raw undef/\r.new=[]:=by
 obtain⟨b,k,hl,rfl⟩:=hp;unfold yG at hr;split at hr
 ·rename_i ks rows hh;split at hr
  ·rename_i hc;obtain⟨e1,hw,hjw⟩:=hc;subst hw;split at hr
   ·rename_i ns hns;simp at hr;subst hr;have hlt:r0<rows.length:=ho;have hne:rows≠ []:=by intro e;subst e;simp at hlt
    obtain⟨b',k',cs,T,tail,hl',hb,hk,hcs⟩:=hi.tab (l:=l) hh hne;rw [hl]at hl';cases hl'
    have htold:x.told=true:=by
     cases hq:x.told with
     | true=>rfl
     | false=>
       exfalso;cases x with
       | O=>
         simp only [AVal.cells,List.length_singleton]at hns;cases hk2:List.take 1 (List.drop j ks)with
         | nil=>rw [hk2]at hns;simp [oS]at hns
         | cons q qs=>
           rw [hk2]at hns;cases q<;>simp [oS,fH]at hns
       | _=>cases hq
    have rc:=lM hy htold;obtain⟨q1,q2⟩:=pL hns rc;have hxl:x.cells.length=ns.length:=by rw [q2,List.length_take,List.length_drop];omega
    rw [hxl]at q1 hjw e1;have hyl:y.cells.toList.length=ns.length:=by rw [aI.length rc,hxl]
    have hsz:cs.size=rows.length*ks.length+tail.length:=by rw [<-Array.length_toList,hcs,List.length_append,cS]
    have hrow:(r0+1)*ks.length<=rows.length*ks.length:=Nat.mul_le_mul_right _ hlt;rw [Nat.succ_mul]at hrow
    have hone: ∀v∈y.cells.toList,v.oneCell'=true:=by
     rw [q1]
     have: ∀(ks:List Code1) (xs:List Int),∀v∈cL ks xs,v.oneCell'=true:=by
      intro ks
      induction ks with
      | nil=>intro xs v hv;cases hv
      | cons k ks ih=>
        intro xs v hv;simp only [cL,List.mem_cons]at hv;rcases hv with rfl | hv
        ·cases k<;>rfl
        ·exact ih _ v hv
     exact this _ _
    obtain⟨w',cs',h1,h2,h3,h4,h5⟩:=d4 (P:=P) y.cells.toList 0 w b (r0*ks.length+j) cs T hb hone (by omega)
    refine⟨w',?_,?_,h5,rfl,rfl⟩
    ·have:y.cells.size=ns.length:=by rw [<-Array.length_toList];exact hyl
     simp [Instr.storeAt,Instr.sureAddr,storeVar,aV e1,this,h1]
    ·have hltl:=cB hh;show Inv I V (toF (hupd h [(l,some (.tab ks (rows.set r0 (kG ks.length (rows.getD r0 []) j ns))))]++ [])) hR w';simp only [hupd,List.foldl_cons,List.foldl_nil,List.append_nil];rw [fP _ hltl];refine hi.replace (e:=.tab ks rows) hh (b:=b) (o':=.cells cs' T) ?_ ?_ h2 h4
     ·intro g hg;rcases hg with⟨e,_⟩ | ⟨b1,k1,hl1,cs1,T1,tl1,e4,_⟩
      ·exact(hne e).elim
      ·rw [hl]at hl1;cases hl1;exact⟨_,e4⟩
     ·refine .inr ⟨b,k,hl,cs',T,tail,rfl,?_,?_⟩
      ·rw [<-Array.length_toList,h3,eB,Array.length_toList];exact hk
      ·rw [h3,hcs,Nat.add_zero,q1,gD _ _ _ _ (by rw [<-q1,hyl,cS];omega)]
       congr 1
       have hsplit:rows=rows.take r0++rows.getD r0 []::rows.drop (r0+1):=by
        rw [gD',gE' hlt]
        simp
       have hset:rows.set r0 (kG ks.length (rows.getD r0 []) j ns)=rows.take r0++kG ks.length (rows.getD r0 []) j ns::rows.drop (r0+1):=by
        rw [List.set_eq_take_append_cons_drop,if_pos hlt]
       generalize hrd:rows.getD r0 []=row at*
       have e2:bN ks (rows.set r0 (kG ks.length row j ns))=bN ks (rows.take r0)++(cL ks (kG ks.length row j ns)++bN ks (rows.drop (r0+1))):=by
        rw [hset,gJ];rfl
       have e3:bN ks rows=bN ks (rows.take r0)++(cL ks row++bN ks (rows.drop (r0+1))):=by
        rw(occs:=.pos [1]) [hsplit]
        rw [gJ];rfl
       have hpre:(bN ks (rows.take r0)).length =r0*ks.length:=by rw [cS,List.length_take,Nat.min_eq_left (by omega)]
       rw [e2,e3,DH (by omega)]
       have hyl':(cL (List.take ns.length (List.drop j ks)) ns).length =ns.length:=by rw [<-q1];exact hyl
       have:=MB (bN ks (rows.take r0)) (cL ks row) (bN ks (rows.drop (r0+1))) (cL (List.take ns.length (List.drop j ks)) ns) j (by rw [hyl',cD];omega)
       rw [hpre]at this;exact this
   ·cases hr
  ·cases hr
 ·cases hr
end
end Go.Sh
namespace Go.Sh
open Go
variable [Con] {A:Type} {I:Itp A}
section
variable {P:Program} {V:Val}
theorem vW{ρ:Operand->AVal}{ρ':Operand->Value}(hρ: ∀x,Rep V (ρ x) (ρ' x)): ∀l:List (Nat×Operand),D9 V (l.map fun x=>(x.1,ρ x.2)) (l.map fun x=>(x.1,ρ' x.2))
 | []=>.nil
 | x::l=>.cons (hρ x.2) (vW hρ l)
theorem gE{ρ:Operand->AVal}{ρ':Operand->Value}(hρ: ∀x,Rep V (ρ x) (ρ' x)): ∀l:List Operand,aI V (l.map ρ) (l.map ρ')
 | []=>by simp [aI]
 | x::l=>⟨_,_,rfl,hρ x,gE hρ l⟩
theorem tF{w:World} : ∀(fs:List Field) (l:List (Nat×Nat)),(∀f∈fs,bW P f.type≠none)->
 ∃out,(fs.mapM (fun f=>do Pure.pure (f.offset,<-sizeOf f.type):Field->Sem (Nat×Nat))).run P w=.ok out w/\ ∀i:Nat,out[i]? =(fs[i]?).bind fun f=>(bW P f.type).map fun n=>(f.offset,n):=by
 intro fs
 induction fs with
 | nil=>intro l h;exact⟨[],by simp,by simp⟩
 | cons f fs ih=>
   intro l h;obtain⟨out,h1,h2⟩:=ih l (fun g hg=>h g (by simp [hg]))
   cases e:bW P f.type with
   | none=>exact(h f (by simp) e).elim
   | some n=>
     refine⟨(f.offset,n)::out,?_,?_⟩
     ·rw [List.mapM_cons];simp only [Sem.run_bind,aV e,Result.andThen_ok,Sem.run_pure,h1]
     ·intro i;cases i with
      | zero=>simp [e]
      | succ i=>simpa using h2 i
theorem EC{t:TypeId}{ps:List (Nat×AVal)}{qs:List (Nat×Value)}{v:AVal}{w:World}(h:EB P t ps=some v)(hp:D9 V ps qs):
 ∃v',(Instr.build t qs.toArray).run P w=.ok v' w/\Rep V v v':=by
 unfold EB at h;split at h
 ·rename_i z fs hz hu
  by_cases hall0:fs.toList.all (fun f=>(bW P f.type).isSome)=true
  case neg=>rw [if_neg hall0]at h;cases h
  rw [if_pos hall0]at h
  have hall: ∀f∈fs.toList,bW P f.type≠none:=by
   intro f hf;have:=List.all_eq_true.1 hall0 f hf;cases e:bW P f.type<;>simp_all
  obtain⟨zv,rfl,hzr⟩:=oA (w:=w) hz;cases hf:lF (kN P fs) (fW zv).cells ps with
  | none=>rw [hf]at h;cases h
  | some out=>
    rw [hf]at h;simp at h;subst h;obtain⟨pl,h1,h2⟩:=tF (P:=P) (w:=w) fs.toList [] hall
    have hpl:(fun i=>pl.toArray[i]?)=kN P fs:=by
     funext i;have e:=h2 i;unfold kN;have e2:pl.toArray[i]? =pl[i]? :=by simp
     rw [e2,e,Array.getElem?_toList];cases fs[i]? <;>rfl
    obtain⟨out',h3,h4⟩:=nX (V:=V) hp (cY V zv) hf;refine⟨.agg out',?_,⟨out',rfl,h4⟩⟩
    have hm:(fs.mapM (fun f=>do Pure.pure (f.offset,<-sizeOf f.type):Field->Sem (Nat×Nat))).run P w=.ok pl.toArray w:=by
     rw [Array.mapM_eq_mapM_toList,Sem.run_map,h1];rfl
    have h3':Instr.fill (fun i=>pl.toArray[i]?) zv.cells qs=some out':=by rw [hpl];exact h3
    simp only [Instr.build,Sem.run_bind,hzr,Result.andThen_ok,underlying,run_program,hu,Sem.run_pure,hm,h3']
 ·rename_i z len e hz hu;obtain⟨zv,rfl,hzr⟩:=oA (w:=w) hz;cases hs:bW P e with
  | none=>rw [hs]at h;cases h
  | some s=>
    rw [hs]at h;simp only at h;cases hf:lF (fun i=>some (i*s,s)) (fW zv).cells ps with
    | none=>rw [hf]at h;cases h
    | some out=>
      rw [hf]at h;simp at h;subst h;obtain⟨out',h3,h4⟩:=nX (V:=V) hp (cY V zv) hf;refine⟨.agg out',?_,⟨out',rfl,h4⟩⟩;simp only [Instr.build,Sem.run_bind,hzr,Result.andThen_ok,underlying,run_program,hu,Sem.run_pure,aV hs,h3]
 ·cases h
theorem sG{place:Nat->Option (Nat×Nat)} : ∀ {ps:List (Nat×AVal)} {cs out:List AVal},lF place cs ps=some out->out.length=cs.length
 | [],_,_,h=>by simp [lF]at h;rw [h]
 | (i,a)::ps,cs,out,h=>by
   simp only [lF]at h;split at h
   ·cases h
   ·split at h
    ·have:=sG h;rw [this,s6]
    ·cases h
theorem zL{l b k off len sz:Nat}(hl:V l=some (b,k))(h:off+len*sz<=k):Rep V (.slice l off len sz) (.slice (some ⟨b,off,none⟩) len len):=
 ⟨_,_,rfl,Nat.le_refl _,.inl ⟨b,k,hl,rfl,h⟩⟩
theorem MR{z:AVal}{zv:Value}(hz:aI V z.cells zv.cells.toList){s:Nat}(hs:z.cells.length=s)(h0:0<s)(n:Nat):
 aI V ((List.range n).map fun j=>z.cells.getD (j%s) (.raw undef)) ((List.range n).map fun j=>zv.cells[j%zv.cells.size]!):=by
 have hsz:zv.cells.size=s:=by rw [<-Array.length_toList,aI.length hz,hs]
 have key: ∀l:List Nat,aI V (l.map fun j=>z.cells.getD (j%s) (.raw undef)) (l.map fun j=>zv.cells[j%zv.cells.size]!):=by
  intro l
  induction l with
  | nil=>simp [aI]
  | cons j l ih=>
    refine⟨_,_,rfl,?_,ih⟩;have hlt:j%s<s:=Nat.mod_lt _ h0;obtain⟨y,hy,ry⟩:=aI.get hz (j%s) (z.cells.getD (j%s) (.raw undef)) (by rw [gD',gE' (by omega)];rfl)
    rw [Array.getElem?_toList]at hy;have:zv.cells[j%zv.cells.size]! =y:=by rw [hsz,getElem!_def,hy]
    show Rep V (z.cells.getD (j%s) (AVal.raw undef)) (zv.cells[j%zv.cells.size]!);rw [this];exact ry
 exact key _
theorem uB{t:TypeId}{len:Nat}{ps:List (Nat×AVal)}{qs:List (Nat×Value)}{h:aC A}{r:ORes A}{hR:PHeap}{w:World}{s:Sem Next}(hr:mR P t len ps h=some r)(hp:D9 V ps qs)
 (hi:Inv I V (toF h) hR w) (hn: ∀l,h.length<=l->l<h.length+r.new.length->V l=none) (hs:s=(do Pure.pure (.value (<-Instr.buildSlice t len qs.toArray)))):
 dG I P V h.length hR w r.v (toF (r.apply h)) r.new.length s:=by
 subst hs;unfold mR at hr;split at hr
 ·rename_i e hu;split at hr
  ·rename_i sz z hsz hz;split at hr
   ·rename_i hc;obtain⟨c1,c2,c3⟩:=hc;obtain⟨zv,rfl,hzr⟩:=oA (w:=w) hz;cases hf:lF (fun i=>some (i*sz,sz)) ((List.range (len*sz)).map fun j=>(fW zv).cells.getD (j%sz) (.raw undef)) ps with
    | none=>rw [hf]at hr;cases hr
    | some cs=>
      rw [hf]at hr;simp at hr;subst hr;have hzc:=cY V zv;have h1:=MR hzc c2 c3 (len*sz);obtain⟨out',h3,h4⟩:=nX (V:=V) (ds:=(Array.range (len*sz)).map fun j=>zv.cells[j%zv.cells.size]!) hp (by simpa using h1) hf
      have hlen:=sG hf;have hosz:out'.size=len*sz:=by rw [<-Array.length_toList,aI.length h4,hlen];simp
      have hv0:=hn h.length (Nat.le_refl _) (by simp)
      have hinv:=xP (T:=e) hi hv0 h4
      have hrep:Rep (V.add h.length (w.heap.size,out'.size)) (cond (Nat.beq len 0) .empty (.slice h.length 0 len sz)) (.slice (some ⟨w.heap.size,0,none⟩) len len):=by
       cases e0:Nat.beq len 0 with
       | true=>
         have:=Nat.eq_of_beq_eq_true e0;subst this;exact⟨_,rfl⟩
       | false=>exact zL (aKa _ _ _) (b:=w.heap.size) (k:=out'.size) (by omega)
      refine⟨_,_,V.add h.length (w.heap.size,out'.size),_,?_,.inl rfl,aKh hv0,i6,hrep,hinv,⟨rfl,rfl,by simp,fun _ _=>dP _ _ _ _⟩⟩
      have hbig: ¬(len*sz>2^24):=by omega
      simp only [Instr.buildSlice,Sem.run_bind,underlying,run_program,hu,Result.andThen_ok,Sem.run_pure,aV hsz];rw [if_neg hbig]
      by_cases h0:len*sz=0
      ·rw [if_pos h0];simp only [Sem.run_pure,Result.andThen_ok,Sem.run_bind];have:((Array.range (len*sz)).map fun j=>(#[]:Array Value)[j%(#[]:Array Value).size]!)=((Array.range (len*sz)).map fun j=>zv.cells[j%zv.cells.size]!):=by rw [h0,Array.range_zero',Array.map_empty,Array.map_empty]
       rw [this,h3];simp [newRow]
      ·rw [if_neg h0];simp only [Sem.run_pure,Result.andThen_ok,Sem.run_bind,hzr,h3];simp [newRow]
   ·cases hr
  ·cases hr
 ·cases hr
theorem uF{t:TypeId}{a i v:AVal}{p:Option Prop}{x y:Value}{w:World}(h:oY P t a i=some (v,p))(hp:onp p)(hx:Rep V a x)(hy:Rep V i y):
 ∃v',(Instr.indexAt t x y).run P w=.ok v' w/\Rep V v v':=by
 unfold oY at h;split at h
 ·rename_i e l off len sz k n hu;cases hs:bW P e with
  | none=>rw [hs]at h;cases h
  | some s=>
    rw [hs]at h;simp only [sI',pI']at h;obtain⟨rfl,rfl⟩:=h;obtain⟨base,cap,rfl,hcap,hb⟩:=hx;have e2:y=.int k n:=hy;subst e2;rcases hb with⟨b,kk,hl,rfl,hk⟩ | ⟨h0,_⟩
    ·refine⟨.pointer (some ⟨b,off+n.toNat*s,none⟩),?_,⟨b,kk,hl,rfl⟩⟩;simp [Instr.indexAt,asIntOf,underlying,hu,hp,aV hs,Addr.add_lit]
    ·subst h0;exact absurd hp.2 (by have:=hp.1;omega)
 ·rename_i len e l off k n hu;cases hs:bW P e with
  | none=>rw [hs]at h;cases h
  | some s=>
    rw [hs]at h;simp only [sI',pI']at h;obtain⟨rfl,rfl⟩:=h;obtain⟨b,kk,hl,rfl⟩:=hx;have e2:y=.int k n:=hy;subst e2;refine⟨.pointer (some ⟨b,off+n.toNat*s,none⟩),?_,⟨b,kk,hl,rfl⟩⟩;simp [Instr.indexAt,asIntOf,underlying,hu,hp,aV hs,Addr.add_lit,Instr.sureAddr]
 ·rename_i e c xs k n hu;split at h
  case isFalse=>cases h
  rename_i hs;simp only [sI',pI']at h;obtain⟨rfl,rfl⟩:=h;obtain⟨base,cap,rfl,hcap,hb⟩:=hx;have e2:y=.int k n:=hy;subst e2;have hp1:0<=n:=hp.1;have hp2:n<xs.length:=hp.2;rcases hb with⟨b,off,cs,T,fz,rfl,hcon,tail,htl⟩ | h0
  ·refine⟨.pointer (some ⟨b,off+n.toNat,none⟩),?_,b,off+n.toNat,cs,T,fz,rfl,hcon,?_⟩
   ·simp [Instr.indexAt,asIntOf,underlying,hu,hp,aV hs,Addr.add_lit]
   ·have hlt:n.toNat<xs.length:=by omega
    refine⟨Code1.val c (xs.getD n.toNat 0),[],?_,aKK _ c _,rfl⟩
    have:(cs.toList.drop (off+n.toNat))=Code1.val c (xs.getD n.toNat 0)::(xs.drop (n.toNat+1)).map (Code1.val c)++tail:=by
     rw [<-List.drop_drop,htl,List.drop_append_of_le_length (by simpa using Nat.le_of_lt hlt),<-List.map_drop,List.drop_eq_getElem_cons hlt,gD',gE' hlt]
     rfl
    rw [this];rfl
  ·subst h0;simp at hp2;omega
 ·rename_i e m w0 row k n hu;split at h
  case isFalse=>cases h
  rename_i hs;simp only [sI',pI']at h;obtain⟨rfl,rfl⟩:=h;obtain⟨base,cap,rfl,hcap,hb⟩:=hx;have e2:y=.int k n:=hy;subst e2;have hp1:0<=n:=hp.1;have hp2:n<m:=hp.2;rcases hb with⟨b,off,cs,T,fz,rfl,hcon,hrow⟩ | h0
  ·obtain⟨g1,g2⟩:=hrow n.toNat (by omega)
   refine⟨.pointer (some ⟨b,off+n.toNat*w0,none⟩),?_,b,off+n.toNat*w0,cs,T,fz,rfl,hcon,by rw [g1];exact g2⟩
   simp [Instr.indexAt,asIntOf,underlying,hu,hp,aV hs,Addr.add_lit]
  ·omega
 ·rename_i e l r m w0 k n hu;split at h
  case isFalse=>cases h
  rename_i hs;simp only [sI',pI']at h;obtain⟨rfl,rfl⟩:=h;obtain⟨base,cap,rfl,hcap,hb⟩:=hx;have e2:y=.int k n:=hy;subst e2;have hp1:0<=n:=hp.1;have hp2:n<m:=hp.2;rcases hb with⟨b,kk,hl,rfl,hk⟩ | ⟨h0,_⟩
  ·refine⟨.pointer (some ⟨b,r*w0+n.toNat*w0,none⟩),?_,b,kk,hl,by rw [Nat.add_mul,Nat.add_zero]⟩
   simp [Instr.indexAt,asIntOf,underlying,hu,hp,aV hs,Addr.add_lit]
  ·omega
 ·rename_i len e l r w0 j k n hu;cases hs:bW P e with
  | none=>rw [hs]at h;cases h
  | some s=>
    rw [hs]at h;simp only [sI',pI']at h;obtain⟨rfl,rfl⟩:=h;obtain⟨b,kk,hl,rfl⟩:=hx;have e2:y=.int k n:=hy;subst e2;refine⟨.pointer (some ⟨b,r*w0+j+n.toNat*s,none⟩),?_,b,kk,hl,by rw [Nat.add_assoc]⟩
    simp [Instr.indexAt,asIntOf,underlying,hu,hp,aV hs,Addr.add_lit,Instr.sureAddr]
 ·rename_i len e as k n hu;cases hs:bW P e with
  | none=>rw [hs]at h;cases h
  | some s=>
    rw [hs]at h;simp only [sI',pI']at h;obtain⟨rfl,rfl⟩:=h;obtain⟨b,off,cs,T,fz,rfl,hcon,hrep⟩:=hx;have e2:y=.int k n:=hy;subst e2;refine⟨.pointer (some ⟨b,off+n.toNat*s,none⟩),?_,xE hcon hrep⟩;simp [Instr.indexAt,asIntOf,underlying,hu,hp,aV hs,Addr.add_lit,Instr.sureAddr]
 ·cases h
theorem EJ{t:TypeId}{a i v:AVal}{p:Option Prop}{x y:Value}{w:World}(h:EG P t a i=some (v,p))(hp:onp p)(hx:Rep V a x)(hy:Rep V i y):
 ∃v',(Instr.index t x y).run P w=.ok v' w/\Rep V v v':=by
 unfold EG at h;split at h
 ·rename_i len e cs k n hu;cases hs:bW P e with
  | none=>rw [hs]at h;cases h
  | some s=>
    rw [hs]at h;simp only at h;cases ha:apart P e cs (n.toNat*s)with
    | none=>rw [ha]at h;cases h
    | some u=>
      rw [ha]at h;simp only [Option.map_some,sI',pI']at h;obtain⟨rfl,rfl⟩:=h;obtain⟨xs,rfl,rx⟩:=hx;have e2:y=.int k n:=hy;subst e2;obtain⟨v',h1,h2⟩:=n9 (w:=w) ha rx;refine⟨v',?_,h2⟩;simp [Instr.index,asIntOf,underlying,hu,hp,aV hs,h1]
 ·rename_i s k n hu;simp only [sI',pI']at h;obtain⟨rfl,rfl⟩:=h;have e1:x=.string s:=hx;have e2:y=.int k n:=hy;subst e1 e2;refine⟨.int .u8 ((s.data.getD n.toNat 0).toNat :Int),?_,rfl⟩;have hlt:n.toNat<s.data.size:=hp.2
  have hg:s[n.toNat]? =some (s.data.getD n.toNat 0):=by
   rw [getElem?_pos s n.toNat hp.2];congr 1;show s.data[n.toNat]=s.data.getD n.toNat 0;rw [Array.getD_eq_getD_getElem?,Array.getElem?_eq_getElem hlt];rfl
  simp [Instr.index,asIntOf,underlying,hu,hp.1,hg]
 ·cases h
theorem bF{k:IntKind}{n:Int}{y:Nat}{c:BoundsCode}{w:World}(h0:0<=n)(h1:n.toNat<=y):(Instr.sliceBound (.int k n) y c).run P w=.ok n.toNat w:=by
 have:0<=n/\n<=(y:Int):=⟨h0,by omega⟩
 simp [Instr.sliceBound,asIntOf,this]
theorem dF{l off len sz lo hi:Nat}{base:Option Addr}{cap:Nat}(hc:len<=cap)
 (hb:(∃b k,V l=some (b,k)/\base=some ⟨b,off,none⟩/\off+cap*sz<=k)\/(len=0/\cap=0)) (h1:lo<=hi) (h2:hi<=len):
 Rep V (.slice l (off+lo*sz) (hi - lo) sz) (.slice (if cap=lo then base else base.map (·.add (lo*sz))) (hi - lo) (cap - lo)):=by
 refine⟨_,_,rfl,by omega,?_⟩
 by_cases hcl:cap=lo
 ·right;omega
 ·rw [if_neg hcl];rcases hb with⟨b,k,hl,rfl,hk⟩ | ⟨e1,e2⟩
  ·left;refine⟨b,k,hl,by simp [Addr.add_lit],?_⟩
   have:off+lo*sz+(cap - lo)*sz=off+cap*sz:=by
    rw [Nat.add_assoc,<-Nat.add_mul];congr 2;omega
   omega
  ·right;omega
theorem iA{c:Code1}{xs:List Int}{lo hi:Nat}{base:Option Addr}{cap:Nat}(hc:xs.length<=cap)
 (hb:(∃b off cs T fz,base=some ⟨b,off,none⟩/\Con.con b=some (.cells cs T fz)/\ ∃tail,cs.toList.drop off=xs.map (Code1.val c)++tail)\/xs=[]) (h1:lo<=hi) (h2:hi<=xs.length):
 Rep V (.iview c ((xs.take hi).drop lo)) (.slice (if cap=lo then base else base.map (·.add (lo*1))) (hi - lo) (cap - lo)):=by
 have hl:((xs.take hi).drop lo).length =hi - lo:=by rw [List.length_drop,List.length_take];omega
 refine⟨_,cap - lo,by rw [hl],by rw [hl];omega,?_⟩
 by_cases hcl:cap=lo
 ·right;exact List.length_eq_zero_iff.1 (by rw [hl];omega)
 ·rw [if_neg hcl];rcases hb with⟨b,off,cs,T,fz,rfl,hcon,tail,ht⟩ | e1
  ·left;refine⟨b,off+lo,cs,T,fz,by simp [Addr.add_lit],hcon,(xs.drop hi).map (Code1.val c)++tail,?_⟩
   rw [<-List.drop_drop,ht,List.drop_append_of_le_length (by simp;omega),<-List.append_assoc,<-List.map_append,<-List.map_drop]
   congr 2;have e:(xs.take hi++xs.drop hi).drop lo=(xs.take hi).drop lo++xs.drop hi:=List.drop_append_of_le_length (by rw [List.length_take];omega)
   rw [List.take_append_drop]at e;exact e
  ·right;rw [e1];simp
theorem jE{n w0:Nat}{row:Nat->List AVal}{lo hi:Nat}{base:Option Addr}{cap:Nat}(hc:n<=cap)
 (hb:(∃b off cs T fz,base=some ⟨b,off,none⟩/\Con.con b=some (.cells cs T fz)/\ ∀i,i<n->(row i).length =w0/\aI (fun _=>none) (row i) ((cs.toList.drop (off+i*w0)).take w0))\/n=0) (h1:lo<=hi) (h2:hi<=n):
 Rep V (.view (hi - lo) w0 (fun i=>row (lo+i))) (.slice (if cap=lo then base else base.map (·.add (lo*w0))) (hi - lo) (cap - lo)):=by
 refine⟨_,cap - lo,rfl,by omega,?_⟩
 by_cases hcl:cap=lo
 ·right;omega
 ·rw [if_neg hcl];rcases hb with⟨b,off,cs,T,fz,rfl,hcon,hr⟩ | e1
  ·left;refine⟨b,off+lo*w0,cs,T,fz,by simp [Addr.add_lit],hcon,?_⟩
   intro i hi';have:=hr (lo+i) (by omega)
   rw [Nat.add_mul,<-Nat.add_assoc]at this;exact this
  ·right;omega
theorem DB{a:AVal}{x:Value}(h:a.isSlice=true)(hx:Rep V a x): ∃base len cap,x=.slice base len cap:=by
 unfold AVal.isSlice at h;split at h
 ·obtain⟨base,cap,e,_⟩:=hx;exact⟨_,_,_,e⟩
 ·obtain⟨base,cap,e,_⟩:=hx;exact⟨_,_,_,e⟩
 ·obtain⟨base,cap,e,_⟩:=hx;exact⟨_,_,_,e⟩
 ·obtain⟨base,cap,e,_⟩:=hx;exact⟨_,_,_,e⟩
 ·obtain⟨base,e⟩:=hx;exact⟨_,_,_,e⟩
 ·exact⟨_,_,_,hx⟩
 ·cases h
theorem gF{l r len sz lo hi:Nat}{base:Option Addr}{cap:Nat}(hc:len<=cap)
 (hb:(∃b k,V l=some (b,k)/\base=some ⟨b,r*sz,none⟩/\r*sz+cap*sz<=k)\/(len=0/\cap=0)) (h1:lo<=hi) (h2:hi<=len):
 Rep V (.tslice l (r+lo) (hi - lo) sz) (.slice (if cap=lo then base else base.map (·.add (lo*sz))) (hi - lo) (cap - lo)):=by
 obtain⟨base',cap',e,c1,c2⟩:=dF hc hb h1 h2;simp only [Value.slice.injEq]at e;obtain⟨e1,e2,e3⟩:=e;subst e3;refine⟨base',_,by rw [e1],c1,?_⟩
 rw [Nat.add_mul];exact c2
theorem EV{t:TypeId}{a v:AVal}{lo hi mx:Option AVal}{p:Option Prop}{x:Value}{lo' hi' mx':Option Value}{w:World}(h:EU P t a lo hi mx=some (v,p))(hp:onp p)(hx:Rep V a x)
 (hlo: ∀z,lo=some z-> ∃z',lo'=some z'/\Rep V z z') (hlo0:lo=none->lo'=none) (hhi: ∀z,hi=some z-> ∃z',hi'=some z'/\Rep V z z') (hhi0:hi=none->hi'=none) (hmx: ∀z,mx=some z-> ∃z',mx'=some z'/\Rep V z z') (hmx0:mx=none->mx'=none):
 ∃v',(Instr.sliceAt t x lo' hi' mx').run P w=.ok v' w/\Rep V v v':=by
 unfold EU at h;split at h
 ·rename_i e km m hu;split at h
  ·rename_i s k b hs;split at h
   case isFalse=>cases h
   rename_i hsl;simp only [sI',pI']at h;obtain⟨rfl,rfl⟩:=h;obtain⟨rfl,rfl⟩:=hp;obtain⟨base,len,cap,rfl⟩:=DB hsl hx;obtain⟨z2,e2,r2⟩:=hhi _ rfl;have:z2=.int k 0:=r2;subst this;obtain⟨z3,e3,r3⟩:=hmx _ rfl;have:z3=.int km 0:=r3;subst this;rw [hlo0 rfl,e2,e3];refine⟨.slice base 0 0,?_,⟨base,rfl⟩⟩;simp [Instr.sliceAt,Instr.slice,underlying,hu,Instr.sliceBounds,aV hs,bF (y:=cap) (n:=0) (by omega) (by omega),bF (y:=0) (n:=0) (by omega) (by omega)]
  ·cases h
 ·rename_i e l r n0 w0 hu;rw [hmx0 rfl];split at h
  case isFalse=>cases h
  rename_i hs;obtain⟨base,cap,rfl,hcap,hb⟩:=hx;split at h
  ·rw [hlo0 rfl,hhi0 rfl];simp only [sI',pI']at h;obtain⟨rfl,rfl⟩:=h;have hr:=gF (V:=V) hcap hb (lo:=0) (hi:=n0) (Nat.zero_le _) (Nat.le_refl _);simp only [Nat.zero_mul,Nat.sub_zero,Nat.add_zero]at hr;refine⟨_,?_,hr⟩;simp [Instr.sliceAt,Instr.slice,underlying,hu,Instr.sliceBounds,aV hs]
  ·rename_i k n;obtain⟨z',e1,r1⟩:=hlo _ rfl;have:z'=.int k n:=r1;subst this;rw [e1,hhi0 rfl];simp only [sI',pI']at h;obtain⟨rfl,rfl⟩:=h;refine⟨_,?_,gF (V:=V) hcap hb (lo:=n.toNat) (hi:=n0) hp.2 (Nat.le_refl _)⟩;simp [Instr.sliceAt,Instr.slice,underlying,hu,Instr.sliceBounds,aV hs,bF hp.1 hp.2]
  ·rename_i k n;obtain⟨z',e1,r1⟩:=hhi _ rfl;have:z'=.int k n:=r1;subst this;rw [e1,hlo0 rfl];simp only [sI',pI']at h;obtain⟨rfl,rfl⟩:=h;have hr:=gF (V:=V) hcap hb (lo:=0) (hi:=n.toNat) (Nat.zero_le _) hp.2;simp only [Nat.zero_mul,Nat.sub_zero,Nat.add_zero]at hr;refine⟨_,?_,hr⟩;simp [Instr.sliceAt,Instr.slice,underlying,hu,Instr.sliceBounds,aV hs,bF (y:=cap) hp.1 (Nat.le_trans hp.2 hcap)]
  ·rename_i k n k' m;obtain⟨z',e1,r1⟩:=hlo _ rfl;have:z'=.int k n:=r1;subst this;obtain⟨z2,e2,r2⟩:=hhi _ rfl;have:z2=.int k' m:=r2;subst this;rw [e1,e2];simp only [sI',pI']at h;obtain⟨rfl,rfl⟩:=h;obtain⟨p1,p2,p3,p4⟩:=hp;refine⟨_,?_,gF (V:=V) hcap hb (lo:=n.toNat) (hi:=m.toNat) p2 p4⟩;simp [Instr.sliceAt,Instr.slice,underlying,hu,Instr.sliceBounds,aV hs,bF (y:=cap) p3 (Nat.le_trans p4 hcap),bF (y:=m.toNat) p1 p2]
  ·cases h
 ·rename_i e l off len sz hu;rw [hmx0 rfl];obtain⟨base,cap,rfl,hcap,hb⟩:=hx;split at h
  ·rename_i s hs;rw [hlo0 rfl,hhi0 rfl];split at h
   ·rename_i hsz;subst hsz;simp only [sI',pI']at h;obtain⟨rfl,rfl⟩:=h;have hr:=dF hcap hb (Nat.zero_le len) (Nat.le_refl len);simp only [Nat.zero_mul,Nat.add_zero,Nat.sub_zero]at hr;refine⟨_,?_,hr⟩;simp [Instr.sliceAt,Instr.slice,underlying,hu,Instr.sliceBounds,aV hs]
   ·cases h
  ·rename_i s k n hs;obtain⟨z',e1,r1⟩:=hlo _ rfl;have:z'=.int k n:=r1;subst this;rw [e1,hhi0 rfl];split at h
   ·rename_i hsz;subst hsz;simp only [sI',pI']at h;obtain⟨rfl,rfl⟩:=h;refine⟨_,?_,dF hcap hb (lo:=n.toNat) (hi:=len) hp.2 (Nat.le_refl len)⟩;simp [Instr.sliceAt,Instr.slice,underlying,hu,Instr.sliceBounds,aV hs,bF hp.1 hp.2]
   ·cases h
  ·rename_i s k n hs;obtain⟨z',e1,r1⟩:=hhi _ rfl;have:z'=.int k n:=r1;subst this;rw [e1,hlo0 rfl];split at h
   ·rename_i hsz;subst hsz;simp only [sI',pI']at h;obtain⟨rfl,rfl⟩:=h;have hr:=dF hcap hb (lo:=0) (hi:=n.toNat) (Nat.zero_le _) hp.2;simp only [Nat.zero_mul,Nat.add_zero,Nat.sub_zero]at hr;refine⟨_,?_,hr⟩;simp [Instr.sliceAt,Instr.slice,underlying,hu,Instr.sliceBounds,aV hs,bF (y:=cap) hp.1 (by omega)]
   ·cases h
  ·rename_i s k n k' m hs;obtain⟨z',e1,r1⟩:=hlo _ rfl;have:z'=.int k n:=r1;subst this;obtain⟨z2,e2,r2⟩:=hhi _ rfl;have:z2=.int k' m:=r2;subst this;rw [e1,e2];split at h
   ·rename_i hsz;subst hsz;simp only [sI',pI']at h;obtain⟨rfl,rfl⟩:=h;obtain⟨p1,p2,p3,p4⟩:=hp;refine⟨_,?_,dF hcap hb (lo:=n.toNat) (hi:=m.toNat) p2 p4⟩;simp [Instr.sliceAt,Instr.slice,underlying,hu,Instr.sliceBounds,aV hs,bF (y:=cap) p3 (by omega),bF (y:=m.toNat) p1 p2]
   ·cases h
  ·cases h
 ·rename_i e c xs hu;rw [hmx0 rfl];split at h
  case isFalse=>cases h
  rename_i hs;obtain⟨base,cap,rfl,hcap,hb⟩:=hx;split at h
  ·rw [hlo0 rfl,hhi0 rfl];simp only [sI',pI']at h;obtain⟨rfl,rfl⟩:=h;have hr:=iA (V:=V) hcap hb (lo:=0) (hi:=xs.length) (Nat.zero_le _) (Nat.le_refl _);simp only [Nat.zero_mul,Nat.sub_zero,List.drop_zero,List.take_length]at hr;refine⟨_,?_,hr⟩;simp [Instr.sliceAt,Instr.slice,underlying,hu,Instr.sliceBounds,aV hs]
  ·rename_i k n;obtain⟨z',e1,r1⟩:=hlo _ rfl;have:z'=.int k n:=r1;subst this;rw [e1,hhi0 rfl];simp only [sI',pI']at h;obtain⟨rfl,rfl⟩:=h;have hr:=iA (V:=V) hcap hb (lo:=n.toNat) (hi:=xs.length) hp.2 (Nat.le_refl _);rw [List.take_length]at hr;refine⟨_,?_,hr⟩;simp [Instr.sliceAt,Instr.slice,underlying,hu,Instr.sliceBounds,aV hs,bF hp.1 hp.2]
  ·rename_i k n;obtain⟨z',e1,r1⟩:=hhi _ rfl;have:z'=.int k n:=r1;subst this;rw [e1,hlo0 rfl];simp only [sI',pI']at h;obtain⟨rfl,rfl⟩:=h;have hr:=iA (V:=V) hcap hb (lo:=0) (hi:=n.toNat) (Nat.zero_le _) hp.2;simp only [Nat.zero_mul,Nat.sub_zero,List.drop_zero]at hr;refine⟨_,?_,hr⟩;simp [Instr.sliceAt,Instr.slice,underlying,hu,Instr.sliceBounds,aV hs,bF (y:=cap) hp.1 (Nat.le_trans hp.2 hcap)]
  ·rename_i k n k' m;obtain⟨z',e1,r1⟩:=hlo _ rfl;have:z'=.int k n:=r1;subst this;obtain⟨z2,e2,r2⟩:=hhi _ rfl;have:z2=.int k' m:=r2;subst this;rw [e1,e2];simp only [sI',pI']at h;obtain⟨rfl,rfl⟩:=h;obtain⟨p1,p2,p3,p4⟩:=hp;refine⟨_,?_,iA (V:=V) hcap hb (lo:=n.toNat) (hi:=m.toNat) p2 p4⟩;simp [Instr.sliceAt,Instr.slice,underlying,hu,Instr.sliceBounds,aV hs,bF (y:=cap) p3 (Nat.le_trans p4 hcap),bF (y:=m.toNat) p1 p2]
  ·cases h
 ·rename_i e q w0 row hu;rw [hmx0 rfl];split at h
  case isFalse=>cases h
  rename_i hs;obtain⟨base,cap,rfl,hcap,hb⟩:=hx;split at h
  ·rw [hlo0 rfl,hhi0 rfl];simp only [sI',pI']at h;obtain⟨rfl,rfl⟩:=h;have hr:=jE (V:=V) hcap hb (lo:=0) (hi:=q) (Nat.zero_le _) (Nat.le_refl _);simp only [Nat.zero_mul,Nat.sub_zero,Nat.zero_add]at hr;refine⟨_,?_,hr⟩;simp [Instr.sliceAt,Instr.slice,underlying,hu,Instr.sliceBounds,aV hs]
  ·rename_i k n;obtain⟨z',e1,r1⟩:=hlo _ rfl;have:z'=.int k n:=r1;subst this;rw [e1,hhi0 rfl];simp only [sI',pI']at h;obtain⟨rfl,rfl⟩:=h;refine⟨_,?_,jE (V:=V) hcap hb (lo:=n.toNat) (hi:=q) hp.2 (Nat.le_refl _)⟩;simp [Instr.sliceAt,Instr.slice,underlying,hu,Instr.sliceBounds,aV hs,bF hp.1 hp.2]
  ·rename_i k n;obtain⟨z',e1,r1⟩:=hhi _ rfl;have:z'=.int k n:=r1;subst this;rw [e1,hlo0 rfl];simp only [sI',pI']at h;obtain⟨rfl,rfl⟩:=h;have hr:=jE (V:=V) hcap hb (lo:=0) (hi:=n.toNat) (Nat.zero_le _) hp.2;simp only [Nat.zero_mul,Nat.sub_zero,Nat.zero_add]at hr;refine⟨_,?_,hr⟩;simp [Instr.sliceAt,Instr.slice,underlying,hu,Instr.sliceBounds,aV hs,bF (y:=cap) hp.1 (Nat.le_trans hp.2 hcap)]
  ·rename_i k n k' m;obtain⟨z',e1,r1⟩:=hlo _ rfl;have:z'=.int k n:=r1;subst this;obtain⟨z2,e2,r2⟩:=hhi _ rfl;have:z2=.int k' m:=r2;subst this;rw [e1,e2];simp only [sI',pI']at h;obtain⟨rfl,rfl⟩:=h;obtain⟨p1,p2,p3,p4⟩:=hp;refine⟨_,?_,jE (V:=V) hcap hb (lo:=n.toNat) (hi:=m.toNat) p2 p4⟩;simp [Instr.sliceAt,Instr.slice,underlying,hu,Instr.sliceBounds,aV hs,bF (y:=cap) p3 (Nat.le_trans p4 hcap),bF (y:=m.toNat) p1 p2]
  ·cases h
 ·rename_i s hu;rw [hmx0 rfl];have e1:x=.string s:=hx;subst e1;split at h
  ·rw [hlo0 rfl,hhi0 rfl];simp only [sI',pI']at h;obtain⟨rfl,rfl⟩:=h;refine⟨_,?_,rfl⟩;simp [Instr.sliceAt,Instr.slice,underlying,hu,Instr.sliceBounds]
  ·rename_i k n;obtain⟨z',e1,r1⟩:=hlo _ rfl;have:z'=.int k n:=r1;subst this;rw [e1,hhi0 rfl];simp only [sI',pI']at h;obtain⟨rfl,rfl⟩:=h;refine⟨_,?_,rfl⟩;simp [Instr.sliceAt,Instr.slice,underlying,hu,Instr.sliceBounds,bF hp.1 hp.2]
  ·rename_i k n;obtain⟨z',e1,r1⟩:=hhi _ rfl;have:z'=.int k n:=r1;subst this;rw [e1,hlo0 rfl];simp only [sI',pI']at h;obtain⟨rfl,rfl⟩:=h;refine⟨_,?_,rfl⟩;simp [Instr.sliceAt,Instr.slice,underlying,hu,Instr.sliceBounds,bF hp.1 hp.2]
  ·rename_i k n k' m;obtain⟨z',e1,r1⟩:=hlo _ rfl;have:z'=.int k n:=r1;subst this;obtain⟨z2,e2,r2⟩:=hhi _ rfl;have:z2=.int k' m:=r2;subst this;rw [e1,e2];simp only [sI',pI']at h;obtain⟨rfl,rfl⟩:=h;obtain⟨p1,p2,p3,p4⟩:=hp;refine⟨_,?_,rfl⟩;simp [Instr.sliceAt,Instr.slice,underlying,hu,Instr.sliceBounds,bF (y:=s.size) p3 p4,bF (y:=m.toNat) p1 p2]
  ·cases h
 ·cases h
end
end Go.Sh
namespace Go.Sh
open Go
variable [Con] {A:Type} {I:Itp A}
section
variable {P:Program} {V:Val}
theorem cU{h:aC A}{r:ORes A}(h1:r.upd=[])(h2:r.new=[]):r.apply h=h:=by
 simp [ORes.apply,h1,h2,hupd]
def cN(V:Val):aG A->List Value->Prop
 | .ints c xs,l=>l=xs.map c.val
 | .cells vs,l=>aI V vs l
 | .abs _ _,_=>False
 | .tab ks rows,l=>l=bN ks rows
 | .imap _ _ _,_=>False
 | .iter _ _ _ _ _ _,_=>False
theorem cN.mono{V V':Val}(hV:V.le V'){e:aG A}{l:List Value}(h:cN V e l):cN V' e l:=by
 cases e with
 | ints c xs=>exact h
 | cells vs=>exact aI.mono hV _ _ h
 | abs t ps=>exact h
 | tab ks rows=>exact h
 | imap kk vc m=>exact h
 | iter lm kk vc m left cur=>exact h
theorem kA{V:Val}{l b k:Nat}{e:aG A}{row tail:List Value}{cs:Array Value}{T:TypeId}(hl:V l=some (b,k))(hr:cN V e row)(hc:cs.toList=row++tail)(hk:cs.size=k):
 e.interp I V l (.one b (.cells cs T)):=by
 cases e with
 | ints c xs=>have hr':row=xs.map c.val:=hr;subst hr';exact .inr ⟨b,k,hl,cs,T,tail,rfl,hk,hc⟩
 | cells vs=>exact⟨b,k,hl,cs,T,rfl,hk,row,tail,hc,hr⟩
 | abs t ps=>exact hr.elim
 | tab ks rows=>have hr':row=_:=hr;subst hr';exact .inr ⟨b,k,hl,cs,T,tail,rfl,hk,hc⟩
 | imap kk vc m=>exact hr.elim
 | iter lm kk vc m left cur=>exact hr.elim
theorem qL{V V':Val}{l m:Nat}{e:aG A}{g:PHeap}(hV:V.le V')(h: ∀x,V l=some x->V' m=some x)(hi:e.interp I V l g):e.interp I V' m g:=by
 cases e with
 | cells vs=>
   obtain⟨b,k,e1,cs,T,e2,e3,rs,tl,e4,r⟩:=hi;exact⟨b,k,h _ e1,cs,T,e2,e3,rs,tl,e4,aI.mono hV _ _ r⟩
 | ints c xs=>
   rcases hi with⟨e1,e2,b,hl⟩ | ⟨b,k,e1,r⟩
   ·exact .inl ⟨e1,e2,b,h _ hl⟩
   ·exact .inr ⟨b,k,h _ e1,r⟩
 | abs t ps=>
   obtain⟨b,k,e1,bs,hb,r⟩:=hi;exact⟨b,k,h _ e1,bs,fQ.mono hV hb,r⟩
 | tab ks rows=>
   rcases hi with⟨e1,e2,b,hl⟩ | ⟨b,k,e1,r⟩
   ·exact .inl ⟨e1,e2,b,h _ hl⟩
   ·exact .inr ⟨b,k,h _ e1,r⟩
 | imap kk vc m=>
   obtain⟨b,k,e1,r⟩:=hi;exact⟨b,k,h _ e1,r⟩
 | iter lm kk vc m left cur=>
   obtain⟨b,k,e1,bm,km,hm,r⟩:=hi;exact⟨b,k,h _ e1,bm,km,hV _ _ hm,r⟩
theorem hU{a:AVal}(h:fS a=true):a=.raw (.slice none 0 0):=by
 unfold fS at h;split at h
 ·rfl
 ·cases h
theorem kU{c:Code1} : ∀ {vs:List AVal} {ns:List Int} {l:List Value},gK c vs=some ns->aI V vs l->l=ns.map c.val
 | [],ns,l,h,r=>by simp [gK]at h;subst h;exact r
 | x::xs,ns,l,h,⟨v,vs',e,rv,rs⟩=>by
   simp only [gK]at h;split at h
   ·rename_i n ns' h1 h2;simp at h;subst h;subst e;rw [jB h1 rv,kU h2 rs];rfl
   ·cases h
theorem nN{ks:List Code1} : ∀ {n:Nat} {vs:List AVal} {rs:List (List Int)} {l:List Value},mD ks n vs=some rs->aI V vs l->l=bN ks rs
 | 0,[],rs,l,h,r=>by simp [mD]at h;subst h;exact r
 | 0,_::_,_,_,h,_=>by simp [mD]at h
 | n+1,vs,rs,l,h,r=>by
   simp only [mD]at h;split at h
   ·rename_i a as h1 h2;simp at h;subst h;obtain⟨q1,_⟩:=pL h1 (aI.take r ks.length);have q2:=nN h2 (aI.drop r ks.length);rw [<-List.take_append_drop ks.length l,q1,q2];simp [bN]
   ·cases h
theorem wX{e ey e':aG A}{row ws:List Value}(h:mS e ey=some e')(h1:cN V e row)(h2:cN V ey ws):cN V e' (row++ws):=by
 unfold mS at h;split at h
 ·split at h
  ·rename_i hc;subst hc;simp at h;subst h;have e1:row=_:=h1;have e2:ws=_:=h2;subst e1 e2;simp [cN]
  ·cases h
 ·rename_i c xs vs;cases hy:gK c vs with
  | none=>rw [hy]at h;cases h
  | some ys=>
    rw [hy]at h;simp at h;subst h;have e1:row=_:=h1;have e2:=kU hy h2;subst e1 e2;simp [cN]
 ·rename_i vs c ys;cases hy:gK c vs with
  | none=>rw [hy]at h;cases h
  | some xs=>
    rw [hy]at h;simp at h;subst h;have e1:=kU hy h1;have e2:ws=_:=h2;subst e1 e2;simp [cN]
 ·simp at h;subst h;exact aI.append h1 h2
 ·split at h
  ·rename_i hc;subst hc;simp at h;subst h;have e1:row=_:=h1;have e2:ws=_:=h2;subst e1 e2;exact(gJ _ _ _).symm
  ·cases h
 ·rename_i ks xs vs;cases hy:mD ks (vs.length / ks.length) vs with
  | none=>rw [hy]at h;cases h
  | some ys=>
    rw [hy]at h;simp at h;subst h;have e1:row=_:=h1;have e2:=nN hy h2;subst e1 e2;exact(gJ _ _ _).symm
 ·cases h
theorem aEI{h:bH A}{hR:PHeap}{w:World}(hi:Inv I V h hR w){l len cap sz:Nat}{e:aG A}(hl:h l=some e){base:Option Addr}(hsz:0<sz)
 (hrow:(∃c xs,e=.ints c xs/\len=xs.length/\sz=1)\/(∃vs,e=.cells vs/\len*sz=vs.length)\/(∃ks rows,e=.tab ks rows/\len=rows.length/\sz=ks.length))
 (hb:(∃b k,V l=some (b,k)/\base=some ⟨b,0,none⟩/\0+cap*sz<=k)\/(len=0/\cap=0)):
 ∃row,cN V e row/\row.length=len*sz/\
  ((∃b k cs T tail,V l=some (b,k)/\base=some ⟨b,0,none⟩/\w.heap[b]? =some (.cells cs T)/\cs.size=k/\cs.toList=row++tail/\cap*sz<=k/\
    ∀g,e.interp I V l g-> ∃o,g=.one b o)\/(len=0/\cap=0)):=by
 have zero: ∀n:Nat,0+n*sz<=0->n=0:=by
  intro n hn;rcases Nat.eq_zero_or_pos n with h | h
  ·exact h
  ·have:=Nat.mul_pos h hsz;omega
 rcases hrow with⟨c,xs,rfl,rfl,rfl⟩ | ⟨vs,rfl,hlen⟩ | ⟨ks,rows,rfl,rfl,rfl⟩
 ·refine⟨xs.map c.val,rfl,by simp,?_⟩
  rcases hb with⟨b',k',e5,e6,e7⟩ | hb
  ·by_cases hk0:k'=0
   ·subst hk0;have hc:=zero cap e7;obtain⟨hs,h1,h2,h3,h4,h5,h6⟩:=hi;rcases h1 l _ hl with⟨q1,_⟩ | ⟨b,k,q1,cs,T,tail,q2,q3,q4⟩
    ·right;exact⟨by simp [q1],hc⟩
    ·rw [e5]at q1;cases q1
     have:xs.length+tail.length=0:=by
      have:=congrArg List.length q4;rw [Array.length_toList,q3]at this;simpa using this.symm
     right;exact⟨by omega,hc⟩
   ·left
    have hown: ∀g,(aG.ints c xs:aG A).interp I V l g-> ∃b k cs T tail,V l=some (b,k)/\g=.one b (.cells cs T)/\cs.size=k/\cs.toList=xs.map c.val++tail:=by
     intro g hg;rcases hg with⟨_,_,b,q⟩ | ⟨b,k,q1,cs,T,tail,q2,q3,q4⟩
     ·rw [e5]at q;cases q;exact(hk0 rfl).elim
     ·exact⟨b,k,cs,T,tail,q1,q2,q3,q4⟩
    obtain⟨hs,h1,h2,h3,h4,h5,h6⟩:=hi;obtain⟨b,k,cs,T,tail,q1,q2,q3,q4⟩:=hown _ (h1 l _ hl);have hsub:=h5 l;rw [q2]at hsub;rw [e5]at q1;cases q1;refine⟨b',k',cs,T,tail,e5,e6,PHeap.one_sub.1 hsub,q3,q4,by omega,?_⟩
    intro g hg;obtain⟨b,k,cs,T,tail,q1,q2,_,_⟩:=hown g hg;rw [e5]at q1;cases q1;exact⟨_,q2⟩
  ·exact .inr hb
 ·obtain⟨b,k,cs,T,rs,tail,e1,e2,e3,e4,e5⟩:=hi.cells hl;refine⟨rs,e5,by rw [aI.length e5];exact hlen.symm,?_⟩
  rcases hb with⟨b',k',e6,e7,e8⟩ | hb
  ·rw [e1]at e6;cases e6;refine .inl ⟨b,k,cs,T,tail,e1,e7,e2,e3,e4,by omega,?_⟩
   rintro g ⟨b1,k1,q1,cs1,T1,q2,_⟩;rw [e1]at q1;cases q1;exact⟨_,q2⟩
  ·exact .inr hb
 ·refine⟨bN ks rows,rfl,cS ks rows,?_⟩;rcases hb with⟨b',k',e5,e6,e7⟩ | hb
  ·by_cases hk0:k'=0
   ·subst hk0;have hc:=zero cap e7;obtain⟨hs,h1,h2,h3,h4,h5,h6⟩:=hi;rcases h1 l _ hl with⟨q1,_⟩ | ⟨b,k,q1,cs,T,tail,q2,q3,q4⟩
    ·right;exact⟨by simp [q1],hc⟩
    ·rw [e5]at q1;cases q1
     have:rows.length*ks.length+tail.length=0:=by
      have:=congrArg List.length q4;rw [Array.length_toList,q3,List.length_append,cS]at this;exact this.symm
     have h0:rows.length*ks.length=0:=by omega
     right;exact⟨zero rows.length (by omega),hc⟩
   ·left
    have hown: ∀g,(aG.tab ks rows:aG A).interp I V l g-> ∃b k cs T tail,V l=some (b,k)/\g=.one b (.cells cs T)/\cs.size=k/\cs.toList=bN ks rows++tail:=by
     intro g hg;rcases hg with⟨_,_,b,q⟩ | ⟨b,k,q1,cs,T,tail,q2,q3,q4⟩
     ·rw [e5]at q;cases q;exact(hk0 rfl).elim
     ·exact⟨b,k,cs,T,tail,q1,q2,q3,q4⟩
    obtain⟨hs,h1,h2,h3,h4,h5,h6⟩:=hi;obtain⟨b,k,cs,T,tail,q1,q2,q3,q4⟩:=hown _ (h1 l _ hl);have hsub:=h5 l;rw [q2]at hsub;rw [e5]at q1;cases q1;refine⟨b',k',cs,T,tail,e5,e6,PHeap.one_sub.1 hsub,q3,q4,by omega,?_⟩
    intro g hg;obtain⟨b,k,cs,T,tail,q1,q2,_,_⟩:=hown g hg;rw [e5]at q1;cases q1;exact⟨_,q2⟩
  ·exact .inr hb
theorem nR{ks:List Code1}{rows:List (List Int)}(hk:0<ks.length)(h: []=bN ks rows):rows=[]:=by
 have:=congrArg List.length h;rw [cS]at this;have h0:rows.length*ks.length=0:=this.symm;cases rows with
 | nil=>rfl
 | cons x xs=>
   simp only [List.length_cons,Nat.succ_mul]at h0;omega
def aG.wide:aG A->Bool
 | .tab ks _=>Nat.blt 0 ks.length
 | _=>true
theorem JQ{V V':Val}{l m:Nat}{e ey e':aG A}{g:PHeap}(hwd:e.wide=true)(hj:mS e ey=some e')(h1:cN V e [])(h2:cN V ey [])(hV:V.le V')(h: ∀x,V l=some x->V' m=some x)(hi:e.interp I V l g):e'.interp I V' m g:=by
 have hm:=qL (I:=I) hV h hi;unfold mS at hj;split at hj
 ·split at hj
  ·rename_i hc;subst hc;rename_i c xs ys;simp at hj;subst hj;have e2:([]:List Value)=ys.map c.val:=h2;have:ys=[]:=by cases ys with | nil=>rfl | cons y ys=>cases e2
   subst this
   simpa using hm
  ·cases hj
 ·rename_i c xs vs;have hvs:vs=[]:=List.length_eq_zero_iff.1 (aI.length h2).symm;subst hvs;simp [gK]at hj;subst hj
  simpa using hm
 ·rename_i vs c ys;have hvs:vs=[]:=List.length_eq_zero_iff.1 (aI.length h1).symm;subst hvs;simp [gK]at hj;subst hj;have e2:([]:List Value)=ys.map c.val:=h2;have:ys=[]:=by cases ys with | nil=>rfl | cons y ys=>cases e2
  subst this;obtain⟨b,k,q1,cs,T,q2,q3,rs,tl,q4,q5⟩:=hm;have:rs=[]:=List.length_eq_zero_iff.1 (aI.length q5);subst this;exact .inr ⟨b,k,q1,cs,T,tl,q2,q3,by simpa using q4⟩
 ·rename_i vs ws;have hvs:vs=[]:=List.length_eq_zero_iff.1 (aI.length h1).symm;have hws:ws=[]:=List.length_eq_zero_iff.1 (aI.length h2).symm;subst hvs hws;simp at hj;subst hj;exact hm
 ·rename_i ks xs ks' ys;have hk:0<ks.length:=Nat.le_of_ble_eq_true hwd;split at hj
  ·rename_i hc;subst hc;simp at hj;subst hj;have:ys=[]:=nR hk h2;subst this
   simpa using hm
  ·cases hj
 ·rename_i ks xs vs;have hk:0<ks.length:=Nat.le_of_ble_eq_true hwd;have hvs:vs=[]:=List.length_eq_zero_iff.1 (aI.length h2).symm;subst hvs;simp [mD]at hj;subst hj
  simpa using hm
 ·cases hj
theorem dX{w:World}{b off n sz len cap:Nat}{cs:Array Value}{T:TypeId}{fz:Nat×Nat}(hb:w.heap[b]? =some (.cells cs T fz))(l:List Value)(hl:l.length=n*sz)(h: ∀j v,l[j]? =some v->cs[off+j]? =some v):
 (Builtin.firstCells sz n (.slice (some ⟨b,off,none⟩) len cap)).run P w=.ok l.toArray w:=by
 simp only [Builtin.firstCells];rw [<-hl];exact hY hb l h
theorem cC{w:World}{sz len cap:Nat}{base:Option Addr} :(Builtin.firstCells sz 0 (.slice base len cap)).run P w=.ok #[] w:=by
 cases base with
 | none=>simp [Builtin.firstCells]
 | some a=>simp [Builtin.firstCells,loadCells,loadCellsFrom]
theorem kL{x:AVal}{sz:Nat}{h:aC A}{ey:aG A}{m:Nat}{lx:List Nat}{p:Option Prop}{hR:PHeap}{w:World}{x':Value}(hs:kK x sz h=some (ey,m,lx,p))(hp:onp p)(hi:Inv I V (toF h) hR w)(hx:Rep V x x'):
 ∃ws base cap,x'=.slice base m cap/\(∀q,q<=m->(Builtin.firstCells sz q x').run P w=.ok (ws.take (q*sz)).toArray w)/\ws.length=m*sz/\cN V ey ws/\ ∀v∈ws,v.oneCell'=true:=by
 unfold kK at hs;split at hs
 ·rename_i l off n s;split at hs
  ·rename_i hsz;subst hsz;obtain⟨base,cap,rfl,hcap,hb⟩:=hx;split at hs
   ·rename_i c xs hh;split at hs
    ·rename_i hs1;subst hs1;simp only [sI',pI']at hs;obtain⟨rfl,rfl,rfl,rfl⟩:=hs
     by_cases h0:n=0
     ·subst h0;exact⟨[],base,cap,rfl,fun q hq=>by rw [Nat.le_zero.1 hq];simpa using cC,by simp,by simp [cN],by simp⟩
     ·have hne:xs≠ []:=by intro e;subst e;simp at hp;omega
      obtain⟨b,k,cs,T,tail,e1,e2,e3,e4⟩:=hi.ints (l:=l) hh hne;rcases hb with⟨b',k',e5,e6,e7⟩ | ⟨e5,_⟩
      ·rw [e1]at e5;cases e5;subst e6;have hlen:((xs.drop off).take n).length =n:=by simp;omega
       refine⟨((xs.drop off).take n).map c.val,_,_,rfl,?_,by simp;omega,rfl,by
        intro v hv;obtain⟨y,_,rfl⟩:=List.mem_map.1 hv;cases c<;>rfl⟩
       intro q hq;refine dX e2 _ (by simp;omega) ?_
       intro j v hj;rw [<-Array.getElem?_toList,e4];rw [List.getElem?_take]at hj;split at hj
       case isFalse=>cases hj
       rw [List.getElem?_map,List.getElem?_take]at hj;split at hj
       ·rw [List.getElem?_drop]at hj;cases hq:xs[off+j]? with
        | none=>rw [hq]at hj;cases hj
        | some q=>
          have hlt:off+j<xs.length:=by
           cases Nat.lt_or_ge (off+j) xs.length with
           | inl g=>exact g
           | inr g=>rw [List.getElem?_eq_none g]at hq;cases hq
          rw [List.getElem?_append_left (by simpa using hlt),List.getElem?_map]
          exact hj
       ·cases hj
      ·exact(h0 e5).elim
    ·cases hs
   ·rename_i vs hh;split at hs
    ·rename_i hlen2;obtain⟨hlen,hatom⟩:=hlen2;simp only [sI',pI']at hs;obtain⟨rfl,rfl,rfl,rfl⟩:=hs;obtain⟨b,k,cs,T,rs,tail,e1,e2,e3,e4,e5⟩:=hi.cells (l:=l) hh;have hrl:=aI.length e5;rcases hb with⟨b',k',e6,e7,e8⟩ | ⟨e6,_⟩
     ·rw [e1]at e6;cases e6;subst e7;have hl2:((rs.drop off).take (n*s)).length =n*s:=by simp;omega
      refine⟨(rs.drop off).take (n*s),_,_,rfl,?_,hl2,aI.take (aI.drop e5 off) _,aI.all (aI.take (aI.drop e5 off) _) hatom⟩;intro q hq;have hqs:q*s<=n*s:=Nat.mul_le_mul_right _ hq;refine dX e2 _ (by rw [List.length_take];omega) ?_
      intro j v hj;rw [<-Array.getElem?_toList,e4];rw [List.getElem?_take]at hj;split at hj
      case isFalse=>cases hj
      rw [List.getElem?_take]at hj;split at hj
      ·rw [List.getElem?_drop]at hj;rw [List.getElem?_append_left]
       ·exact hj
       ·cases Nat.lt_or_ge (off+j) rs.length with
        | inl g=>exact g
        | inr g=>rw [List.getElem?_eq_none g]at hj;cases hj
      ·cases hj
     ·subst e6;exact⟨[],base,cap,rfl,fun q hq=>by rw [Nat.le_zero.1 hq];simpa using cC,by simp,by simp [cN,aI],by simp⟩
    ·cases hs
   ·cases hs
  ·cases hs
 ·rename_i c xs;split at hs
  case isFalse=>cases hs
  rename_i hs1;subst hs1;simp only [sI',pI']at hs;obtain⟨rfl,rfl,rfl,rfl⟩:=hs;obtain⟨base,cap,rfl,hcap,hb⟩:=hx;rcases hb with⟨b,off,cs,T,fz,rfl,hcon,tail,ht⟩ | h0
  ·refine⟨xs.map (Code1.val c),_,_,rfl,?_,by simp,rfl,by
    intro v hv;obtain⟨y,_,rfl⟩:=List.mem_map.1 hv;cases c<;>rfl⟩
   intro q hq;refine dX (hi.conW hcon) _ (by simp;omega) ?_
   intro j v hj;rw [<-Array.getElem?_toList,<-List.getElem?_drop,ht];rw [List.getElem?_take]at hj;split at hj
   ·rw [List.getElem?_append_left]
    ·exact hj
    ·cases Nat.lt_or_ge j (xs.map (Code1.val c)).length with
     | inl g=>exact g
     | inr g=>rw [List.getElem?_eq_none g]at hj;cases hj
   ·cases hj
  ·subst h0;exact⟨[],base,cap,rfl,fun q hq=>by rw [Nat.le_zero.1 hq];simpa using cC,by simp,by simp [cN],by simp⟩
 ·rename_i l r n w0;split at hs
  case isFalse=>cases hs
  rename_i hw;subst hw;split at hs
  ·rename_i ks rows hh;split at hs
   ·rename_i hkw;subst hkw;simp only [sI',pI']at hs;obtain⟨rfl,rfl,rfl,rfl⟩:=hs;have hp':r+n<=rows.length:=hp;obtain⟨base,cap,rfl,hcap,hb⟩:=hx
    by_cases h0:n=0
    ·subst h0;exact⟨[],base,cap,rfl,fun q hq=>by rw [Nat.le_zero.1 hq];simpa using cC,by simp,by simp [cN,bN],by simp⟩
    ·have hne:rows≠ []:=by intro e;subst e;simp at hp';omega
     obtain⟨b,k,cs,T,tail,e1,e2,e3,e4⟩:=hi.tab (l:=l) hh hne;rcases hb with⟨b',k',e5,e6,e7⟩ | ⟨e5,_⟩
     ·rw [e1]at e5;cases e5;subst e6
      have hws:bN ks ((rows.drop r).take n)=((bN ks rows).drop (r*ks.length)).take (n*ks.length):=by
       rw [qZ,zQ]
      have hlen:(bN ks ((rows.drop r).take n)).length =n*ks.length:=by
       rw [cS,List.length_take,List.length_drop,Nat.min_eq_left (by omega)]
      refine⟨bN ks ((rows.drop r).take n),_,_,rfl,?_,hlen,rfl,?_⟩
      ·intro q hq;have hqs:q*ks.length<=n*ks.length:=Nat.mul_le_mul_right _ hq;refine dX e2 _ (by rw [List.length_take];omega) ?_
       intro j v hj;rw [<-Array.getElem?_toList,e4];rw [hws]at hj;rw [List.getElem?_take]at hj;split at hj
       ·rw [List.getElem?_take]at hj;split at hj
        ·rw [List.getElem?_drop]at hj;rw [List.getElem?_append_left]
         ·exact hj
         ·cases Nat.lt_or_ge (r*ks.length+j) (bN ks rows).length with
          | inl g=>exact g
          | inr g=>rw [List.getElem?_eq_none g]at hj;cases hj
        ·cases hj
       ·cases hj
      ·intro v hv;unfold bN at hv;obtain⟨rv,hr1,hr2⟩:=List.mem_flatten.1 hv;obtain⟨rw0,_,rfl⟩:=List.mem_map.1 hr1
       have: ∀(ks:List Code1) (xs:List Int),∀v∈cL ks xs,v.oneCell'=true:=by
        intro ks
        induction ks with
        | nil=>intro xs v hv;cases hv
        | cons k ks ih=>
          intro xs v hv;simp only [cL,List.mem_cons]at hv;rcases hv with rfl | hv
          ·cases k<;>rfl
          ·exact ih _ v hv
       exact this _ _ v hr2
     ·exact(h0 e5).elim
   ·cases hs
  ·cases hs
 ·simp only [sI',pI']at hs;obtain⟨rfl,rfl,rfl,rfl⟩:=hs;obtain⟨base,rfl⟩:=hx;exact⟨[],base,0,rfl,fun q hq=>by rw [Nat.le_zero.1 hq];simpa using cC,by simp,by simp [cN,aI],by simp⟩
 ·split at hs
  ·rename_i hn;have:=hU hn;subst this;simp only [sI',pI']at hs;obtain⟨rfl,rfl,rfl,rfl⟩:=hs;have:x'=.slice none 0 0:=hx;subst this;exact⟨[],none,0,rfl,fun q hq=>by rw [Nat.le_zero.1 hq];simpa using cC,by simp,by simp [cN,aI],by simp⟩
  ·cases hs
end
end Go.Sh
