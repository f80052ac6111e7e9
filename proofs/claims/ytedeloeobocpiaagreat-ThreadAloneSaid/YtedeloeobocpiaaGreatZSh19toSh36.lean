import Derived.RangeFuncRecord
import Derived.Below
import Derived.Test.YtedeloeobocpiaaGreatZSh14toSh18
set_option linter.all false
set_option maxHeartbeats 8000000
namespace Go.Sh
open Go Go.ChangeShapes Go.RowKit
def vV(P:Program):List TypeId→Option (List (Bool×List Shp))
 | []=>some []
 | t::ts=>match iW P t,S1 P 40 t,vV P ts with
   | some b,some r,some l=>if b=true∨r.length=1 then some ((b,r)::l)else none
   | _,_,_=>none
def DenA:List (Bool×List Shp)→Type
 | []=>Unit
 | (_,r)::l=>DenL r×DenA l
def tX:(l:List (Bool×List Shp))→DenA l→List AVal
 | [],_=>[]
 | (true,r)::l,x=>.agg (i3 r x.1)::tX l x.2
 | (false,r)::l,x=>(i3 r x.1).headD .O ::tX l x.2
def okA:(l:List (Bool×List Shp))→DenA l→Prop
 | [],_=>True
 | (_,r)::l,x=>NZ r x.1∧okA l x.2
section
variable {H:Type} {enc:TypeId×Value→H} {P:Program} {w:World}
theorem BU{t:TypeId}{v:Value}{base:Nat}(hb:iW P t=some false)(ho:Value.okWide P w .any base t v)(hs: ∃m r,S1 P m t=some r):v.cells= #[v]:=by
 obtain⟨m,r,hs⟩:=hs;cases m with
 | zero=>simp [S1]at hs
 | succ m=>
   unfold S1 at hs;unfold iW at hb;unfold Value.okWide at ho;cases hu:P.underlying t with
   | none=>rw [hu]at hs;cases hs
   | some d=>
     rw [hu]at ho hb hs;cases v with
     | agg cs=>
       exfalso;cases d<;>simp at hb hs<;>simp [Cell.okWide,hu,Cell.ok]at ho
     | _=>rfl
theorem CO [Con](hcon: ∀b o,w.heap[b]? =some o→Con.con b=some o){base:Nat} : ∀(ts:List TypeId) (vs:List Value) (ds:List (DataW H)) (ps:List MemPlace) (l:List (Bool×List Shp)),
 DataW.TrodAll enc P w 0 (fun _=>true) true ts vs ds ps→(∀(j:Nat) t v,ts[j]? =some t→vs[j]? =some v→Value.okWide P w .any base t v)→vV P ts=some l→
 ∃x:DenA l,okA l x∧aI (fun _=>none) (tX l x) vs
 | [],vs,ds,ps,l,h,_,hl=>by
   obtain⟨rfl,rfl,rfl⟩:=trodAll_nil h;simp [vV]at hl;subst hl;exact⟨(),trivial,by simp [tX,aI]⟩
 | t::ts,vs,ds,ps,l,h,hv,hl=>by
   obtain⟨v,vs',d,ds',p,q,rfl,rfl,rfl,h1,h2⟩:=trodAll_cons h;simp only [vV]at hl;split at hl
   ·rename_i b r l' hb hr hl';split at hl
    case isFalse=>cases hl
    rename_i hc;simp at hl;subst hl;obtain⟨y,oy,ry⟩:=CO hcon ts vs' ds' q l' h2 (fun j t v a b=>hv (j+1) t v (by simpa using a) (by simpa using b)) hl'
    obtain⟨n,hn⟩:=h1;obtain⟨x,ox,rx⟩:=TF hcon 40 n t _ _ true r hn hr;have hok:=hv 0 t v rfl rfl;cases b with
    | true=>
      refine⟨(x,y),⟨ox,oy⟩,v,vs',rfl,?_,ry⟩
      have: ∃cs,v=.agg cs:=by
       unfold Value.okWide at hok;unfold iW at hb;cases hu:P.underlying t with
       | none=>rw [hu]at hb;cases hb
       | some d=>
         rw [hu]at hok hb;cases d<;>simp at hb<;>(obtain⟨cs,e,_⟩:=hok;exact⟨cs,e⟩)
      obtain⟨cs,rfl⟩:=this;exact⟨cs,rfl,rx⟩
    | false=>
      refine⟨(x,y),⟨ox,oy⟩,v,vs',rfl,?_,ry⟩;rw [BU hb hok ⟨40,r,hr⟩]at rx;have hr1:r.length=1:=by simpa using hc
      show Rep _ ((i3 r x).headD .O) v
      match r,hr1,x,rx with
      | [s],_,x,rx=>
        obtain⟨u,us,e,r1,_⟩:=rx;simp only [lI']at e;rw [e.1];exact r1
   ·cases hl
theorem pY{W W':World}(hl:laidOutB P=true){sp:Nat→Bool} : ∀(ts:List TypeId) (vs:List Value) (ds:List (DataW H)) (ps:List MemPlace),
 (∀t∈ts,P.readableRec t=true∧t<P.types.size)→DataW.TrodAll enc P W 0 (fun _=>true) true ts vs ds ps→(∀p∈ps,W.sameAt W' p)→(∀p∈ps,sp p.block=true)→DataW.TrodAll enc P W' 0 sp true ts vs ds ps
 | [],vs,ds,ps,_,h,_,_=>by
   obtain⟨rfl,rfl,rfl⟩:=trodAll_nil h;exact trodAll_mk0
 | t::ts,vs,ds,ps,ht,h,hs,hp=>by
   obtain⟨v,vs',d,ds',p,q,rfl,rfl,rfl,h1,h2⟩:=trodAll_cons h
   exact trodAll_cons_mk (WideElems.Trod_stays hl (ht t (by simp)).1 (ht t (by simp)).2 h1 (fun x hx=>hs x (by simp [hx])) (fun x hx=>hp x (by simp [hx])))
    (pY hl ts vs' ds' q (fun u hu=>ht u (by simp [hu])) h2 (fun x hx=>hs x (by simp [hx])) (fun x hx=>hp x (by simp [hx])))
theorem oX{w:World}{sp:Nat→Bool}{b:Nat}{hd:Bool} : ∀(ts:List TypeId) (vs:List Value) (ds:List (DataW H)) (ps:List MemPlace),DataW.TrodAll enc P w b sp hd ts vs ds ps→ds.length=ts.length
 | [],vs,ds,ps,h=>by obtain⟨rfl,rfl,rfl⟩:=trodAll_nil h;rfl
 | t::ts,vs,ds,ps,h=>by
   obtain⟨v,vs',d,ds',p,q,rfl,rfl,rfl,h1,h2⟩:=trodAll_cons h;simp [oX ts vs' ds' q h2]
abbrev aGF(W:World):Con:=⟨fun b=>W.heap[b]?⟩
theorem OC{f:Func}{s:ChangeSpec}{apart fresh handsOn again:Bool}{W W':World}{args:Array Value}{v:Value}{ds gs:List (DataW H)}{before pa pv:List MemPlace}
 (hW:DataW.Whole enc P f.params.toList s.vars apart W args.toList ds gs before)
 (h1: ∀(b:Nat) (sp:Nat→Bool) (hd:Bool),DataW.TrodAll enc P W' b sp hd f.resultTypes.toList (v.resultList f.resultTypes.size) (s.fn H (ds++gs)).results [])
 (h2: ∀sp:Nat→Bool,(∀p∈before,sp p.block=true)→DataW.TrodAll enc P W' 0 sp true f.params.toList args.toList (s.fn H (ds++gs)).args pa)
 (h3: ∀sp:Nat→Bool,(∀p∈before,sp p.block=true)→DataW.TrodVars enc P W' sp s.vars (s.fn H (ds++gs)).vars pv)
 (hb:before=pa++pv) (hk:W.keptBut W' (· ∈before)) (hz: ∀a:Addr,a.block<W.heap.size→W'.frozen? a=W.frozen? a)
 (ho: ∀(j:Nat) (t:TypeId) (r:Value),f.resultTypes[j]? =some t→(v.resultList f.resultTypes.size)[j]? =some r→Value.okWide P W' .any 0 t r):
 s.post enc P f apart fresh handsOn again W args v W':=by
 have lt: ∀p∈before,p.block<W.heap.size:=fun p hp=>hW.lt p hp;refine⟨ds,gs,before,[],pa,pv,hW,h1 _ _ _,h2 _ (fun p hp=>by simpa using lt p hp),h3 _ (fun p hp=>by simpa using lt p hp),World.keptBut_mono (fun p hp=>⟨hp,.inr (List.mem_append.1 (hb▸hp))⟩) hk,fun _=>⟨ho,_,_,([]++pa)++pv,⟨[]++pa,pv,trodAll_append (h2 _ (fun _ _=>rfl)) (h1 _ _ _),h3 _ (fun _ _=>rfl),rfl,?_,?_⟩,?_⟩⟩
 ·intro b off hp;have hp':MemPlace.cell b off∈before:=by rw [hb];simpa using hp
  obtain⟨_,_,_,_,_,q,_⟩:=hW;rw [hz _ (lt _ hp')];exact q b off hp'
 ·intro ha;obtain⟨_,_,_,_,_,_,q⟩:=hW;have:=q ha;rw [hb]at this
  simpa using this
 ·intro p hp _;rw [hb]
  simpa using hp
theorem RL{A:Type}{F:Func}{f:FuncId}{s:ChangeSpec}{tb:TypeId}{l:List (Bool×List Shp)}(hl:laidOutB P=true)
 (hpar:F.params.toList.all (fun t=>P.readableRec t&&decide (t<P.types.size))=true) (hsh:vV P F.params.toList=some l) (hv:s.vars=[]) (hres:F.resultTypes= #[tb]) (htb:P.underlying tb=some .bool)
 (hfn: ∀ds:List (DataW H),ds.length=F.params.toList.length→s.fn H ds= {results:=[.lit (.bool true)],args:=ds})
 (law: ∀W0:World,∃I:Itp A,∀x:DenA l,okA l x→ @aC (aGF W0) A I P f (tX l x) ([]:aD A) (fun v _=>v=.bool true))
 (W:World) (base:Nat) (args:Array Value) (ds gs:List (DataW H)) (before:List MemPlace)
 (hval: ∀(j:Nat) t v,F.params[j]? =some t→args[j]? =some v→Value.okWide P W .any base t v)
 (hW:DataW.Whole enc P F.params.toList s.vars false W args.toList ds gs before):
 Calls P f args W fun e W'=> ∃v,e=.returned v∧s.post enc P F false true false false W args v W':=by
 have hW':=hW;obtain⟨p,q,hA,hV,rfl,hfz,hnd⟩:=hW;rw [hv]at hV;obtain⟨rfl,rfl⟩:=trodVars_none hV;obtain⟨I,hI⟩:=law W
 letI:Con:=aGF W
 obtain⟨x,ox,rx⟩:=CO (enc:=enc) (P:=P) (w:=W) (base:=base) (fun b o h=>h) F.params.toList args.toList ds p l hA (fun j t v a b=>hval j t v (by simpa using a) (by simpa using b)) hsh
 have hlen:=oX _ _ _ _ hA;refine(aC.law (hI x ox) rx W (fun b o h=>h)).mono ?_;rintro e W' ⟨rfl,hg⟩
 have hsame: ∀p'∈p,W.sameAt W' p':=by
  intro p' hp;have hlt:p'.block<W.heap.size:=hW'.lt p' (by simpa using hp)
  have hk:=hg.1.2.2 p'.block hlt;cases p' with
  | cell b off=>
    show W'.cell? ⟨b,off,none⟩=W.cell? ⟨b,off,none⟩;simp only [MemPlace.block]at hk hlt;unfold World.cell?;simp only;cases h1:W.heap[b]? with
    | none=>rw [Array.getElem?_eq_getElem hlt]at h1;cases h1
    | some o=>
      rw [h1]at hk;cases h2:W'.heap[b]? with
      | none=>rw [h2]at hk;cases o<;>simp at hk
      | some o'=>
        rw [h2]at hk;cases o<;>cases o'<;>simp at hk<;>first | rfl | skip
        rename_i c t fr c' t' fr';obtain⟨_,_,hsz,hc⟩:=hk;exact hc off
  | map b=>
    show W'.heap[b]? =W.heap[b]?;simp only [MemPlace.block]at hk hlt;cases h1:W.heap[b]? with
    | none=>rw [Array.getElem?_eq_getElem hlt]at h1;cases h1
    | some o=>
      rw [h1]at hk;cases h2:W'.heap[b]? with
      | none=>rw [h2]at hk;cases o<;>simp at hk
      | some o'=>
        rw [h2]at hk;cases o<;>cases o'<;>simp at hk<;>first | (simp_all;done) | skip
        rename_i c t fr c' t' fr';obtain⟨rfl,rfl,hsz,hc⟩:=hk
        have:c=c':=by
         apply Array.ext_getElem?;intro i;exact(hc i).symm
        rw [this]
 have hpar': ∀t∈F.params.toList,P.readableRec t=true∧t<P.types.size:=by
  intro t ht;have:=List.all_eq_true.1 hpar t ht
  simpa using this
 have hf0:s.fn H (ds++ [])= {results:=[.lit (.bool true)],args:=ds} :=by rw [List.append_nil];exact hfn ds hlen
 refine⟨_,rfl,OC (pa:=p) (pv:=[]) hW' ?_ ?_ ?_ rfl (World.keptBut_mono (fun _ h=>h.elim) hg.1) hg.2.1 ?_⟩
 ·intro b sp hd;rw [hf0,hres];exact trodAll_cons_mk (shut_bool htb _) trodAll_mk0
 ·intro sp hsp;rw [hf0];exact pY hl _ _ _ _ hpar' hA hsame (fun p' hp=>hsp p' (by simpa using hp))
 ·intro sp _;rw [hf0,hv];rfl
 ·exact ok_one hres rfl (okWide_bool_mk htb _)
end
end Go.Sh
namespace Go.Sh
open Go
variable [Con] {A:Type} (tb:A→Nat×aD A)
structure vK (I:Itp A) (V:Val) (h:bM A) (hs:Nat→PHeap):Prop where
 ent: ∀l e,h l=some e→e.interp I V l (hs l)
 non: ∀l,h l=none→hs l=.emp
 dis: ∀l m,l≠m→(hs l).disj (hs m)
def XQ:Nat→Itp A
 | 0,_,_,_,_=>False
 | n+1,t,r,bs,p=> ∃V hs,V 0=some r∧(∀i,i<(tb t).1→V (1+i)=bs[i]?)∧bs.length=(tb t).1∧vK (XQ n) V (toF (tb t).2) hs∧p=aFZ hs
def obI:Itp A:=fun t r bs p=> ∃n,XQ tb n t r bs p
theorem aGd{I I':Itp A}(hI: ∀t r bs p,I t r bs p→I' t r bs p){V:Val}{l:Nat}{e:aM A}{p:PHeap}(h:e.interp I V l p):e.interp I' V l p:=by
 cases e with
 | abs t ps=>
   obtain⟨b,k,h1,bs,h2,h3⟩:=h;exact⟨b,k,h1,bs,h2,hI _ _ _ _ h3⟩
 | cells vs=>exact h
 | ints c xs=>exact h
 | tab ks rows=>exact h
 | imap kk vc m=>exact h
theorem vK.mono_I{I I':Itp A}(hI: ∀t r bs p,I t r bs p→I' t r bs p){V:Val}{h:bM A}{hs:Nat→PHeap}(q:vK I V h hs):vK I' V h hs:=
 ⟨fun l e he=>aGd hI (q.ent l e he),q.non,q.dis⟩
theorem FA: ∀(n:Nat) (t:A) (r:Nat×Nat) (bs:List (Nat×Nat)) (p:PHeap),XQ tb n t r bs p→XQ tb (n+1) t r bs p
 | 0,_,_,_,_,h=>h.elim
 | n+1,t,r,bs,p,⟨V,hs,h1,h2,h3,h4,h5⟩=>⟨V,hs,h1,h2,h3,h4.mono_I (FA n),h5⟩
theorem RY{n m:Nat}(hnm:n≤m){t:A}{r:Nat×Nat}{bs:List (Nat×Nat)}{p:PHeap}(h:XQ tb n t r bs p):XQ tb m t r bs p:=by
 induction hnm with
 | refl=>exact h
 | step _ ih=>exact FA tb _ _ _ _ _ ih
theorem C0{V:Val}{hs:Nat→PHeap} : ∀(g:aD A) (k:Nat),(∀l e,aW g l=some e→e.interp (obI tb) V (k+l) (hs (k+l)))→ ∃n,∀l e,aW g l=some e→e.interp (XQ tb n) V (k+l) (hs (k+l))
 | [],k,_=>⟨0,fun l e h=>by simp [aW]at h⟩
 | x::g,k,h=>by
   obtain⟨n,hn⟩:=C0 g (k+1) (fun l e he=>by
    have:=h (l+1) e (by simpa [aW]using he)
    rw [show k+(l+1)=k+1+l from by omega]at this
    exact this)
   have h0: ∃m,∀e,x=some e→e.interp (XQ tb m) V k (hs k):=by
    cases x with
    | none=>exact⟨0,fun e he=>by cases he⟩
    | some e=>
      have:=h 0 e rfl;cases e with
      | abs t ps=>
        obtain⟨b,q,h1,bs,h2,m,h3⟩:=this;exact⟨m,fun e he=>by cases he;exact⟨b,q,h1,bs,h2,h3⟩⟩
      | cells vs=>exact⟨0,fun e he=>by cases he;exact this⟩
      | ints c xs=>exact⟨0,fun e he=>by cases he;exact this⟩
      | tab ks rows=>exact⟨0,fun e he=>by cases he;exact this⟩
      | imap kk vc mm=>exact⟨0,fun e he=>by cases he;exact this⟩
   obtain⟨m,hm⟩:=h0;refine⟨max n m,fun l e he=>?_⟩;cases l with
   | zero=>
     have hx:x=some e:=by simpa [aW]using he
     exact aGd (fun t r bs p=>RY tb (Nat.le_max_right n m)) (hm e hx)
   | succ l=>
     have:=aGd (fun t r bs p=>RY tb (Nat.le_max_left n m)) (hn l e (by simpa [aW]using he))
     rw [show k+1+l=k+(l+1)from by omega]at this
     exact this
theorem aGA{I:Itp A}{V V':Val}{pl:List Nat}(hV: ∀l,pl.elem l=true→V l=V' l){l:Nat}{e:aM A}{p:PHeap}(q1:V l=V' l)(q2:e.within pl=true)(hi:e.interp I V l p):e.interp I V' l p:=by
 cases e with
 | cells vs=>
   obtain⟨b,k,hl,cs,T,e1,e2,rs,tail,e3,r⟩:=hi;exact⟨b,k,by rw [←q1];exact hl,cs,T,e1,e2,rs,tail,e3,aF9 hV _ _ q2 r⟩
 | ints c xs=>
   rcases hi with⟨e1,e2,b,hl⟩ | ⟨b,k,hl,r⟩
   ·exact .inl ⟨e1,e2,b,by rw [←q1];exact hl⟩
   ·exact .inr ⟨b,k,by rw [←q1];exact hl,r⟩
 | abs t ps=>
   obtain⟨b,k,hl,bs,hb,r⟩:=hi;exact⟨b,k,by rw [←q1];exact hl,bs,fV.congr (fun m hm=>hV m (sW q2 m hm)) hb,r⟩
 | tab ks rows=>
   rcases hi with⟨e1,e2,b,hl⟩ | ⟨b,k,hl,r⟩
   ·exact .inl ⟨e1,e2,b,by rw [←q1];exact hl⟩
   ·exact .inr ⟨b,k,by rw [←q1];exact hl,r⟩
 | imap kk vc m=>
   obtain⟨b,k,hl,r⟩:=hi;exact⟨b,k,by rw [←q1];exact hl,r⟩
theorem jL{n l:Nat} :(upto 0 n).elem l=true↔l<n:=by rw [oY];omega
theorem fV.len{V:Val} : ∀ {ls:List Nat} {bs:List (Nat×Nat)},fV V ls bs→bs.length=ls.length
 | [],_,e=>by rw [e];rfl
 | _::_,_,⟨x,r,h1,h2,h3⟩=>by rw [h2];simp [fV.len h3]
theorem fV.get{V:Val} : ∀ {ls:List Nat} {bs:List (Nat×Nat)},fV V ls bs→ ∀i,i<ls.length→V (ls.getD i 0)=bs[i]?
 | [],_,_,i,hi=>by cases hi
 | l::ls,_,⟨x,r,h1,h2,h3⟩,i,hi=>by
   subst h2;cases i with
   | zero=>simpa using h1
   | succ i=>simpa using fV.get h3 i (by simpa using hi)
theorem fV.mk{V:Val} : ∀ {ls:List Nat},(∀l∈ls,∃x,V l=some x)→ ∃bs,fV V ls bs
 | [],_=>⟨[],rfl⟩
 | l::ls,h=>by
   obtain⟨x,hx⟩:=h l List.mem_cons_self;obtain⟨r,hr⟩:=fV.mk (fun m hm=>h m (List.mem_cons_of_mem _ hm));exact⟨x::r,x,r,hx,rfl,hr⟩
def unI(l:Nat)(ps:List Nat)(n np:Nat)(i:Nat):Nat:=match i with
 | 0=>l
 | j+1=>if j<np then ps.getD j 0 else n+(j - np)
def bA(h:aD A)(l np:Nat)(g:aD A)(ps:List Nat):aD A:=
 h.set l ((aW g 0).map (aM.ren (unI l ps h.length np)))++(g.drop (1+np)).map (Option.map (aM.ren (unI l ps h.length np)))
theorem gD(h:aD A)(l np:Nat)(g:aD A)(ps:List Nat):(bA h l np g ps).length =h.length+(g.length - (1+np)):=by
 unfold bA;simp
def uY(np:Nat)(g:aD A):Bool:=eF g.length g&&Nat.ble (1+np) g.length&&(g.drop 1 |>.take np).all (·.isNone)&&(aW g 0).isSome
theorem zC{np:Nat}{g:aD A}(h:uY np g=true):eF g.length g=true∧1+np≤g.length∧(∀i,i<np→aW g (1+i)=none)∧ ∃e,aW g 0=some e:=by
 unfold uY at h;simp only [Bool.and_eq_true]at h;obtain⟨⟨⟨h1,h2⟩,h3⟩,h4⟩:=h;refine⟨h1,Nat.le_of_ble_eq_true h2,?_,Option.isSome_iff_exists.1 h4⟩;intro i hi;have hlen:=Nat.le_of_ble_eq_true h2;rw [List.all_eq_true]at h3
 have hx:=h3 (aW g (1+i)) (by
  rw [List.mem_iff_getElem?];refine⟨i,?_⟩;rw [List.getElem?_take,if_pos hi,List.getElem?_drop];simp only [aW,gD'];rw [gE' (by omega)]
  rfl)
 simpa using hx
theorem z6{g:aD A}(h:eF g.length g=true){l:Nat}{e:aM A}(he:aW g l=some e):e.within (upto 0 g.length)=true:=by
 unfold eF at h;rw [List.all_eq_true]at h;simp only [aW,gD']at he
 have hl:l<g.length:=by
  cases Nat.lt_or_ge l g.length with
  | inl q=>exact q
  | inr q=>rw [List.getElem?_eq_none q]at he;cases he
 rw [gE' hl]at he;have:=h (g[l]) (List.getElem_mem hl);simp only [Option.getD_some]at he;rw [he]at this;exact this
theorem nA{h:aD A}{l np:Nat}{g:aD A}{ps:List Nat}(hl:l<h.length):aW (bA h l np g ps) l=(aW g 0).map (aM.ren (unI l ps h.length np)):=by
 unfold bA;rw [dO (by simpa using hl)]
 simp only [aW,gD'];rw [List.getElem?_set_self hl];rfl
theorem fT{h:aD A}{l np:Nat}{g:aD A}{ps:List Nat}{m:Nat}(hm:m<h.length)(hlm:m≠l):aW (bA h l np g ps) m=aW h m:=by
 unfold bA;rw [dO (by simpa using hm)]
 simp only [aW,gD'];rw [List.getElem?_set_ne (fun e=>hlm e.symm)]
theorem kV{h:aD A}{l np:Nat}{g:aD A}{ps:List Nat}{j:Nat} :aW (bA h l np g ps) (h.length+j)=(aW g (1+np+j)).map (aM.ren (unI l ps h.length np)):=by
 unfold bA;simp only [aW,gD'];rw [List.getElem?_append_right (by simp),List.length_set,List.getElem?_map,List.getElem?_drop,Nat.add_sub_cancel_left]
 cases g[1+np+j]? <;>rfl
theorem Inv.unpack{V:Val}{h:aD A}{hR:PHeap}{w:World}{t:A}{l np:Nat}{g:aD A}{ps:List Nat}(hi:Inv (obI tb) V (toF h) hR w)(hf:cG V h.length)(hl:aW h l=some (.abs t ps))(ht:tb t=(np,g))(ho:uY np g=true)(hnp:ps.length=np):
 ∃V',V.le V'∧cG V' (bA h l np g ps).length ∧Inv (obI tb) V' (toF (bA h l np g ps)) hR w:=by
 obtain⟨o1,o2,o3,e0,o4⟩:=zC ho;have hll:=eG hl;obtain⟨hs,h1,h2,h3,h4,h5,h6⟩:=hi;obtain⟨b,k,hV,bs,hlo,n,hob⟩:=h1 l _ hl;cases n with
 | zero=>exact hob.elim
 | succ n=>
 obtain⟨Vg,gs,g1,g2,g3,⟨g4,g5,g6⟩,g7⟩:=hob;rw [ht]at g2 g3 g4 g5;dsimp only at g2 g3 g4 g5
 let V':Val:=fun m=>if m<h.length then V m else if m<(bA h l np g ps).length then Vg (m - h.length+1+np)else none
 have hlen:=gD h l np g ps
 have hle:V.le V':=by
  intro m x hm
  have hlt:m<h.length:=by
   cases Nat.lt_or_ge m h.length with
   | inl q=>exact q
   | inr q=>rw [hf m q]at hm;cases hm
  show(if m<h.length then V m else _)=some x
  rw [if_pos hlt];exact hm
 have hVι: ∀i,(upto 0 g.length).elem i=true→Vg i=V' (unI l ps h.length np i):=by
  intro i hi;rw [jL]at hi;cases i with
  | zero=>
    show _=V' l;rw [hle l _ hV];exact g1
  | succ j=>
    show _=V' (if j<np then ps.getD j 0 else h.length+(j - np))
    by_cases hj:j<np
    ·rw [if_pos hj];have hg:=hlo.get j (by omega)
     have hj2:j<bs.length:=by omega
     rw [gE' hj2]at hg;rw [hle _ _ hg,Nat.add_comm,g2 j hj,gE' hj2]
    ·rw [if_neg hj];show _=if h.length+(j - np)<h.length then _ else _
     rw [if_neg (by omega),if_pos (by omega)]
     congr 1;omega
 have hent: ∀i e,aW g i=some e→(e.ren (unI l ps h.length np)).interp (obI tb) V' (unI l ps h.length np i) (gs i):=by
  intro i e he;refine aM.interp_ren.2 ?_;have q1:=aGd (I':=(obI tb)) (fun t r bs p hh=>⟨n,hh⟩) (g4 i e he);exact aGA hVι (hVι i (jL.2 (eG he))) (z6 o1 he) q1
 have hsub: ∀i b' o,gs i b'=some o→hs l b'=some o:=by
  intro i b' o hh;rw [g7];exact aGh g6 hh
 let hs':Nat→PHeap:=fun m=>if m<h.length then(if m=l then gs 0 else hs m)else gs (m - h.length+1+np)
 refine⟨V',hle,?_,hs',?_,?_,?_,?_,?_,h6⟩
 ·intro m hm;show(if m<h.length then _ else _)=none
  rw [if_neg (by omega),if_neg (by omega)]
 ·intro m e he
  by_cases hm:m<h.length
  ·by_cases hml:m=l
   ·subst hml;have he':aW (bA h m np g ps) m=some e:=he;rw [nA hm,o4]at he';simp only [Option.map_some,sI']at he';show e.interp (obI tb) V' m (if m<h.length then(if m=m then gs 0 else hs m)else _)
    rw [if_pos hm,if_pos rfl,←he'];exact hent 0 e0 o4
   ·have he':aW (bA h l np g ps) m=some e:=he;rw [fT hm hml]at he';show e.interp (obI tb) V' m (if m<h.length then(if m=l then gs 0 else hs m)else _)
    rw [if_pos hm,if_neg hml];exact aF5 hle (h1 m e he')
  ·have he':aW (bA h l np g ps) m=some e:=he;have hm2:m=h.length+(m - h.length):=by omega
   rw [hm2,kV]at he';cases hq:aW g (1+np+(m - h.length))with
   | none=>rw [hq]at he';cases he'
   | some e1=>
     rw [hq]at he';simp only [Option.map_some,sI']at he';have:=hent _ e1 hq;show e.interp (obI tb) V' m (if m<h.length then _ else gs (m - h.length+1+np))
     rw [if_neg hm,←he']
     have e3:unI l ps h.length np (1+np+(m - h.length))=m:=by
      have:1+np+(m - h.length)=(np+(m - h.length))+1:=by omega
      rw [this];show(if np+(m - h.length)<np then _ else h.length+(np+(m - h.length) - np))=m
      rw [if_neg (by omega)];omega
     rw [e3]at this;have e4:m - h.length+1+np=1+np+(m - h.length):=by omega
     rw [e4];exact this
 ·intro m he
  by_cases hm:m<h.length
  ·by_cases hml:m=l
   ·subst hml;have he':aW (bA h m np g ps) m=none:=he;rw [nA hm,o4]at he';cases he'
   ·have he':aW (bA h l np g ps) m=none:=he;rw [fT hm hml]at he';show(if m<h.length then(if m=l then gs 0 else hs m)else _)=_
    rw [if_pos hm,if_neg hml];exact h2 m he'
  ·have he':aW (bA h l np g ps) m=none:=he;have hm2:m=h.length+(m - h.length):=by omega
   rw [hm2,kV]at he';show(if m<h.length then _ else gs (m - h.length+1+np))=_
   rw [if_neg hm];have e4:m - h.length+1+np=1+np+(m - h.length):=by omega
   rw [e4];refine g5 _ ?_;cases hq:aW g (1+np+(m - h.length))with
   | none=>exact hq
   | some e1=>rw [hq]at he';cases he'
 ·intro m m' hmm;intro b';show(if m<h.length then(if m=l then gs 0 else hs m)else gs (m - h.length+1+np)) b'=none∨(if m'<h.length then(if m'=l then gs 0 else hs m')else gs (m' - h.length+1+np)) b'=none
  have out: ∀i m,m≠l→gs i b'=none∨hs m b'=none:=by
   intro i m hml;cases hq:gs i b' with
   | none=>exact .inl rfl
   | some o=>
     right;have:=hsub i b' o hq;rcases h3 l m (fun e=>hml e.symm) b' with q | q
     ·rw [q]at this;cases this
     ·exact q
  by_cases hm:m<h.length
  ·by_cases hm':m'<h.length
   ·rw [if_pos hm,if_pos hm']
    by_cases hml:m=l
    ·have hml':m'≠l:=fun e=>hmm (hml.trans e.symm);rw [if_pos hml,if_neg hml'];exact out 0 m' hml'
    ·rw [if_neg hml]
     by_cases hml':m'=l
     ·rw [if_pos hml'];exact(out 0 m hml).symm
     ·rw [if_neg hml'];exact h3 m m' hmm b'
   ·rw [if_pos hm,if_neg hm']
    by_cases hml:m=l
    ·rw [if_pos hml];exact g6 0 _ (by omega) b'
    ·rw [if_neg hml];exact(out _ m hml).symm
  ·by_cases hm':m'<h.length
   ·rw [if_neg hm,if_pos hm']
    by_cases hml':m'=l
    ·rw [if_pos hml'];exact g6 _ 0 (by omega) b'
    ·rw [if_neg hml'];exact out _ m' hml'
   ·rw [if_neg hm,if_neg hm'];exact g6 _ _ (by omega) b'
 ·intro m b'
  have out: ∀i,gs i b'=none∨hR b'=none:=by
   intro i;cases hq:gs i b' with
   | none=>exact .inl rfl
   | some o=>
     right;have:=hsub i b' o hq;rcases h4 l b' with q | q
     ·rw [q]at this;cases this
     ·exact q
  show(if m<h.length then(if m=l then gs 0 else hs m)else gs (m - h.length+1+np)) b'=none∨hR b'=none
  split
  ·split
   ·exact out 0
   ·exact h4 m b'
  ·exact out _
 ·intro m b' o hq;have hq':(if m<h.length then(if m=l then gs 0 else hs m)else gs (m - h.length+1+np)) b'=some o:=hq
  split at hq'
  ·split at hq'
   ·exact h5 l b' o (hsub 0 b' o hq')
   ·exact h5 m b' o hq'
  ·exact h5 l b' o (hsub _ b' o hq')
def wV(h:aD A)(l:Nat)(ps:List Nat):Bool:=eF h.length h&&ps.all (fun p=>Nat.blt p h.length&& !Nat.beq p l&&(aW h p).isSome)
theorem Inv.pack{V:Val}{h:aD A}{hR:PHeap}{w:World}{t:A}{l np:Nat}{g:aD A}{ps:List Nat}(hi:Inv (obI tb) V (toF (bA h l np g ps)) hR w)(hl:aW h l=some (.abs t ps))(ht:tb t=(np,g))(ho:uY np g=true)(hnp:ps.length=np)(hp:wV h l ps=true):
 Inv (obI tb) (fun m=>if m<h.length then V m else none) (toF h) hR w:=by
 obtain⟨o1,o2,o3,e0,o4⟩:=zC ho;have hll:=eG hl;unfold wV at hp;rw [Bool.and_eq_true,List.all_eq_true]at hp;obtain⟨p1,p2⟩:=hp;have hdom: ∀m e,aW (bA h l np g ps) m=some e→ ∃x,V m=some x:=fun m e he=>hi.dom he;obtain⟨hs,h1,h2,h3,h4,h5,h6⟩:=hi;have hlen:=gD h l np g ps
 have hps: ∀p∈ps,p<h.length∧p≠l∧ ∃x,V p=some x:=by
  intro p hp;have:=p2 p hp;simp only [Bool.and_eq_true,Bool.not_eq_true',Nat.blt_eq]at this;obtain⟨⟨q1,q2⟩,q3⟩:=this;have q2':p≠l:=by intro e;rw [e]at q2;simp at q2
  obtain⟨e,he⟩:=Option.isSome_iff_exists.1 q3;exact⟨q1,q2',hdom p e (by rw [fT q1 q2'];exact he)⟩
 have hV0: ∃x,V l=some x:=hdom l (e0.ren (unI l ps h.length np)) (by rw [nA hll,o4];rfl)
 obtain⟨⟨b,k⟩,hVl⟩:=hV0;obtain⟨bs,hbs⟩:=fV.mk (V:=V) (ls:=ps) (fun p hp=>(hps p hp).2.2)
 let gs:Nat→PHeap:=fun j=>match j with
  | 0=>hs l
  | i+1=>if i<np then .emp else hs (h.length+(i - np))
 have gs_sub: ∀j,gs j=.emp ∨ ∃m,(m=l∨h.length≤m)∧gs j=hs m:=by
  intro j;cases j with
  | zero=>exact .inr ⟨l,.inl rfl,rfl⟩
  | succ i=>
    show(if i<np then PHeap.emp else hs (h.length+(i - np)))=.emp ∨_
    by_cases hi:i<np
    ·rw [if_pos hi];exact .inl rfl
    ·right;refine⟨h.length+(i - np),.inr (by omega),?_⟩
     show(if i<np then PHeap.emp else hs (h.length+(i - np)))=_
     rw [if_neg hi]
 have gdis: ∀i j,i≠j→(gs i).disj (gs j):=by
  intro i j hij;cases i with
  | zero=>
    cases j with
    | zero=>exact(hij rfl).elim
    | succ j=>
      show PHeap.disj (hs l) (if j<np then .emp else hs (h.length+(j - np)))
      split
      ·exact aFV _
      ·exact h3 _ _ (by omega)
  | succ i=>
    cases j with
    | zero=>
      show PHeap.disj (if i<np then .emp else hs (h.length+(i - np))) (hs l)
      split
      ·exact(aFV _).symm
      ·exact h3 _ _ (by omega)
    | succ j=>
      show PHeap.disj (if i<np then .emp else hs (h.length+(i - np))) (if j<np then .emp else hs (h.length+(j - np)))
      split
      ·exact(aFV _).symm
      ·split
       ·exact aFV _
       ·exact h3 _ _ (by omega)
 have gent: ∀i e,aW g i=some e→e.interp (obI tb) (fun i=>V (unI l ps h.length np i)) i (gs i):=by
  intro i e he;refine aM.interp_ren.1 ?_;cases i with
  | zero=>
    show(e.ren _).interp (obI tb) V l (hs l);exact h1 l _ (by show aW _ _=_;rw [nA hll,he];rfl)
  | succ i=>
    have hi: ¬i<np:=by
     intro hi;have:=o3 i hi;rw [Nat.add_comm,he]at this;cases this
    have e3:unI l ps h.length np (i+1)=h.length+(i - np):=by
     show(if i<np then _ else _)=_
     rw [if_neg hi]
    show(e.ren _).interp (obI tb) V (unI l ps h.length np (i+1)) (if i<np then PHeap.emp else hs (h.length+(i - np)))
    rw [if_neg hi,e3];refine h1 _ _ ?_;show aW _ _=_;rw [kV];have:1+np+(i - np)=i+1:=by omega
    rw [this,he];rfl
 obtain⟨n,hn⟩:=C0 tb (hs:=gs) g 0 (by simpa using gent)
 have gnon: ∀i,toF g i=none→gs i=.emp :=by
  intro i he;cases i with
  | zero=>have:aW g 0=none:=he;rw [o4]at this;cases this
  | succ i=>
    show(if i<np then PHeap.emp else hs (h.length+(i - np)))=.emp
    by_cases hi:i<np
    ·rw [if_pos hi]
    ·rw [if_neg hi];refine h2 _ ?_;show aW _ _=_;rw [kV];have:1+np+(i - np)=i+1:=by omega
     have he':aW g (i+1)=none:=he;rw [this,he'];rfl
 have hbig: ∀b' o,aFZ gs b'=some o→ ∃m,(m=l∨h.length≤m)∧hs m b'=some o:=by
  intro b' o hh;obtain⟨j,hj⟩:=aGb hh;rcases gs_sub j with q | ⟨m,q1,q2⟩
  ·rw [q]at hj;cases hj
  ·exact⟨m,q1,by rw [←q2];exact hj⟩
 have own: ∀m,m<h.length→(fun m=>if m<h.length then V m else none) m=V m:=fun m hm=>if_pos hm
 refine⟨fun m=>if m=l then aFZ gs else if m<h.length then hs m else .emp,?_,?_,?_,?_,?_,h6⟩
 ·intro m e he;have hm:m<h.length:=eG he
  by_cases hml:m=l
  ·subst hml;have he':aW h m=some e:=he;rw [hl]at he';simp only [sI']at he';subst he';show aM.interp (obI tb) _ m _ (if m=m then aFZ gs else _)
   rw [if_pos rfl];refine⟨b,k,by show(if m<h.length then V m else none)=_;rw [if_pos hm];exact hVl,bs,hbs.congr (fun p hp=>(own p (hps p hp).1).symm),n+1,?_⟩
   show∃V1 hs1,V1 0=some (b,k)∧(∀i,i<(tb t).1→V1 (1+i)=bs[i]?)∧bs.length=(tb t).1∧vK (XQ tb n) V1 (toF (tb t).2) hs1∧aFZ gs=aFZ hs1;rw [ht];refine⟨(fun i=>V (unI m ps h.length np i)),gs,hVl,?_,by rw [hbs.len];exact hnp,⟨fun l e he=>by have:=hn l e he;simpa using this,gnon,gdis⟩,rfl⟩
   intro i hi;have:=hbs.get i (by omega)
   rw [←this];show V (unI m ps h.length np (1+i))=_;rw [Nat.add_comm];show V (if i<np then _ else _)=_
   rw [if_pos hi]
  ·show e.interp (obI tb) _ m (if m=l then _ else if m<h.length then hs m else .emp)
   rw [if_neg hml,if_pos hm];have he':aW h m=some e:=he;refine aGA (pl:=upto 0 h.length) (V:=V) (fun i hi=>(own i (jL.1 hi)).symm) (own m hm).symm (z6 p1 he') ?_;exact h1 m e (by show aW _ _=_;rw [fT hm hml];exact he')
 ·intro m he;have he':aW h m=none:=he
  by_cases hml:m=l
  ·subst hml;rw [hl]at he';cases he'
  ·show(if m=l then _ else if m<h.length then hs m else .emp)=_
   rw [if_neg hml]
   by_cases hm:m<h.length
   ·rw [if_pos hm];exact h2 m (by show aW _ _=_;rw [fT hm hml];exact he')
   ·rw [if_neg hm]
 ·intro m m' hmm b';show(if m=l then aFZ gs else if m<h.length then hs m else .emp) b'=none∨(if m'=l then aFZ gs else if m'<h.length then hs m' else .emp) b'=none
  have out: ∀m,m≠l→aFZ gs b'=none∨(if m<h.length then hs m else PHeap.emp) b'=none:=by
   intro m hml
   by_cases hm:m<h.length
   ·rw [if_pos hm];cases hq:aFZ gs b' with
    | none=>exact .inl rfl
    | some o=>
      right;obtain⟨m2,q1,q2⟩:=hbig b' o hq;rcases h3 m2 m (by rcases q1 with q | q<;>omega) b' with q | q
      ·rw [q]at q2;cases q2
      ·exact q
   ·rw [if_neg hm];exact .inr rfl
  by_cases hml:m=l
  ·have hml':m'≠l:=fun e=>hmm (hml.trans e.symm);rw [if_pos hml,if_neg hml'];exact out m' hml'
  ·rw [if_neg hml]
   by_cases hml':m'=l
   ·rw [if_pos hml'];exact(out m hml).symm
   ·rw [if_neg hml']
    by_cases hm:m<h.length
    ·rw [if_pos hm]
     by_cases hm':m'<h.length
     ·rw [if_pos hm'];exact h3 m m' hmm b'
     ·rw [if_neg hm'];exact .inr rfl
    ·rw [if_neg hm];exact .inl rfl
 ·intro m b';show(if m=l then aFZ gs else if m<h.length then hs m else .emp) b'=none∨hR b'=none
  by_cases hml:m=l
  ·rw [if_pos hml];cases hq:aFZ gs b' with
   | none=>exact .inl rfl
   | some o=>
     right;obtain⟨m2,q1,q2⟩:=hbig b' o hq;rcases h4 m2 b' with q | q
     ·rw [q]at q2;cases q2
     ·exact q
  ·rw [if_neg hml]
   by_cases hm:m<h.length
   ·rw [if_pos hm];exact h4 m b'
   ·rw [if_neg hm];exact .inl rfl
 ·intro m b' o hq;have hq':(if m=l then aFZ gs else if m<h.length then hs m else .emp) b'=some o:=hq
  by_cases hml:m=l
  ·rw [if_pos hml]at hq';obtain⟨m2,q1,q2⟩:=hbig b' o hq';exact h5 m2 b' o q2
  ·rw [if_neg hml]at hq'
   by_cases hm:m<h.length
   ·rw [if_pos hm]at hq';exact h5 m b' o hq'
   ·rw [if_neg hm]at hq';cases hq'
variable {P:Program}
theorem aC.unpack{f:FuncId}{args:List AVal}{h:aD A}{K:AVal→aD A→Prop}(t:A)(l np:Nat)(g:aD A)(ps:List Nat)(hl:aW h l=some (.abs t ps))(ht:tb t=(np,g))(ho:uY np g=true)(hnp:ps.length=np)
 (h0:aC (obI tb) P f args (bA h l np g ps) K):aC (obI tb) P f args h K:=by
 intro V hR w args' hi hf hr;obtain⟨V1,v1,v2,v3⟩:=hi.unpack tb hf hl ht ho hnp;refine(h0 V1 hR w args' v3 v2 (aI.mono v1 _ _ hr)).mono ?_;rintro e w' ⟨v,v',V',h',k1,k2,k3,k4,k5,k6,k7,k8⟩;exact⟨v,v',V',h',k1,k2,k3,Val.le_trans v1 k4,k5,Nat.le_trans (by rw [gD];omega) k6,k7,k8⟩
structure CC (n:Nat) (K:AVal→aD A→Prop) (v:AVal) (g':aD A):Prop where
 ex: ∃(pl:List Nat) (h2:aD A) (t:A) (l np:Nat) (g:aD A) (ps:List Nat),(fD pl g'.length&&kO pl 0 n&&Nat.ble n h2.length&&uY np g&&wV h2 l ps&&(mE pl v).within (upto 0 h2.length)&&Nat.beq ps.length np)=true∧gU pl g'=bA h2 l np g ps∧tb t=(np,g)∧aW h2 l=some (.abs t ps)∧K (mE pl v) h2
theorem aC.pack{f:FuncId}{args:List AVal}{h:aD A}{K:AVal→aD A→Prop}(h0:aC (obI tb) P f args h (CC tb h.length K)):aC (obI tb) P f args h K:=by
 intro V hR w args' hi hf hr;refine(h0 V hR w args' hi hf hr).mono ?_;rintro e w' ⟨v,v',V',g',⟨pl,h2,t,l,np,g,ps,hb,hT,ht,hl,hK⟩,k2,k3,k4,k5,k6,k7,k8⟩;simp only [Bool.and_eq_true]at hb;obtain⟨⟨⟨⟨⟨⟨b1,b2⟩,b3⟩,b4⟩,b5⟩,b6⟩,b7⟩:=hb;obtain⟨e1,e2⟩:=mV b2;have hp:=oW (h:=g') b1;have hi2:=k7.pick hp;rw [hT]at hi2;have hi3:=hi2.pack tb hl ht b4 (Nat.eq_of_beq_eq_true b7) b5;have hn:h.length≤h2.length:=Nat.le_of_ble_eq_true b3;refine⟨mE pl v,v',_,h2,hK,k2,?_,?_,?_,hn,hi3,k8⟩
 ·have:=pM (n:=g'.length) (pl:=pl) k3
  exact aGi (pl:=upto 0 h2.length) (fun i hi=>by
   show _=if i<h2.length then _ else none
   rw [if_pos (jL.1 hi)]) _ _ b6 this
 ·intro m x hm
  have hlt:m<h.length:=by
   cases Nat.lt_or_ge m h.length with
   | inl q=>exact q
   | inr q=>rw [hf m q]at hm;cases hm
  show(if m<h2.length then V' (lab pl g'.length m)else none)=some x
  rw [if_pos (by omega)]
  have:lab pl g'.length m=m:=by unfold lab;rw [e2 m hlt];simp
  rw [this];exact k4 m x hm
 ·intro m hm;show(if m<h2.length then _ else none)=none
  rw [if_neg (by omega)]
def farI(n k i:Nat):Nat:=if i<n then i else i+k
def HB(n k:Nat)(g:aD A):aD A:=(g.take n).map (Option.map (aM.ren (farI n k)))++List.replicate k none++(g.drop n).map (Option.map (aM.ren (farI n k)))
theorem QG{n k:Nat}{g:aD A}(hn:n≤g.length)(i:Nat):aW (HB n k g) (farI n k i)=(aW g i).map (aM.ren (farI n k)):=by
 have hl:((g.take n).map (Option.map (aM.ren (farI n k)))).length =n:=by rw [List.length_map,List.length_take];omega
 unfold HB aW;simp only [gD']
 by_cases hi:i<n
 ·have e:farI n k i=i:=if_pos hi;rw [e,List.append_assoc,List.getElem?_append_left (by rw [hl];exact hi),List.getElem?_map,List.getElem?_take,if_pos hi]
  rw [gE' (by omega)]
  rfl
 ·have e:farI n k i=i+k:=if_neg hi;rw [e,List.getElem?_append_right (by rw [List.length_append,hl,List.length_replicate];omega),List.getElem?_map,List.getElem?_drop]
  have e2:n+(i+k - ((g.take n).map (Option.map (aM.ren (farI n k)))++List.replicate k (none:Option (aM A))).length)=i:=by
   rw [List.length_append,hl,List.length_replicate];omega
  rw [e2];cases g[i]? <;>rfl
theorem DN{n k:Nat}{g:aD A}(hn:n≤g.length):(HB n k g).length =g.length+k:=by
 unfold HB;rw [List.length_append,List.length_append,List.length_map,List.length_take,List.length_replicate,List.length_map,List.length_drop];omega
theorem MD{n k:Nat}{g:aD A}(hn:n≤g.length){m:Nat}(h1:n≤m)(h2:m<n+k):aW (HB n k g) m=none:=by
 have hl:((g.take n).map (Option.map (aM.ren (farI n k)))).length =n:=by rw [List.length_map,List.length_take];omega
 unfold HB aW;simp only [gD'];rw [List.append_assoc,List.getElem?_append_right (by rw [hl];exact h1),hl,List.getElem?_append_left (by rw [List.length_replicate];omega),List.getElem?_replicate,if_pos (by omega)]
 rfl
theorem QH{n k:Nat} : ∀i j,farI n k i=farI n k j→i=j:=by
 intro i j h;unfold farI at h;split at h<;>split at h<;>omega
theorem aC.shut{f:FuncId}{args:List AVal}{h':aD A}{K:AVal→aD A→Prop}(h:aD A)(t:A)(l np:Nat)(g:aD A)(ps:List Nat)(he:h'=bA h l np g ps)(hl:aW h l=some (.abs t ps))(ht:tb t=(np,g))
 (hb:(uY np g&&wV h l ps&&aFX (upto 0 h.length) args&&Nat.beq ps.length np)=true)
 (h0:aC (obI tb) P f args h (fun v g2=>K (v.ren (farI h.length (h'.length - h.length))) (HB h.length (h'.length - h.length) g2))):aC (obI tb) P f args h' K:=by
 subst he;simp only [Bool.and_eq_true]at hb;obtain⟨⟨⟨b1,b2⟩,b3⟩,b4⟩:=hb;have hlen:=gD h l np g ps;generalize hk:(bA h l np g ps).length - h.length=k at h0;intro V hR w args' hi hf hr;have hi2:=hi.pack tb hl ht b1 (Nat.eq_of_beq_eq_true b4) b2
 have hf2:cG (fun m=>if m<h.length then V m else none) h.length:=by
  intro m hm;show(if m<h.length then _ else none)=none
  rw [if_neg (by omega)]
 have hr2:aI (fun m=>if m<h.length then V m else none) args args'.toList:=aF9 (pl:=upto 0 h.length) (fun i hi=>by
  show _=if i<h.length then _ else none
  rw [if_pos (jL.1 hi)]) _ _ b3 hr
 refine(h0 _ hR w args' hi2 hf2 hr2).mono ?_;rintro e w' ⟨v,v',V',g2,hK,k2,k3,k4,k5,k6,k7,k8⟩
 let V1:Val:=fun m=>if m<h.length then V' m else if m<h.length+k then V m else V' (m - k)
 have hV1:(fun i=>V1 (farI h.length k i))=V':=by
  funext i;show(if farI h.length k i<h.length then _ else _)=_
  by_cases hi:i<h.length
  ·have e:farI h.length k i=i:=if_pos hi;rw [e,if_pos hi]
  ·have e:farI h.length k i=i+k:=if_neg hi;rw [e,if_neg (by omega),if_neg (by omega),Nat.add_sub_cancel]
 refine⟨_,v',V1,_,hK,k2,?_,?_,?_,?_,?_,k8⟩
 ·refine(Rep.ren _ _).2 ?_;rw [hV1];exact k3
 ·intro m x hm;show(if m<h.length then _ else _)=some x
  by_cases h1:m<h.length
  ·rw [if_pos h1];exact k4 m x (by show(if m<h.length then V m else none)=some x;rw [if_pos h1];exact hm)
  ·rw [if_neg h1]
   have h2:m<h.length+k:=by
    cases Nat.lt_or_ge m (h.length+k)with
    | inl q=>exact q
    | inr q=>rw [hf m (by omega)]at hm;cases hm
   rw [if_pos h2];exact hm
 ·intro m hm;rw [DN k6]at hm;show(if m<h.length then _ else _)=none
  rw [if_neg (by omega),if_neg (by omega)]
  exact k5 _ (by omega)
 ·rw [DN k6];omega
 ·refine(aGf (ι:=farI h.length k) (h0:=toF g2) QH (fun i=>QG k6 i) ?_).2 (by rw [hV1];exact k7)
  intro m hm
  by_cases h1:m<h.length
  ·exact(hm m (if_pos h1)).elim
  ·by_cases h2:m<h.length+k
   ·exact MD k6 (by omega) h2
   ·refine(hm (m - k) ?_).elim;show(if m - k<h.length then _ else _)=m
    rw [if_neg (by omega)];omega
end Go.Sh
namespace Go.Sh
open Go
variable [Con] {A:Type} {P:Program}
def oZ:List AVal→List AVal→Prop
 | [],[]=>True
 | v::vs,w::ws=>(w=v∨w=.O)∧oZ vs ws
 | _,_=>False
theorem z0{V:Val} : ∀ {vs ws:List AVal} {xs:List Value},oZ vs ws→aI V vs xs→aI V ws xs
 | [],[],_,_,r=>r
 | v::vs,w::ws,_,⟨h,h2⟩,⟨x,xs,e,r,r2⟩=>⟨x,xs,e,by rcases h with rfl | rfl;exact r;exact trivial,z0 h2 r2⟩
def pZ:Option (aM A)→Option (aM A)→Prop
 | _,none=>True
 | some (.cells vs),some (.cells ws)=>oZ vs ws
 | x,y=>x=y
def kW:aD A→aD A→Prop
 | [],[]=>True
 | x::g,y::g2=>pZ x y∧kW g g2
 | _,_=>False
theorem hU: ∀ {g g2:aD A},kW g g2→g2.length=g.length
 | [],[],_=>rfl
 | x::g,y::g2,h=>by simp [hU h.2]
theorem zZ: ∀ {g g2:aD A},kW g g2→ ∀l,pZ (aW g l) (aW g2 l)
 | [],[],_,l=>by simp [aW,pZ]
 | x::g,y::g2,h,0=>by simpa [aW]using h.1
 | x::g,y::g2,h,l+1=>by
   have:=zZ h.2 l
   simpa [aW]using this
theorem Inv.weak{I:Itp A}{V:Val}{g g2:aD A}{hR:PHeap}{w:World}(hw:kW g g2)(hi:Inv I V (toF g) hR w):Inv I V (toF g2) hR w:=by
 classical
 obtain⟨hs,h1,h2,h3,h4,h5,h6⟩:=hi;refine⟨fun l=>if aW g2 l=none then .emp else hs l,?_,?_,?_,?_,?_,h6⟩
 ·intro l e he;have he':aW g2 l=some e:=he;have hq:=zZ hw l;rw [he']at hq;show e.interp I V l (if aW g2 l=none then PHeap.emp else hs l)
  rw [if_neg (by rw [he'];simp)]
  cases hg:aW g l with
  | none=>rw [hg]at hq;cases e<;>cases hq
  | some e1=>
    rw [hg]at hq;have hi1:=h1 l e1 hg;cases e1 with
    | cells vs=>
      cases e with
      | cells ws=>
        obtain⟨b,k,q1,cs,T,q2,q3,rs,tail,q4,q5⟩:=hi1;exact⟨b,k,q1,cs,T,q2,q3,rs,tail,q4,z0 hq q5⟩
      | _=>simp [pZ]at hq
    | _=>
      simp only [pZ,sI']at hq;subst hq;exact hi1
 ·intro l he;have he':aW g2 l=none:=he;show(if aW g2 l=none then PHeap.emp else hs l)=_
  rw [if_pos he']
 ·intro l m hlm;show PHeap.disj (if aW g2 l=none then .emp else hs l) (if aW g2 m=none then .emp else hs m)
  split
  ·exact(aFV _).symm
  ·split
   ·exact aFV _
   ·exact h3 l m hlm
 ·intro l;show PHeap.disj (if aW g2 l=none then .emp else hs l) hR
  split
  ·exact(aFV _).symm
  ·exact h4 l
 ·intro l;show PHeap.sub (if aW g2 l=none then .emp else hs l) w
  split
  ·exact aGa _
  ·exact h5 l
structure O3 (K:AVal→aD A→Prop) (v:AVal) (g:aD A):Prop where
 ex: ∃g2,kW g g2∧K v g2
theorem aGu{I:Itp A}{f:FuncId}{args:List AVal}{h:aD A}{K:AVal→aD A→Prop}(h0:aC I P f args h (O3 K)):aC I P f args h K:=by
 intro V hR w args' hi hf hr;refine(h0 V hR w args' hi hf hr).mono ?_;rintro e w' ⟨v,v',V',g',⟨g2,hw,hK⟩,k2,k3,k4,k5,k6,k7,k8⟩;exact⟨v,v',V',g2,hK,k2,k3,k4,by rw [hU hw];exact k5,by rw [hU hw];exact k6,k7.weak hw,k8⟩
end Go.Sh
namespace Go.Sh
open Go
variable [Con] {A:Type} {P:Program}
def aF(I:Itp A)(n:Nat)(v:AVal)(g:aD A)(v2:AVal)(g2:aD A):Prop:=
 ∀V hR w x,Inv I V (toF g) hR w→cG V g.length→n≤g.length→Rep V v x→
  ∃V',(∀l y,l<n→V l=some y→V' l=some y)∧cG V' g2.length∧n≤g2.length∧Rep V' v2 x∧Inv I V' (toF g2) hR w
theorem aF.refl{I:Itp A}(n:Nat)(v:AVal)(g:aD A):aF I n v g v g:=fun V hR w x h1 h2 h3 h4=>⟨V,fun _ _ _ h=>h,h2,h3,h4,h1⟩
theorem aF.trans{I:Itp A}{n:Nat}{v v2 v3:AVal}{g g2 g3:aD A}(a:aF I n v g v2 g2)(b:aF I n v2 g2 v3 g3):aF I n v g v3 g3:=by
 intro V hR w x h1 h2 h3 h4;obtain⟨V1,a1,a2,a3,a4,a5⟩:=a V hR w x h1 h2 h3 h4;obtain⟨V2,b1,b2,b3,b4,b5⟩:=b V1 hR w x a5 a2 a3 a4;exact⟨V2,fun l y hl hy=>b1 l y hl (a1 l y hl hy),b2,b3,b4,b5⟩
theorem aF.weak{I:Itp A}{n:Nat}{v:AVal}{g g2:aD A}(h:kW g g2):aF I n v g v g2:=fun V hR w x h1 h2 h3 h4=>⟨V,fun _ _ _ h=>h,by rw [hU h];exact h2,by rw [hU h];exact h3,h4,h1.weak h⟩
theorem aF.pick{I:Itp A}{n:Nat}{v:AVal}{g:aD A}(pl:List Nat)(h:(fD pl g.length&&kO pl 0 n)=true):aF I n v g (mE pl v) (gU pl g):=by
 intro V hR w x h1 h2 h3 h4;obtain⟨q1,q2⟩:=Bool.and_eq_true_iff.1 h;obtain⟨p1,p2,p3,p4⟩:=x9.elim q1 q2 h1 h2;exact⟨_,fun l y hl hy=>(p1 l hl).trans hy,p2,p3,pM h4,p4⟩
theorem aF.unpack{tb:A→Nat×aD A}{n:Nat}{v:AVal}{g:aD A}(t:A)(l np:Nat)(e:aD A)(ps:List Nat)(hl:aW g l=some (.abs t ps))(ht:tb t=(np,e))(ho:uY np e=true)(hnp:ps.length=np):aF (obI tb) n v g v (bA g l np e ps):=by
 intro V hR w x h1 h2 h3 h4;obtain⟨V1,v1,v2,v3⟩:=h1.unpack tb h2 hl ht ho hnp;exact⟨V1,fun l y _ hy=>v1 l y hy,v2,by rw [gD];omega,Rep.mono v1 _ _ h4,v3⟩
theorem aF.pack{tb:A→Nat×aD A}{n:Nat}{v:AVal}{g:aD A}(h2:aD A)(t:A)(l np:Nat)(e:aD A)(ps:List Nat)(hg:g=bA h2 l np e ps)(hl:aW h2 l=some (.abs t ps))(ht:tb t=(np,e))
 (hb:(Nat.ble n h2.length&&uY np e&&wV h2 l ps&&v.within (upto 0 h2.length)&&Nat.beq ps.length np)=true):aF (obI tb) n v g v h2:=by
 subst hg;simp only [Bool.and_eq_true]at hb;obtain⟨⟨⟨⟨b3,b4⟩,b5⟩,b6⟩,b7⟩:=hb;have hn:n≤h2.length:=Nat.le_of_ble_eq_true b3;intro V hR w x h1 hf h3 h4;refine⟨_,?_,?_,hn,?_,h1.pack tb hl ht b4 (Nat.eq_of_beq_eq_true b7) b5⟩
 ·intro m y hm hy;show(if m<h2.length then V m else none)=some y
  rw [if_pos (by omega)];exact hy
 ·intro m hm;show(if m<h2.length then _ else none)=none
  rw [if_neg (by omega)]
 ·exact aGi (pl:=upto 0 h2.length) (fun i hi=>by
   show _=if i<h2.length then _ else none
   rw [if_pos (jL.1 hi)]) _ _ b6 h4
theorem aF.eq{I:Itp A}{n:Nat}{v v2:AVal}{g g2:aD A}(h1:v=v2)(h2:g=g2):aF I n v g v2 g2:=by subst h1 h2;exact aF.refl _ _ _
theorem aF.less{I:Itp A}{n m:Nat}{v v2:AVal}{g g2:aD A}(h:aF I n v g v2 g2)(hm:m≤n)(hn:n≤g.length):aF I m v g v2 g2:=by
 intro V hR w x h1 hf h3 h4;obtain⟨V1,a1,a2,a3,a4,a5⟩:=h V hR w x h1 hf hn h4;exact⟨V1,fun l y hl hy=>a1 l y (by omega) hy,a2,by omega,a4,a5⟩
structure iV (I:Itp A) (n:Nat) (K:AVal→aD A→Prop) (v:AVal) (g:aD A):Prop where
 ex: ∃v2 g2,aF I n v g v2 g2∧K v2 g2
theorem aGn{I:Itp A}{f:FuncId}{args:List AVal}{h:aD A}{K:AVal→aD A→Prop}(h0:aC I P f args h (iV I h.length K)):aC I P f args h K:=by
 intro V hR w args' hi hf hr;refine(h0 V hR w args' hi hf hr).mono ?_;rintro e w' ⟨v,v',V',g',⟨v2,g2,ht,hK⟩,k2,k3,k4,k5,k6,k7,k8⟩;obtain⟨V1,a1,a2,a3,a4,a5⟩:=ht V' hR w' v' k7 k5 k6 k3;refine⟨v2,v',V1,g2,hK,k2,a4,?_,a2,a3,a5,k8⟩;intro l y hl
 have hlt:l<h.length:=by
  cases Nat.lt_or_ge l h.length with
  | inl q=>exact q
  | inr q=>rw [hf l q]at hl;cases hl
 exact a1 l y hlt (k4 l y hl)
inductive Tr (X:Type) where
 | ret (x:X)
 | ite (b:Bool) (l r:Tr X)
 | pre (p:Prop) (t:Tr X)
def Tr.run{X:Type} :Tr X→(X→Prop)→Prop
 | .ret x,K=>K x
 | .ite b l r,K=>cond b (l.run K) (r.run K)
 | .pre p t,K=>p∧t.run K
def Tr.val{X:Type} :Tr X→X
 | .ret x=>x
 | .ite b l r=>bif b then l.val else r.val
 | .pre _ t=>t.val
def Tr.ok{X:Type} :Tr X→Prop
 | .ret _=>True
 | .ite b l r=>cond b l.ok r.ok
 | .pre p t=>p∧t.ok
theorem aFW{X:Type}{K:X→Prop} : ∀ {t:Tr X},t.ok→K t.val→t.run K
 | .ret x,_,k=>k
 | .ite b l r,o,k=>by
   cases b with
   | true=>exact aFW (t:=l) o k
   | false=>exact aFW (t:=r) o k
 | .pre p t,o,k=>⟨o.1,aFW (t:=t) o.2 k⟩
def Z0{X:Type}(n:Nat)(parse:AVal→aD A→Option (Prop×X))(K:X→Prop)(v:AVal)(g:aD A):Prop:=
 dK (fD (eE n g v.labels) g.length&&kO (eE n g v.labels) 0 n) (match parse (mE (eE n g v.labels) v) (gU (eE n g v.labels) g)with
  | some (p,x)=>p∧K x
  | none=>False)
def cE{X:Type}(I:Itp A)(n:Nat)(parse:AVal→aD A→Option (Prop×X))(fin:X→Out A):Prop:=
 ∀v g p x,parse v g=some (p,x)→p→ ∀K,(fin x).run K→iV I n K v g
theorem aC.leaf{X:Type}{I:Itp A}{f:FuncId}{args:List AVal}{h:aD A}{K:AVal→aD A→Prop}{parse:AVal→aD A→Option (Prop×X)}{fin:X→Out A}(n:Nat)(hn:n≤h.length)(hr:cE I n parse fin)
 (h0:aC I P f args h (Z0 n parse fun x=>(fin x).run K)): ∀V hR w (args':Array Value),Inv I V (toF h) hR w→cG V h.length→aI V args args'.toList→Calls P f args' w (fun e w'=> ∃v v' V' h',K v h'∧e=.returned v'∧Rep V' v v'∧(∀l y,l<n→V l=some y→V' l=some y)∧cG V' h'.length∧n≤h'.length∧Inv I V' (toF h') hR w'∧cR w w'):=by
 intro V hR w args' hi hf hrp;refine(h0 V hR w args' hi hf hrp).mono ?_;rintro e w' ⟨v,v',V',g',hL,k2,k3,k4,k5,k6,k7,k8⟩;unfold Z0 at hL;obtain⟨hg,hL⟩:=cB.1 hL;have ht:=aF.pick (I:=I) (v:=v) _ hg;split at hL
 ·rename_i p x hp;obtain⟨v2,g2,ht2,hK⟩:=(hr _ _ p x hp hL.1 K hL.2).ex;obtain⟨V1,a1,a2,a3,a4,a5⟩:=(ht.trans ht2) V' hR w' v' k7 k5 (by omega) k3
  exact⟨v2,v',V1,g2,hK,k2,a4,fun l y hl hy=>a1 l y hl (k4 l y hy),a2,a3,a5,k8⟩
 ·exact hL.elim
theorem aC.plain{X:Type}{I:Itp A}{f:FuncId}{args:List AVal}{h:aD A}{K:AVal→aD A→Prop}{parse:AVal→aD A→Option (Prop×X)}{fin:X→Out A}(hr:cE I h.length parse fin)
 (h0:aC I P f args h (Z0 h.length parse fun x=>(fin x).run K)):aC I P f args h K:=by
 intro V hR w args' hi hf hrp;refine(aC.leaf h.length (Nat.le_refl _) hr h0 V hR w args' hi hf hrp).mono ?_;rintro e w' ⟨v,v',V',h',k1,k2,k3,k4,k5,k6,k7,k8⟩;refine⟨v,v',V',h',k1,k2,k3,?_,k5,k6,k7,k8⟩;intro l y hy
 have hlt:l<h.length:=by
  cases Nat.lt_or_ge l h.length with
  | inl q=>exact q
  | inr q=>rw [hf l q]at hy;cases hy
 exact k4 l y hlt hy
end Go.Sh
namespace Go.Sh
open Go
variable [Con] {A:Type} {P:Program}
def ZV(g:aD A):AVal→Bool
 | .ptr l 0=>(match aW g l with
   | some (.abs _ _)=>false
   | _=>true)
 | _=>true
def TC(g:aD A)(pos:List Nat):Nat→List AVal→List AVal
 | _,[]=>[]
 | i,v::vs=>cond (pos.elem i&&ZV g v) .O v::TC g pos (i+1) vs
theorem xJ(g:aD A)(pos:List Nat): ∀(i:Nat) (vs:List AVal),oZ vs (TC g pos i vs)
 | _,[]=>trivial
 | i,v::vs=>by
   refine⟨?_,xJ g pos (i+1) vs⟩;cases pos.elem i&&ZV g v with
   | true=>exact .inr rfl
   | false=>exact .inl rfl
theorem xM: ∀(vs:List AVal),oZ vs vs
 | []=>trivial
 | _::vs=>⟨.inl rfl,xM vs⟩
theorem xL(e:Option (aM A)):pZ e e:=by
 cases e with
 | none=>trivial
 | some e=>cases e with
   | cells vs=>exact xM vs
   | _=>rfl
theorem nB: ∀(g:aD A),kW g g
 | []=>trivial
 | _::g=>⟨xL _,nB g⟩
theorem tY: ∀(g:aD A) (l:Nat) (e2:Option (aM A)),pZ (aW g l) e2→kW g (g.set l e2)
 | [],_,_,_=>trivial
 | x::g,0,e2,h=>⟨by simpa [aW]using h,nB g⟩
 | x::g,l+1,e2,h=>⟨xL x,tY g l e2 (by simpa [aW]using h)⟩
def B2(g:aD A)(root:Nat)(pos:List Nat):aD A:=match aW g root with
 | some (.cells vs)=>g.set root (some (.cells (TC g pos 0 vs)))
 | _=>g
theorem B3(g:aD A)(root:Nat)(pos:List Nat):kW g (B2 g root pos):=by
 unfold B2;split
 ·rename_i vs h;refine tY g root _ ?_;rw [h];exact xJ g pos 0 vs
 ·exact nB g
theorem aF.cast{I:Itp A}{n:Nat}{cs:List (Place×iI)}{v v2:AVal}{g g2:aD A}(h:hZ cs [v] g=some ([v2],g2)):aF I n v g v2 g2:=by
 intro V hR w x h1 h2 h3 h4;obtain⟨V',⟨c1,c2,c3,c4⟩,r⟩:=fX h h1 h2 (xs:=[x]) ⟨x,[],rfl,h4,rfl⟩;obtain⟨y,ys,e,r1,_⟩:=r;simp only [lI']at e;obtain⟨rfl,_⟩:=e;exact⟨V',fun l y _ hy=>c1 l y hy,c2,by omega,r1,c4⟩
def cF{X:Type}(n root:Nat)(pos:List Nat)(cs:List (Place×iI))(parse:AVal→aD A→Option (Prop×X))(K:X→Prop)(v:AVal)(g:aD A):Prop:=
 let pl:=eE n g v.labels
 dK (fD pl g.length&&kO pl 0 n) (
  match hZ cs [mE pl v] (B2 (gU pl g) root pos)with
  | some ([v3],g3)=>
    let pl2:=eE n g3 v3.labels
    dK (fD pl2 g3.length&&kO pl2 0 n) (match parse (mE pl2 v3) (gU pl2 g3)with
     | some (p,x)=>p∧K x
     | none=>False)
  | _=>False)
theorem cF.sees{X:Type}{I:Itp A}{n root:Nat}{pos:List Nat}{cs:List (Place×iI)}{parse:AVal→aD A→Option (Prop×X)}{fin:X→Out A}(hr:cE I n parse fin){K:AVal→aD A→Prop}{v:AVal}{g:aD A}
 (h:cF n root pos cs parse (fun x=>(fin x).run K) v g):iV I n K v g:=by
 unfold cF at h;obtain⟨h1,h⟩:=cB.1 h;have t1:=aF.pick (I:=I) (v:=v) _ h1;split at h
 ·rename_i v3 g3 hc;obtain⟨h2,h⟩:=cB.1 h;have t2:aF I n (mE (eE n g v.labels) v) (gU (eE n g v.labels) g) v3 g3:=(aF.weak (B3 _ root pos)).trans (aF.cast hc);have t3:=aF.pick (I:=I) (v:=v3) _ h2;split at h
  ·rename_i p x hp;obtain⟨v4,g4,t4,hK⟩:=(hr _ _ p x hp h.1 K h.2).ex;exact⟨v4,g4,((t1.trans t2).trans t3).trans t4,hK⟩
  ·exact h.elim
 ·exact h.elim
theorem aGz{X:Type}{I:Itp A}{f:FuncId}{args:List AVal}{h:aD A}{K:AVal→aD A→Prop}{parse:AVal→aD A→Option (Prop×X)}{fin:X→Out A}(n:Nat)(hn:n≤h.length){root:Nat}{pos:List Nat}{cs:List (Place×iI)}(hr:cE I n parse fin)
 (h0:aC I P f args h (cF n root pos cs parse fun x=>(fin x).run K)): ∀V hR w (args':Array Value),Inv I V (toF h) hR w→cG V h.length→aI V args args'.toList→Calls P f args' w (fun e w'=> ∃v v' V' h',K v h'∧e=.returned v'∧Rep V' v v'∧(∀l y,l<n→V l=some y→V' l=some y)∧cG V' h'.length∧n≤h'.length∧Inv I V' (toF h') hR w'∧cR w w'):=by
 intro V hR w args' hi hf hrp;refine(h0 V hR w args' hi hf hrp).mono ?_;rintro e w' ⟨v,v',V',g',hL,k2,k3,k4,k5,k6,k7,k8⟩;obtain⟨v2,g2,ht2,hK⟩:=(cF.sees hr hL).ex;obtain⟨V1,a1,a2,a3,a4,a5⟩:=ht2 V' hR w' v' k7 k5 (by omega) k3
 exact⟨v2,v',V1,g2,hK,k2,a4,fun l y hl hy=>a1 l y hl (k4 l y hy),a2,a3,a5,k8⟩
theorem aF0{X:Type}{I:Itp A}{f:FuncId}{args:List AVal}{h:aD A}{K:AVal→aD A→Prop}{parse:AVal→aD A→Option (Prop×X)}{fin:X→Out A}{root:Nat}{pos:List Nat}{cs:List (Place×iI)}(hr:cE I h.length parse fin)
 (h0:aC I P f args h (cF h.length root pos cs parse fun x=>(fin x).run K)):aC I P f args h K:=by
 intro V hR w args' hi hf hrp;refine(aGz h.length (Nat.le_refl _) hr h0 V hR w args' hi hf hrp).mono ?_;rintro e w' ⟨v,v',V',h',k1,k2,k3,k4,k5,k6,k7,k8⟩;refine⟨v,v',V',h',k1,k2,k3,?_,k5,k6,k7,k8⟩;intro l y hy
 have hlt:l<h.length:=by
  cases Nat.lt_or_ge l h.length with
  | inl q=>exact q
  | inr q=>rw [hf l q]at hy;cases hy
 exact k4 l y hlt hy
end Go.Sh
namespace Go.Sh
open Go
variable [Con] {A:Type} {P:Program}
def bF(I:Itp A)(h h2:aD A):Prop:= ∀V hR w,Inv I V (toF h) hR w→cG V h.length→ ∃V',V.le V'∧cG V' h2.length∧h.length≤h2.length∧Inv I V' (toF h2) hR w
theorem bF.refl{I:Itp A}(h:aD A):bF I h h:=fun V hR w h1 h2=>⟨V,V.le_refl,h2,Nat.le_refl _,h1⟩
theorem bF.trans{I:Itp A}{h h2 h3:aD A}(a:bF I h h2)(b:bF I h2 h3):bF I h h3:=by
 intro V hR w h1 hf;obtain⟨V1,a1,a2,a3,a4⟩:=a V hR w h1 hf;obtain⟨V2,b1,b2,b3,b4⟩:=b V1 hR w a4 a2;exact⟨V2,Val.le_trans a1 b1,b2,Nat.le_trans a3 b3,b4⟩
theorem bF.unpack{tb:A→Nat×aD A}{h:aD A}(t:A)(l np:Nat)(g:aD A)(ps:List Nat)(hl:aW h l=some (.abs t ps))(ht:tb t=(np,g))(ho:uY np g=true)(hnp:ps.length=np):bF (obI tb) h (bA h l np g ps):=by
 intro V hR w h1 hf;obtain⟨V1,v1,v2,v3⟩:=h1.unpack tb hf hl ht ho hnp;exact⟨V1,v1,v2,by rw [gD];omega,v3⟩
theorem bF.weak{I:Itp A}{h h2:aD A}(hw:kW h h2):bF I h h2:=fun V hR w h1 hf=>⟨V,V.le_refl,by rw [hU hw];exact hf,by rw [hU hw];exact Nat.le_refl _,h1.weak hw⟩
theorem bF.eq{I:Itp A}{h h2:aD A}(e:h=h2):bF I h h2:=by subst e;exact bF.refl h
theorem aFR{X:Type}{I:Itp A}{f:FuncId}{args:List AVal}{h h2:aD A}{K:AVal→aD A→Prop}{parse:AVal→aD A→Option (Prop×X)}{fin:X→Out A}{root:Nat}{pos:List Nat}{cs:List (Place×iI)}(hr:cE I h.length parse fin)(ho:bF I h h2)
 (h0:aC I P f args h2 (cF h.length root pos cs parse fun x=>(fin x).run K)):aC I P f args h K:=by
 intro V hR w args' hi hf hrp;obtain⟨V1,v1,v2,v3,v4⟩:=ho V hR w hi hf;refine(aGz h.length v3 hr h0 V1 hR w args' v4 v2 (aI.mono v1 _ _ hrp)).mono ?_;rintro e w' ⟨v,v',V',h',k1,k2,k3,k4,k5,k6,k7,k8⟩;refine⟨v,v',V',h',k1,k2,k3,?_,k5,k6,k7,k8⟩;intro l y hy
 have hlt:l<h.length:=by
  cases Nat.lt_or_ge l h.length with
  | inl q=>exact q
  | inr q=>rw [hf l q]at hy;cases hy
 exact k4 l y hlt (v1 l y hy)
def aG.or(F G:aG A):aG A:=fun args h=>match F args h with
 | some o=>some o
 | none=>G args h
theorem aF6{I:Itp A}{f:FuncId}{F G:aG A}(hF:aG.ok I P f F)(hG:aG.ok I P f G):aG.ok I P f (F.or G):=by
 intro args h o ho K hK;unfold aG.or at ho;split at ho
 ·rename_i o' h1;simp only [sI']at ho;subst ho;exact hF args h _ h1 K hK
 ·exact hG args h o ho K hK
def aCU(pos:List Nat):Nat→List AVal→List AVal
 | _,[]=>[]
 | i,v::vs=>cond (pos.elem i) .O v::aCU pos (i+1) vs
theorem zW(pos:List Nat): ∀(i:Nat) (vs:List AVal),oZ vs (aCU pos i vs)
 | _,[]=>trivial
 | i,v::vs=>by
   refine⟨?_,zW pos (i+1) vs⟩;cases pos.elem i with
   | true=>exact .inr rfl
   | false=>exact .inl rfl
def aEI(g:aD A)(root:Nat)(pos:List Nat):aD A:=match aW g root with
 | some (.cells vs)=>g.set root (some (.cells (aCU pos 0 vs)))
 | _=>g
theorem cD(g:aD A)(root:Nat)(pos:List Nat):kW g (aEI g root pos):=by
 unfold aEI;split
 ·rename_i vs h;refine tY g root _ ?_;rw [h];exact zW pos 0 vs
 ·exact nB g
theorem sJ{I:Itp A}{n:Nat}{K:AVal→aD A→Prop}{d:Bool}{a b g:aD A}(hK:(Out.ite d (.ret (.bool true) a) (.ret (.bool false) b)).run K)(h1:K (.bool true) a→iV I n K (.bool true) g)(h2:K (.bool false) b→iV I n K (.bool false) g):iV I n K (.bool d) g:=by
 cases d with
 | true=>exact h1 hK
 | false=>exact h2 hK
end Go.Sh
namespace Go.Sh
open Go
variable [Con]
def PHeap.less(h g:PHeap):PHeap:=fun b=>match g b with | some _=>none | none=>h b
theorem aGt{h g:PHeap}{b:Nat}{o:Obj}(e:h.join g b=some o):h b=some o∨(h b=none∧g b=some o):=by
 unfold PHeap.join at e;cases hh:h b with
 | some o'=>rw [hh]at e;exact .inl (by simpa using e)
 | none=>rw [hh]at e;exact .inr ⟨rfl,e⟩
section
variable {P:Program}
theorem mX{h g:PHeap}(d:h.disj g){b:Nat}{o:Obj}(e:h b=some o):g b=none:=by
 rcases d b with h1 | h1
 ·rw [e]at h1;cases h1
 ·exact h1
end
end Go.Sh
namespace Go.Sh
open Go
variable [Con] {A:Type}
section
variable {P:Program} {E:qR A P}
def O4(E:qR A P)(ds:List Deferred)(V:Val)(n:Nat)(hR:PHeap)(w:World)(K:List AVal→aD A→Prop)(a:Act)(w':World):Prop:=
 ∃tm V' h',K tm h'∧aI V' tm a.tmps.toList∧V.le V'∧cG V' h'.length∧n≤h'.length∧Inv E.I V' (toF h') hR w'∧cR w w'∧a.defers=ds
theorem O4.chain{ds:List Deferred}{V V1:Val}{n n1:Nat}{hR:PHeap}{w w1:World}{K:List AVal→aD A→Prop}{a:Act}{w':World}(h:O4 E ds V1 n1 hR w1 K a w')(hV:V.le V1)(hn:n≤n1)(hg:cR w w1):O4 E ds V n hR w K a w':=by
 obtain⟨tm,V',h',h1,h2,h3,h4,h5,h6,h7,h8⟩:=h;exact⟨tm,V',h',h1,h2,Val.le_trans hV h3,h4,by omega,h6,hg.trans h7,h8⟩
end
section
variable {P:Program} {E:qR A P}
def ZY(I:Itp A)(V:Val)(h:bM A)(hR hF:PHeap):Prop:=
 ∃hs:Nat→PHeap,(∀l e,h l=some e→e.interp I V l (hs l))∧(∀l,h l=none→hs l=.emp)∧
  (∀l m,l≠m→(hs l).disj (hs m))∧(∀l,(hs l).disj hR)∧hF=(aFZ hs).join hR∧ ∀b o,Con.con b=some o→hR b=some o
theorem pP{hs:Nat→PHeap}{hR:PHeap}{b:Nat}{o:Obj}(e:(aFZ hs).join hR b=some o):(∃l,hs l b=some o)∨hR b=some o:=by
 rcases aGt e with h | ⟨_,h⟩
 ·exact .inl (aGb h)
 ·exact .inr h
theorem kK{hs:Nat→PHeap}{hR:PHeap}(d: ∀l m,l≠m→(hs l).disj (hs m))(dR: ∀l,(hs l).disj hR){b:Nat}{o:Obj}(e:(∃l,hs l b=some o)∨hR b=some o):(aFZ hs).join hR b=some o:=by
 unfold PHeap.join;rcases e with⟨l,e⟩ | e
 ·rw [aGh d e]
 ·cases hb:aFZ hs b with
  | none=>exact e
  | some o2=>
    obtain⟨l,hl⟩:=aGb hb;have:=mX (dR l) hl;rw [e]at this;cases this
theorem mU{h g:PHeap}{b:Nat}{o:Obj}(e:h b=some o):h.join g b=some o:=by unfold PHeap.join;rw [e]
theorem pS{h g:PHeap}(d:g.disj h){b:Nat}{o:Obj}(e:g b=some o):h.join g b=some o:=by
 unfold PHeap.join;rw [mX d e];exact e
theorem ZY.inv{I:Itp A}{V:Val}{h:bM A}{hR hF own:PHeap}{w:World}(hh:ZY I V h hR hF)(hd:own.disj hF)(ho:own.sub w)(hs:hF.sub w):Inv I V h (hR.join own) w:=by
 obtain⟨hs',h1,h2,h3,h4,rfl,h6⟩:=hh
 have odR:own.disj hR:=by
  intro b;cases e:own b with
  | none=>exact .inl rfl
  | some o=>
    right;have:=mX hd e;cases e2:hR b with
    | none=>rfl
    | some o2=>rw [kK h3 h4 (.inr e2)]at this;cases this
 refine⟨hs',h1,h2,h3,?_,fun l b o e=>hs b o (kK h3 h4 (.inl ⟨l,e⟩)),?_,fun b o e=>mU (h6 b o e)⟩
 ·intro l b;cases e:hs' l b with
  | none=>exact .inl rfl
  | some o=>
    right;unfold PHeap.join;rw [mX (h4 l) e];cases e2:own b with
    | none=>rfl
    | some o2=>
      have:=mX hd e2;rw [kK h3 h4 (.inl ⟨l,e⟩)]at this;cases this
 ·intro b o e;rcases aGt e with e | ⟨_,e⟩
  ·exact hs b o (kK h3 h4 (.inr e))
  ·exact ho b o e
theorem Inv.held{I:Itp A}{V:Val}{h:bM A}{hR own:PHeap}{w:World}(hi:Inv I V h (hR.join own) w)(hd:own.disj hR)(hc: ∀b o,Con.con b=some o→hR b=some o):
 ∃hF,ZY I V h hR hF∧own.disj hF∧own.sub w∧hF.sub w:=by
 obtain⟨hs,h1,h2,h3,h4,h5,h6,h7⟩:=hi
 have d1: ∀l,(hs l).disj hR:=by
  intro l b;rcases h4 l b with e | e
  ·exact .inl e
  ·right;cases e2:hR b with
   | none=>rfl
   | some o=>rw [mU e2]at e;cases e
 refine⟨_,⟨hs,h1,h2,h3,d1,rfl,hc⟩,?_,fun b o e=>h6 b o (pS hd e),?_⟩
 ·intro b;cases e:own b with
  | none=>exact .inl rfl
  | some o=>
    right;cases e2:(aFZ hs).join hR b with
    | none=>rfl
    | some o2=>
      rcases pP e2 with⟨l,e3⟩ | e3
      ·have:=mX (h4 l) e3;rw [pS hd e]at this;cases this
      ·have:=mX hd e;rw [e3]at this;cases this
 ·intro b o e;rcases pP e with⟨l,e⟩ | e
  ·exact h5 l b o e
  ·exact h6 b o (mU e)
end
end Go.Sh
namespace Go.Sh
open Go Go.RowKit
variable [Con] {A:Type}
theorem Inv.put{I:Itp A}{V:Val}{h:bM A}{hX hY:PHeap}{w:World}{l:Nat}{o o':Obj}(hi:Inv I V h hX w)(hl:hX l=some o)(hY1:hY l=some o')(hY2: ∀b,b≠l→hY b=hX b)(hc:Con.con l=none):Inv I V h hY (w.putObj l o'):=by
 obtain⟨hs,h1,h2,h3,h4,h5,h6,h7⟩:=hi;have hlt:l<w.heap.size:=(Array.getElem?_eq_some_iff.1 (h6 l o hl)).1
 have nl: ∀m,hs m l=none:=fun m=>by
  rcases h4 m l with e | e
  ·exact e
  ·rw [hl]at e;cases e
 refine⟨hs,h1,h2,h3,?_,?_,?_,?_⟩
 ·intro m b
  by_cases e:b=l
  ·subst e;exact .inl (nl m)
  ·rw [hY2 b e];exact h4 m b
 ·intro m b x e;have hb:b≠l:=fun e2=>by subst e2;rw [nl m]at e;cases e
  rw [World.putObj_heap_other hb];exact h5 m b x e
 ·intro b x e
  by_cases hb:b=l
  ·subst hb;rw [hY1]at e;cases e;exact World.putObj_heap_same hlt
  ·rw [World.putObj_heap_other hb];rw [hY2 b hb]at e;exact h6 b x e
 ·intro b x e;have hb:b≠l:=fun e2=>by subst e2;rw [hc]at e;cases e
  rw [hY2 b hb];exact h7 b x e
theorem cR.put{w:World}{l:Nat}{r r':Loop}(h:w.heap[l]? =some (.loop r)):cR w (w.putObj l (.loop r')):=by
 have hlt:l<w.heap.size:=(Array.getElem?_eq_some_iff.1 h).1;refine⟨rfl,rfl,?_,?_⟩
 ·show w.heap.size≤(w.heap.setIfInBounds l _).size
  simp
 ·intro a _;unfold World.frozen?
  by_cases e:a.block=l
  ·rw [e,h,World.putObj_heap_same hlt]
  ·rw [World.putObj_heap_other e]
section
variable {P:Program} {E:qR A P}
end
end Go.Sh
namespace Go.Sh
open Go Go.RowKit
variable [Con] {A:Type}
section
variable {P:Program} {E:qR A P}
end
end Go.Sh
namespace Go.Sh
open Go
variable {A:Type}
def Con.sub(c c':Con):Prop:= ∀b o,c.con b=some o→c'.con b=some o
mutual
theorem Rep.con{c c':Con}(h:Con.sub c c'){V:Val} : ∀(a:AVal) (v:Value),@Rep c V a v→ @Rep c' V a v
 | .bool _,_,r=>r
 | .int _ _,_,r=>r
 | .str _,_,r=>r
 | .ptr _ _,_,r=>r
 | .slice _ _ _ _,_,r=>r
 | .map _,_,r=>r
 | .func _ f g,_,⟨fs,cs,hv,r,s⟩=>⟨fs,cs,hv,aI.con h f _ r,aI.con h g _ s⟩
 | .iface _ a,_,⟨x,hv,r⟩=>⟨x,hv,Rep.con h a _ r⟩
 | .agg av,_,⟨cs,hv,r⟩=>⟨cs,hv,aI.con h av _ r⟩
 | .tup av,_,⟨cs,hv,r⟩=>⟨cs,hv,aI.con h av _ r⟩
 | .raw _,_,r=>r
 | .any,_,r=>r
 | .O,_,r=>r
 | .iview _ _,_,⟨base,cap,hv,hc,r⟩=>⟨base,cap,hv,hc,r.imp (fun⟨b,off,cs,T,fz,e,f,g⟩=>⟨b,off,cs,T,fz,e,h _ _ f,g⟩) id⟩
 | .view _ _ row,_,⟨base,cap,hv,hc,r⟩=>⟨base,cap,hv,hc,r.imp (fun⟨b,off,cs,T,fz,e,f,g⟩=>⟨b,off,cs,T,fz,e,h _ _ f,fun i hi=>⟨(g i hi).1,aI.con h (row i) _ (g i hi).2⟩⟩) id⟩
 | .tslice _ _ _ _,_,r=>r
 | .tptr _ _ _ _,_,r=>r
 | .empty,_,r=>r
 | .cptr av,_,⟨b,off,cs,T,fz,e,f,g⟩=>⟨b,off,cs,T,fz,e,h _ _ f,aI.con h av _ g⟩
theorem aI.con{c c':Con}(h:Con.sub c c'){V:Val} : ∀(a:List AVal) (v:List Value),@aI c V a v→ @aI c' V a v
 | [],_,r=>r
 | a::av,_,⟨v,vs,e,r,s⟩=>⟨v,vs,e,Rep.con h a v r,aI.con h av vs s⟩
end
section
variable {tb:A→Nat×aD A}
end
def aE4(S:Nat→Bool):Nat→aD A→aD A→aD A
 | _,[],g=>g
 | i,e::h,[]=>e::h
 | i,e::h,x::g=>(cond (S i) x e)::aE4 S (i+1) h g
end Go.Sh
namespace Go.Sh
open Go
variable [Con] {A:Type} {tb:A→Nat×aD A} {P:Program}
end Go.Sh
