import Derived.RangeFuncRecord
import Derived.Below
import Derived.Test.YteindpciaceeeaaGreatZSh14toSh18
set_option linter.all false
set_option maxHeartbeats 8000000
namespace Go.Sh
open Go Go.ChangeShapes Go.RowKit
def tO(P:Program):List TypeId→Option (List (Bool×List Shp))
 | []=>some []
 | t::ts=>match eB P t,QO P 40 t,tO P ts with
   | some b,some r,some l=>if b=true∨r.length=1 then some ((b,r)::l)else none
   | _,_,_=>none
def DenA:List (Bool×List Shp)→Type
 | []=>Unit
 | (_,r)::l=>DenL r×DenA l
def rJ:(l:List (Bool×List Shp))→DenA l→List AVal
 | [],_=>[]
 | (true,r)::l,x=>.agg (iR r x.1)::rJ l x.2
 | (false,r)::l,x=>(iR r x.1).headD .O ::rJ l x.2
def okA:(l:List (Bool×List Shp))→DenA l→Prop
 | [],_=>True
 | (_,r)::l,x=>KP r x.1∧okA l x.2
section
variable {H:Type} {enc:TypeId×Value→H} {P:Program} {w:World}
theorem yQ{t:TypeId}{v:Value}{base:Nat}(hb:eB P t=some false)(ho:Value.okWide P w .any base t v)(hs: ∃m r,QO P m t=some r):v.cells= #[v]:=by
 obtain⟨m,r,hs⟩:=hs;cases m with
 | zero=>simp [QO]at hs
 | succ m=>
   unfold QO at hs;unfold eB at hb;unfold Value.okWide at ho;cases hu:P.underlying t with
   | none=>rw [hu]at hs;cases hs
   | some d=>
     rw [hu]at ho hb hs;cases v with
     | agg cs=>
       exfalso;cases d<;>simp at hb hs<;>simp [Cell.okWide,hu,Cell.ok]at ho
     | _=>rfl
theorem zS [Con](hcon: ∀b o,w.heap[b]? =some o→Con.con b=some o){base:Nat} : ∀(ts:List TypeId) (vs:List Value) (ds:List (DataW H)) (ps:List MemPlace) (l:List (Bool×List Shp)),
 DataW.TrodAll enc P w 0 (fun _=>true) true ts vs ds ps→(∀(j:Nat) t v,ts[j]? =some t→vs[j]? =some v→Value.okWide P w .any base t v)→tO P ts=some l→
 ∃x:DenA l,okA l x∧aG (fun _=>none) (rJ l x) vs
 | [],vs,ds,ps,l,h,_,hl=>by
   obtain⟨rfl,rfl,rfl⟩:=trodAll_nil h;simp [tO]at hl;subst hl;exact⟨(),trivial,by simp [rJ,aG]⟩
 | t::ts,vs,ds,ps,l,h,hv,hl=>by
   obtain⟨v,vs',d,ds',p,q,rfl,rfl,rfl,h1,h2⟩:=trodAll_cons h;simp only [tO]at hl;split at hl
   ·rename_i b r l' hb hr hl';split at hl
    case isFalse=>cases hl
    rename_i hc;simp at hl;subst hl;obtain⟨y,oy,ry⟩:=zS hcon ts vs' ds' q l' h2 (fun j t v a b=>hv (j+1) t v (by simpa using a) (by simpa using b)) hl'
    obtain⟨n,hn⟩:=h1;obtain⟨x,ox,rx⟩:=RE hcon 40 n t _ _ true r hn hr;have hok:=hv 0 t v rfl rfl;cases b with
    | true=>
      refine⟨(x,y),⟨ox,oy⟩,v,vs',rfl,?_,ry⟩
      have: ∃cs,v=.agg cs:=by
       unfold Value.okWide at hok;unfold eB at hb;cases hu:P.underlying t with
       | none=>rw [hu]at hb;cases hb
       | some d=>
         rw [hu]at hok hb;cases d<;>simp at hb<;>(obtain⟨cs,e,_⟩:=hok;exact⟨cs,e⟩)
      obtain⟨cs,rfl⟩:=this;exact⟨cs,rfl,rx⟩
    | false=>
      refine⟨(x,y),⟨ox,oy⟩,v,vs',rfl,?_,ry⟩;rw [yQ hb hok ⟨40,r,hr⟩]at rx;have hr1:r.length=1:=by simpa using hc
      show Rep _ ((iR r x).headD .O) v
      match r,hr1,x,rx with
      | [s],_,x,rx=>
        obtain⟨u,us,e,r1,_⟩:=rx;simp only [lI']at e;rw [e.1];exact r1
   ·cases hl
theorem oK{W W':World}(hl:laidOutB P=true){sp:Nat→Bool} : ∀(ts:List TypeId) (vs:List Value) (ds:List (DataW H)) (ps:List MemPlace),
 (∀t∈ts,P.readableRec t=true∧t<P.types.size)→DataW.TrodAll enc P W 0 (fun _=>true) true ts vs ds ps→(∀p∈ps,W.sameAt W' p)→(∀p∈ps,sp p.block=true)→DataW.TrodAll enc P W' 0 sp true ts vs ds ps
 | [],vs,ds,ps,_,h,_,_=>by
   obtain⟨rfl,rfl,rfl⟩:=trodAll_nil h;exact trodAll_mk0
 | t::ts,vs,ds,ps,ht,h,hs,hp=>by
   obtain⟨v,vs',d,ds',p,q,rfl,rfl,rfl,h1,h2⟩:=trodAll_cons h
   exact trodAll_cons_mk (WideElems.Trod_stays hl (ht t (by simp)).1 (ht t (by simp)).2 h1 (fun x hx=>hs x (by simp [hx])) (fun x hx=>hp x (by simp [hx])))
    (oK hl ts vs' ds' q (fun u hu=>ht u (by simp [hu])) h2 (fun x hx=>hs x (by simp [hx])) (fun x hx=>hp x (by simp [hx])))
theorem nF{w:World}{sp:Nat→Bool}{b:Nat}{hd:Bool} : ∀(ts:List TypeId) (vs:List Value) (ds:List (DataW H)) (ps:List MemPlace),DataW.TrodAll enc P w b sp hd ts vs ds ps→ds.length=ts.length
 | [],vs,ds,ps,h=>by obtain⟨rfl,rfl,rfl⟩:=trodAll_nil h;rfl
 | t::ts,vs,ds,ps,h=>by
   obtain⟨v,vs',d,ds',p,q,rfl,rfl,rfl,h1,h2⟩:=trodAll_cons h;simp [nF ts vs' ds' q h2]
abbrev aIg(W:World):Con:=⟨fun b=>W.heap[b]?⟩
theorem K2{f:Func}{s:ChangeSpec}{apart fresh handsOn again:Bool}{W W':World}{args:Array Value}{v:Value}{ds gs:List (DataW H)}{before pa pv:List MemPlace}
 (hW:DataW.Whole enc P f.params.toList s.vars apart W args.toList ds gs before)
 (h1: ∀(b:Nat) (sp:Nat→Bool) (hd:Bool),DataW.TrodAll enc P W' b sp hd f.resultTypes.toList (v.resultList f.resultTypes.size) (s.fn H (ds++gs)).results [])
 (h2: ∀sp:Nat→Bool,(∀p∈before,sp p.block=true)→DataW.TrodAll enc P W' 0 sp true f.params.toList args.toList (s.fn H (ds++gs)).args pa)
 (h3: ∀sp:Nat→Bool,(∀p∈before,sp p.block=true)→DataW.TrodVars enc P W' sp s.vars (s.fn H (ds++gs)).vars pv)
 (hb:before=pa++pv) (hk:W.keptBut W' (· ∈before)) (hz: ∀a:Addr,a.block<W.heap.size→W'.frozen? a=W.frozen? a)
 (ho: ∀(j:Nat) (t:TypeId) (r:Value),f.resultTypes[j]? =some t→(v.resultList f.resultTypes.size)[j]? =some r→Value.okWide P W' .any 0 t r):
 s.post enc P f apart fresh handsOn again W args v W':=by
 have lt: ∀p∈before,p.block<W.heap.size:=fun p hp=>hW.lt p hp;refine⟨ds,gs,before,[],pa,pv,hW,h1 _ _ _,h2 _ (fun p hp=>by simpa using lt p hp),h3 _ (fun p hp=>by simpa using lt p hp),World.keptBut_mono (fun p hp=>⟨hp,.inr (List.mem_append.1 (hb▸hp))⟩) hk,fun _=>⟨ho,_,_,([]++pa)++pv,⟨[]++pa,pv,trodAll_append (h2 _ (fun _ _=>rfl)) (h1 _ _ _),h3 _ (fun _ _=>rfl),rfl,?_,?_⟩,?_⟩⟩
 ·intro b off hp;have hp':MemPlace.cell b off∈before:=by rw [hb];simpa using hp
  obtain⟨_,_,_,_,_,q,_⟩:=hW;rw [hz _ (lt _ hp')];exact q b off hp'
 ·intro ha;obtain⟨_,_,_,_,_,_,q⟩:=hW;have:=q ha;rw [hb]at this
  simpa using this
 ·intro p hp _;rw [hb]
  simpa using hp
theorem PA{A:Type}{F:Func}{f:FuncId}{s:ChangeSpec}{tb:TypeId}{l:List (Bool×List Shp)}(hl:laidOutB P=true)
 (hpar:F.params.toList.all (fun t=>P.readableRec t&&decide (t<P.types.size))=true) (hsh:tO P F.params.toList=some l) (hv:s.vars=[]) (hres:F.resultTypes= #[tb]) (htb:P.underlying tb=some .bool)
 (hfn: ∀ds:List (DataW H),ds.length=F.params.toList.length→s.fn H ds= {results:=[.lit (.bool true)],args:=ds})
 (law: ∀W0:World,∃I:Itp A,∀x:DenA l,okA l x→ @aB (aIg W0) A I P f (rJ l x) ([]:aC A) (fun v _=>v=.bool true))
 (W:World) (base:Nat) (args:Array Value) (ds gs:List (DataW H)) (before:List MemPlace)
 (hval: ∀(j:Nat) t v,F.params[j]? =some t→args[j]? =some v→Value.okWide P W .any base t v)
 (hW:DataW.Whole enc P F.params.toList s.vars false W args.toList ds gs before):
 Calls P f args W fun e W'=> ∃v,e=.returned v∧s.post enc P F false true false false W args v W':=by
 have hW':=hW;obtain⟨p,q,hA,hV,rfl,hfz,hnd⟩:=hW;rw [hv]at hV;obtain⟨rfl,rfl⟩:=trodVars_none hV;obtain⟨I,hI⟩:=law W
 letI:Con:=aIg W
 obtain⟨x,ox,rx⟩:=zS (enc:=enc) (P:=P) (w:=W) (base:=base) (fun b o h=>h) F.params.toList args.toList ds p l hA (fun j t v a b=>hval j t v (by simpa using a) (by simpa using b)) hsh
 have hlen:=nF _ _ _ _ hA;refine(aB.law (hI x ox) rx W (fun b o h=>h)).mono ?_;rintro e W' ⟨rfl,hg⟩
 have hsame: ∀p'∈p,W.sameAt W' p':=by
  intro p' hp;have hlt:p'.block<W.heap.size:=hW'.lt p' (by simpa using hp)
  have hk:=hg.1.2.2 p'.block hlt;cases p' with
  | cell b off=>
    show W'.cell? ⟨b,off,none⟩=W.cell? ⟨b,off,none⟩;simp only [MemPlace.block]at hk hlt;unfold World.cell?;simp only;cases h1:W.heap[b]? with
    | none=>rw [Array.getElem?_eq_getElem hlt]at h1;cases h1
    | some o=>
      rw [h1]at hk;cases h2:W'.heap[b]? with
      | none=>rw [h2]at hk;cases o<;>simp at hk
      | some o'=>
        rw [h2]at hk;cases o<;>cases o'<;>simp at hk<;>first | rfl | skip
        rename_i c t fr c' t' fr';obtain⟨_,_,hsz,hc⟩:=hk;exact hc off
  | map b=>
    show W'.heap[b]? =W.heap[b]?;simp only [MemPlace.block]at hk hlt;cases h1:W.heap[b]? with
    | none=>rw [Array.getElem?_eq_getElem hlt]at h1;cases h1
    | some o=>
      rw [h1]at hk;cases h2:W'.heap[b]? with
      | none=>rw [h2]at hk;cases o<;>simp at hk
      | some o'=>
        rw [h2]at hk;cases o<;>cases o'<;>simp at hk<;>first | (simp_all;done) | skip
        rename_i c t fr c' t' fr';obtain⟨rfl,rfl,hsz,hc⟩:=hk
        have:c=c':=by
         apply Array.ext_getElem?;intro i;exact(hc i).symm
        rw [this]
 have hpar': ∀t∈F.params.toList,P.readableRec t=true∧t<P.types.size:=by
  intro t ht;have:=List.all_eq_true.1 hpar t ht
  simpa using this
 have hf0:s.fn H (ds++ [])= {results:=[.lit (.bool true)],args:=ds} :=by rw [List.append_nil];exact hfn ds hlen
 refine⟨_,rfl,K2 (pa:=p) (pv:=[]) hW' ?_ ?_ ?_ rfl (World.keptBut_mono (fun _ h=>h.elim) hg.1) hg.2.1 ?_⟩
 ·intro b sp hd;rw [hf0,hres];exact trodAll_cons_mk (shut_bool htb _) trodAll_mk0
 ·intro sp hsp;rw [hf0];exact oK hl _ _ _ _ hpar' hA hsame (fun p' hp=>hsp p' (by simpa using hp))
 ·intro sp _;rw [hf0,hv];rfl
 ·exact ok_one hres rfl (okWide_bool_mk htb _)
end
end Go.Sh
namespace Go.Sh
open Go
variable [Con] {A:Type} (tb:A→Nat×aC A)
structure qM (I:Itp A) (V:Val) (h:bD A) (hs:Nat→PHeap):Prop where
 ent: ∀l e,h l=some e→e.interp I V l (hs l)
 non: ∀l,h l=none→hs l=.emp
 dis: ∀l m,l≠m→(hs l).disj (hs m)
def obN:Nat→Itp A
 | 0,_,_,_,_=>False
 | n+1,t,r,bs,p=> ∃V hs,V 0=some r∧(∀i,i<(tb t).1→V (1+i)=bs[i]?)∧bs.length=(tb t).1∧qM (obN n) V (toF (tb t).2) hs∧p=aHh hs
def obI:Itp A:=fun t r bs p=> ∃n,obN tb n t r bs p
theorem aHD{I I':Itp A}(hI: ∀t r bs p,I t r bs p→I' t r bs p){V:Val}{l:Nat}{e:aH A}{p:PHeap}(h:e.interp I V l p):e.interp I' V l p:=by
 cases e with
 | abs t ps=>
   obtain⟨b,k,h1,bs,h2,h3⟩:=h;exact⟨b,k,h1,bs,h2,hI _ _ _ _ h3⟩
 | cells vs=>exact h
 | ints c xs=>exact h
 | tab ks rows=>exact h
 | imap kk vc m=>exact h
 | iter lm kk vc m left cur=>exact h
theorem qM.mono_I{I I':Itp A}(hI: ∀t r bs p,I t r bs p→I' t r bs p){V:Val}{h:bD A}{hs:Nat→PHeap}(q:qM I V h hs):qM I' V h hs:=
 ⟨fun l e he=>aHD hI (q.ent l e he),q.non,q.dis⟩
theorem B8: ∀(n:Nat) (t:A) (r:Nat×Nat) (bs:List (Nat×Nat)) (p:PHeap),obN tb n t r bs p→obN tb (n+1) t r bs p
 | 0,_,_,_,_,h=>h.elim
 | n+1,t,r,bs,p,⟨V,hs,h1,h2,h3,h4,h5⟩=>⟨V,hs,h1,h2,h3,h4.mono_I (B8 n),h5⟩
theorem yD{n m:Nat}(hnm:n≤m){t:A}{r:Nat×Nat}{bs:List (Nat×Nat)}{p:PHeap}(h:obN tb n t r bs p):obN tb m t r bs p:=by
 induction hnm with
 | refl=>exact h
 | step _ ih=>exact B8 tb _ _ _ _ _ ih
theorem z8{V:Val}{hs:Nat→PHeap} : ∀(g:aC A) (k:Nat),(∀l e,aL g l=some e→e.interp (obI tb) V (k+l) (hs (k+l)))→ ∃n,∀l e,aL g l=some e→e.interp (obN tb n) V (k+l) (hs (k+l))
 | [],k,_=>⟨0,fun l e h=>by simp [aL]at h⟩
 | x::g,k,h=>by
   obtain⟨n,hn⟩:=z8 g (k+1) (fun l e he=>by
    have:=h (l+1) e (by simpa [aL]using he)
    rw [show k+(l+1)=k+1+l from by omega]at this
    exact this)
   have h0: ∃m,∀e,x=some e→e.interp (obN tb m) V k (hs k):=by
    cases x with
    | none=>exact⟨0,fun e he=>by cases he⟩
    | some e=>
      have:=h 0 e rfl;cases e with
      | abs t ps=>
        obtain⟨b,q,h1,bs,h2,m,h3⟩:=this;exact⟨m,fun e he=>by cases he;exact⟨b,q,h1,bs,h2,h3⟩⟩
      | cells vs=>exact⟨0,fun e he=>by cases he;exact this⟩
      | ints c xs=>exact⟨0,fun e he=>by cases he;exact this⟩
      | tab ks rows=>exact⟨0,fun e he=>by cases he;exact this⟩
      | imap kk vc mm=>exact⟨0,fun e he=>by cases he;exact this⟩
      | iter lm kk vc mm left cur=>exact⟨0,fun e he=>by cases he;exact this⟩
   obtain⟨m,hm⟩:=h0;refine⟨max n m,fun l e he=>?_⟩;cases l with
   | zero=>
     have hx:x=some e:=by simpa [aL]using he
     exact aHD (fun t r bs p=>yD tb (Nat.le_max_right n m)) (hm e hx)
   | succ l=>
     have:=aHD (fun t r bs p=>yD tb (Nat.le_max_left n m)) (hn l e (by simpa [aL]using he))
     rw [show k+1+l=k+(l+1)from by omega]at this
     exact this
theorem aH9{I:Itp A}{V V':Val}{pl:List Nat}(hV: ∀l,pl.elem l=true→V l=V' l){l:Nat}{e:aH A}{p:PHeap}(q1:V l=V' l)(q2:e.within pl=true)(hi:e.interp I V l p):e.interp I V' l p:=by
 cases e with
 | cells vs=>
   obtain⟨b,k,hl,cs,T,e1,e2,rs,tail,e3,r⟩:=hi;exact⟨b,k,by rw [←q1];exact hl,cs,T,e1,e2,rs,tail,e3,aHy hV _ _ q2 r⟩
 | ints c xs=>
   rcases hi with⟨e1,e2,b,hl⟩ | ⟨b,k,hl,r⟩
   ·exact .inl ⟨e1,e2,b,by rw [←q1];exact hl⟩
   ·exact .inr ⟨b,k,by rw [←q1];exact hl,r⟩
 | abs t ps=>
   obtain⟨b,k,hl,bs,hb,r⟩:=hi;exact⟨b,k,by rw [←q1];exact hl,bs,fI.congr (fun m hm=>hV m (qO q2 m hm)) hb,r⟩
 | tab ks rows=>
   rcases hi with⟨e1,e2,b,hl⟩ | ⟨b,k,hl,r⟩
   ·exact .inl ⟨e1,e2,b,by rw [←q1];exact hl⟩
   ·exact .inr ⟨b,k,by rw [←q1];exact hl,r⟩
 | imap kk vc m=>
   obtain⟨b,k,hl,r⟩:=hi;exact⟨b,k,by rw [←q1];exact hl,r⟩
 | iter lm kk vc m left cur=>
   obtain⟨b,k,hl,bm,km,hm,r⟩:=hi;exact⟨b,k,by rw [←q1];exact hl,bm,km,by rw [←hV lm q2];exact hm,r⟩
theorem jB{n l:Nat} :(upto 0 n).elem l=true↔l<n:=by rw [iJ];omega
theorem fI.len{V:Val} : ∀ {ls:List Nat} {bs:List (Nat×Nat)},fI V ls bs→bs.length=ls.length
 | [],_,e=>by rw [e];rfl
 | _::_,_,⟨x,r,h1,h2,h3⟩=>by rw [h2];simp [fI.len h3]
theorem fI.get{V:Val} : ∀ {ls:List Nat} {bs:List (Nat×Nat)},fI V ls bs→ ∀i,i<ls.length→V (ls.getD i 0)=bs[i]?
 | [],_,_,i,hi=>by cases hi
 | l::ls,_,⟨x,r,h1,h2,h3⟩,i,hi=>by
   subst h2;cases i with
   | zero=>simpa using h1
   | succ i=>simpa using fI.get h3 i (by simpa using hi)
theorem fI.mk{V:Val} : ∀ {ls:List Nat},(∀l∈ls,∃x,V l=some x)→ ∃bs,fI V ls bs
 | [],_=>⟨[],rfl⟩
 | l::ls,h=>by
   obtain⟨x,hx⟩:=h l List.mem_cons_self;obtain⟨r,hr⟩:=fI.mk (fun m hm=>h m (List.mem_cons_of_mem _ hm));exact⟨x::r,x,r,hx,rfl,hr⟩
def unI(l:Nat)(ps:List Nat)(n np:Nat)(i:Nat):Nat:=match i with
 | 0=>l
 | j+1=>if j<np then ps.getD j 0 else n+(j - np)
def aP(h:aC A)(l np:Nat)(g:aC A)(ps:List Nat):aC A:=
 h.set l ((aL g 0).map (aH.ren (unI l ps h.length np)))++(g.drop (1+np)).map (Option.map (aH.ren (unI l ps h.length np)))
theorem fR(h:aC A)(l np:Nat)(g:aC A)(ps:List Nat):(aP h l np g ps).length =h.length+(g.length - (1+np)):=by
 unfold aP;simp
def obOk(np:Nat)(g:aC A):Bool:=cX g.length g&&Nat.ble (1+np) g.length&&(g.drop 1 |>.take np).all (·.isNone)&&(aL g 0).isSome
theorem wU{np:Nat}{g:aC A}(h:obOk np g=true):cX g.length g=true∧1+np≤g.length∧(∀i,i<np→aL g (1+i)=none)∧ ∃e,aL g 0=some e:=by
 unfold obOk at h;simp only [Bool.and_eq_true]at h;obtain⟨⟨⟨h1,h2⟩,h3⟩,h4⟩:=h;refine⟨h1,Nat.le_of_ble_eq_true h2,?_,Option.isSome_iff_exists.1 h4⟩;intro i hi;have hlen:=Nat.le_of_ble_eq_true h2;rw [List.all_eq_true]at h3
 have hx:=h3 (aL g (1+i)) (by
  rw [List.mem_iff_getElem?];refine⟨i,?_⟩;rw [List.getElem?_take,if_pos hi,List.getElem?_drop];simp only [aL,gD'];rw [gE' (by omega)]
  rfl)
 simpa using hx
theorem xF{g:aC A}(h:cX g.length g=true){l:Nat}{e:aH A}(he:aL g l=some e):e.within (upto 0 g.length)=true:=by
 unfold cX at h;rw [List.all_eq_true]at h;simp only [aL,gD']at he
 have hl:l<g.length:=by
  cases Nat.lt_or_ge l g.length with
  | inl q=>exact q
  | inr q=>rw [List.getElem?_eq_none q]at he;cases he
 rw [gE' hl]at he;have:=h (g[l]) (List.getElem_mem hl);simp only [Option.getD_some]at he;rw [he]at this;exact this
theorem l5{h:aC A}{l np:Nat}{g:aC A}{ps:List Nat}(hl:l<h.length):aL (aP h l np g ps) l=(aL g 0).map (aH.ren (unI l ps h.length np)):=by
 unfold aP;rw [cN (by simpa using hl)]
 simp only [aL,gD'];rw [List.getElem?_set_self hl];rfl
theorem fE{h:aC A}{l np:Nat}{g:aC A}{ps:List Nat}{m:Nat}(hm:m<h.length)(hlm:m≠l):aL (aP h l np g ps) m=aL h m:=by
 unfold aP;rw [cN (by simpa using hm)]
 simp only [aL,gD'];rw [List.getElem?_set_ne (fun e=>hlm e.symm)]
theorem kQ{h:aC A}{l np:Nat}{g:aC A}{ps:List Nat}{j:Nat} :aL (aP h l np g ps) (h.length+j)=(aL g (1+np+j)).map (aH.ren (unI l ps h.length np)):=by
 unfold aP;simp only [aL,gD'];rw [List.getElem?_append_right (by simp),List.length_set,List.getElem?_map,List.getElem?_drop,Nat.add_sub_cancel_left]
 cases g[1+np+j]? <;>rfl
theorem Inv.unpack{V:Val}{h:aC A}{hR:PHeap}{w:World}{t:A}{l np:Nat}{g:aC A}{ps:List Nat}(hi:Inv (obI tb) V (toF h) hR w)(hf:bP V h.length)(hl:aL h l=some (.abs t ps))(ht:tb t=(np,g))(ho:obOk np g=true)(hnp:ps.length=np):
 ∃V',V.le V'∧bP V' (aP h l np g ps).length ∧Inv (obI tb) V' (toF (aP h l np g ps)) hR w:=by
 obtain⟨o1,o2,o3,e0,o4⟩:=wU ho;have hll:=cZ hl;obtain⟨hs,h1,h2,h3,h4,h5,h6⟩:=hi;obtain⟨b,k,hV,bs,hlo,n,hob⟩:=h1 l _ hl;cases n with
 | zero=>exact hob.elim
 | succ n=>
 obtain⟨Vg,gs,g1,g2,g3,⟨g4,g5,g6⟩,g7⟩:=hob;rw [ht]at g2 g3 g4 g5;dsimp only at g2 g3 g4 g5
 let V':Val:=fun m=>if m<h.length then V m else if m<(aP h l np g ps).length then Vg (m - h.length+1+np)else none
 have hlen:=fR h l np g ps
 have hle:V.le V':=by
  intro m x hm
  have hlt:m<h.length:=by
   cases Nat.lt_or_ge m h.length with
   | inl q=>exact q
   | inr q=>rw [hf m q]at hm;cases hm
  show(if m<h.length then V m else _)=some x
  rw [if_pos hlt];exact hm
 have hVι: ∀i,(upto 0 g.length).elem i=true→Vg i=V' (unI l ps h.length np i):=by
  intro i hi;rw [jB]at hi;cases i with
  | zero=>
    show _=V' l;rw [hle l _ hV];exact g1
  | succ j=>
    show _=V' (if j<np then ps.getD j 0 else h.length+(j - np))
    by_cases hj:j<np
    ·rw [if_pos hj];have hg:=hlo.get j (by omega)
     have hj2:j<bs.length:=by omega
     rw [gE' hj2]at hg;rw [hle _ _ hg,Nat.add_comm,g2 j hj,gE' hj2]
    ·rw [if_neg hj];show _=if h.length+(j - np)<h.length then _ else _
     rw [if_neg (by omega),if_pos (by omega)]
     congr 1;omega
 have hent: ∀i e,aL g i=some e→(e.ren (unI l ps h.length np)).interp (obI tb) V' (unI l ps h.length np i) (gs i):=by
  intro i e he;refine aH.interp_ren.2 ?_;have q1:=aHD (I':=(obI tb)) (fun t r bs p hh=>⟨n,hh⟩) (g4 i e he);exact aH9 hVι (hVι i (jB.2 (cZ he))) (xF o1 he) q1
 have hsub: ∀i b' o,gs i b'=some o→hs l b'=some o:=by
  intro i b' o hh;rw [g7];exact aHu g6 hh
 let hs':Nat→PHeap:=fun m=>if m<h.length then(if m=l then gs 0 else hs m)else gs (m - h.length+1+np)
 refine⟨V',hle,?_,hs',?_,?_,?_,?_,?_,h6⟩
 ·intro m hm;show(if m<h.length then _ else _)=none
  rw [if_neg (by omega),if_neg (by omega)]
 ·intro m e he
  by_cases hm:m<h.length
  ·by_cases hml:m=l
   ·subst hml;have he':aL (aP h m np g ps) m=some e:=he;rw [l5 hm,o4]at he';simp only [Option.map_some,sI']at he';show e.interp (obI tb) V' m (if m<h.length then(if m=m then gs 0 else hs m)else _)
    rw [if_pos hm,if_pos rfl,←he'];exact hent 0 e0 o4
   ·have he':aL (aP h l np g ps) m=some e:=he;rw [fE hm hml]at he';show e.interp (obI tb) V' m (if m<h.length then(if m=l then gs 0 else hs m)else _)
    rw [if_pos hm,if_neg hml];exact aHw hle (h1 m e he')
  ·have he':aL (aP h l np g ps) m=some e:=he;have hm2:m=h.length+(m - h.length):=by omega
   rw [hm2,kQ]at he';cases hq:aL g (1+np+(m - h.length))with
   | none=>rw [hq]at he';cases he'
   | some e1=>
     rw [hq]at he';simp only [Option.map_some,sI']at he';have:=hent _ e1 hq;show e.interp (obI tb) V' m (if m<h.length then _ else gs (m - h.length+1+np))
     rw [if_neg hm,←he']
     have e3:unI l ps h.length np (1+np+(m - h.length))=m:=by
      have:1+np+(m - h.length)=(np+(m - h.length))+1:=by omega
      rw [this];show(if np+(m - h.length)<np then _ else h.length+(np+(m - h.length) - np))=m
      rw [if_neg (by omega)];omega
     rw [e3]at this;have e4:m - h.length+1+np=1+np+(m - h.length):=by omega
     rw [e4];exact this
 ·intro m he
  by_cases hm:m<h.length
  ·by_cases hml:m=l
   ·subst hml;have he':aL (aP h m np g ps) m=none:=he;rw [l5 hm,o4]at he';cases he'
   ·have he':aL (aP h l np g ps) m=none:=he;rw [fE hm hml]at he';show(if m<h.length then(if m=l then gs 0 else hs m)else _)=_
    rw [if_pos hm,if_neg hml];exact h2 m he'
  ·have he':aL (aP h l np g ps) m=none:=he;have hm2:m=h.length+(m - h.length):=by omega
   rw [hm2,kQ]at he';show(if m<h.length then _ else gs (m - h.length+1+np))=_
   rw [if_neg hm];have e4:m - h.length+1+np=1+np+(m - h.length):=by omega
   rw [e4];refine g5 _ ?_;cases hq:aL g (1+np+(m - h.length))with
   | none=>exact hq
   | some e1=>rw [hq]at he';cases he'
 ·intro m m' hmm;intro b';show(if m<h.length then(if m=l then gs 0 else hs m)else gs (m - h.length+1+np)) b'=none∨(if m'<h.length then(if m'=l then gs 0 else hs m')else gs (m' - h.length+1+np)) b'=none
  have out: ∀i m,m≠l→gs i b'=none∨hs m b'=none:=by
   intro i m hml;cases hq:gs i b' with
   | none=>exact .inl rfl
   | some o=>
     right;have:=hsub i b' o hq;rcases h3 l m (fun e=>hml e.symm) b' with q | q
     ·rw [q]at this;cases this
     ·exact q
  by_cases hm:m<h.length
  ·by_cases hm':m'<h.length
   ·rw [if_pos hm,if_pos hm']
    by_cases hml:m=l
    ·have hml':m'≠l:=fun e=>hmm (hml.trans e.symm);rw [if_pos hml,if_neg hml'];exact out 0 m' hml'
    ·rw [if_neg hml]
     by_cases hml':m'=l
     ·rw [if_pos hml'];exact(out 0 m hml).symm
     ·rw [if_neg hml'];exact h3 m m' hmm b'
   ·rw [if_pos hm,if_neg hm']
    by_cases hml:m=l
    ·rw [if_pos hml];exact g6 0 _ (by omega) b'
    ·rw [if_neg hml];exact(out _ m hml).symm
  ·by_cases hm':m'<h.length
   ·rw [if_neg hm,if_pos hm']
    by_cases hml':m'=l
    ·rw [if_pos hml'];exact g6 _ 0 (by omega) b'
    ·rw [if_neg hml'];exact out _ m' hml'
   ·rw [if_neg hm,if_neg hm'];exact g6 _ _ (by omega) b'
 ·intro m b'
  have out: ∀i,gs i b'=none∨hR b'=none:=by
   intro i;cases hq:gs i b' with
   | none=>exact .inl rfl
   | some o=>
     right;have:=hsub i b' o hq;rcases h4 l b' with q | q
     ·rw [q]at this;cases this
     ·exact q
  show(if m<h.length then(if m=l then gs 0 else hs m)else gs (m - h.length+1+np)) b'=none∨hR b'=none
  split
  ·split
   ·exact out 0
   ·exact h4 m b'
  ·exact out _
 ·intro m b' o hq;have hq':(if m<h.length then(if m=l then gs 0 else hs m)else gs (m - h.length+1+np)) b'=some o:=hq
  split at hq'
  ·split at hq'
   ·exact h5 l b' o (hsub 0 b' o hq')
   ·exact h5 m b' o hq'
  ·exact h5 l b' o (hsub _ b' o hq')
def kZ(h:aC A)(l:Nat)(ps:List Nat):Bool:=cX h.length h&&ps.all (fun p=>Nat.blt p h.length&& !Nat.beq p l&&(aL h p).isSome)
theorem Inv.pack{V:Val}{h:aC A}{hR:PHeap}{w:World}{t:A}{l np:Nat}{g:aC A}{ps:List Nat}(hi:Inv (obI tb) V (toF (aP h l np g ps)) hR w)(hl:aL h l=some (.abs t ps))(ht:tb t=(np,g))(ho:obOk np g=true)(hnp:ps.length=np)(hp:kZ h l ps=true):
 Inv (obI tb) (fun m=>if m<h.length then V m else none) (toF h) hR w:=by
 obtain⟨o1,o2,o3,e0,o4⟩:=wU ho;have hll:=cZ hl;unfold kZ at hp;rw [Bool.and_eq_true,List.all_eq_true]at hp;obtain⟨p1,p2⟩:=hp;have hdom: ∀m e,aL (aP h l np g ps) m=some e→ ∃x,V m=some x:=fun m e he=>hi.dom he;obtain⟨hs,h1,h2,h3,h4,h5,h6⟩:=hi;have hlen:=fR h l np g ps
 have hps: ∀p∈ps,p<h.length∧p≠l∧ ∃x,V p=some x:=by
  intro p hp;have:=p2 p hp;simp only [Bool.and_eq_true,Bool.not_eq_true',Nat.blt_eq]at this;obtain⟨⟨q1,q2⟩,q3⟩:=this;have q2':p≠l:=by intro e;rw [e]at q2;simp at q2
  obtain⟨e,he⟩:=Option.isSome_iff_exists.1 q3;exact⟨q1,q2',hdom p e (by rw [fE q1 q2'];exact he)⟩
 have hV0: ∃x,V l=some x:=hdom l (e0.ren (unI l ps h.length np)) (by rw [l5 hll,o4];rfl)
 obtain⟨⟨b,k⟩,hVl⟩:=hV0;obtain⟨bs,hbs⟩:=fI.mk (V:=V) (ls:=ps) (fun p hp=>(hps p hp).2.2)
 let gs:Nat→PHeap:=fun j=>match j with
  | 0=>hs l
  | i+1=>if i<np then .emp else hs (h.length+(i - np))
 have gs_sub: ∀j,gs j=.emp ∨ ∃m,(m=l∨h.length≤m)∧gs j=hs m:=by
  intro j;cases j with
  | zero=>exact .inr ⟨l,.inl rfl,rfl⟩
  | succ i=>
    show(if i<np then PHeap.emp else hs (h.length+(i - np)))=.emp ∨_
    by_cases hi:i<np
    ·rw [if_pos hi];exact .inl rfl
    ·right;refine⟨h.length+(i - np),.inr (by omega),?_⟩
     show(if i<np then PHeap.emp else hs (h.length+(i - np)))=_
     rw [if_neg hi]
 have gdis: ∀i j,i≠j→(gs i).disj (gs j):=by
  intro i j hij;cases i with
  | zero=>
    cases j with
    | zero=>exact(hij rfl).elim
    | succ j=>
      show PHeap.disj (hs l) (if j<np then .emp else hs (h.length+(j - np)))
      split
      ·exact aHc _
      ·exact h3 _ _ (by omega)
  | succ i=>
    cases j with
    | zero=>
      show PHeap.disj (if i<np then .emp else hs (h.length+(i - np))) (hs l)
      split
      ·exact(aHc _).symm
      ·exact h3 _ _ (by omega)
    | succ j=>
      show PHeap.disj (if i<np then .emp else hs (h.length+(i - np))) (if j<np then .emp else hs (h.length+(j - np)))
      split
      ·exact(aHc _).symm
      ·split
       ·exact aHc _
       ·exact h3 _ _ (by omega)
 have gent: ∀i e,aL g i=some e→e.interp (obI tb) (fun i=>V (unI l ps h.length np i)) i (gs i):=by
  intro i e he;refine aH.interp_ren.1 ?_;cases i with
  | zero=>
    show(e.ren _).interp (obI tb) V l (hs l);exact h1 l _ (by show aL _ _=_;rw [l5 hll,he];rfl)
  | succ i=>
    have hi: ¬i<np:=by
     intro hi;have:=o3 i hi;rw [Nat.add_comm,he]at this;cases this
    have e3:unI l ps h.length np (i+1)=h.length+(i - np):=by
     show(if i<np then _ else _)=_
     rw [if_neg hi]
    show(e.ren _).interp (obI tb) V (unI l ps h.length np (i+1)) (if i<np then PHeap.emp else hs (h.length+(i - np)))
    rw [if_neg hi,e3];refine h1 _ _ ?_;show aL _ _=_;rw [kQ];have:1+np+(i - np)=i+1:=by omega
    rw [this,he];rfl
 obtain⟨n,hn⟩:=z8 tb (hs:=gs) g 0 (by simpa using gent)
 have gnon: ∀i,toF g i=none→gs i=.emp :=by
  intro i he;cases i with
  | zero=>have:aL g 0=none:=he;rw [o4]at this;cases this
  | succ i=>
    show(if i<np then PHeap.emp else hs (h.length+(i - np)))=.emp
    by_cases hi:i<np
    ·rw [if_pos hi]
    ·rw [if_neg hi];refine h2 _ ?_;show aL _ _=_;rw [kQ];have:1+np+(i - np)=i+1:=by omega
     have he':aL g (i+1)=none:=he;rw [this,he'];rfl
 have hbig: ∀b' o,aHh gs b'=some o→ ∃m,(m=l∨h.length≤m)∧hs m b'=some o:=by
  intro b' o hh;obtain⟨j,hj⟩:=aHt hh;rcases gs_sub j with q | ⟨m,q1,q2⟩
  ·rw [q]at hj;cases hj
  ·exact⟨m,q1,by rw [←q2];exact hj⟩
 have own: ∀m,m<h.length→(fun m=>if m<h.length then V m else none) m=V m:=fun m hm=>if_pos hm
 refine⟨fun m=>if m=l then aHh gs else if m<h.length then hs m else .emp,?_,?_,?_,?_,?_,h6⟩
 ·intro m e he;have hm:m<h.length:=cZ he
  by_cases hml:m=l
  ·subst hml;have he':aL h m=some e:=he;rw [hl]at he';simp only [sI']at he';subst he';show aH.interp (obI tb) _ m _ (if m=m then aHh gs else _)
   rw [if_pos rfl];refine⟨b,k,by show(if m<h.length then V m else none)=_;rw [if_pos hm];exact hVl,bs,hbs.congr (fun p hp=>(own p (hps p hp).1).symm),n+1,?_⟩
   show∃V1 hs1,V1 0=some (b,k)∧(∀i,i<(tb t).1→V1 (1+i)=bs[i]?)∧bs.length=(tb t).1∧qM (obN tb n) V1 (toF (tb t).2) hs1∧aHh gs=aHh hs1;rw [ht];refine⟨(fun i=>V (unI m ps h.length np i)),gs,hVl,?_,by rw [hbs.len];exact hnp,⟨fun l e he=>by have:=hn l e he;simpa using this,gnon,gdis⟩,rfl⟩
   intro i hi;have:=hbs.get i (by omega)
   rw [←this];show V (unI m ps h.length np (1+i))=_;rw [Nat.add_comm];show V (if i<np then _ else _)=_
   rw [if_pos hi]
  ·show e.interp (obI tb) _ m (if m=l then _ else if m<h.length then hs m else .emp)
   rw [if_neg hml,if_pos hm];have he':aL h m=some e:=he;refine aH9 (pl:=upto 0 h.length) (V:=V) (fun i hi=>(own i (jB.1 hi)).symm) (own m hm).symm (xF p1 he') ?_;exact h1 m e (by show aL _ _=_;rw [fE hm hml];exact he')
 ·intro m he;have he':aL h m=none:=he
  by_cases hml:m=l
  ·subst hml;rw [hl]at he';cases he'
  ·show(if m=l then _ else if m<h.length then hs m else .emp)=_
   rw [if_neg hml]
   by_cases hm:m<h.length
   ·rw [if_pos hm];exact h2 m (by show aL _ _=_;rw [fE hm hml];exact he')
   ·rw [if_neg hm]
 ·intro m m' hmm b';show(if m=l then aHh gs else if m<h.length then hs m else .emp) b'=none∨(if m'=l then aHh gs else if m'<h.length then hs m' else .emp) b'=none
  have out: ∀m,m≠l→aHh gs b'=none∨(if m<h.length then hs m else PHeap.emp) b'=none:=by
   intro m hml
   by_cases hm:m<h.length
   ·rw [if_pos hm];cases hq:aHh gs b' with
    | none=>exact .inl rfl
    | some o=>
      right;obtain⟨m2,q1,q2⟩:=hbig b' o hq;rcases h3 m2 m (by rcases q1 with q | q<;>omega) b' with q | q
      ·rw [q]at q2;cases q2
      ·exact q
   ·rw [if_neg hm];exact .inr rfl
  by_cases hml:m=l
  ·have hml':m'≠l:=fun e=>hmm (hml.trans e.symm);rw [if_pos hml,if_neg hml'];exact out m' hml'
  ·rw [if_neg hml]
   by_cases hml':m'=l
   ·rw [if_pos hml'];exact(out m hml).symm
   ·rw [if_neg hml']
    by_cases hm:m<h.length
    ·rw [if_pos hm]
     by_cases hm':m'<h.length
     ·rw [if_pos hm'];exact h3 m m' hmm b'
     ·rw [if_neg hm'];exact .inr rfl
    ·rw [if_neg hm];exact .inl rfl
 ·intro m b';show(if m=l then aHh gs else if m<h.length then hs m else .emp) b'=none∨hR b'=none
  by_cases hml:m=l
  ·rw [if_pos hml];cases hq:aHh gs b' with
   | none=>exact .inl rfl
   | some o=>
     right;obtain⟨m2,q1,q2⟩:=hbig b' o hq;rcases h4 m2 b' with q | q
     ·rw [q]at q2;cases q2
     ·exact q
  ·rw [if_neg hml]
   by_cases hm:m<h.length
   ·rw [if_pos hm];exact h4 m b'
   ·rw [if_neg hm];exact .inl rfl
 ·intro m b' o hq;have hq':(if m=l then aHh gs else if m<h.length then hs m else .emp) b'=some o:=hq
  by_cases hml:m=l
  ·rw [if_pos hml]at hq';obtain⟨m2,q1,q2⟩:=hbig b' o hq';exact h5 m2 b' o q2
  ·rw [if_neg hml]at hq'
   by_cases hm:m<h.length
   ·rw [if_pos hm]at hq';exact h5 m b' o hq'
   ·rw [if_neg hm]at hq';cases hq'
variable {P:Program}
theorem aB.unpack{f:FuncId}{args:List AVal}{h:aC A}{K:AVal→aC A→Prop}(t:A)(l np:Nat)(g:aC A)(ps:List Nat)(hl:aL h l=some (.abs t ps))(ht:tb t=(np,g))(ho:obOk np g=true)(hnp:ps.length=np)
 (h0:aB (obI tb) P f args (aP h l np g ps) K):aB (obI tb) P f args h K:=by
 intro V hR w args' hi hf hr;obtain⟨V1,v1,v2,v3⟩:=hi.unpack tb hf hl ht ho hnp;refine(h0 V1 hR w args' v3 v2 (aG.mono v1 _ _ hr)).mono ?_;rintro e w' ⟨v,v',V',h',k1,k2,k3,k4,k5,k6,k7,k8⟩;exact⟨v,v',V',h',k1,k2,k3,Val.le_trans v1 k4,k5,Nat.le_trans (by rw [fR];omega) k6,k7,k8⟩
structure zE (n:Nat) (K:AVal→aC A→Prop) (v:AVal) (g':aC A):Prop where
 ex: ∃(pl:List Nat) (h2:aC A) (t:A) (l np:Nat) (g:aC A) (ps:List Nat),(dO pl g'.length&&iC pl 0 n&&Nat.ble n h2.length&&obOk np g&&kZ h2 l ps&&(kD pl v).within (upto 0 h2.length)&&Nat.beq ps.length np)=true∧fQ pl g'=aP h2 l np g ps∧tb t=(np,g)∧aL h2 l=some (.abs t ps)∧K (kD pl v) h2
theorem aB.pack{f:FuncId}{args:List AVal}{h:aC A}{K:AVal→aC A→Prop}(h0:aB (obI tb) P f args h (zE tb h.length K)):aB (obI tb) P f args h K:=by
 intro V hR w args' hi hf hr;refine(h0 V hR w args' hi hf hr).mono ?_;rintro e w' ⟨v,v',V',g',⟨pl,h2,t,l,np,g,ps,hb,hT,ht,hl,hK⟩,k2,k3,k4,k5,k6,k7,k8⟩;simp only [Bool.and_eq_true]at hb;obtain⟨⟨⟨⟨⟨⟨b1,b2⟩,b3⟩,b4⟩,b5⟩,b6⟩,b7⟩:=hb;obtain⟨e1,e2⟩:=lU b2;have hp:=nE (h:=g') b1;have hi2:=k7.pick hp;rw [hT]at hi2;have hi3:=hi2.pack tb hl ht b4 (Nat.eq_of_beq_eq_true b7) b5;have hn:h.length≤h2.length:=Nat.le_of_ble_eq_true b3;refine⟨kD pl v,v',_,h2,hK,k2,?_,?_,?_,hn,hi3,k8⟩
 ·have:=nZ (n:=g'.length) (pl:=pl) k3
  exact aHL (pl:=upto 0 h2.length) (fun i hi=>by
   show _=if i<h2.length then _ else none
   rw [if_pos (jB.1 hi)]) _ _ b6 this
 ·intro m x hm
  have hlt:m<h.length:=by
   cases Nat.lt_or_ge m h.length with
   | inl q=>exact q
   | inr q=>rw [hf m q]at hm;cases hm
  show(if m<h2.length then V' (lab pl g'.length m)else none)=some x
  rw [if_pos (by omega)]
  have:lab pl g'.length m=m:=by unfold lab;rw [e2 m hlt];simp
  rw [this];exact k4 m x hm
 ·intro m hm;show(if m<h2.length then _ else none)=none
  rw [if_neg (by omega)]
def farI(n k i:Nat):Nat:=if i<n then i else i+k
def D8(n k:Nat)(g:aC A):aC A:=(g.take n).map (Option.map (aH.ren (farI n k)))++List.replicate k none++(g.drop n).map (Option.map (aH.ren (farI n k)))
theorem OG{n k:Nat}{g:aC A}(hn:n≤g.length)(i:Nat):aL (D8 n k g) (farI n k i)=(aL g i).map (aH.ren (farI n k)):=by
 have hl:((g.take n).map (Option.map (aH.ren (farI n k)))).length =n:=by rw [List.length_map,List.length_take];omega
 unfold D8 aL;simp only [gD']
 by_cases hi:i<n
 ·have e:farI n k i=i:=if_pos hi;rw [e,List.append_assoc,List.getElem?_append_left (by rw [hl];exact hi),List.getElem?_map,List.getElem?_take,if_pos hi]
  rw [gE' (by omega)]
  rfl
 ·have e:farI n k i=i+k:=if_neg hi;rw [e,List.getElem?_append_right (by rw [List.length_append,hl,List.length_replicate];omega),List.getElem?_map,List.getElem?_drop]
  have e2:n+(i+k - ((g.take n).map (Option.map (aH.ren (farI n k)))++List.replicate k (none:Option (aH A))).length)=i:=by
   rw [List.length_append,hl,List.length_replicate];omega
  rw [e2];cases g[i]? <;>rfl
theorem A5{n k:Nat}{g:aC A}(hn:n≤g.length):(D8 n k g).length =g.length+k:=by
 unfold D8;rw [List.length_append,List.length_append,List.length_map,List.length_take,List.length_replicate,List.length_map,List.length_drop];omega
theorem JQ{n k:Nat}{g:aC A}(hn:n≤g.length){m:Nat}(h1:n≤m)(h2:m<n+k):aL (D8 n k g) m=none:=by
 have hl:((g.take n).map (Option.map (aH.ren (farI n k)))).length =n:=by rw [List.length_map,List.length_take];omega
 unfold D8 aL;simp only [gD'];rw [List.append_assoc,List.getElem?_append_right (by rw [hl];exact h1),hl,List.getElem?_append_left (by rw [List.length_replicate];omega),List.getElem?_replicate,if_pos (by omega)]
 rfl
theorem OH{n k:Nat} : ∀i j,farI n k i=farI n k j→i=j:=by
 intro i j h;unfold farI at h;split at h<;>split at h<;>omega
theorem aB.shut{f:FuncId}{args:List AVal}{h':aC A}{K:AVal→aC A→Prop}(h:aC A)(t:A)(l np:Nat)(g:aC A)(ps:List Nat)(he:h'=aP h l np g ps)(hl:aL h l=some (.abs t ps))(ht:tb t=(np,g))
 (hb:(obOk np g&&kZ h l ps&&aHf (upto 0 h.length) args&&Nat.beq ps.length np)=true)
 (h0:aB (obI tb) P f args h (fun v g2=>K (v.ren (farI h.length (h'.length - h.length))) (D8 h.length (h'.length - h.length) g2))):aB (obI tb) P f args h' K:=by
 subst he;simp only [Bool.and_eq_true]at hb;obtain⟨⟨⟨b1,b2⟩,b3⟩,b4⟩:=hb;have hlen:=fR h l np g ps;generalize hk:(aP h l np g ps).length - h.length=k at h0;intro V hR w args' hi hf hr;have hi2:=hi.pack tb hl ht b1 (Nat.eq_of_beq_eq_true b4) b2
 have hf2:bP (fun m=>if m<h.length then V m else none) h.length:=by
  intro m hm;show(if m<h.length then _ else none)=none
  rw [if_neg (by omega)]
 have hr2:aG (fun m=>if m<h.length then V m else none) args args'.toList:=aHy (pl:=upto 0 h.length) (fun i hi=>by
  show _=if i<h.length then _ else none
  rw [if_pos (jB.1 hi)]) _ _ b3 hr
 refine(h0 _ hR w args' hi2 hf2 hr2).mono ?_;rintro e w' ⟨v,v',V',g2,hK,k2,k3,k4,k5,k6,k7,k8⟩
 let V1:Val:=fun m=>if m<h.length then V' m else if m<h.length+k then V m else V' (m - k)
 have hV1:(fun i=>V1 (farI h.length k i))=V':=by
  funext i;show(if farI h.length k i<h.length then _ else _)=_
  by_cases hi:i<h.length
  ·have e:farI h.length k i=i:=if_pos hi;rw [e,if_pos hi]
  ·have e:farI h.length k i=i+k:=if_neg hi;rw [e,if_neg (by omega),if_neg (by omega),Nat.add_sub_cancel]
 refine⟨_,v',V1,_,hK,k2,?_,?_,?_,?_,?_,k8⟩
 ·refine(Rep.ren _ _).2 ?_;rw [hV1];exact k3
 ·intro m x hm;show(if m<h.length then _ else _)=some x
  by_cases h1:m<h.length
  ·rw [if_pos h1];exact k4 m x (by show(if m<h.length then V m else none)=some x;rw [if_pos h1];exact hm)
  ·rw [if_neg h1]
   have h2:m<h.length+k:=by
    cases Nat.lt_or_ge m (h.length+k)with
    | inl q=>exact q
    | inr q=>rw [hf m (by omega)]at hm;cases hm
   rw [if_pos h2];exact hm
 ·intro m hm;rw [A5 k6]at hm;show(if m<h.length then _ else _)=none
  rw [if_neg (by omega),if_neg (by omega)]
  exact k5 _ (by omega)
 ·rw [A5 k6];omega
 ·refine(aHJ (ι:=farI h.length k) (h0:=toF g2) OH (fun i=>OG k6 i) ?_).2 (by rw [hV1];exact k7)
  intro m hm
  by_cases h1:m<h.length
  ·exact(hm m (if_pos h1)).elim
  ·by_cases h2:m<h.length+k
   ·exact JQ k6 (by omega) h2
   ·refine(hm (m - k) ?_).elim;show(if m - k<h.length then _ else _)=m
    rw [if_neg (by omega)];omega
end Go.Sh
namespace Go.Sh
open Go
variable [Con] {A:Type} {P:Program}
def nG:List AVal→List AVal→Prop
 | [],[]=>True
 | v::vs,w::ws=>(w=v∨w=.O)∧nG vs ws
 | _,_=>False
theorem xE{V:Val} : ∀ {vs ws:List AVal} {xs:List Value},nG vs ws→aG V vs xs→aG V ws xs
 | [],[],_,_,r=>r
 | v::vs,w::ws,_,⟨h,h2⟩,⟨x,xs,e,r,r2⟩=>⟨x,xs,e,by rcases h with rfl | rfl;exact r;exact trivial,xE h2 r2⟩
def oL:Option (aH A)→Option (aH A)→Prop
 | _,none=>True
 | some (.cells vs),some (.cells ws)=>nG vs ws
 | x,y=>x=y
def lI:aC A→aC A→Prop
 | [],[]=>True
 | x::g,y::g2=>oL x y∧lI g g2
 | _,_=>False
theorem lJ: ∀ {g g2:aC A},lI g g2→g2.length=g.length
 | [],[],_=>rfl
 | x::g,y::g2,h=>by simp [lJ h.2]
theorem xD: ∀ {g g2:aC A},lI g g2→ ∀l,oL (aL g l) (aL g2 l)
 | [],[],_,l=>by simp [aL,oL]
 | x::g,y::g2,h,0=>by simpa [aL]using h.1
 | x::g,y::g2,h,l+1=>by
   have:=xD h.2 l
   simpa [aL]using this
theorem Inv.weak{I:Itp A}{V:Val}{g g2:aC A}{hR:PHeap}{w:World}(hw:lI g g2)(hi:Inv I V (toF g) hR w):Inv I V (toF g2) hR w:=by
 classical
 obtain⟨hs,h1,h2,h3,h4,h5,h6⟩:=hi;refine⟨fun l=>if aL g2 l=none then .emp else hs l,?_,?_,?_,?_,?_,h6⟩
 ·intro l e he;have he':aL g2 l=some e:=he;have hq:=xD hw l;rw [he']at hq;show e.interp I V l (if aL g2 l=none then PHeap.emp else hs l)
  rw [if_neg (by rw [he'];simp)]
  cases hg:aL g l with
  | none=>rw [hg]at hq;cases e<;>cases hq
  | some e1=>
    rw [hg]at hq;have hi1:=h1 l e1 hg;cases e1 with
    | cells vs=>
      cases e with
      | cells ws=>
        obtain⟨b,k,q1,cs,T,q2,q3,rs,tail,q4,q5⟩:=hi1;exact⟨b,k,q1,cs,T,q2,q3,rs,tail,q4,xE hq q5⟩
      | _=>simp [oL]at hq
    | _=>
      simp only [oL,sI']at hq;subst hq;exact hi1
 ·intro l he;have he':aL g2 l=none:=he;show(if aL g2 l=none then PHeap.emp else hs l)=_
  rw [if_pos he']
 ·intro l m hlm;show PHeap.disj (if aL g2 l=none then .emp else hs l) (if aL g2 m=none then .emp else hs m)
  split
  ·exact(aHc _).symm
  ·split
   ·exact aHc _
   ·exact h3 l m hlm
 ·intro l;show PHeap.disj (if aL g2 l=none then .emp else hs l) hR
  split
  ·exact(aHc _).symm
  ·exact h4 l
 ·intro l;show PHeap.sub (if aL g2 l=none then .emp else hs l) w
  split
  ·exact aHC _
  ·exact h5 l
structure LY (K:AVal→aC A→Prop) (v:AVal) (g:aC A):Prop where
 ex: ∃g2,lI g g2∧K v g2
theorem aB.less{I:Itp A}{f:FuncId}{args:List AVal}{h:aC A}{K:AVal→aC A→Prop}(h0:aB I P f args h (LY K)):aB I P f args h K:=by
 intro V hR w args' hi hf hr;refine(h0 V hR w args' hi hf hr).mono ?_;rintro e w' ⟨v,v',V',g',⟨g2,hw,hK⟩,k2,k3,k4,k5,k6,k7,k8⟩;exact⟨v,v',V',g2,hK,k2,k3,k4,by rw [lJ hw];exact k5,by rw [lJ hw];exact k6,k7.weak hw,k8⟩
end Go.Sh
namespace Go.Sh
open Go
variable [Con] {A:Type} {P:Program}
def aF(I:Itp A)(n:Nat)(v:AVal)(g:aC A)(v2:AVal)(g2:aC A):Prop:=
 ∀V hR w x,Inv I V (toF g) hR w→bP V g.length→n≤g.length→Rep V v x→
  ∃V',(∀l y,l<n→V l=some y→V' l=some y)∧bP V' g2.length∧n≤g2.length∧Rep V' v2 x∧Inv I V' (toF g2) hR w
theorem aHr{I:Itp A}(n:Nat)(v:AVal)(g:aC A):aF I n v g v g:=fun V hR w x h1 h2 h3 h4=>⟨V,fun _ _ _ h=>h,h2,h3,h4,h1⟩
theorem aF.trans{I:Itp A}{n:Nat}{v v2 v3:AVal}{g g2 g3:aC A}(a:aF I n v g v2 g2)(b:aF I n v2 g2 v3 g3):aF I n v g v3 g3:=by
 intro V hR w x h1 h2 h3 h4;obtain⟨V1,a1,a2,a3,a4,a5⟩:=a V hR w x h1 h2 h3 h4;obtain⟨V2,b1,b2,b3,b4,b5⟩:=b V1 hR w x a5 a2 a3 a4;exact⟨V2,fun l y hl hy=>b1 l y hl (a1 l y hl hy),b2,b3,b4,b5⟩
theorem aF.weak{I:Itp A}{n:Nat}{v:AVal}{g g2:aC A}(h:lI g g2):aF I n v g v g2:=fun V hR w x h1 h2 h3 h4=>⟨V,fun _ _ _ h=>h,by rw [lJ h];exact h2,by rw [lJ h];exact h3,h4,h1.weak h⟩
theorem aF.pick{I:Itp A}{n:Nat}{v:AVal}{g:aC A}(pl:List Nat)(h:(dO pl g.length&&iC pl 0 n)=true):aF I n v g (kD pl v) (fQ pl g):=by
 intro V hR w x h1 h2 h3 h4;obtain⟨q1,q2⟩:=Bool.and_eq_true_iff.1 h;obtain⟨p1,p2,p3,p4⟩:=vV.elim q1 q2 h1 h2;exact⟨_,fun l y hl hy=>(p1 l hl).trans hy,p2,p3,nZ h4,p4⟩
theorem aF.unpack{tb:A→Nat×aC A}{n:Nat}{v:AVal}{g:aC A}(t:A)(l np:Nat)(e:aC A)(ps:List Nat)(hl:aL g l=some (.abs t ps))(ht:tb t=(np,e))(ho:obOk np e=true)(hnp:ps.length=np):aF (obI tb) n v g v (aP g l np e ps):=by
 intro V hR w x h1 h2 h3 h4;obtain⟨V1,v1,v2,v3⟩:=h1.unpack tb h2 hl ht ho hnp;exact⟨V1,fun l y _ hy=>v1 l y hy,v2,by rw [fR];omega,Rep.mono v1 _ _ h4,v3⟩
theorem aF.pack{tb:A→Nat×aC A}{n:Nat}{v:AVal}{g:aC A}(h2:aC A)(t:A)(l np:Nat)(e:aC A)(ps:List Nat)(hg:g=aP h2 l np e ps)(hl:aL h2 l=some (.abs t ps))(ht:tb t=(np,e))
 (hb:(Nat.ble n h2.length&&obOk np e&&kZ h2 l ps&&v.within (upto 0 h2.length)&&Nat.beq ps.length np)=true):aF (obI tb) n v g v h2:=by
 subst hg;simp only [Bool.and_eq_true]at hb;obtain⟨⟨⟨⟨b3,b4⟩,b5⟩,b6⟩,b7⟩:=hb;have hn:n≤h2.length:=Nat.le_of_ble_eq_true b3;intro V hR w x h1 hf h3 h4;refine⟨_,?_,?_,hn,?_,h1.pack tb hl ht b4 (Nat.eq_of_beq_eq_true b7) b5⟩
 ·intro m y hm hy;show(if m<h2.length then V m else none)=some y
  rw [if_pos (by omega)];exact hy
 ·intro m hm;show(if m<h2.length then _ else none)=none
  rw [if_neg (by omega)]
 ·exact aHL (pl:=upto 0 h2.length) (fun i hi=>by
   show _=if i<h2.length then _ else none
   rw [if_pos (jB.1 hi)]) _ _ b6 h4
theorem aHl{I:Itp A}{n:Nat}{v v2:AVal}{g g2:aC A}(h1:v=v2)(h2:g=g2):aF I n v g v2 g2:=by subst h1 h2;exact aHr _ _ _
structure dJ (I:Itp A) (n:Nat) (K:AVal→aC A→Prop) (v:AVal) (g:aC A):Prop where
 ex: ∃v2 g2,aF I n v g v2 g2∧K v2 g2
theorem aHn{I:Itp A}{f:FuncId}{args:List AVal}{h:aC A}{K:AVal→aC A→Prop}(h0:aB I P f args h (dJ I h.length K)):aB I P f args h K:=by
 intro V hR w args' hi hf hr;refine(h0 V hR w args' hi hf hr).mono ?_;rintro e w' ⟨v,v',V',g',⟨v2,g2,ht,hK⟩,k2,k3,k4,k5,k6,k7,k8⟩;obtain⟨V1,a1,a2,a3,a4,a5⟩:=ht V' hR w' v' k7 k5 k6 k3;refine⟨v2,v',V1,g2,hK,k2,a4,?_,a2,a3,a5,k8⟩;intro l y hl
 have hlt:l<h.length:=by
  cases Nat.lt_or_ge l h.length with
  | inl q=>exact q
  | inr q=>rw [hf l q]at hl;cases hl
 exact a1 l y hlt (k4 l y hl)
inductive Tr (X:Type) where
 | ret (x:X)
 | ite (b:Bool) (l r:Tr X)
 | pre (p:Prop) (t:Tr X)
def Tr.run{X:Type} :Tr X→(X→Prop)→Prop
 | .ret x,K=>K x
 | .ite b l r,K=>cond b (l.run K) (r.run K)
 | .pre p t,K=>p∧t.run K
def Tr.val{X:Type} :Tr X→X
 | .ret x=>x
 | .ite b l r=>bif b then l.val else r.val
 | .pre _ t=>t.val
def Tr.ok{X:Type} :Tr X→Prop
 | .ret _=>True
 | .ite b l r=>cond b l.ok r.ok
 | .pre p t=>p∧t.ok
theorem aHe{X:Type}{K:X→Prop} : ∀ {t:Tr X},t.ok→K t.val→t.run K
 | .ret x,_,k=>k
 | .ite b l r,o,k=>by
   cases b with
   | true=>exact aHe (t:=l) o k
   | false=>exact aHe (t:=r) o k
 | .pre p t,o,k=>⟨o.1,aHe (t:=t) o.2 k⟩
def ZS{X:Type}(n:Nat)(parse:AVal→aC A→Option (Prop×X))(K:X→Prop)(v:AVal)(g:aC A):Prop:=
 cR (dO (dZ n g v.labels) g.length&&iC (dZ n g v.labels) 0 n) (match parse (kD (dZ n g v.labels) v) (fQ (dZ n g v.labels) g)with
  | some (p,x)=>p∧K x
  | none=>False)
def bM{X:Type}(I:Itp A)(n:Nat)(parse:AVal→aC A→Option (Prop×X))(fin:X→Out A):Prop:=
 ∀v g p x,parse v g=some (p,x)→p→ ∀K,(fin x).run K→dJ I n K v g
theorem aB.leaf{X:Type}{I:Itp A}{f:FuncId}{args:List AVal}{h:aC A}{K:AVal→aC A→Prop}{parse:AVal→aC A→Option (Prop×X)}{fin:X→Out A}(n:Nat)(hn:n≤h.length)(hr:bM I n parse fin)
 (h0:aB I P f args h (ZS n parse fun x=>(fin x).run K)): ∀V hR w (args':Array Value),Inv I V (toF h) hR w→bP V h.length→aG V args args'.toList→Calls P f args' w (fun e w'=> ∃v v' V' h',K v h'∧e=.returned v'∧Rep V' v v'∧(∀l y,l<n→V l=some y→V' l=some y)∧bP V' h'.length∧n≤h'.length∧Inv I V' (toF h') hR w'∧bT w w'):=by
 intro V hR w args' hi hf hrp;refine(h0 V hR w args' hi hf hrp).mono ?_;rintro e w' ⟨v,v',V',g',hL,k2,k3,k4,k5,k6,k7,k8⟩;unfold ZS at hL;obtain⟨hg,hL⟩:=bG.1 hL;have ht:=aF.pick (I:=I) (v:=v) _ hg;split at hL
 ·rename_i p x hp;obtain⟨v2,g2,ht2,hK⟩:=(hr _ _ p x hp hL.1 K hL.2).ex;obtain⟨V1,a1,a2,a3,a4,a5⟩:=(ht.trans ht2) V' hR w' v' k7 k5 (by omega) k3
  exact⟨v2,v',V1,g2,hK,k2,a4,fun l y hl hy=>a1 l y hl (k4 l y hy),a2,a3,a5,k8⟩
 ·exact hL.elim
theorem aB.plain{X:Type}{I:Itp A}{f:FuncId}{args:List AVal}{h:aC A}{K:AVal→aC A→Prop}{parse:AVal→aC A→Option (Prop×X)}{fin:X→Out A}(hr:bM I h.length parse fin)
 (h0:aB I P f args h (ZS h.length parse fun x=>(fin x).run K)):aB I P f args h K:=by
 intro V hR w args' hi hf hrp;refine(aB.leaf h.length (Nat.le_refl _) hr h0 V hR w args' hi hf hrp).mono ?_;rintro e w' ⟨v,v',V',h',k1,k2,k3,k4,k5,k6,k7,k8⟩;refine⟨v,v',V',h',k1,k2,k3,?_,k5,k6,k7,k8⟩;intro l y hy
 have hlt:l<h.length:=by
  cases Nat.lt_or_ge l h.length with
  | inl q=>exact q
  | inr q=>rw [hf l q]at hy;cases hy
 exact k4 l y hlt hy
end Go.Sh
namespace Go.Sh
open Go
variable [Con] {A:Type} {P:Program}
def ZK(g:aC A):AVal→Bool
 | .ptr l 0=>(match aL g l with
   | some (.abs _ _)=>false
   | _=>true)
 | _=>true
def RB(g:aC A)(pos:List Nat):Nat→List AVal→List AVal
 | _,[]=>[]
 | i,v::vs=>cond (pos.elem i&&ZK g v) .O v::RB g pos (i+1) vs
theorem vA(g:aC A)(pos:List Nat): ∀(i:Nat) (vs:List AVal),nG vs (RB g pos i vs)
 | _,[]=>trivial
 | i,v::vs=>by
   refine⟨?_,vA g pos (i+1) vs⟩;cases pos.elem i&&ZK g v with
   | true=>exact .inr rfl
   | false=>exact .inl rfl
theorem vD: ∀(vs:List AVal),nG vs vs
 | []=>trivial
 | _::vs=>⟨.inl rfl,vD vs⟩
theorem vC(e:Option (aH A)):oL e e:=by
 cases e with
 | none=>trivial
 | some e=>cases e with
   | cells vs=>exact vD vs
   | _=>rfl
theorem l6: ∀(g:aC A),lI g g
 | []=>trivial
 | _::g=>⟨vC _,l6 g⟩
theorem jH: ∀(g:aC A) (l:Nat) (e2:Option (aH A)),oL (aL g l) e2→lI g (g.set l e2)
 | [],_,_,_=>trivial
 | x::g,0,e2,h=>⟨by simpa [aL]using h,l6 g⟩
 | x::g,l+1,e2,h=>⟨vC x,jH g l e2 (by simpa [aL]using h)⟩
def yX(g:aC A)(root:Nat)(pos:List Nat):aC A:=match aL g root with
 | some (.cells vs)=>g.set root (some (.cells (RB g pos 0 vs)))
 | _=>g
theorem yY(g:aC A)(root:Nat)(pos:List Nat):lI g (yX g root pos):=by
 unfold yX;split
 ·rename_i vs h;refine jH g root _ ?_;rw [h];exact vA g pos 0 vs
 ·exact l6 g
theorem aHB{I:Itp A}{n:Nat}{cs:List (Place×fT)}{v v2:AVal}{g g2:aC A}(h:gL cs [v] g=some ([v2],g2)):aF I n v g v2 g2:=by
 intro V hR w x h1 h2 h3 h4;obtain⟨V',⟨c1,c2,c3,c4⟩,r⟩:=fJ h h1 h2 (xs:=[x]) ⟨x,[],rfl,h4,rfl⟩;obtain⟨y,ys,e,r1,_⟩:=r;simp only [lI']at e;obtain⟨rfl,_⟩:=e;exact⟨V',fun l y _ hy=>c1 l y hy,c2,by omega,r1,c4⟩
def bU{X:Type}(n root:Nat)(pos:List Nat)(cs:List (Place×fT))(parse:AVal→aC A→Option (Prop×X))(K:X→Prop)(v:AVal)(g:aC A):Prop:=
 let pl:=dZ n g v.labels
 cR (dO pl g.length&&iC pl 0 n) (
  match gL cs [kD pl v] (yX (fQ pl g) root pos)with
  | some ([v3],g3)=>
    let pl2:=dZ n g3 v3.labels
    cR (dO pl2 g3.length&&iC pl2 0 n) (match parse (kD pl2 v3) (fQ pl2 g3)with
     | some (p,x)=>p∧K x
     | none=>False)
  | _=>False)
theorem bU.sees{X:Type}{I:Itp A}{n root:Nat}{pos:List Nat}{cs:List (Place×fT)}{parse:AVal→aC A→Option (Prop×X)}{fin:X→Out A}(hr:bM I n parse fin){K:AVal→aC A→Prop}{v:AVal}{g:aC A}
 (h:bU n root pos cs parse (fun x=>(fin x).run K) v g):dJ I n K v g:=by
 unfold bU at h;obtain⟨h1,h⟩:=bG.1 h;have t1:=aF.pick (I:=I) (v:=v) _ h1;split at h
 ·rename_i v3 g3 hc;obtain⟨h2,h⟩:=bG.1 h;have t2:aF I n (kD (dZ n g v.labels) v) (fQ (dZ n g v.labels) g) v3 g3:=(aF.weak (yY _ root pos)).trans (aHB hc);have t3:=aF.pick (I:=I) (v:=v3) _ h2;split at h
  ·rename_i p x hp;obtain⟨v4,g4,t4,hK⟩:=(hr _ _ p x hp h.1 K h.2).ex;exact⟨v4,g4,((t1.trans t2).trans t3).trans t4,hK⟩
  ·exact h.elim
 ·exact h.elim
theorem aH8{X:Type}{I:Itp A}{f:FuncId}{args:List AVal}{h:aC A}{K:AVal→aC A→Prop}{parse:AVal→aC A→Option (Prop×X)}{fin:X→Out A}(n:Nat)(hn:n≤h.length){root:Nat}{pos:List Nat}{cs:List (Place×fT)}(hr:bM I n parse fin)
 (h0:aB I P f args h (bU n root pos cs parse fun x=>(fin x).run K)): ∀V hR w (args':Array Value),Inv I V (toF h) hR w→bP V h.length→aG V args args'.toList→Calls P f args' w (fun e w'=> ∃v v' V' h',K v h'∧e=.returned v'∧Rep V' v v'∧(∀l y,l<n→V l=some y→V' l=some y)∧bP V' h'.length∧n≤h'.length∧Inv I V' (toF h') hR w'∧bT w w'):=by
 intro V hR w args' hi hf hrp;refine(h0 V hR w args' hi hf hrp).mono ?_;rintro e w' ⟨v,v',V',g',hL,k2,k3,k4,k5,k6,k7,k8⟩;obtain⟨v2,g2,ht2,hK⟩:=(bU.sees hr hL).ex;obtain⟨V1,a1,a2,a3,a4,a5⟩:=ht2 V' hR w' v' k7 k5 (by omega) k3
 exact⟨v2,v',V1,g2,hK,k2,a4,fun l y hl hy=>a1 l y hl (k4 l y hy),a2,a3,a5,k8⟩
theorem aHm{X:Type}{I:Itp A}{f:FuncId}{args:List AVal}{h:aC A}{K:AVal→aC A→Prop}{parse:AVal→aC A→Option (Prop×X)}{fin:X→Out A}{root:Nat}{pos:List Nat}{cs:List (Place×fT)}(hr:bM I h.length parse fin)
 (h0:aB I P f args h (bU h.length root pos cs parse fun x=>(fin x).run K)):aB I P f args h K:=by
 intro V hR w args' hi hf hrp;refine(aH8 h.length (Nat.le_refl _) hr h0 V hR w args' hi hf hrp).mono ?_;rintro e w' ⟨v,v',V',h',k1,k2,k3,k4,k5,k6,k7,k8⟩;refine⟨v,v',V',h',k1,k2,k3,?_,k5,k6,k7,k8⟩;intro l y hy
 have hlt:l<h.length:=by
  cases Nat.lt_or_ge l h.length with
  | inl q=>exact q
  | inr q=>rw [hf l q]at hy;cases hy
 exact k4 l y hlt hy
end Go.Sh
namespace Go.Sh
open Go
variable [Con] {A:Type} {P:Program}
def rowC:Nat→List (Option A)→List AVal
 | _,[]=>[]
 | k,none::r=>.raw (.pointer none)::rowC (k+1) r
 | k,some _::r=>.ptr k 0::rowC (k+1) r
def QI(ws:List (Option A)):aC A:=ws.map (Option.map fun t=>aH.abs t [])
def rowE(ws:List (Option A)):aC A:=some (.cells (rowC 1 ws))::QI ws
def kK(ws:List (Option A))(i:Nat):aC A:=some (.cells ((rowC 2 ws).set i (.ptr 1 0)))::none::(QI ws).set i none
def LC(k:Nat):Option A→AVal
 | none=>.raw (.pointer none)
 | some _=>.ptr k 0
theorem iF: ∀(ws:List (Option A)) (k j:Nat),(rowC k ws)[j]? =(ws[j]?).map (LC (k+j))
 | [],_,_=>by simp [rowC]
 | none::r,k,0=>by simp [rowC,LC]
 | some _::r,k,0=>by simp [rowC,LC]
 | none::r,k,j+1=>by simp only [rowC,List.getElem?_cons_succ];rw [iF r (k+1) j];rw [show k+1+j=k+(j+1)from by omega]
 | some _::r,k,j+1=>by simp only [rowC,List.getElem?_cons_succ];rw [iF r (k+1) j];rw [show k+1+j=k+(j+1)from by omega]
theorem f7(k:Nat)(ws:List (Option A)):(rowC k ws).length =ws.length:=by
 induction ws generalizing k with
 | nil=>rfl
 | cons o r ih=>cases o<;>simp [rowC,ih]
theorem aH0{V:Val} : ∀ {av:List AVal} {vs:List Value},av.length=vs.length→(∀(i:Nat) (a:AVal) (v:Value),av[i]? =some a→vs[i]? =some v→Rep V a v)→aG V av vs
 | [],[],_,_=>rfl
 | [],_::_,h,_=>by simp at h
 | _::_,[],h,_=>by simp at h
 | a::av,v::vs,h,hg=>⟨v,vs,rfl,hg 0 a v rfl rfl,aH0 (by simpa using h) (fun i a v h1 h2=>hg (i+1) a v (by simpa using h1) (by simpa using h2))⟩
theorem aG.at{V:Val}{av:List AVal}{vs:List Value}(h:aG V av vs){i:Nat}{a:AVal}{v:Value}(ha:av[i]? =some a)(hv:vs[i]? =some v):Rep V a v:=by
 obtain⟨y,hy,r⟩:=aG.get h i a ha;rw [hv]at hy;cases hy;exact r
structure gF (tb:A→Nat×aC A) where
 R:Type
 row:R→A
 hole:R→Nat→A
 els:R→List (Option A)
 len:R→Nat
 upd:R→Nat→A→Option R
 isRow:A→Option R
 isHole:A→Option (R×Nat)
 is:R→Nat→Bool
 get:R→Nat→A
 isRow_eq: ∀t r,isRow t=some r→t=row r
 isHole_eq: ∀t r i,isHole t=some (r,i)→t=hole r i
 len_eq: ∀r,len r=(els r).length
 upd_eq: ∀r i t r',upd r i t=some r'→els r'=(els r).set i (some t)
 is_true: ∀r i,is r i=true→i<len r→(els r)[i]? =some (some (get r i))
 is_false: ∀r i,is r i=false→i<len r→(els r)[i]? =some none
 tbRow: ∀r,tb (row r)=(0,rowE (els r))
 tbHole: ∀r i,tb (hole r i)=(1,kK (els r) i)
theorem eJ(ws:List (Option A))(j:Nat):aL (rowE ws) (j+1)=(ws[j]?).join.map (fun t=>aH.abs t []):=by
 simp only [rowE,aL,List.getD_cons_succ,QI];rw [gD',List.getElem?_map];cases ws[j]? with
 | none=>rfl
 | some o=>cases o<;>rfl
theorem fG(ws:List (Option A))(i j:Nat):aL (kK ws i) (j+2)=if i=j then none else(ws[j]?).join.map (fun t=>aH.abs t []):=by
 simp only [kK,aL,List.getD_cons_succ,QI];rw [gD',List.getElem?_set];split
 ·split<;>rfl
 ·rw [List.getElem?_map];cases ws[j]? with
  | none=>rfl
  | some o=>cases o<;>rfl
variable {tb:A→Nat×aC A}
theorem oN{N:Nat}{V:Val}{l:Nat}{t:A}{p:PHeap}(h:aH.interp (obN tb N) V l (.abs t []) p): ∃x,V l=some x∧obN tb N t x [] p:=by
 obtain⟨b,k,h1,bs,h2,h3⟩:=h;have:bs=[]:=h2;subst this;exact⟨_,h1,h3⟩
theorem gF.lend(R:gF tb){rr:R.R}{i:Nat}{t:A}{r:Nat×Nat}{p:PHeap}{N:Nat}(h:obN tb (N+1) (R.row rr) r [] p)(hw:(R.els rr)[i]? =some (some t)):
 ∃x q p',obN tb N t x [] q∧obN tb (N+1) (R.hole rr i) r [x] p'∧q.disj p'∧(∀b o,q b=some o→p b=some o)∧(∀b o,p' b=some o→p b=some o)∧
  ∃cs T,p r.1=some (.cells cs T)∧cs.toList[i]? =some (.pointer (some ⟨x.1,0,none⟩)):=by
 obtain⟨V,gs,g1,g2,g3,⟨g4,g5,g6⟩,g7⟩:=h;have htb:=R.tbHole rr i;rw [R.tbRow]at g2 g3 g4 g5;dsimp only at g2 g3 g4 g5;generalize R.els rr=ws at*;have hi:aL (rowE ws) (i+1)=some (.abs t []):=by rw [eJ,hw];rfl
 obtain⟨x,hx,hq⟩:=oN (g4 _ _ hi);have hc:=g4 0 _ (show aL (rowE ws) 0=some (.cells (rowC 1 ws))from rfl)
 obtain⟨b,k,c1,cs,T,c2,c3,rs,tail,c4,c5⟩:=hc;have hbk:r=(b,k):=by have c1':V 0=some (b,k):=c1;rw [g1]at c1';simpa using c1'
 have hlen:=aG.length c5
 have hil:i<rs.length:=by
  rw [hlen,f7];exact(List.getElem?_eq_some_iff.1 hw).1
 have hri:=aG.at c5 (i:=i) (a:=.ptr (1+i) 0) (v:=rs[i]) (by rw [iF,hw];rfl) (gE' hil)
 obtain⟨b2,k2,e1,e2⟩:=hri
 have hx2:x=(b2,k2):=by
  have:V (1+i)=some (b2,k2):=e1;rw [Nat.add_comm]at this;have hx':V (i+1)=some x:=hx;rw [hx']at this;simpa using this
 let V':Val:=fun m=>match m with
  | 0=>V 0
  | 1=>some x
  | j+2=>V (j+1)
 let gs':Nat→PHeap:=fun m=>match m with
  | 0=>gs 0
  | 1=>.emp
  | j+2=>if i=j then .emp else gs (j+1)
 have hsub: ∀j b o,gs j b=some o→p b=some o:=by
  intro j b o hh;rw [g7];exact aHu g6 hh
 have gs'_sub: ∀m b o,gs' m b=some o→ ∃j,j≠i+1∧gs j b=some o:=by
  intro m b o hh
  match m,hh with
  | 0,hh=>exact⟨0,by omega,hh⟩
  | 1,hh=>cases hh
  | j+2,hh=>
    have hh':(if i=j then PHeap.emp else gs (j+1)) b=some o:=hh
    split at hh'
    ·cases hh'
    ·exact⟨j+1,by omega,hh'⟩
 have gdis: ∀l m,l≠m→(gs' l).disj (gs' m):=by
  intro l m hlm b;cases h1:gs' l b with
  | none=>exact .inl rfl
  | some o=>
    right;cases h2:gs' m b with
    | none=>rfl
    | some o2=>
      exfalso
      have key: ∀l m,l≠m→ ∀o o2,gs' l b=some o→gs' m b=some o2→False:=by
       intro l m hlm o o2 h1 h2
       match l,m,h1,h2 with
       | 0,0,_,_=>exact hlm rfl
       | 1,_,h1,_=>cases h1
       | _,1,_,h2=>cases h2
       | 0,j+2,h1,h2=>
         have h2':(if i=j then PHeap.emp else gs (j+1)) b=some o2:=h2
         split at h2'
         ·cases h2'
         ·rcases g6 0 (j+1) (by omega) b with d | d
          ·have h1':gs 0 b=some o:=h1;rw [d]at h1';cases h1'
          ·rw [d]at h2';cases h2'
       | j+2,0,h1,h2=>
         have h1':(if i=j then PHeap.emp else gs (j+1)) b=some o:=h1
         split at h1'
         ·cases h1'
         ·rcases g6 0 (j+1) (by omega) b with d | d
          ·have h2':gs 0 b=some o2:=h2;rw [d]at h2';cases h2'
          ·rw [d]at h1';cases h1'
       | j+2,j2+2,h1,h2=>
         have h1':(if i=j then PHeap.emp else gs (j+1)) b=some o:=h1
         have h2':(if i=j2 then PHeap.emp else gs (j2+1)) b=some o2:=h2
         split at h1'
         ·cases h1'
         ·split at h2'
          ·cases h2'
          ·rcases g6 (j+1) (j2+1) (by omega) b with d | d
           ·rw [d]at h1';cases h1'
           ·rw [d]at h2';cases h2'
      exact key l m hlm o o2 h1 h2
 have hcell:aL (kK ws i) 0=some (.cells ((rowC 2 ws).set i (.ptr 1 0))):=rfl;refine⟨x,gs (i+1),aHh gs',hq,⟨V',gs',g1,?_,?_,⟨?_,?_,gdis⟩,rfl⟩,?_,hsub _,?_,cs,T,?_,?_⟩
 ·intro j hj;rw [htb]at hj;have:j=0:=by dsimp only at hj;omega
  subst this;rfl
 ·rw [htb];rfl
 ·intro l e he;rw [htb]at he
  match l,he with
  | 0,he=>
    have he':aL (kK ws i) 0=some e:=he;rw [hcell]at he';simp only [sI']at he';subst he';refine⟨b,k,c1,cs,T,c2,c3,rs,tail,c4,?_⟩;refine aH0 (by rw [List.length_set,f7,hlen,f7]) ?_
    intro j a v ha hv;rw [List.getElem?_set]at ha;split at ha
    ·rename_i hij;subst hij;split at ha
     ·simp only [sI']at ha;subst ha;rw [gE' hil]at hv;simp only [sI']at hv;subst hv;refine⟨b2,k2,?_,e2⟩;show some x=_;rw [hx2]
     ·cases ha
    ·rw [iF]at ha;cases hwj:ws[j]? with
     | none=>rw [hwj]at ha;cases ha
     | some o=>
       rw [hwj]at ha;simp only [Option.map_some,sI']at ha;have hr:=aG.at c5 (i:=j) (a:=LC (1+j) o) (v:=v) (by rw [iF,hwj];rfl) hv
       cases o with
       | none=>subst ha;exact hr
       | some s=>
         subst ha;obtain⟨b3,k3,f1,f2⟩:=hr;refine⟨b3,k3,?_,f2⟩;show V' (2+j)=_;rw [Nat.add_comm];show V (j+1)=_;rw [Nat.add_comm];exact f1
  | 1,he=>cases he
  | j+2,he=>
    have he':aL (kK ws i) (j+2)=some e:=he;rw [fG]at he';split at he'
    ·cases he'
    ·rename_i hij;have hj2:aL (rowE ws) (j+1)=some e:=by rw [eJ];exact he'
     have hin:=g4 _ _ hj2;show aH.interp (obN tb N) V' (j+2) e (if i=j then PHeap.emp else gs (j+1))
     rw [if_neg hij];cases hwj:(ws[j]?).join with
     | none=>rw [hwj]at he';cases he'
     | some s=>
       rw [hwj]at he';simp only [Option.map_some,sI']at he';subst he';obtain⟨x3,f1,f2⟩:=oN hin;exact⟨x3.1,x3.2,f1,[],rfl,f2⟩
 ·intro l he;rw [htb]at he
  match l,he with
  | 0,he=>cases he
  | 1,he=>rfl
  | j+2,he=>
    have he':aL (kK ws i) (j+2)=none:=he;rw [fG]at he';show(if i=j then PHeap.emp else gs (j+1))=_
    split at he'
    ·rename_i hij;rw [if_pos hij]
    ·rename_i hij;rw [if_neg hij];refine g5 _ ?_;show aL (rowE ws) (j+1)=none;rw [eJ];exact he'
 ·intro b';cases h1:gs (i+1) b' with
  | none=>exact .inl rfl
  | some o=>
    right;refine aHQ fun m=>?_;cases h2:gs' m b' with
    | none=>rfl
    | some o2=>
      exfalso;obtain⟨j,hj,h3⟩:=gs'_sub m b' o2 h2;rcases g6 j (i+1) hj b' with d | d
      ·rw [d]at h3;cases h3
      ·rw [d]at h1;cases h1
 ·intro b' o hh;obtain⟨m,hm⟩:=aHt hh;obtain⟨j,_,h3⟩:=gs'_sub m b' o hm;exact hsub j b' o h3
 ·refine hsub 0 r.1 _ ?_;rw [c2,hbk];simp [PHeap.one]
 ·rw [c4,List.getElem?_append_left hil,gE' hil,e2,hx2]
theorem gF.back(R:gF tb){rr rr':R.R}{i:Nat}{t:A}{r x:Nat×Nat}{p' q:PHeap}{N:Nat}(hp:obN tb (N+1) (R.hole rr i) r [x] p')(hq:obN tb N t x [] q)(hd:q.disj p')(hi:i<R.len rr)(hu:R.upd rr i t=some rr'):
 ∃p,obN tb (N+1) (R.row rr') r [] p∧(∀b o,p b=some o→q b=some o∨p' b=some o):=by
 obtain⟨V,gs,g1,g2,g3,⟨g4,g5,g6⟩,g7⟩:=hp;have htb:=R.tbRow rr';rw [R.upd_eq _ _ _ _ hu]at htb;rw [R.len_eq]at hi;rw [R.tbHole]at g2 g3 g4 g5;dsimp only at g2 g3 g4 g5;generalize R.els rr=ws at*;have hx:V 1=some x:=by have:=g2 0 (by omega);simpa using this
 have hc:=g4 0 _ (show aL (kK ws i) 0=some (.cells ((rowC 2 ws).set i (.ptr 1 0)))from rfl)
 obtain⟨b,k,c1,cs,T,c2,c3,rs,tail,c4,c5⟩:=hc;have hlen:=aG.length c5;rw [List.length_set,f7]at hlen
 let V':Val:=fun m=>match m with
  | 0=>V 0
  | j+1=>if i=j then some x else V (j+2)
 let gs':Nat→PHeap:=fun m=>match m with
  | 0=>gs 0
  | j+1=>if i=j then q else gs (j+2)
 have hsub: ∀j b o,gs j b=some o→p' b=some o:=by
  intro j b o hh;rw [g7];exact aHu g6 hh
 have hqd: ∀j b o o2,gs j b=some o→q b=some o2→False:=by
  intro j b o o2 h1 h2;have:=hsub j b o h1;rcases hd b with d | d
  ·rw [d]at h2;cases h2
  ·rw [d]at this;cases this
 have key: ∀l m b,l≠m→ ∀o o2,gs' l b=some o→gs' m b=some o2→False:=by
  intro l m b hlm o o2 h1 h2
  match l,m,h1,h2 with
  | 0,0,_,_=>exact hlm rfl
  | 0,j+1,h1,h2=>
    have h2':(if i=j then q else gs (j+2)) b=some o2:=h2
    split at h2'
    ·exact hqd 0 b o o2 h1 h2'
    ·rcases g6 0 (j+2) (by omega) b with d | d
     ·have h1':gs 0 b=some o:=h1;rw [d]at h1';cases h1'
     ·rw [d]at h2';cases h2'
  | j+1,0,h1,h2=>
    have h1':(if i=j then q else gs (j+2)) b=some o:=h1
    split at h1'
    ·exact hqd 0 b o2 o h2 h1'
    ·rcases g6 0 (j+2) (by omega) b with d | d
     ·have h2':gs 0 b=some o2:=h2;rw [d]at h2';cases h2'
     ·rw [d]at h1';cases h1'
  | j+1,j2+1,h1,h2=>
    have h1':(if i=j then q else gs (j+2)) b=some o:=h1
    have h2':(if i=j2 then q else gs (j2+2)) b=some o2:=h2
    split at h1'
    ·split at h2'
     ·omega
     ·exact hqd _ b o2 o h2' h1'
    ·split at h2'
     ·exact hqd _ b o o2 h1' h2'
     ·rcases g6 (j+2) (j2+2) (by omega) b with d | d
      ·rw [d]at h1';cases h1'
      ·rw [d]at h2';cases h2'
 have gdis: ∀l m,l≠m→(gs' l).disj (gs' m):=by
  intro l m hlm b;cases h1:gs' l b with
  | none=>exact .inl rfl
  | some o=>
    right;cases h2:gs' m b with
    | none=>rfl
    | some o2=>exact(key l m b hlm o o2 h1 h2).elim
 refine⟨aHh gs',⟨V',gs',g1,?_,?_,⟨?_,?_,gdis⟩,rfl⟩,?_⟩
 ·intro j hj;rw [htb]at hj;dsimp only at hj;omega
 ·rw [htb];rfl
 ·intro l e he;rw [htb]at he
  match l,he with
  | 0,he=>
    have he':some (aH.cells (rowC 1 (ws.set i (some t))))=some e:=he;simp only [sI']at he';subst he';refine⟨b,k,c1,cs,T,c2,c3,rs,tail,c4,?_⟩;refine aH0 (by rw [f7,List.length_set,hlen]) ?_
    intro j a v ha hv;rw [iF,List.getElem?_set]at ha;split at ha
    ·rename_i hij;subst hij;simp only [Option.map_some,sI',LC]at ha;subst ha;have hr:=aG.at c5 (i:=i) (a:=.ptr 1 0) (v:=v) (by rw [List.getElem?_set,if_pos rfl,if_pos (by rw [f7];exact hi)]) hv
     obtain⟨b3,k3,f1,f2⟩:=hr;refine⟨b3,k3,?_,f2⟩;show V' (1+i)=_;rw [Nat.add_comm];show(if i=i then some x else _)=_
     rw [if_pos rfl,←hx];exact f1
    ·rename_i hij;cases hwj:ws[j]? with
     | none=>rw [hwj]at ha;cases ha
     | some o=>
       rw [hwj]at ha;simp only [Option.map_some,sI']at ha;have hr:=aG.at c5 (i:=j) (a:=LC (2+j) o) (v:=v) (by rw [List.getElem?_set,if_neg hij,iF,hwj];rfl) hv
       cases o with
       | none=>subst ha;exact hr
       | some s=>
         subst ha;obtain⟨b3,k3,f1,f2⟩:=hr;refine⟨b3,k3,?_,f2⟩;show V' (1+j)=_;rw [Nat.add_comm];show(if i=j then some x else V (j+2))=_
         rw [if_neg hij,Nat.add_comm];exact f1
  | j+1,he=>
    have he':aL (rowE (ws.set i (some t))) (j+1)=some e:=he;rw [eJ,List.getElem?_set]at he';show aH.interp (obN tb N) V' (j+1) e (if i=j then q else gs (j+2))
    split at he'
    ·rename_i hij;subst hij;simp only [Option.join_some,Option.map_some,sI']at he';subst he';rw [if_pos rfl];exact⟨x.1,x.2,by show(if i=i then some x else _)=_;rw [if_pos rfl],[],rfl,hq⟩
    ·rename_i hij;rw [if_neg hij];have hj2:aL (kK ws i) (j+2)=some e:=by rw [fG,if_neg hij];exact he'
     have hin:=g4 _ _ hj2;cases hwj:(ws[j]?).join with
     | none=>rw [hwj]at he';cases he'
     | some s=>
       rw [hwj]at he';simp only [Option.map_some,sI']at he';subst he';obtain⟨x3,f1,f2⟩:=oN hin;refine⟨x3.1,x3.2,?_,[],rfl,f2⟩;show(if i=j then some x else V (j+2))=_
       rw [if_neg hij];exact f1
 ·intro l he;rw [htb]at he
  match l,he with
  | 0,he=>cases he
  | j+1,he=>
    have he':aL (rowE (ws.set i (some t))) (j+1)=none:=he;rw [eJ,List.getElem?_set]at he';show(if i=j then q else gs (j+2))=_
    split at he'
    ·rename_i hij;subst hij;cases he'
    ·rename_i hij;rw [if_neg hij];refine g5 _ ?_;show aL (kK ws i) (j+2)=none;rw [fG,if_neg hij];exact he'
 ·intro b' o hh;obtain⟨m,hm⟩:=aHt hh
  match m,hm with
  | 0,hm=>exact .inr (hsub 0 b' o hm)
  | j+1,hm=>
    have hm':(if i=j then q else gs (j+2)) b'=some o:=hm
    split at hm'
    ·exact .inl hm'
    ·exact .inr (hsub _ b' o hm')
theorem gF.nil(R:gF tb){rr:R.R}{i:Nat}{r:Nat×Nat}{p:PHeap}{N:Nat}(h:obN tb (N+1) (R.row rr) r [] p)(hw:(R.els rr)[i]? =some none):
 ∃cs T,p r.1=some (.cells cs T)∧cs.toList[i]? =some (.pointer none):=by
 obtain⟨V,gs,g1,g2,g3,⟨g4,g5,g6⟩,g7⟩:=h;rw [R.tbRow]at g4;dsimp only at g4;generalize R.els rr=ws at*;have hc:=g4 0 _ (show aL (rowE ws) 0=some (.cells (rowC 1 ws))from rfl)
 obtain⟨b,k,c1,cs,T,c2,c3,rs,tail,c4,c5⟩:=hc;have hbk:r=(b,k):=by have c1':V 0=some (b,k):=c1;rw [g1]at c1';simpa using c1'
 have hlen:=aG.length c5;have hil:i<rs.length:=by rw [hlen,f7];exact(List.getElem?_eq_some_iff.1 hw).1
 have hri:=aG.at c5 (i:=i) (a:=.raw (.pointer none)) (v:=rs[i]) (by rw [iF,hw];rfl) (gE' hil)
 have e2:rs[i]=.pointer none:=hri;refine⟨cs,T,?_,?_⟩
 ·rw [g7];refine aHu g6 (l:=0) ?_;rw [c2,hbk];simp [PHeap.one]
 ·rw [c4,List.getElem?_append_left hil,gE' hil,e2]
theorem gF.lent(R:gF tb){rr:R.R}{i:Nat}{r x:Nat×Nat}{p:PHeap}{N:Nat}(h:obN tb (N+1) (R.hole rr i) r [x] p)(hi:i<R.len rr):
 ∃cs T,p r.1=some (.cells cs T)∧cs.toList[i]? =some (.pointer (some ⟨x.1,0,none⟩)):=by
 obtain⟨V,gs,g1,g2,g3,⟨g4,g5,g6⟩,g7⟩:=h;rw [R.tbHole]at g2 g4;rw [R.len_eq]at hi;dsimp only at g2 g4;generalize R.els rr=ws at*;have hx:V 1=some x:=by have:=g2 0 (by omega);simpa using this
 have hc:=g4 0 _ (show aL (kK ws i) 0=some (.cells ((rowC 2 ws).set i (.ptr 1 0)))from rfl)
 obtain⟨b,k,c1,cs,T,c2,c3,rs,tail,c4,c5⟩:=hc;have hbk:r=(b,k):=by have c1':V 0=some (b,k):=c1;rw [g1]at c1';simpa using c1'
 have hlen:=aG.length c5;rw [List.length_set,f7]at hlen;have hil:i<rs.length:=by omega
 have hri:=aG.at c5 (i:=i) (a:=.ptr 1 0) (v:=rs[i]) (by rw [List.getElem?_set,if_pos rfl,if_pos (by rw [f7];exact hi)]) (gE' hil)
 obtain⟨b2,k2,e1,e2⟩:=hri
 have hx2:x=(b2,k2):=by
  have:V 1=some (b2,k2):=e1;rw [hx]at this;simpa using this
 refine⟨cs,T,?_,?_⟩
 ·rw [g7];refine aHu g6 (l:=0) ?_;rw [c2,hbk];simp [PHeap.one]
 ·rw [c4,List.getElem?_append_left hil,gE' hil,e2,hx2]
theorem Inv.lend(R:gF tb){V:Val}{h:aC A}{hR:PHeap}{w:World}{l i:Nat}{ws:R.R}{t:A}(hi:Inv (obI tb) V (toF h) hR w)(hf:bP V h.length)(hl:aL h l=some (.abs (R.row ws) []))(hw:(R.els ws)[i]? =some (some t)):
 ∃V' x b k cs T,V.le V'∧bP V' (h.length+1)∧Inv (obI tb) V' (toF (h.set l (some (.abs (R.hole ws i) [h.length]))++ [some (.abs t [])])) hR w∧V' h.length=some x∧V l=some (b,k)∧w.heap[b]? =some (.cells cs T)∧cs.toList[i]? =some (.pointer (some ⟨x.1,0,none⟩)):=by
 have hll:=cZ hl;obtain⟨hs,h1,h2,h3,h4,h5,h6⟩:=hi;obtain⟨b,k,hV,bs,hlo,N,hob⟩:=h1 l _ hl;have hbs:bs=[]:=hlo;subst hbs;cases N with
 | zero=>exact hob.elim
 | succ N=>
 obtain⟨x,q,p',o1,o2,o3,o4,o5,cs,T,o6,o7⟩:=R.lend hob hw;have hn:V h.length=none:=hf _ (Nat.le_refl _);have hle:=aHs (x:=x) hn
 let hs':Nat→PHeap:=fun m=>if m=l then p' else if m=h.length then q else hs m
 have get1: ∀m,m<h.length→m≠l→aL (h.set l (some (.abs (R.hole ws i) [h.length]))++ [some (.abs t [])]) m=aL h m:=by
  intro m hm hml;rw [cN (by simpa using hm)]
  simp only [aL,gD'];rw [List.getElem?_set_ne (fun e=>hml e.symm)]
 have get2:aL (h.set l (some (.abs (R.hole ws i) [h.length]))++ [some (.abs t [])]) l=some (.abs (R.hole ws i) [h.length]):=by
  rw [cN (by simpa using hll)]
  simp only [aL,gD'];rw [List.getElem?_set_self hll];rfl
 have get3:aL (h.set l (some (.abs (R.hole ws i) [h.length]))++ [some (.abs t [])]) h.length=some (.abs t []):=by
  simp only [aL,gD'];rw [List.getElem?_append_right (by simp)];simp
 have get4: ∀m,h.length<m→aL (h.set l (some (.abs (R.hole ws i) [h.length]))++ [some (.abs t [])]) m=none:=fun m hm=>cE (by simp;omega)
 have hsl: ∀b o,p' b=some o→hs l b=some o:=o5;have hsq: ∀b o,q b=some o→hs l b=some o:=o4;have hsn: ∀m,h.length≤m→hs m=.emp :=fun m hm=>h2 m (cE hm);refine⟨V.add h.length x,x,b,k,cs,T,hle,?_,⟨hs',?_,?_,?_,?_,?_,h6⟩,aHq _ _ _,hV,?_,o7⟩
 ·intro m hm;rw [aH3 _ _ (by omega)]
  exact hf m (by omega)
 ·intro m e he;have he':aL (h.set l (some (.abs (R.hole ws i) [h.length]))++ [some (.abs t [])]) m=some e:=he
  by_cases hml:m=l
  ·subst hml;rw [get2]at he';simp only [sI']at he';subst he';show aH.interp _ _ _ _ (if m=m then p' else _)
   rw [if_pos rfl];exact⟨b,k,hle _ _ hV,[x],⟨x,[],aHq _ _ _,rfl,rfl⟩,N+1,o2⟩
  ·by_cases hmn:m=h.length
   ·subst hmn;rw [get3]at he';simp only [sI']at he';subst he';show aH.interp _ _ _ _ (if h.length=l then p' else if h.length=h.length then q else _)
    rw [if_neg hml,if_pos rfl];exact⟨x.1,x.2,aHq _ _ _,[],rfl,N,o1⟩
   ·by_cases hlt:m<h.length
    ·rw [get1 m hlt hml]at he';show aH.interp _ _ _ _ (if m=l then p' else if m=h.length then q else hs m)
     rw [if_neg hml,if_neg hmn];exact aHw hle (h1 m e he')
    ·rw [get4 m (by omega)]at he';cases he'
 ·intro m he;have he':aL (h.set l (some (.abs (R.hole ws i) [h.length]))++ [some (.abs t [])]) m=none:=he;show(if m=l then p' else if m=h.length then q else hs m)=_
  by_cases hml:m=l
  ·subst hml;rw [get2]at he';cases he'
  ·by_cases hmn:m=h.length
   ·subst hmn;rw [get3]at he';cases he'
   ·rw [if_neg hml,if_neg hmn]
    by_cases hlt:m<h.length
    ·rw [get1 m hlt hml]at he';exact h2 m he'
    ·exact hsn m (by omega)
 ·intro m m' hmm b';show(if m=l then p' else if m=h.length then q else hs m) b'=none∨(if m'=l then p' else if m'=h.length then q else hs m') b'=none
  have part: ∀m,m≠l→m≠h.length→(p' b'=none∧q b'=none)∨hs m b'=none:=by
   intro m hml hmn;rcases h3 l m (fun e=>hml e.symm) b' with d | d
   ·left;constructor
    ·cases hp:p' b' with
     | none=>rfl
     | some o=>rw [hsl b' o hp]at d;cases d
    ·cases hp:q b' with
     | none=>rfl
     | some o=>rw [hsq b' o hp]at d;cases d
   ·exact .inr d
  by_cases a1:m=l
  ·rw [if_pos a1]
   by_cases a2:m'=l
   ·exact(hmm (a1.trans a2.symm)).elim
   ·rw [if_neg a2]
    by_cases a3:m'=h.length
    ·rw [if_pos a3];exact(o3 b').symm
    ·rw [if_neg a3];rcases part m' a2 a3 with d | d
     ·exact .inl d.1
     ·exact .inr d
  ·rw [if_neg a1]
   by_cases a0:m=h.length
   ·rw [if_pos a0]
    by_cases a2:m'=l
    ·rw [if_pos a2];exact o3 b'
    ·rw [if_neg a2]
     by_cases a3:m'=h.length
     ·exact(hmm (a0.trans a3.symm)).elim
     ·rw [if_neg a3];rcases part m' a2 a3 with d | d
      ·exact .inl d.2
      ·exact .inr d
   ·rw [if_neg a0]
    by_cases a2:m'=l
    ·rw [if_pos a2];rcases part m a1 a0 with d | d
     ·exact .inr d.1
     ·exact .inl d
    ·rw [if_neg a2]
     by_cases a3:m'=h.length
     ·rw [if_pos a3];rcases part m a1 a0 with d | d
      ·exact .inr d.2
      ·exact .inl d
     ·rw [if_neg a3];exact h3 m m' hmm b'
 ·intro m b';show(if m=l then p' else if m=h.length then q else hs m) b'=none∨hR b'=none
  split
  ·rcases h4 l b' with d | d
   ·cases hp:p' b' with
    | none=>exact .inl rfl
    | some o=>rw [hsl b' o hp]at d;cases d
   ·exact .inr d
  ·split
   ·rcases h4 l b' with d | d
    ·cases hp:q b' with
     | none=>exact .inl rfl
     | some o=>rw [hsq b' o hp]at d;cases d
    ·exact .inr d
   ·exact h4 m b'
 ·intro m b' o hh;have hh':(if m=l then p' else if m=h.length then q else hs m) b'=some o:=hh
  split at hh'
  ·exact h5 l b' o (hsl b' o hh')
  ·split at hh'
   ·exact h5 l b' o (hsq b' o hh')
   ·exact h5 m b' o hh'
 ·exact h5 l b _ o6
theorem Inv.back(R:gF tb){V:Val}{h:aC A}{hR:PHeap}{w:World}{l i k:Nat}{ws ws':R.R}{t:A}(hu:R.upd ws i t=some ws')(hi:Inv (obI tb) V (toF h) hR w)(hl:aL h l=some (.abs (R.hole ws i) [k]))(hk:aL h k=some (.abs t []))(hkl:k≠l)(hlt:i<R.len ws):
 Inv (obI tb) V (toF ((h.set l (some (.abs (R.row ws') []))).set k none)) hR w:=by
 have hll:=cZ hl;have hkk:=cZ hk;obtain⟨hs,h1,h2,h3,h4,h5,h6⟩:=hi;obtain⟨b,kk,hV,bs,hlo,N,hob⟩:=h1 l _ hl;obtain⟨x,r,hx,rfl,hr⟩:=hlo;have hr':r=[]:=hr;subst hr';obtain⟨b2,k2,hV2,bs2,hlo2,N2,hob2⟩:=h1 k _ hk;have hbs2:bs2=[]:=hlo2;subst hbs2
 have hxk:x=(b2,k2):=by
  have:V k=some x:=hx;rw [hV2]at this;simpa using this.symm
 subst hxk;cases N with
 | zero=>exact hob.elim
 | succ N=>
 have q1:=yD tb (Nat.le_max_right N N2) hob2;have q2:=yD tb (show N+1≤max N N2+1 by omega) hob
 obtain⟨p,p1,p2⟩:=R.back q2 q1 (h3 k l hkl) hlt hu
 let hs':Nat→PHeap:=fun m=>if m=l then p else if m=k then .emp else hs m
 have get1: ∀m,m≠l→m≠k→aL ((h.set l (some (.abs (R.row ws') []))).set k none) m=aL h m:=by
  intro m hml hmk;simp only [aL,gD'];rw [List.getElem?_set_ne (fun e=>hmk e.symm),List.getElem?_set_ne (fun e=>hml e.symm)]
 have get2:aL ((h.set l (some (.abs (R.row ws') []))).set k none) l=some (.abs (R.row ws') []):=by
  simp only [aL,gD'];rw [List.getElem?_set_ne hkl,List.getElem?_set_self hll];rfl
 have get3:aL ((h.set l (some (.abs (R.row ws') []))).set k none) k=none:=by
  simp only [aL,gD'];rw [List.getElem?_set_self (by simpa using hkk)];rfl
 refine⟨hs',?_,?_,?_,?_,?_,h6⟩
 ·intro m e he;have he':aL ((h.set l (some (.abs (R.row ws') []))).set k none) m=some e:=he;show aH.interp _ _ _ _ (if m=l then p else if m=k then .emp else hs m)
  by_cases hml:m=l
  ·subst hml;rw [get2]at he';simp only [sI']at he';subst he';rw [if_pos rfl];exact⟨b,kk,hV,[],rfl,_,p1⟩
  ·by_cases hmk:m=k
   ·subst hmk;rw [get3]at he';cases he'
   ·rw [if_neg hml,if_neg hmk];rw [get1 m hml hmk]at he';exact h1 m e he'
 ·intro m he;have he':aL ((h.set l (some (.abs (R.row ws') []))).set k none) m=none:=he;show(if m=l then p else if m=k then .emp else hs m)=_
  by_cases hml:m=l
  ·subst hml;rw [get2]at he';cases he'
  ·rw [if_neg hml]
   by_cases hmk:m=k
   ·rw [if_pos hmk]
   ·rw [if_neg hmk];rw [get1 m hml hmk]at he';exact h2 m he'
 ·intro m m' hmm b';show(if m=l then p else if m=k then .emp else hs m) b'=none∨(if m'=l then p else if m'=k then .emp else hs m') b'=none
  have part: ∀m,m≠l→m≠k→p b'=none∨hs m b'=none:=by
   intro m hml hmk;cases hp:p b' with
   | none=>exact .inl rfl
   | some o=>
     right;rcases p2 b' o hp with d | d
     ·rcases h3 k m (fun e=>hmk e.symm) b' with f | f
      ·rw [f]at d;cases d
      ·exact f
     ·rcases h3 l m (fun e=>hml e.symm) b' with f | f
      ·rw [f]at d;cases d
      ·exact f
  by_cases a1:m=l
  ·rw [if_pos a1]
   by_cases a2:m'=l
   ·exact(hmm (a1.trans a2.symm)).elim
   ·rw [if_neg a2]
    by_cases a3:m'=k
    ·rw [if_pos a3];exact .inr rfl
    ·rw [if_neg a3];exact part m' a2 a3
  ·rw [if_neg a1]
   by_cases a0:m=k
   ·rw [if_pos a0];exact .inl rfl
   ·rw [if_neg a0]
    by_cases a2:m'=l
    ·rw [if_pos a2];exact(part m a1 a0).symm
    ·rw [if_neg a2]
     by_cases a3:m'=k
     ·rw [if_pos a3];exact .inr rfl
     ·rw [if_neg a3];exact h3 m m' hmm b'
 ·intro m b';show(if m=l then p else if m=k then .emp else hs m) b'=none∨hR b'=none
  split
  ·cases hp:p b' with
   | none=>exact .inl rfl
   | some o=>
     right;rcases p2 b' o hp with d | d
     ·rcases h4 k b' with f | f
      ·rw [f]at d;cases d
      ·exact f
     ·rcases h4 l b' with f | f
      ·rw [f]at d;cases d
      ·exact f
  ·split
   ·exact .inl rfl
   ·exact h4 m b'
 ·intro m b' o hh;have hh':(if m=l then p else if m=k then .emp else hs m) b'=some o:=hh
  split at hh'
  ·rcases p2 b' o hh' with d | d
   ·exact h5 k b' o d
   ·exact h5 l b' o d
  ·split at hh'
   ·cases hh'
   ·exact h5 m b' o hh'
def gF.at(R:gF tb)(ws:R.R)(l off:Nat)(h:aC A)(K:AVal→aC A→Prop):Prop:=
 off<R.len ws∧cond (R.is ws off) (K (.ptr h.length 0) (h.set l (some (.abs (R.hole ws off) [h.length]))++ [some (.abs (R.get ws off) [])])) (K (.raw (.pointer none)) h)
def gF.load(R:gF tb)(P:Program)(ρ:Operand→AVal)(op:Op)(h:aC A)(K:AVal→aC A→Prop):Prop:=
 match op with
 | .load t a=>match ρ a,eB P t with
   | .ptr l off,some false=>match aL h l with
     | some (.abs a [])=>match R.isRow a with
       | some ws=>R.at ws l off h K
       | none=>False
     | some (.abs a [k])=>match R.isHole a with
       | some (ws,i)=>match aL h k with
         | some (.abs s [])=>(match R.upd ws i s with
           | some ws'=>cond (Nat.beq k l) False (i<R.len ws∧R.at ws' l off ((h.set l (some (.abs (R.row ws') []))).set k none) K)
           | none=>False)
         | _=>(i<R.len ws∧off=i)∧K (.ptr k 0) h
       | none=>False
     | _=>False
   | _,_=>False
 | _=>False
theorem gF.at_ok(R:gF tb){ws:R.R}{l off:Nat}{h:aC A}{K:AVal→aC A→Prop}(hk:R.at ws l off h K){V:Val}{hR:PHeap}{w:World}{t:TypeId}(ht:eB P t=some false)(hi:Inv (obI tb) V (toF h) hR w)(hf:bP V h.length)(hl:aL h l=some (.abs (R.row ws) [])){x:Value}(hx:Rep V (.ptr l off) x):
 ∃v v' V' h2,K v h2∧(Instr.loadAt t x).run P w=.ok v' w∧Rep V' v v'∧V.le V'∧bP V' h2.length∧h.length≤h2.length∧Inv (obI tb) V' (toF h2) hR w:=by
 obtain⟨hlt,hk⟩:=hk;obtain⟨b,k,hV,rfl⟩:=hx
 have seg: ∀ {cs:Array Value} {v:Value},cs.toList[off]? =some v→cs.toList.drop off=[v]++cs.toList.drop (off+1):=by
  intro cs v hv;obtain⟨hlt',hv'⟩:=List.getElem?_eq_some_iff.1 hv;rw [←hv'];exact List.drop_eq_getElem_cons hlt'
 cases hs:R.is ws off with
 | true=>
   rw [hs]at hk;have hw:=R.is_true ws off hs hlt;obtain⟨V',y,b',k',cs,T,a1,a2,a3,a4,a5,a6,a7⟩:=hi.lend R hf hl hw;rw [hV]at a5;simp only [sI',pI']at a5;obtain⟨rfl,rfl⟩:=a5;obtain⟨v',g1,g2⟩:=iD (P:=P) (V:=V') (t:=t) (av:=[.ptr h.length 0]) (v:=.ptr h.length 0) a6 (seg a7) ⟨_,[],rfl,⟨y.1,y.2,a4,rfl⟩,rfl⟩ (by unfold eW;rw [ht];rfl)
   exact⟨_,v',V',_,hk,g1,g2,a1,by simpa using a2,by simp,a3⟩
 | false=>
   rw [hs]at hk;have hw:=R.is_false ws off hs hlt;have hi0:=hi;obtain⟨hs',h1,h2,h3,h4,h5,h6⟩:=hi;obtain⟨b',k',hV',bs,hlo,N,hob⟩:=h1 l _ hl;have hbs:bs=[]:=hlo;subst hbs;rw [hV]at hV';simp only [sI',pI']at hV';obtain⟨rfl,rfl⟩:=hV';cases N with
   | zero=>exact hob.elim
   | succ N=>
   obtain⟨cs,T,o6,o7⟩:=R.nil hob hw;obtain⟨v',g1,g2⟩:=iD (P:=P) (V:=V) (t:=t) (av:=[.raw (.pointer none)]) (v:=.raw (.pointer none)) (h5 l b _ o6) (seg o7) ⟨_,[],rfl,rfl,rfl⟩ (by unfold eW;rw [ht];rfl)
   exact⟨_,v',V,h,hk,g1,g2,V.le_refl,hf,Nat.le_refl _,hi0⟩
theorem gF.load_ok(R:gF tb)(ρ:Operand→AVal)(o:Oper)(h:aC A)(K:AVal→aC A→Prop)(hk:R.load P ρ o.op h K)(V:Val)(hR:PHeap)(w:World)(ρ':Operand→Value)(hi:Inv (obI tb) V (toF h) hR w)(hf: ∀l,h.length≤l→V l=none)(hρ: ∀x,Rep V (ρ x) (ρ' x)):
 ∃nx w' V' v v' h2,K v h2∧(execOp ρ' o).run P w=.ok nx w'∧(nx=.value v'∨nx=.skip ∧v'=undef)∧Rep V' v v'∧V.le V'∧(∀l,h2.length≤l→V' l=none)∧h.length≤h2.length∧Inv (obI tb) V' (toF h2) hR w'∧bT w w':=by
 unfold gF.load at hk;split at hk
 case h_2=>exact hk.elim
 rename_i t a hop;split at hk
 case h_2=>exact hk.elim
 rename_i l off hρa hag;have hx:=hρ a;rw [hρa]at hx
 have fin: ∀ {v v' V' h2},K v h2→(Instr.loadAt t (ρ' a)).run P w=.ok v' w→Rep V' v v'→V.le V'→bP V' h2.length→h.length≤h2.length→Inv (obI tb) V' (toF h2) hR w→
  ∃nx w' V' v v' h2,K v h2∧(execOp ρ' o).run P w=.ok nx w'∧(nx=.value v'∨nx=.skip ∧v'=undef)∧Rep V' v v'∧V.le V'∧(∀l,h2.length≤l→V' l=none)∧h.length≤h2.length∧Inv (obI tb) V' (toF h2) hR w'∧bT w w':=by
  intro v v' V' h2 a1 a2 a3 a4 a5 a6 a7;exact⟨_,w,V',v,v',h2,a1,by simp [execOp,hop,a2],.inl rfl,a3,a4,a5,a6,a7,aHx w⟩
 split at hk
 ·rename_i a0 hl;split at hk
  case h_2=>exact hk.elim
  rename_i ws hr;have:=R.isRow_eq _ _ hr;subst this;obtain⟨v,v',V',h2,a1,a2,a3,a4,a5,a6,a7⟩:=R.at_ok (P:=P) hk hag hi hf hl hx;exact fin a1 a2 a3 a4 a5 a6 a7
 ·rename_i a0 k hl;split at hk
  case h_2=>exact hk.elim
  rename_i ws i hr;have:=R.isHole_eq _ _ _ hr;subst this;split at hk
  ·rename_i s hkk;split at hk
   case h_2=>exact hk.elim
   rename_i ws' hu;cases hb:Nat.beq k l with
   | true=>rw [hb]at hk;exact hk.elim
   | false=>
     rw [hb]at hk;obtain⟨hil,hk⟩:=hk;have hkl:k≠l:=by intro e;rw [e,Nat.beq_refl]at hb;cases hb
     have hi2:=hi.back R hu hl hkk hkl hil;have hll:=cZ hl
     obtain⟨v,v',V',h2,a1,a2,a3,a4,a5,a6,a7⟩:=R.at_ok (P:=P) hk hag hi2 (by intro m hm;exact hf m (by simpa using hm)) (by
      simp only [aL,gD'];rw [List.getElem?_set_ne hkl,List.getElem?_set_self hll];rfl) hx
     exact fin a1 a2 a3 a4 a5 (by simpa using a6) a7
  ·obtain⟨⟨hil,hoff⟩,hk⟩:=hk;subst hoff;obtain⟨b,kk,hV,hx⟩:=hx;obtain⟨hs',h1,h2,h3,h4,h5,h6⟩:=id hi;obtain⟨b',k',hV',bs,hlo,N,hob⟩:=h1 l _ hl;obtain⟨x,r,hxk,rfl,hr'⟩:=hlo;have hr'':r=[]:=hr';subst hr'';rw [hV]at hV';simp only [sI',pI']at hV';obtain⟨rfl,rfl⟩:=hV';cases N with
   | zero=>exact hob.elim
   | succ N=>
   obtain⟨cs,T,o6,o7⟩:=R.lent hob hil
   have seg:cs.toList.drop off=[.pointer (some ⟨x.1,0,none⟩)]++cs.toList.drop (off+1):=by
    obtain⟨hlt',hv'⟩:=List.getElem?_eq_some_iff.1 o7;rw [←hv'];exact List.drop_eq_getElem_cons hlt'
   obtain⟨v',g1,g2⟩:=iD (P:=P) (V:=V) (t:=t) (av:=[.ptr k 0]) (v:=.ptr k 0) (h5 l b _ o6) seg ⟨_,[],rfl,⟨x.1,x.2,hxk,rfl⟩,rfl⟩ (by unfold eW;rw [hag];rfl)
   exact fin hk (by rw [hx];exact g1) g2 V.le_refl hf (Nat.le_refl _) hi
 ·exact hk.elim
def wL(tb:A→Nat×aC A)(P:Program)(t:TypeId)(o:A)(off:Nat)(h:aC A)(K:AVal→aC A→Prop):Prop:=
 match tb o with
 | (_,some (.cells vs)::_)=>match eB P t,bX P t with
   | some true,some n=>cR (Nat.ble (off+n) vs.length&&aHf [] ((vs.drop off).take n)) (K (.agg ((vs.drop off).take n)) h)
   | some false,_=>match vs[off]? with
     | some v=>cR (v.within []) (K v h)
     | none=>False
   | _,_=>False
 | _=>False
def gF.ops(R:gF tb)(P:Program)(ρ:Operand→AVal)(op:Op)(h:aC A)(K:AVal→aC A→Prop):Prop:=
 match op with
 | .load t a=>match ρ a with
   | .ptr l off=>match aL h l with
     | some (.abs o ps)=>match R.isRow o,R.isHole o with
       | none,none=>wL tb P t o off h K
       | _,_=>R.load P ρ op h K
     | _=>False
   | _=>False
 | _=>False
theorem gF.ops_ok(R:gF tb)(ρ:Operand→AVal)(o:Oper)(h:aC A)(K:AVal→aC A→Prop)(hk:R.ops P ρ o.op h K)(V:Val)(hR:PHeap)(w:World)(ρ':Operand→Value)(hi:Inv (obI tb) V (toF h) hR w)(hf: ∀l,h.length≤l→V l=none)(hρ: ∀x,Rep V (ρ x) (ρ' x)):
 ∃nx w' V' v v' h2,K v h2∧(execOp ρ' o).run P w=.ok nx w'∧(nx=.value v'∨nx=.skip ∧v'=undef)∧Rep V' v v'∧V.le V'∧(∀l,h2.length≤l→V' l=none)∧h.length≤h2.length∧Inv (obI tb) V' (toF h2) hR w'∧bT w w':=by
 have hk0:=hk;unfold gF.ops at hk;split at hk
 case h_2=>exact hk.elim
 rename_i t a hop;split at hk
 case h_2=>exact hk.elim
 rename_i l off hρa;split at hk
 case h_2=>exact hk.elim
 rename_i ob ps hl;split at hk
 case h_2=>exact R.load_ok ρ o h K hk V hR w ρ' hi hf hρ
 unfold wL at hk;have hx:=hρ a;rw [hρa]at hx;obtain⟨b,kk,hV,hx⟩:=hx;split at hk
 case h_2=>exact hk.elim
 rename_i np vs rest htb;obtain⟨hs,h1,h2,h3,h4,h5,h6⟩:=id hi;obtain⟨b',k',hV',bs,hlo,N,hob⟩:=h1 l _ hl;rw [hV]at hV';simp only [sI',pI']at hV';obtain⟨rfl,rfl⟩:=hV';cases N with
 | zero=>exact hob.elim
 | succ N=>
 obtain⟨Vg,gs,g1,g2,g3,⟨g4,g5,g6⟩,g7⟩:=hob;rw [htb]at g4;have hc:=g4 0 (.cells vs) rfl;obtain⟨b2,k2,c1,cs,T,c2,c3,rs,tail,c4,c5⟩:=hc;have hbk:b2=b:=by have c1':Vg 0=some (b2,k2):=c1;rw [g1]at c1';simp at c1';exact c1'.1.symm
 subst hbk
 have hcell:w.heap[b2]? =some (.cells cs T):=by
  refine h5 l b2 _ ?_;rw [g7];refine aHu g6 (l:=0) ?_;rw [c2];simp [PHeap.one]
 have hlen:=aG.length c5
 have drop1: ∀ {av:List AVal},off≤vs.length→cs.toList.drop off=rs.drop off++tail:=by
  intro av hle;rw [c4,List.drop_append_of_le_length (by omega)]
 split at hk
 ·rename_i n e1 e2;obtain⟨hc1,hk⟩:=bG.1 hk;obtain⟨hc2,hc3⟩:=Bool.and_eq_true_iff.1 hc1;have hle:off+n≤vs.length:=Nat.le_of_ble_eq_true hc2;have hrep:aG V ((vs.drop off).take n) ((rs.drop off).take n):=aHy (pl:=[]) (fun i hi=>by cases hi) _ _ hc3 (aG.take (aG.drop c5 off) n)
  obtain⟨v',g8,g9⟩:=iD (P:=P) (V:=V) (t:=t) (av:=(vs.drop off).take n) (v:=.agg (((vs.drop off).take n).take n)) hcell (seg:=(rs.drop off).take n) (rest:=(rs.drop off).drop n++tail) (by rw [drop1 (av:=[]) (by omega),←List.append_assoc,List.take_append_drop]) hrep (by
   unfold eW;rw [e1,e2];simp only;rw [if_pos (by rw [List.length_take,List.length_drop];omega)])
  rw [List.take_take,Nat.min_self]at g9;exact⟨_,w,V,_,v',h,hk,by simp [execOp,hop,hx,g8],.inl rfl,g9,V.le_refl,hf,Nat.le_refl _,hi,aHx w⟩
 ·rename_i e2 e1;split at hk
  case h_2=>exact hk.elim
  rename_i v hv;obtain⟨hc1,hk⟩:=bG.1 hk;have hlt:off<vs.length:=(List.getElem?_eq_some_iff.1 hv).1;have hri:=aG.at c5 (i:=off) (a:=v) (v:=rs[off]'(by omega)) hv (gE' (by omega))
  have hrep:Rep V v (rs[off]'(by omega)):=aHL (pl:=[]) (fun i hi=>by cases hi) _ _ hc1 hri
  obtain⟨v',g8,g9⟩:=iD (P:=P) (V:=V) (t:=t) (av:=[v]) (v:=v) hcell (seg:=[rs[off]'(by omega)]) (rest:=rs.drop (off+1)++tail) (by
   rw [drop1 (av:=[]) (by omega),List.drop_eq_getElem_cons (by omega)];rfl) ⟨_,[],rfl,hrep,rfl⟩ (by unfold eW;rw [e1];rfl)
  exact⟨_,w,V,_,v',h,hk,by simp [execOp,hop,hx,g8],.inl rfl,g9,V.le_refl,hf,Nat.le_refl _,hi,aHx w⟩
 ·exact hk.elim
end Go.Sh
namespace Go.Sh
open Go
variable [Con] {A:Type} {P:Program}
def aR(I:Itp A)(h h2:aC A):Prop:= ∀V hR w,Inv I V (toF h) hR w→bP V h.length→ ∃V',V.le V'∧bP V' h2.length∧h.length≤h2.length∧Inv I V' (toF h2) hR w
theorem aR.refl{I:Itp A}(h:aC A):aR I h h:=fun V hR w h1 h2=>⟨V,V.le_refl,h2,Nat.le_refl _,h1⟩
theorem aR.trans{I:Itp A}{h h2 h3:aC A}(a:aR I h h2)(b:aR I h2 h3):aR I h h3:=by
 intro V hR w h1 hf;obtain⟨V1,a1,a2,a3,a4⟩:=a V hR w h1 hf;obtain⟨V2,b1,b2,b3,b4⟩:=b V1 hR w a4 a2;exact⟨V2,Val.le_trans a1 b1,b2,Nat.le_trans a3 b3,b4⟩
theorem aR.unpack{tb:A→Nat×aC A}{h:aC A}(t:A)(l np:Nat)(g:aC A)(ps:List Nat)(hl:aL h l=some (.abs t ps))(ht:tb t=(np,g))(ho:obOk np g=true)(hnp:ps.length=np):aR (obI tb) h (aP h l np g ps):=by
 intro V hR w h1 hf;obtain⟨V1,v1,v2,v3⟩:=h1.unpack tb hf hl ht ho hnp;exact⟨V1,v1,v2,by rw [fR];omega,v3⟩
theorem aIi{I:Itp A}{h h2:aC A}(e:h=h2):aR I h h2:=by subst e;exact aR.refl h
theorem aHi{I:Itp A}{f:FuncId}{args:List AVal}{h h2:aC A}{K:AVal→aC A→Prop}(ho:aR I h h2)(h0:aB I P f args h2 K):aB I P f args h K:=by
 intro V hR w args' hi hf hr;obtain⟨V1,v1,v2,v3,v4⟩:=ho V hR w hi hf;refine(h0 V1 hR w args' v4 v2 (aG.mono v1 _ _ hr)).mono ?_;rintro e w' ⟨v,v',V',h',k1,k2,k3,k4,k5,k6,k7,k8⟩;exact⟨v,v',V',h',k1,k2,k3,Val.le_trans v1 k4,k5,Nat.le_trans v3 k6,k7,k8⟩
theorem aHb{X:Type}{I:Itp A}{f:FuncId}{args:List AVal}{h h2:aC A}{K:AVal→aC A→Prop}{parse:AVal→aC A→Option (Prop×X)}{fin:X→Out A}{root:Nat}{pos:List Nat}{cs:List (Place×fT)}(hr:bM I h.length parse fin)(ho:aR I h h2)
 (h0:aB I P f args h2 (bU h.length root pos cs parse fun x=>(fin x).run K)):aB I P f args h K:=by
 intro V hR w args' hi hf hrp;obtain⟨V1,v1,v2,v3,v4⟩:=ho V hR w hi hf;refine(aH8 h.length v3 hr h0 V1 hR w args' v4 v2 (aG.mono v1 _ _ hrp)).mono ?_;rintro e w' ⟨v,v',V',h',k1,k2,k3,k4,k5,k6,k7,k8⟩;refine⟨v,v',V',h',k1,k2,k3,?_,k5,k6,k7,k8⟩;intro l y hy
 have hlt:l<h.length:=by
  cases Nat.lt_or_ge l h.length with
  | inl q=>exact q
  | inr q=>rw [hf l q]at hy;cases hy
 exact k4 l y hlt (v1 l y hy)
def aI.or(F G:aI A):aI A:=fun args h=>match F args h with
 | some o=>some o
 | none=>G args h
theorem aHA{I:Itp A}{f:FuncId}{F G:aI A}(hF:aI.ok I P f F)(hG:aI.ok I P f G):aI.ok I P f (F.or G):=by
 intro args h o ho K hK;unfold aI.or at ho;split at ho
 ·rename_i o' h1;simp only [sI']at ho;subst ho;exact hF args h _ h1 K hK
 ·exact hG args h o ho K hK
def aC4(pos:List Nat):Nat→List AVal→List AVal
 | _,[]=>[]
 | i,v::vs=>cond (pos.elem i) .O v::aC4 pos (i+1) vs
theorem xA(pos:List Nat): ∀(i:Nat) (vs:List AVal),nG vs (aC4 pos i vs)
 | _,[]=>trivial
 | i,v::vs=>by
   refine⟨?_,xA pos (i+1) vs⟩;cases pos.elem i with
   | true=>exact .inr rfl
   | false=>exact .inl rfl
def XQ(g:aC A)(root:Nat)(pos:List Nat):aC A:=match aL g root with
 | some (.cells vs)=>g.set root (some (.cells (aC4 pos 0 vs)))
 | _=>g
theorem dT(g:aC A)(root:Nat)(pos:List Nat):lI g (XQ g root pos):=by
 unfold XQ;split
 ·rename_i vs h;refine jH g root _ ?_;rw [h];exact xA pos 0 vs
 ·exact l6 g
theorem qC{I:Itp A}{n:Nat}{K:AVal→aC A→Prop}{d:Bool}{a b g:aC A}(hK:(Out.ite d (.ret (.bool true) a) (.ret (.bool false) b)).run K)(h1:K (.bool true) a→dJ I n K (.bool true) g)(h2:K (.bool false) b→dJ I n K (.bool false) g):dJ I n K (.bool d) g:=by
 cases d with
 | true=>exact h1 hK
 | false=>exact h2 hK
end Go.Sh
namespace Go.Sh
open Go
variable [Con]
structure jI (P:Program) (l:Nat) (xs:List Int) (Fr:Nat→PHeap→Prop):Prop where
 con: ∀i hF,Fr i hF→ ∀b o,Con.con b=some o→hF b=some o
 step: ∀i x,xs[i]? =some x→ ∀(hF own:PHeap) (w:World),Fr i hF→own.disj hF→own.sub w→hF.sub w→
  YieldAt Fence.wide 0 P l #[.int .i64 x] w fun e w'=>e=.returned (.bool true)∧ ∃hF',Fr (i+1) hF'∧own.disj hF'∧own.sub w'∧hF'.sub w'∧bT w w'
def PHeap.less(h g:PHeap):PHeap:=fun b=>match g b with | some _=>none | none=>h b
theorem aHO{h g:PHeap}{b:Nat}{o:Obj}(e:h.less g b=some o):h b=some o∧g b=none:=by
 unfold PHeap.less at e;cases hg:g b with
 | some o'=>rw [hg]at e;cases e
 | none=>rw [hg]at e;exact⟨e,rfl⟩
theorem PHeap.less_of{h g:PHeap}{b:Nat}{o:Obj}(e:h b=some o)(hg:g b=none):h.less g b=some o:=by unfold PHeap.less;rw [hg];exact e
theorem PHeap.join_some{h g:PHeap}{b:Nat}{o:Obj}(e:h.join g b=some o):h b=some o∨(h b=none∧g b=some o):=by
 unfold PHeap.join at e;cases hh:h b with
 | some o'=>rw [hh]at e;exact .inl (by simpa using e)
 | none=>rw [hh]at e;exact .inr ⟨rfl,e⟩
theorem aHY{h g:PHeap}(hg: ∀b o,g b=some o→h b=some o):(h.less g).join g=h:=by
 funext b;unfold PHeap.join PHeap.less;cases e:g b with
 | some o=>simp [hg b o e]
 | none=>cases e2:h b<;>simp
def frI(Fr:Nat→PHeap→Prop):Itp Nat:=fun i _ _ p=>Fr i (p.join Con.con)∧p.disj Con.con
section
variable {P:Program}
theorem dG{h g:PHeap}(d:h.disj g){b:Nat}{o:Obj}(e:h b=some o):g b=none:=by
 rcases d b with h1 | h1
 ·rw [e]at h1;cases h1
 ·exact h1
theorem LU{l:Nat}{xs:List Int}{Fr:Nat→PHeap→Prop}(hY:jI P l xs Fr){i:Nat}{x:Int}(hx:xs[i]? =some x){r:aC Nat}{K:AVal→aC Nat→Prop}(hK:K (.bool true) (some (.abs (i+1) [])::r))
 (V:Val) (hR:PHeap) (w:World) (hi:Inv (frI Fr) V (toF (some (.abs i [])::r)) hR w) (hf: ∀l,(some (aH.abs i [])::r).length ≤l→V l=none):
 YieldAt Fence.wide 0 P l #[.int .i64 x] w (zF (frI Fr) V (some (aH.abs i [])::r:aC Nat).length hR K w):=by
 obtain⟨hs,h1,h2,h3,h4,h5,h6,h7⟩:=hi;obtain⟨b0,k0,e1,bs,e2,hFr,hdc⟩:=h1 0 (.abs i []) rfl
 let own:PHeap:=fun b=>(aHh (fun m=>if m=0 then .emp else hs m)).join (hR.less Con.con) b
 have own_some: ∀b o,own b=some o→(∃m,m≠0∧hs m b=some o)∨(hR b=some o∧Con.con b=none):=by
  intro b o e;rcases PHeap.join_some e with h | ⟨_,h⟩
  ·obtain⟨m,hm⟩:=aHt h
   by_cases h0:m=0
   ·rw [if_pos h0]at hm;cases hm
   ·rw [if_neg h0]at hm;exact .inl ⟨m,h0,hm⟩
  ·exact .inr (aHO h)
 have F_some: ∀b o,(hs 0).join Con.con b=some o→hs 0 b=some o∨Con.con b=some o:=by
  intro b o e;rcases PHeap.join_some e with h | ⟨_,h⟩
  ·exact .inl h
  ·exact .inr h
 have hod:own.disj ((hs 0).join Con.con):=by
  intro b;cases e:own b with
  | none=>exact .inl rfl
  | some o=>
    right;cases e3:(hs 0).join Con.con b with
    | none=>rfl
    | some o2=>
      rcases own_some b o e with⟨m,hm,e4⟩ | ⟨e4,e5⟩<;>rcases F_some b o2 e3 with e6 | e6
      ·have:=dG (h3 m 0 hm) e4;rw [e6]at this;cases this
      ·have:=dG (h4 m) e4;rw [h7 b o2 e6]at this;cases this
      ·have:=dG (h4 0) e6;rw [e4]at this;cases this
      ·rw [e6]at e5;cases e5
 have hos:own.sub w:=by
  intro b o e;rcases own_some b o e with⟨m,hm,e4⟩ | ⟨e4,e5⟩
  ·exact h5 m b o e4
  ·exact h6 b o e4
 have hFs:((hs 0).join Con.con).sub w:=by
  intro b o e;rcases F_some b o e with e6 | e6
  ·exact h5 0 b o e6
  ·exact h6 b o (h7 b o e6)
 obtain⟨fn,tmps,assign,body,y1,y2⟩:=hY.step i x hx _ own w hFr hod hos hFs;refine⟨fn,tmps,assign,body,y1,y2.mono ?_⟩;rintro e w' ⟨rfl,hF',g1,g2,g3,g4,g5⟩;have gc:=hY.con _ _ g1;refine⟨.bool true,.bool true,V,_,hK,rfl,rfl,V.le_refl,hf,Nat.le_refl _,?_,g5⟩
 have big_of: ∀m b o,m≠0→hs m b=some o→own b=some o:=by
  intro m b o hm e;show(aHh _).join _ b=_
  have hb:aHh (fun m=>if m=0 then .emp else hs m) b=some o:=by
   refine aHu (l:=m) ?_ ?_
   ·intro p q hpq;show PHeap.disj (if p=0 then .emp else hs p) (if q=0 then .emp else hs q)
    split
    ·exact(aHc _).symm
    ·split
     ·exact aHc _
     ·exact h3 p q hpq
   ·show(if m=0 then PHeap.emp else hs m) b=some o
    rw [if_neg hm];exact e
  unfold PHeap.join;rw [hb]
 have own_R: ∀b o,hR b=some o→Con.con b=none→own b=some o:=by
  intro b o e ec;show(aHh _).join _ b=_;unfold PHeap.join;cases hb:aHh (fun m=>if m=0 then .emp else hs m) b with
  | none=>exact PHeap.less_of e ec
  | some o2=>
    obtain⟨m,hm⟩:=aHt hb
    by_cases h0:m=0
    ·rw [if_pos h0]at hm;cases hm
    ·rw [if_neg h0]at hm;have:=dG (h4 m) hm;rw [e]at this;cases this
 obtain⟨hs',z,nz⟩: ∃hs':Nat→PHeap,hs' 0=hF'.less Con.con∧ ∀m,m≠0→hs' m=hs m:=⟨fun m=>if m=0 then hF'.less Con.con else hs m,if_pos rfl,fun m h=>if_neg h⟩
 refine⟨hs',?_,?_,?_,?_,?_,?_,h7⟩
 ·intro m e he
  by_cases h0:m=0
  ·subst h0;rw [z];have he:some (aH.abs (i+1) [])=some e:=he;cases he;refine⟨b0,k0,e1,bs,e2,?_,?_⟩
   ·rw [aHY gc];exact g1
   ·intro b;cases ec:Con.con b with
    | none=>exact .inr rfl
    | some o=>left;unfold PHeap.less;rw [ec]
  ·rw [nz m h0];refine h1 m e ?_;cases m with
   | zero=>exact absurd rfl h0
   | succ m=>exact he
 ·intro m hm
  by_cases h0:m=0
  ·subst h0;cases hm
  ·rw [nz m h0];refine h2 m ?_;cases m with
   | zero=>exact absurd rfl h0
   | succ m=>exact hm
 ·have key: ∀m,m≠0→(hs m).disj (hF'.less Con.con):=by
   intro m hm b;cases e:hs m b with
   | none=>exact .inl rfl
   | some o=>
     right;have:=dG g2 (big_of m b o hm e);unfold PHeap.less;rw [this];split<;>rfl
  intro m q hmq
  by_cases h0:m=0
  ·subst h0;rw [z,nz q (fun e=>hmq e.symm)];exact(key q (fun e=>hmq e.symm)).symm
  ·rw [nz m h0]
   by_cases hq:q=0
   ·subst hq;rw [z];exact key m h0
   ·rw [nz q hq];exact h3 m q hmq
 ·intro m
  by_cases h0:m=0
  ·subst h0;rw [z];intro b;cases e:hR b with
   | none=>exact .inr rfl
   | some o=>
     left;cases ec:Con.con b with
     | some o2=>unfold PHeap.less;rw [ec]
     | none=>
       have:=dG g2 (own_R b o e ec);unfold PHeap.less;rw [ec];exact this
  ·rw [nz m h0];exact h4 m
 ·intro m b o e
  by_cases h0:m=0
  ·subst h0;rw [z]at e;exact g4 b o (aHO e).1
  ·rw [nz m h0]at e;exact g3 b o (big_of m b o h0 e)
 ·intro b o e;cases ec:Con.con b with
  | some o2=>
    have:=h7 b o2 ec;rw [e]at this;cases this;exact g4 b o (gc b o ec)
  | none=>exact g3 b o (own_R b o e ec)
structure X5 (xs:List Int) (i:Nat) (x:Int):Prop where
 h:xs[i]? =some x
def itE(P:Program){l:Nat}{xs:List Int}{Fr:Nat→PHeap→Prop}(hY:jI P l xs Fr):n9 Nat P where
 I:=frI Fr
 cps:=fun _=>none
 det:=fun _=>none
 meth:=fun _ _=>none
 cpsOk:=by intro f S h;cases h
 detOk:=by intro f S h;cases h
 methOk:=by intro t n f h;cases h
 rowOk:=by intro ρ o h K hk;exact hk.elim
 yld:=fun l' args h K=>match args,h with
  | [.int .i64 x],some (.abs i [])::r=>(l'=l∧X5 xs i x)∧K (.bool true) (some (.abs (i+1) [])::r)
  | _,_=>False
 yldOk:=by
  intro l' args h K hk V hR w args' hi hf hr;split at hk
  ·rename_i x i r;obtain⟨⟨rfl,⟨hx⟩⟩,hK⟩:=hk;obtain⟨v,vs,e,hv,e2⟩:=hr;have hv:v=.int .i64 x:=hv;have e2:vs=[]:=e2;subst hv;subst e2;have ha:args'= #[.int .i64 x]:=by apply Array.ext';simpa using e
   subst ha;exact LU hY hx hK V hR w hi hf
  ·exact hk.elim
end
end Go.Sh
namespace Go.Sh
open Go
variable [Con] {A:Type}
section
variable {P:Program} {E:n9 A P}
def tE(E:n9 A P)(ds:List Deferred)(V:Val)(n:Nat)(hR:PHeap)(w:World)(K:List AVal→aC A→Prop)(a:Act)(w':World):Prop:=
 ∃tm V' h',K tm h'∧aG V' tm a.tmps.toList∧V.le V'∧bP V' h'.length∧n≤h'.length∧Inv E.I V' (toF h') hR w'∧bT w w'∧a.defers=ds
theorem tE.chain{ds:List Deferred}{V V1:Val}{n n1:Nat}{hR:PHeap}{w w1:World}{K:List AVal→aC A→Prop}{a:Act}{w':World}(h:tE E ds V1 n1 hR w1 K a w')(hV:V.le V1)(hn:n≤n1)(hg:bT w w1):tE E ds V n hR w K a w':=by
 obtain⟨tm,V',h',h1,h2,h3,h4,h5,h6,h7,h8⟩:=h;exact⟨tm,V',h',h1,h2,Val.le_trans hV h3,h4,by omega,h6,hg.trans h7,h8⟩
theorem x4{ds:List Deferred}{ro:Option Nat}{inl:sQ A}(hinl:kF E inl){ops:Array Oper}{base:List AVal}{n:Nat}(hbn:base.length=n){Q:Exit→Act→World→Prop} : ∀(rest:List Oper) (seen:List (Option Tmp)) (i:Nat) (δ:List (Nat×AVal)) (h:aC A) (K:List AVal→aC A→Prop) (a:Act) (w:World) (V:Val) (hR:PHeap),
 qN ops rest seen i→eY E inl base n rest seen i δ h K→qU n δ→Inv E.I V (toF h) hR w→bP V h.length→aG V (bK δ base) a.tmps.toList→a.defers=ds→
 (∀a' w',tE E ds V h.length hR w K a' w'→Q .normal a' w')→wpListIn (FW ro) 0 P ops Q rest a w:=by
 intro rest
 induction rest with
 | nil=>
   intro seen i δ h K a w V hR hsn he hin hi hf ht hd hQ;unfold eY at he;rw [mS,pL (by rw [hbn];exact hin)]at he
   exact wpListIn_nil (hQ a w ⟨bK δ base,V,h,he,ht,V.le_refl,hf,Nat.le_refl _,hi,aHx w,hd⟩)
 | cons o rest ih=>
   intro seen i δ h K a w V hR hsn he hin hi hf ht hd hQ;have he:=bG.1 he;obtain⟨hok,he⟩:=he
   have run: ∀δ':List (Nat×AVal),qU n δ'→aG V (bK δ' base) a.tmps.toList→(tV E inl (eV δ' base) o.op h fun v h'=>eY E inl base n rest (o.dst::seen) (Nat.succ i) (hO δ' o.dst v) h' K)→Region.wanted o (yielded ops a.tmps)=true→wpListIn (FW ro) 0 P ops Q (o::rest) a w:=by
    intro δ' hin' ht' hev hw;refine wpListIn_step fun K' hK'=>?_;rw [if_pos hw];rw [nJ (by rw [hbn];exact hin')]at hev
    refine rV hinl hev hi hf ht' ?_;intro v v' V' h' w' k1 k2 k3 k4 k5 k6 k7;refine hK' _ _ (ih _ _ _ _ _ _ _ V' hR hsn.next k1 (iW hin' hok) k6 k4 (by rw [←iV (n:=n)];exact gU (aG.mono k3 _ _ ht') k2) (by rw [eN];exact hd) ?_)
    intro a' w'' hT;exact hQ a' w'' (hT.chain k3 k5 k7)
   have skip: ∀δ':List (Nat×AVal),qU n δ'→aG V (bK δ' base) a.tmps.toList→eY E inl base n rest (o.dst::seen) (Nat.succ i) (hO δ' o.dst (.raw undef)) h K→Region.wanted o (yielded ops a.tmps)=false→wpListIn (FW ro) 0 P ops Q (o::rest) a w:=by
    intro δ' hin' ht' hev hw;refine wpListIn_step fun K' hK'=>?_;rw [if_neg (by rw [hw];simp)]
    exact⟨fun _ _=>trivial,hK' _ _ (ih _ _ _ _ _ _ _ V hR hsn.next hev (iW hin' hok) hi hf (by rw [←iV (n:=n)];exact gU ht' rfl) (by rw [eN];exact hd) hQ)⟩
   cases hg:o.guard with
   | none=>
     rw [hg]at he;exact run δ hin ht he (by simp [Region.wanted,hg])
   | some g=>
     obtain⟨j,want⟩:=g;rw [hg]at he;simp only at he;obtain⟨hji,he⟩:=bG.1 he;have hjd:=hsn.dst hji;cases hj:(ops[j]?).bind (·.dst)with
     | none=>rw [←hjd,hj]at he;exact he.elim
     | some d=>
       rw [←hjd,hj]at he;simp only at he;have hdg:=nR δ base d (by rw [hbn];exact hin)
       split at he
       ·rename_i b hb;obtain⟨hdn,he⟩:=bG.1 he;rw [hdg]at hb;have hgd:=nS hb;obtain⟨y,hy,ry⟩:=aG.get ht d _ hgd;rw [Array.getElem?_toList]at hy;have ry':y=.bool b:=ry;subst ry';have hyl:yielded ops a.tmps j=some b:=gB hj hy;have hs:bK ((d,.bool b)::δ) base=bK δ base:=kB _ d _ hgd;have hin2: ∀v,qU n ((d,v)::δ):=fun v=>⟨Nat.le_of_ble_eq_true hdn,hin⟩;have hwb:Region.wanted o (yielded ops a.tmps)=(b == want):=by simp [Region.wanted,hg,hyl]
        cases b with
        | true=>
          simp only [cond_true]at he;cases want with
          | true=>rw [if_pos rfl]at he;exact run _ (hin2 _) (by rw [hs];exact ht) he (by rw [hwb];rfl)
          | false=>rw [if_neg (by simp)]at he;exact skip _ (hin2 _) (by rw [hs];exact ht) he (by rw [hwb];rfl)
        | false=>
          simp only [cond_false]at he;cases want with
          | true=>rw [if_pos rfl]at he;exact skip _ (hin2 _) (by rw [hs];exact ht) he (by rw [hwb];rfl)
          | false=>rw [if_neg (by simp)]at he;exact run _ (hin2 _) (by rw [hs];exact ht) he (by rw [hwb];rfl)
       ·rename_i hnb;split at he
        ·rename_i htp;rw [hdg]at htp
         have hyl:yielded ops a.tmps j=none:=by
          refine gS hj ?_;cases e:a.tmps[d]? with
          | none=>exact .inl rfl
          | some x=>
            right
            have hlt:d<(bK δ base).length :=by
             have h1:=aG.length ht;rw [Array.length_toList]at h1;cases Nat.lt_or_ge d a.tmps.size with
             | inl g=>exact Nat.lt_of_lt_of_eq g h1
             | inr g=>rw [Array.getElem?_eq_none g]at e;cases e
            obtain⟨y,hy,ry⟩:=aG.get ht d _ (gE' hlt);rw [Array.getElem?_toList,e]at hy;cases hy;have e2:(bK δ base).getD d (.raw undef)=(bK δ base)[d]:=by rw [gD',gE' hlt];rfl
            rw [e2]at htp;unfold fX at htp;split at htp
            ·rename_i vs e3;rw [e3]at ry;have:x=.tuple vs:=ry;exact⟨vs,by rw [this]⟩
            ·cases htp
         exact skip δ hin ht he (by simp [Region.wanted,hg,hyl])
        ·exact he.elim
end
def cI{P:Program}(E:n9 A P)(inl:sQ A)(nt:Nat):Code→List AVal→aC A→(List AVal→aC A→Prop)→Prop
 | .skip,tm,h,K=>K tm h
 | .region _ ops draw,tm,h,K=>cR (Nat.beq tm.length nt&& !draw) (eY E inl tm nt ops.toList [] 0 [] h K)
 | .seq x y,tm,h,K=>cI E inl nt x tm h fun tm' h'=>cI E inl nt y tm' h' K
 | .cond c x y,tm,h,K=>match dF tm c with
    | .bool b=>cond b (cI E inl nt x tm h K) (cI E inl nt y tm h K)
    | _=>False
 | .block _ c,tm,h,K=>cI E inl nt c tm h K
 | _,_,_,_=>False
section
variable {P:Program} {E:n9 A P}
theorem d9{inl:sQ A}(hinl:kF E inl){ro:Option Nat}{ds:List Deferred}{nt:Nat}{hR:PHeap} : ∀(c:Code) (tm:List AVal) (h:aC A) (K:List AVal→aC A→Prop) (a:Act) (w:World) (V:Val) (Q:Exit→Act→World→Prop),
 cI E inl nt c tm h K→Inv E.I V (toF h) hR w→bP V h.length→aG V tm a.tmps.toList→a.defers=ds→
 (∀a' w',tE E ds V h.length hR w K a' w'→Q .normal a' w')→c.wpIn (FW ro) 0 P Q a w:=by
 intro c
 induction c with
 | skip=>
   intro tm h K a w V Q he hi hf ht hd hQ;exact wpIn_skip (hQ a w ⟨tm,V,h,he,ht,V.le_refl,hf,Nat.le_refl _,hi,aHx w,hd⟩)
 | region id ops draw=>
   intro tm h K a w V Q he hi hf ht hd hQ;unfold cI at he;obtain⟨hb,he2⟩:=bG.1 he;obtain⟨hnt,hdr⟩:=Bool.and_eq_true_iff.1 hb;clear he hb;cases draw with
   | true=>cases hdr
   | false=>exact wpIn_region_list (x4 hinl (Nat.eq_of_beq_eq_true hnt) ops.toList [] 0 [] h K a w V hR ⟨[],rfl,rfl,rfl⟩ he2 trivial hi hf ht hd hQ)
 | seq x y ihx ihy=>
   intro tm h K a w V Q he hi hf ht hd hQ;unfold cI at he;refine wpIn_seq (ihx tm h _ a w V _ he hi hf ht hd ?_);rintro a' w' ⟨tm',V',h',k1,k2,k3,k4,k5,k6,k7,k8⟩;refine ihy tm' h' K a' w' V' Q k1 k6 k4 k2 k8 ?_;intro a2 w2 hT;exact hQ a2 w2 (hT.chain k3 k5 k7)
 | cond c x y ihx ihy=>
   intro tm h K a w V Q he hi hf ht hd hQ;unfold cI at he;split at he
   ·rename_i b hb;have hv:=fM ht c;rw [hb]at hv;have hv:a.eval c=.bool b:=hv;cases b with
    | true=>exact wpIn_cond hv (ihx tm h K a w V Q he hi hf ht hd hQ)
    | false=>exact wpIn_cond hv (ihy tm h K a w V Q he hi hf ht hd hQ)
   ·exact he.elim
 | block id c ih=>
   intro tm h K a w V Q he hi hf ht hd hQ;unfold cI at he;refine wpIn_block (ih tm h K a w V _ he hi hf ht hd ?_);intro a' w' hT;exact hQ a' w' hT
 | _=>
   intro tm h K a w V Q he hi hf ht hd hQ;exact he.elim
def R9(I:Itp A)(V:Val)(h:bD A)(hR hF:PHeap):Prop:=
 ∃hs:Nat→PHeap,(∀l e,h l=some e→e.interp I V l (hs l))∧(∀l,h l=none→hs l=.emp)∧
  (∀l m,l≠m→(hs l).disj (hs m))∧(∀l,(hs l).disj hR)∧hF=(aHh hs).join hR∧ ∀b o,Con.con b=some o→hR b=some o
theorem oB{hs:Nat→PHeap}{hR:PHeap}{b:Nat}{o:Obj}(e:(aHh hs).join hR b=some o):(∃l,hs l b=some o)∨hR b=some o:=by
 rcases PHeap.join_some e with h | ⟨_,h⟩
 ·exact .inl (aHt h)
 ·exact .inr h
theorem fN{hs:Nat→PHeap}{hR:PHeap}(d: ∀l m,l≠m→(hs l).disj (hs m))(dR: ∀l,(hs l).disj hR){b:Nat}{o:Obj}(e:(∃l,hs l b=some o)∨hR b=some o):(aHh hs).join hR b=some o:=by
 unfold PHeap.join;rcases e with⟨l,e⟩ | e
 ·rw [aHu d e]
 ·cases hb:aHh hs b with
  | none=>exact e
  | some o2=>
    obtain⟨l,hl⟩:=aHt hb;have:=dG (dR l) hl;rw [e]at this;cases this
theorem cL{h g:PHeap}{b:Nat}{o:Obj}(e:h b=some o):h.join g b=some o:=by unfold PHeap.join;rw [e]
theorem oE{h g:PHeap}(d:g.disj h){b:Nat}{o:Obj}(e:g b=some o):h.join g b=some o:=by
 unfold PHeap.join;rw [dG d e];exact e
theorem R9.inv{I:Itp A}{V:Val}{h:bD A}{hR hF own:PHeap}{w:World}(hh:R9 I V h hR hF)(hd:own.disj hF)(ho:own.sub w)(hs:hF.sub w):Inv I V h (hR.join own) w:=by
 obtain⟨hs',h1,h2,h3,h4,rfl,h6⟩:=hh
 have odR:own.disj hR:=by
  intro b;cases e:own b with
  | none=>exact .inl rfl
  | some o=>
    right;have:=dG hd e;cases e2:hR b with
    | none=>rfl
    | some o2=>rw [fN h3 h4 (.inr e2)]at this;cases this
 refine⟨hs',h1,h2,h3,?_,fun l b o e=>hs b o (fN h3 h4 (.inl ⟨l,e⟩)),?_,fun b o e=>cL (h6 b o e)⟩
 ·intro l b;cases e:hs' l b with
  | none=>exact .inl rfl
  | some o=>
    right;unfold PHeap.join;rw [dG (h4 l) e];cases e2:own b with
    | none=>rfl
    | some o2=>
      have:=dG hd e2;rw [fN h3 h4 (.inl ⟨l,e⟩)]at this;cases this
 ·intro b o e;rcases PHeap.join_some e with e | ⟨_,e⟩
  ·exact hs b o (fN h3 h4 (.inr e))
  ·exact ho b o e
theorem Inv.held{I:Itp A}{V:Val}{h:bD A}{hR own:PHeap}{w:World}(hi:Inv I V h (hR.join own) w)(hd:own.disj hR)(hc: ∀b o,Con.con b=some o→hR b=some o):
 ∃hF,R9 I V h hR hF∧own.disj hF∧own.sub w∧hF.sub w:=by
 obtain⟨hs,h1,h2,h3,h4,h5,h6,h7⟩:=hi
 have d1: ∀l,(hs l).disj hR:=by
  intro l b;rcases h4 l b with e | e
  ·exact .inl e
  ·right;cases e2:hR b with
   | none=>rfl
   | some o=>rw [cL e2]at e;cases e
 refine⟨_,⟨hs,h1,h2,h3,d1,rfl,hc⟩,?_,fun b o e=>h6 b o (oE hd e),?_⟩
 ·intro b;cases e:own b with
  | none=>exact .inl rfl
  | some o=>
    right;cases e2:(aHh hs).join hR b with
    | none=>rfl
    | some o2=>
      rcases oB e2 with⟨l,e3⟩ | e3
      ·have:=dG (h4 l) e3;rw [oE hd e]at this;cases this
      ·have:=dG hd e;rw [e3]at this;cases this
 ·intro b o e;rcases oB e with⟨l,e⟩ | e
  ·exact h5 l b o e
  ·exact h6 b o (cL e)
end
end Go.Sh
namespace Go.Sh
open Go Go.RowKit
variable [Con] {A:Type}
def DA(P:Program)(fA:FuncId)(view:AVal)(xs:List Int):Prop:=
 ∀(l:Nat) (Fr:Nat→PHeap→Prop),jI P l xs Fr→aB (frI Fr) P fA [.func (.yield l) [] [],.ptr 1 0] [some (.abs 0 []),some (.cells [view])] (fun v h=>h=[some (.abs xs.length []),some (.cells [view])])
theorem Inv.put{I:Itp A}{V:Val}{h:bD A}{hX hY:PHeap}{w:World}{l:Nat}{o o':Obj}(hi:Inv I V h hX w)(hl:hX l=some o)(hY1:hY l=some o')(hY2: ∀b,b≠l→hY b=hX b)(hc:Con.con l=none):Inv I V h hY (w.putObj l o'):=by
 obtain⟨hs,h1,h2,h3,h4,h5,h6,h7⟩:=hi;have hlt:l<w.heap.size:=(Array.getElem?_eq_some_iff.1 (h6 l o hl)).1
 have nl: ∀m,hs m l=none:=fun m=>by
  rcases h4 m l with e | e
  ·exact e
  ·rw [hl]at e;cases e
 refine⟨hs,h1,h2,h3,?_,?_,?_,?_⟩
 ·intro m b
  by_cases e:b=l
  ·subst e;exact .inl (nl m)
  ·rw [hY2 b e];exact h4 m b
 ·intro m b x e;have hb:b≠l:=fun e2=>by subst e2;rw [nl m]at e;cases e
  rw [World.putObj_heap_other hb];exact h5 m b x e
 ·intro b x e
  by_cases hb:b=l
  ·subst hb;rw [hY1]at e;cases e;exact World.putObj_heap_same hlt
  ·rw [World.putObj_heap_other hb];rw [hY2 b hb]at e;exact h6 b x e
 ·intro b x e;have hb:b≠l:=fun e2=>by subst e2;rw [hc]at e;cases e
  rw [hY2 b hb];exact h7 b x e
theorem Inv.shrink{I:Itp A}{V:Val}{h:bD A}{hX hY:PHeap}{w:World}(hi:Inv I V h hX w)(hs: ∀b o,hY b=some o→hX b=some o)(hc: ∀b o,Con.con b=some o→hY b=some o):Inv I V h hY w:=by
 obtain⟨hs',h1,h2,h3,h4,h5,h6,h7⟩:=hi;refine⟨hs',h1,h2,h3,?_,h5,fun b o e=>h6 b o (hs b o e),hc⟩;intro m b;rcases h4 m b with e | e
 ·exact .inl e
 ·right;cases e2:hY b with
  | none=>rfl
  | some o=>rw [hs b o e2]at e;cases e
theorem bT.put{w:World}{l:Nat}{r r':Loop}(h:w.heap[l]? =some (.loop r)):bT w (w.putObj l (.loop r')):=by
 have hlt:l<w.heap.size:=(Array.getElem?_eq_some_iff.1 h).1;refine⟨rfl,rfl,?_,?_⟩
 ·show w.heap.size≤(w.heap.setIfInBounds l _).size
  simp
 ·intro a _;unfold World.frozen?
  by_cases e:a.block=l
  ·rw [e,h,World.putObj_heap_same hlt]
  ·rw [World.putObj_heap_other e]
theorem aIa(w:World)(o:Obj):bT w (w.alloc o):=by
 refine⟨rfl,rfl,?_,?_⟩
 ·rw [World.size_alloc];omega
 ·intro a ha;unfold World.frozen?
  have:(w.alloc o).heap[a.block]? =w.heap[a.block]? :=by
   show(w.heap.push o)[a.block]? =_;rw [Array.getElem?_push,if_neg (by omega)]
  rw [this]
section
variable {P:Program} {E:n9 A P}
def rgH(hR:PHeap)(D l:Nat)(r:Loop):PHeap:=fun b=>if b=l then some (.loop r)else if b=D then some (.deferred (some []))else hR b
theorem w7(hR:PHeap)(D l:Nat)(r:Loop):rgH hR D l r l=some (.loop r):=if_pos rfl
theorem ZB{hR:PHeap}{D l:Nat}{r r':Loop}{b:Nat}(h:b≠l):rgH hR D l r' b=rgH hR D l r b:=by
 unfold rgH;rw [if_neg h,if_neg h]
theorem K5{inl:sQ A}(hinl:kF E inl){fA:FuncId}{view:AVal}{xs:List Int}(hA:DA P fA view xs){nt m:Nat}{g:Operand}{p:Tmp}{assign body:Code}{tm:List AVal}{S:Nat→aC A}
 (hS: ∀j,(S j).length =m) (hwv:view.within []=true) (hSw:cX m (S 0)=true)
 (hb: ∀j x,xs[j]? =some x→cI E inl nt assign (tm.set p (.int .i64 x)) (S j) (fun tm1 h1=>cI E inl nt body tm1 h1 (fun _ h2=>aF E.I m (.bool true) h2 (.bool true) (S (j+1)))))
 {V:Val} {hR:PHeap} {w:World} {a:Act} {blk k:Nat} (hi:Inv E.I V (toF (S 0++ [some (.cells [view])])) hR w) (hf:bP V (m+1)) (hVm:V m=some (blk,k))
 (ht:aG V tm a.tmps.toList) (hwt:aHf (upto 0 m) tm=true) (hd:a.defers=[])
 (hg:a.eval g=.func (.func fA) #[] #[.pointer (some ⟨blk,0,none⟩)]) (hpl:lW P fA=true)
 {Q:Exit→Act→World→Prop}
 (hQ: ∀(w':World) (D:Nat) (V':Val),(∀l y,l<m→V l=some y→V' l=some y)→bP V' m→hR D=none→w'.heap[D]? =some (.deferred (some []))→
   Inv E.I V' (toF (S xs.length)) (fun b=>if b=D then some (.deferred (some []))else hR b) w'→bT w w'→Q .normal {a with defers:=[{target:=.collected D,args:= #[] }] } w'):
 (Code.rangeFunc g #[p] assign body).wp P Q a w:=by
 have hm0:(S 0).length =m:=hS 0;refine(wpIn_wide (n:=0)).1 (wpIn_rangeFunc ?_);intro fn hfn;obtain⟨D,hD⟩: ∃D,D=w.heap.size:=⟨_,rfl⟩;obtain⟨l,hl⟩: ∃l,l=w.heap.size+1:=⟨_,rfl⟩;have hlD:l≠D:=by omega
 obtain⟨rec,hrec⟩: ∃rec:LoopState→Loop,rec=fun st=> {state:=st,pending:=none,fn,tmps:=a.tmps,params:= #[p],assign,body,defers:=D} :=⟨_,rfl⟩;obtain⟨W1,hW1⟩: ∃W1,(w.alloc (.deferred (some []))).alloc (.loop (rec .ready))=W1:=⟨_,rfl⟩
 have hold: ∀(b:Nat) (o:Obj),w.heap[b]? =some o→W1.heap[b]? =some o:=by
  intro b o e;have hlt:=(Array.getElem?_eq_some_iff.1 e).1;rw [←hW1];exact(Below.heap_alloc _ _ b (by rw [World.size_alloc];omega)).trans ((Below.heap_alloc _ _ b hlt).trans e)
 have hL1:W1.heap[l]? =some (.loop (rec .ready)):=by
  rw [←hW1,hl];have:=World.alloc_heap_new (w.alloc (.deferred (some []))) (.loop (rec .ready))
  rwa [World.size_alloc]at this
 have hK1:W1.heap[D]? =some (.deferred (some [])):=by
  rw [←hW1,hD];exact(Below.heap_alloc _ _ _ (by simp)).trans (World.alloc_heap_new w _)
 have hG1:bT w W1:=by rw [←hW1];exact(aIa _ _).trans (aIa _ _)
 have nob: ∀ {h:PHeap} {b:Nat},h.sub w→w.heap.size≤b→h b=none:=by
  intro h b hs hb;cases e:h b with
  | none=>rfl
  | some o=>
    have:=(Array.getElem?_eq_some_iff.1 (hs b o e)).1;omega
 obtain⟨hs,h1,h2,h3,h4,h5,h6,h7⟩:=hi;have hRD:hR D=none:=nob h6 (by omega)
 have hRl:hR l=none:=nob h6 (by omega)
 have conD:Con.con D=none:=by
  cases e:Con.con D with
  | none=>rfl
  | some o=>rw [h7 D o e]at hRD;cases hRD
 have conl:Con.con l=none:=by
  cases e:Con.con l with
  | none=>rfl
  | some o=>rw [h7 l o e]at hRl;cases hRl
 obtain⟨Vm,hVmd⟩: ∃Vm:Val,Vm=fun i=>if i<m then V i else none:=⟨_,rfl⟩
 have vm_lt: ∀i,i<m→V i=Vm i:=fun i h=>by rw [hVmd];exact(if_pos h).symm
 have vm_el: ∀i,(upto 0 m).elem i=true→V i=Vm i:=fun i h=>vm_lt i (by have:=(iJ m 0 i).1 h;omega)
 have htm:aG Vm tm a.tmps.toList:=aHy vm_el _ _ hwt ht;have hfm:bP Vm m:=fun i h=>by rw [hVmd];exact if_neg (by omega)
 have rgc: ∀st,∀b o,Con.con b=some o→rgH hR D l (rec st) b=some o:=by
  intro st b o e;unfold rgH;rw [if_neg (fun e2=>by subst e2;rw [conl]at e;cases e),if_neg (fun e2=>by subst e2;rw [conD]at e;cases e)]
  exact h7 b o e
 have hget_lt0: ∀i,i<m→aL (S 0++ [some (.cells [view])]) i=aL (S 0) i:=by
  intro i h;unfold aL;rw [gD',gD',List.getElem?_append_left (by omega)]
 have hget_m:aL (S 0++ [some (.cells [view])]) m=some (.cells [view]):=by
  unfold aL;rw [gD',List.getElem?_append_right (by omega),hm0]
  simp
 have hget_ge0: ∀i,m≤i→aL (S 0) i=none:=by
  intro i h;unfold aL;rw [gD',List.getElem?_eq_none (by omega)];rfl
 have ownw:(hs m).sub w:=fun b o e=>h5 m b o e;have hm_l: ∀i,hs i l=none:=fun i=>nob (fun b o e=>h5 i b o e) (by omega)
 have hm_D: ∀i,hs i D=none:=fun i=>nob (fun b o e=>h5 i b o e) (by omega)
 have rg_some: ∀st b o,rgH hR D l (rec st) b=some o→(b=l∧o=.loop (rec st))∨(b=D∧o=.deferred (some []))∨hR b=some o:=by
  intro st b o e;unfold rgH at e
  by_cases e1:b=l
  ·rw [if_pos e1]at e;cases e;exact .inl ⟨e1,rfl⟩
  ·rw [if_neg e1]at e
   by_cases e2:b=D
   ·rw [if_pos e2]at e;cases e;exact .inr (.inl ⟨e2,rfl⟩)
   ·rw [if_neg e2]at e;exact .inr (.inr e)
 have drg: ∀i,(hs i).disj (rgH hR D l (rec .ready)):=by
  intro i b;cases e:hs i b with
  | none=>exact .inl rfl
  | some o=>
    right;cases e2:rgH hR D l (rec .ready) b with
    | none=>rfl
    | some o2=>
      rcases rg_some _ b o2 e2 with⟨e3,_⟩ | ⟨e3,_⟩ | e3
      ·rw [e3,hm_l i]at e;cases e
      ·rw [e3,hm_D i]at e;cases e
      ·have:=dG (h4 i) e;rw [e3]at this;cases this
 have hInv1:Inv E.I V (toF (S 0)) ((rgH hR D l (rec .ready)).join (hs m)) W1:=by
  refine⟨fun i=>if i<m then hs i else .emp,?_,?_,?_,?_,?_,?_,fun b o e=>cL (rgc _ b o e)⟩
  ·intro i e he
   by_cases hi:i<m
   ·show e.interp E.I V i (if i<m then hs i else .emp)
    rw [if_pos hi];exact h1 i e (by show aL _ i=_;rw [hget_lt0 i hi];exact he)
   ·have:aL (S 0) i=some e:=he;rw [hget_ge0 i (by omega)]at this;cases this
  ·intro i he;show(if i<m then hs i else .emp)=_
   by_cases hi:i<m
   ·rw [if_pos hi];exact h2 i (by show aL _ i=_;rw [hget_lt0 i hi];exact he)
   ·rw [if_neg hi]
  ·intro i j hij;show PHeap.disj (if i<m then hs i else .emp) (if j<m then hs j else .emp)
   by_cases hi:i<m
   ·rw [if_pos hi]
    by_cases hj:j<m
    ·rw [if_pos hj];exact h3 i j hij
    ·rw [if_neg hj];exact aHc _
   ·rw [if_neg hi];exact(aHc _).symm
  ·intro i;show PHeap.disj (if i<m then hs i else .emp) _
   by_cases hi:i<m
   ·rw [if_pos hi];intro b;cases e:hs i b with
    | none=>exact .inl rfl
    | some o=>
      right;unfold PHeap.join;rw [dG (drg i) e];exact dG (h3 i m (by omega)) e
   ·rw [if_neg hi];exact(aHc _).symm
  ·intro i b o e;have e:(if i<m then hs i else PHeap.emp) b=some o:=e
   by_cases hi:i<m
   ·rw [if_pos hi]at e;exact hold b o (h5 i b o e)
   ·rw [if_neg hi]at e;cases e
  ·intro b o e;rcases PHeap.join_some e with e | ⟨_,e⟩
   ·rcases rg_some _ b o e with⟨rfl,rfl⟩ | ⟨rfl,rfl⟩ | e
    ·exact hL1
    ·exact hK1
    ·exact hold b o (h6 b o e)
   ·exact hold b o (h5 m b o e)
 have hInv2:Inv E.I Vm (toF (S 0)) ((rgH hR D l (rec .ready)).join (hs m)) W1:=by
  refine aH2 (pl:=upto 0 m) vm_el ?_ hInv1;intro i e he;have he':aL (S 0) i=some e:=he
  have hi:i<m:=by
   cases Nat.lt_or_ge i m with
   | inl h=>exact h
   | inr h=>rw [hget_ge0 i h]at he';cases he'
  refine⟨(iJ m 0 i).2 (by omega),?_⟩
  unfold cX at hSw;rw [List.all_eq_true]at hSw
  have hmem:some e∈S 0:=by
   unfold aL at he';rw [gD',gE' (by omega)]at he'
   have he':(S 0)[i]'(by omega)=some e:=he'
   rw [←he'];exact List.getElem_mem _
  exact hSw _ hmem
 have odR:(hs m).disj (rgH hR D l (rec .ready)):=drg m;obtain⟨hF0,hH0,od0,os0,hs0⟩:=hInv2.held odR (rgc _);obtain⟨Fr,hFr⟩: ∃Fr:Nat→PHeap→Prop,Fr=fun j hF=> ∃V2:Val,(∀i y,i<m→Vm i=some y→V2 i=some y)∧bP V2 m∧R9 E.I V2 (toF (S j)) (rgH hR D l (rec .ready)) hF:=⟨_,rfl⟩;have hFr0:Fr 0 hF0:=by rw [hFr];exact⟨Vm,fun _ _ _ h=>h,hfm,hH0⟩
 have hY:jI P l xs Fr:=by
  constructor
  ·intro i hF hh b o e;rw [hFr]at hh;obtain⟨V2,_,_,hs2,_,_,g3,g4,rfl,g6⟩:=hh;exact fN g3 g4 (.inr (g6 b o e))
  ·intro i x hx hF own w0 hFi hod hos hFs;rw [hFr]at hFi;obtain⟨V2,hv2,hf2,hHeld⟩:=hFi;have hInv:Inv E.I V2 (toF (S i)) ((rgH hR D l (rec .ready)).join own) w0:=hHeld.inv hod hos hFs
   have atl: ∀ {V':Val} {h':bD A} {st:LoopState} {w':World},Inv E.I V' h' ((rgH hR D l (rec st)).join own) w'→w'.heap[l]? =some (.loop (rec st)):=by
    rintro V' h' st w' ⟨_,_,_,_,_,_,g6,_⟩;exact g6 l _ (cL (w7 _ _ _ _))
   have odrg:own.disj (rgH hR D l (rec .ready)):=by
    intro b;cases e:own b with
    | none=>exact .inl rfl
    | some o=>
      right;cases e2:rgH hR D l (rec .ready) b with
      | none=>rfl
      | some o2=>
        obtain⟨hs2,_,_,g3,g4,rfl,_⟩:=hHeld;have:=dG hod e;rw [fN g3 g4 (.inr e2)]at this;cases this
   have hle:Vm.le V2:=by
    intro i y e
    by_cases h:i<m
    ·exact hv2 i y h e
    ·rw [hfm i (by omega)]at e;cases e
   have hput: ∀(st st':LoopState) {V':Val} {h':bD A} {w':World},Inv E.I V' h' ((rgH hR D l (rec st)).join own) w'→Inv E.I V' h' ((rgH hR D l (rec st')).join own) (w'.putObj l (.loop (rec st'))):=by
    intro st st' V' h' w' hh;refine hh.put (cL (w7 _ _ _ _)) (cL (w7 _ _ _ _)) ?_ conl;intro b hb;unfold PHeap.join;rw [ZB hb]
   have hLw:=atl hInv;have hy:=run_yield (P:=P) (args:= #[.int .i64 x]) hLw (by rw [hrec];rfl)
   refine⟨fn,a.tmps.setIfInBounds p (.int .i64 x),assign,body,?_,?_⟩
   ·rw [hrec]at hy
    simpa using hy
   refine roundIn_of_wpIn trivial ?_;refine d9 hinl (ro:=some l) (ds:=[]) assign (tm.set p (.int .i64 x)) (S i) _ _ w0 V2 _ (hb i x hx) hInv (by rw [hS];exact hf2) ?_ rfl ?_
   ·show aG V2 _ (a.tmps.setIfInBounds p _).toList;rw [Array.toList_setIfInBounds];exact aG.set (aG.mono hle _ _ htm) p _ _ rfl
   rintro a1 w1 ⟨tm1,V3,g1,k1,k2,k3,k4,k5,k6,k7,k8⟩;have hL1':=atl k6;have hbr:=run_beginRound (P:=P) hL1' (by rw [hrec])
   have ebusy: {rec .ready with state:=.busy } =rec .busy :=by rw [hrec]
   rw [ebusy]at hbr;refine⟨_,hbr,?_⟩;refine d9 hinl (ro:=some l) (ds:=[]) body tm1 g1 _ a1 _ V3 _ k1 (hput _ .busy k6) k4 k2 k8 ?_;rintro a2 w3 ⟨tm2,V4,g2,q1,q2,q3,q4,q5,q6,q7,q8⟩;have hL3:=atl q6;have her:=run_endRound (P:=P) none hL3;have eready: {rec .busy with state:=if (none:Option Code).isNone then .ready else .done,pending:=none} =rec .ready :=by rw [hrec];rfl
   rw [eready]at her;have q6':=hput _ .ready q6;obtain⟨V5,t1,t2,t3,t4,t5⟩:=q1 V4 _ _ (.bool true) q6' q4 (by rw [hS]at k5;omega) rfl
   obtain⟨hF',z1,z2,z3,z4⟩:=t5.held odrg (rgc _);refine⟨_,_,her,rfl,hF',?_,z2,z3,z4,?_⟩
   ·rw [hFr];refine⟨V5,?_,by rw [hS]at t2;exact t2,z1⟩
    intro i' y hi' e;exact t1 i' y hi' (q3 _ _ (k3 _ _ (hle _ _ e)))
   ·exact k7.trans ((bT.put hL1').trans (q7.trans (bT.put hL3)))
 obtain⟨V',hV'⟩: ∃V':Val,V'=fun i=>if i=0 then some (0,0)else if i=1 then V m else none:=⟨_,rfl⟩
 have hIt:Inv (frI Fr) V' (toF [some (.abs 0 []),some (.cells [view])]) Con.con W1:=by
  refine⟨fun i=>if i=0 then hF0.less Con.con else if i=1 then hs m else .emp,?_,?_,?_,?_,?_,?_,fun b o e=>e⟩
  ·intro i e he
   match i,he with
   | 0,he=>
     have he:some (aH.abs 0 [])=some e:=he;cases he;refine⟨0,0,by rw [hV'];rfl,[],rfl,?_,?_⟩
     ·show Fr 0 ((hF0.less Con.con).join Con.con);rw [aHY (hY.con 0 hF0 hFr0)];exact hFr0
     ·intro b;cases ec:Con.con b with
      | none=>exact .inr rfl
      | some o=>left;show hF0.less Con.con b=none;unfold PHeap.less;rw [ec]
   | 1,he=>
     have he:some (aH.cells [view])=some e:=he;cases he;obtain⟨b',k',e1,cs,T,e2,e3,rs,tail,e4,e5⟩:=h1 m (.cells [view]) hget_m;exact⟨b',k',by rw [hV'];exact e1,cs,T,e2,e3,rs,tail,e4,aG.free [view] rs (by unfold aHf;rw [hwv];rfl) e5⟩
   | i+2,he=>cases he
  ·intro i he
   match i,he with
   | 0,he=>cases he
   | 1,he=>cases he
   | i+2,he=>rfl
  ·have d01:(hF0.less Con.con).disj (hs m):=by
    intro b;cases e:hs m b with
    | none=>exact .inr rfl
    | some o=>
      left;have:=dG od0 e;unfold PHeap.less;rw [this];split<;>rfl
   intro i j hij
   match i,j,hij with
   | 0,0,h=>exact absurd rfl h
   | 0,1,_=>exact d01
   | 0,j+2,_=>exact aHc _
   | 1,0,_=>exact d01.symm
   | 1,1,h=>exact absurd rfl h
   | 1,j+2,_=>exact aHc _
   | i+2,_,_=>exact(aHc _).symm
  ·intro i b
   match i with
   | 0=>
     cases ec:Con.con b with
     | none=>exact .inr rfl
     | some o=>left;show hF0.less Con.con b=none;unfold PHeap.less;rw [ec]
   | 1=>
     rcases h4 m b with e | e
     ·exact .inl e
     ·right;cases ec:Con.con b with
      | none=>rfl
      | some o=>rw [h7 b o ec]at e;cases e
   | i+2=>exact .inl rfl
  ·intro i b o e
   match i,e with
   | 0,e=>exact hs0 b o (aHO e).1
   | 1,e=>exact os0 b o e
   | i+2,e=>cases e
  ·intro b o e;exact hold b o (h6 b o (h7 b o e))
 have hfV':bP V' ([some (.abs 0 []),some (.cells [view])]:aC Nat).length :=by
  intro i hi;have hi:2≤i:=hi;rw [hV'];show(if i=0 then _ else if i=1 then _ else _)=_
  rw [if_neg (by omega),if_neg (by omega)]
 have hcall:=hA l Fr hY V' Con.con W1 (#[.func (.yield l) #[] #[]]++ #[.pointer (some ⟨blk,0,none⟩)]) hIt hfV' ⟨_,_,rfl,⟨#[], #[],rfl,rfl,rfl⟩,_,_,rfl,⟨blk,k,by rw [hV'];exact hVm,rfl⟩,rfl⟩
 refine⟨l,[{target:=.collected D,args:= #[] }],W1,{target:=.fn (.func fA) #[.pointer (some ⟨blk,0,none⟩)],args:= #[.func (.yield l) #[] #[]] },W1,fA, #[.func (.yield l) #[] #[]]++ #[.pointer (some ⟨blk,0,none⟩)],W1,?_,?_,?_,?_,(fun e=>by cases e),?_⟩
 ·rw [←hW1,hrec,hl,hD];exact run_enterLoop_outer _ _ _ _ _
 ·simp only [resolve,hg];simp [go_sem]
 ·intro f' _;trivial
 ·simp [invoke,go_sem,fV hpl]
 ·refine callsIn_wide.2 (hcall.mono ?_);rintro e w' ⟨v,v',V2,h2',rfl,rfl,_,_,_,_,hI,hG⟩;obtain⟨hs2,i1,i2,i3,i4,i5,i6,i7⟩:=hI;obtain⟨b2,k2,_,bs2,_,hFrn,hdc2⟩:=i1 0 (.abs xs.length []) rfl;rw [hFr]at hFrn;obtain⟨V3,u1,u2,u3⟩:=hFrn
  have hsub:((hs2 0).join Con.con).sub w':=by
   intro b o e;rcases PHeap.join_some e with e | ⟨_,e⟩
   ·exact i5 0 b o e
   ·exact i6 b o e
  have hI3:Inv E.I V3 (toF (S xs.length)) ((rgH hR D l (rec .ready)).join .emp) w':=u3.inv (fun b=>.inl rfl) (fun b o e=>by cases e) hsub
  have hLw:w'.heap[l]? =some (.loop (rec .ready)):=by
   obtain⟨_,_,_,_,_,_,g6,_⟩:=hI3;exact g6 l _ (cL (w7 _ _ _ _))
  have hend:=run_endLoop (P:=P) hLw (by rw [hrec];intro e;cases e)
  have eex: {rec .ready with state:=.exhausted } =rec .exhausted :=by rw [hrec]
  rw [eex,show(rec .ready).pending =none by rw [hrec]]at hend
  refine⟨none,_,hend,?_⟩
  have hI4:Inv E.I V3 (toF (S xs.length)) ((rgH hR D l (rec .exhausted)).join .emp) (w'.putObj l (.loop (rec .exhausted))):=by
   refine hI3.put (cL (w7 _ _ _ _)) (cL (w7 _ _ _ _)) ?_ conl;intro b hb;unfold PHeap.join;rw [ZB hb]
  have hKw:(w'.putObj l (.loop (rec .exhausted))).heap[D]? =some (.deferred (some [])):=by
   obtain⟨_,_,_,_,_,_,g6,_⟩:=hI4;refine g6 D _ (cL ?_);unfold rgH;rw [if_neg (fun e=>hlD e.symm),if_pos rfl]
  rw [hd];refine hQ _ D V3 (fun i y h e=>u1 i y h (by rw [←vm_lt i h];exact e)) u2 hRD hKw ?_ (hG1.trans (hG.trans (bT.put hLw)))
  refine hI4.shrink ?_ ?_
  ·intro b o e;refine cL ?_;unfold rgH
   have hbl:b≠l:=by
    intro e2;subst e2;rw [if_neg hlD,hRl]at e;cases e
   rw [if_neg hbl];exact e
  ·intro b o e;show(if b=D then _ else _)=_
   rw [if_neg (fun e2=>by subst e2;rw [conD]at e;cases e)]
   exact h7 b o e
end
end Go.Sh
namespace Go.Sh
open Go Go.RowKit
variable [Con] {A:Type}
section
variable {P:Program} {E:n9 A P}
theorem LS{inl:sQ A}(hinl:kF E inl){ro:Option Nat}{ds:List Deferred}{nt:Nat}{hR:PHeap}{x y z b r c:Code}(hc:c=.seq x (.seq y z)){tm:List AVal}{h:aC A}{K:List AVal→aC A→Prop}(he:Ev (cI E inl nt c tm h K))
 {a:Act} {w:World} {V:Val} {Q:Exit→Act→World→Prop} (hi:Inv E.I V (toF h) hR w) (hf:bP V h.length) (ht:aG V tm a.tmps.toList) (hd:a.defers=ds)
 (hQ: ∀a' w',tE E ds V h.length hR w K a' w'→b.wpIn (FW ro) 0 P (Exit.then (r.wpIn (FW ro) 0 P Q) Q) a' w'):
 (Code.seq x (.seq y (.seq (.seq z b) r))).wpIn (FW ro) 0 P Q a w:=by
 subst hc;have he:=he.get;unfold cI at he;refine wpIn_seq (d9 hinl _ _ _ _ _ w V _ he hi hf ht hd ?_);rintro q1 w1 ⟨tm1,V1,g1,k1,k2,k3,k4,k5,k6,k7,k8⟩;unfold cI at k1;refine wpIn_seq (d9 hinl _ _ _ _ _ w1 V1 _ k1 k6 k4 k2 k8 ?_);rintro q2 w2 ⟨tm2,V2,g2,j1,j2,j3,j4,j5,j6,j7,j8⟩;refine wpIn_seq (wpIn_seq (d9 hinl _ _ _ _ _ w2 V2 _ j1 j6 j4 j2 j8 ?_));intro q3 w3 hT;exact hQ q3 w3 ((hT.chain j3 j5 j7).chain k3 k5 k7)
theorem LR{inl:sQ A}(hinl:kF E inl){ro:Option Nat}{ds:List Deferred}{nt:Nat}{hR:PHeap}{z r:Code}{tm:List AVal}{h:aC A}{K:List AVal→aC A→Prop}(he:Ev (cI E inl nt z tm h K))
 {a:Act} {w:World} {V:Val} {Q:Exit→Act→World→Prop} (hi:Inv E.I V (toF h) hR w) (hf:bP V h.length) (ht:aG V tm a.tmps.toList) (hd:a.defers=ds)
 (hQ: ∀a' w',tE E ds V h.length hR w K a' w'→r.wpIn (FW ro) 0 P Q a' w'):
 (Code.seq z r).wpIn (FW ro) 0 P Q a w:=by
 exact wpIn_seq (d9 hinl _ _ _ _ _ w V _ he.get hi hf ht hd hQ)
theorem FV{inl:sQ A}(hinl:kF E inl){fA:FuncId}{view:AVal}{xs:List Int}(hA:DA P fA view xs){nt m:Nat}{g:Operand}{p:Tmp}{assign body:Code}{tm:List AVal}{S:Nat→aC A}
 (hS: ∀j,(S j).length =m) (hwv:view.within []=true) (hSw:cX m (S 0)=true)
 (hb: ∀j x,xs[j]? =some x→Ev (cI E inl nt assign (tm.set p (.int .i64 x)) (S j) (fun tm1 h1=>cI E inl nt body tm1 h1 (fun _ h2=>aF E.I m (.bool true) h2 (.bool true) (S (j+1))))))
 {V:Val} {hR:PHeap} {w:World} {a:Act} {blk k:Nat} (hi:Inv E.I V (toF (S 0++ [some (.cells [view])])) hR w) (hf:bP V (m+1)) (hVm:V m=some (blk,k))
 (ht:aG V tm a.tmps.toList) (hwt:aHf (upto 0 m) tm=true) (hd:a.defers=[])
 (hg:a.eval g=.func (.func fA) #[] #[.pointer (some ⟨blk,0,none⟩)]) (hpl:lW P fA=true)
 {Q:Exit→Act→World→Prop}
 (hQ: ∀(w':World) (D:Nat) (V':Val),(∀l y,l<m→V l=some y→V' l=some y)→bP V' m→hR D=none→w'.heap[D]? =some (.deferred (some []))→
   Inv E.I V' (toF (S xs.length)) (fun b=>if b=D then some (.deferred (some []))else hR b) w'→bT w w'→Q .normal {a with defers:=[{target:=.collected D,args:= #[] }] } w'):
 (Code.rangeFunc g #[p] assign body).wpIn (FW none) 0 P Q a w:=
 wpIn_wide.2 (K5 hinl hA hS hwv hSw (fun j x hx=>(hb j x hx).get) hi hf hVm ht hwt hd hg hpl hQ)
end
end Go.Sh
namespace Go.Sh
open Go
variable {A:Type}
mutual
def AVal.noV:AVal→Bool
 | .func _ f c=>aHF f&&aHF c
 | .iface _ a=>AVal.noV a
 | .agg av=>aHF av
 | .tup av=>aHF av
 | .iview _ _=>false
 | .view _ _ _=>false
 | .cptr _=>false
 | .bool _=>true
 | .int _ _=>true
 | .str _=>true
 | .ptr _ _=>true
 | .slice _ _ _ _=>true
 | .map _=>true
 | .raw _=>true
 | .any =>true
 | .O =>true
 | .tslice _ _ _ _=>true
 | .tptr _ _ _ _=>true
 | .empty =>true
def aHF:List AVal→Bool
 | []=>true
 | a::av=>AVal.noV a&&aHF av
end
def Con.sub(c c':Con):Prop:= ∀b o,c.con b=some o→c'.con b=some o
mutual
theorem Rep.con{c c':Con}(h:Con.sub c c'){V:Val} : ∀(a:AVal) (v:Value),@Rep c V a v→ @Rep c' V a v
 | .bool _,_,r=>r
 | .int _ _,_,r=>r
 | .str _,_,r=>r
 | .ptr _ _,_,r=>r
 | .slice _ _ _ _,_,r=>r
 | .map _,_,r=>r
 | .func _ f g,_,⟨fs,cs,hv,r,s⟩=>⟨fs,cs,hv,aG.con h f _ r,aG.con h g _ s⟩
 | .iface _ a,_,⟨x,hv,r⟩=>⟨x,hv,Rep.con h a _ r⟩
 | .agg av,_,⟨cs,hv,r⟩=>⟨cs,hv,aG.con h av _ r⟩
 | .tup av,_,⟨cs,hv,r⟩=>⟨cs,hv,aG.con h av _ r⟩
 | .raw _,_,r=>r
 | .any,_,r=>r
 | .O,_,r=>r
 | .iview _ _,_,⟨base,cap,hv,hc,r⟩=>⟨base,cap,hv,hc,r.imp (fun⟨b,off,cs,T,fz,e,f,g⟩=>⟨b,off,cs,T,fz,e,h _ _ f,g⟩) id⟩
 | .view _ _ row,_,⟨base,cap,hv,hc,r⟩=>⟨base,cap,hv,hc,r.imp (fun⟨b,off,cs,T,fz,e,f,g⟩=>⟨b,off,cs,T,fz,e,h _ _ f,fun i hi=>⟨(g i hi).1,aG.con h (row i) _ (g i hi).2⟩⟩) id⟩
 | .tslice _ _ _ _,_,r=>r
 | .tptr _ _ _ _,_,r=>r
 | .empty,_,r=>r
 | .cptr av,_,⟨b,off,cs,T,fz,e,f,g⟩=>⟨b,off,cs,T,fz,e,h _ _ f,aG.con h av _ g⟩
theorem aG.con{c c':Con}(h:Con.sub c c'){V:Val} : ∀(a:List AVal) (v:List Value),@aG c V a v→ @aG c' V a v
 | [],_,r=>r
 | a::av,_,⟨v,vs,e,r,s⟩=>⟨v,vs,e,Rep.con h a v r,aG.con h av vs s⟩
end
mutual
theorem aHZ{c c':Con}{V:Val} : ∀(a:AVal) (v:Value),a.noV=true→ @Rep c V a v→ @Rep c' V a v
 | .bool _,_,_,r=>r
 | .int _ _,_,_,r=>r
 | .str _,_,_,r=>r
 | .ptr _ _,_,_,r=>r
 | .slice _ _ _ _,_,_,r=>r
 | .map _,_,_,r=>r
 | .func _ f g,_,n,⟨fs,cs,hv,r,s⟩=>⟨fs,cs,hv,aHK f _ (Bool.and_eq_true_iff.1 n).1 r,aHK g _ (Bool.and_eq_true_iff.1 n).2 s⟩
 | .iface _ a,_,n,⟨x,hv,r⟩=>⟨x,hv,aHZ a _ n r⟩
 | .agg av,_,n,⟨cs,hv,r⟩=>⟨cs,hv,aHK av _ n r⟩
 | .tup av,_,n,⟨cs,hv,r⟩=>⟨cs,hv,aHK av _ n r⟩
 | .raw _,_,_,r=>r
 | .any,_,_,r=>r
 | .O,_,_,r=>r
 | .iview _ _,_,n,_=>Bool.noConfusion (show false=true from n)
 | .view _ _ _,_,n,_=>Bool.noConfusion (show false=true from n)
 | .tslice _ _ _ _,_,_,r=>r
 | .tptr _ _ _ _,_,_,r=>r
 | .empty,_,_,r=>r
 | .cptr _,_,n,_=>Bool.noConfusion (show false=true from n)
theorem aHK{c c':Con}{V:Val} : ∀(a:List AVal) (v:List Value),aHF a=true→ @aG c V a v→ @aG c' V a v
 | [],_,_,r=>r
 | a::av,_,n,⟨v,vs,e,r,s⟩=>⟨v,vs,e,aHZ a v (Bool.and_eq_true_iff.1 n).1 r,aHK av vs (Bool.and_eq_true_iff.1 n).2 s⟩
end
def aH.noV:aH A→Bool
 | .cells vs=>aHF vs
 | _=>true
def cK(h:aC A):Bool:=h.all fun e=>match e with
 | some e=>e.noV
 | none=>true
theorem sF{h:aC A}(hn:cK h=true){l:Nat}{e:aH A}(he:aL h l=some e):e.noV=true:=by
 letI:Con:=⟨fun _=>none⟩
 have hl:=cZ he;unfold cK at hn;rw [List.all_eq_true]at hn
 have hm:(some e:Option (aH A))∈h:=by
  have:h[l]'hl=some e:=by
   have:=he;unfold aL at this;rw [gD',gE' hl]at this;exact this
  rw [←this];exact List.getElem_mem hl
 exact hn _ hm
theorem aHV{c c':Con}(h:Con.sub c c'){I:Itp A}{V:Val}{l:Nat}{e:aH A}{p:PHeap}(hi: @aH.interp c A I V l e p): @aH.interp c' A I V l e p:=by
 cases e with
 | cells vs=>
   obtain⟨b,k,hl,cs,T,e1,e2,rs,tail,e3,r⟩:=hi;exact⟨b,k,hl,cs,T,e1,e2,rs,tail,e3,aG.con h _ _ r⟩
 | ints c xs=>exact hi
 | abs t ps=>exact hi
 | tab ks rows=>exact hi
 | imap kk vc m=>exact hi
 | iter lm kk vc m left cur=>exact hi
theorem aHT{c c':Con}{I:Itp A}{V:Val}{l:Nat}{e:aH A}{p:PHeap}(hn:e.noV=true)(hi: @aH.interp c A I V l e p): @aH.interp c' A I V l e p:=by
 cases e with
 | cells vs=>
   obtain⟨b,k,hl,cs,T,e1,e2,rs,tail,e3,r⟩:=hi;exact⟨b,k,hl,cs,T,e1,e2,rs,tail,e3,aHK _ _ hn r⟩
 | ints c xs=>exact hi
 | abs t ps=>exact hi
 | tab ks rows=>exact hi
 | imap kk vc m=>exact hi
 | iter lm kk vc m left cur=>exact hi
section
variable {tb:A→Nat×aC A}
theorem B7(c c':Con)(htb: ∀t,cK (tb t).2=true)(n:Nat): ∀(t:A) (r:Nat×Nat) (bs:List (Nat×Nat)) (p:PHeap),@obN c A tb n t r bs p→ @obN c' A tb n t r bs p:=by
 induction n with
 | zero=>intro t r bs p h;exact h
 | succ n ih=>
   intro t r bs p h;obtain⟨V,hs,h1,h2,h3,⟨q1,q2,q3⟩,h5⟩:=h;refine⟨V,hs,h1,h2,h3,@qM.mk c' A (@obN c' A tb n) V (toF (tb t).2) hs (fun l e he=>?_) q2 q3,h5⟩;have h6:=q1 l e he;have h7: @aH.interp c' A (@obN c A tb n) V l e (hs l):=aHT (sF (htb t) he) h6;exact @aHD c' A _ _ ih V l e (hs l) h7
theorem PM(c c':Con)(htb: ∀t,cK (tb t).2=true): @obI c A tb= @obI c' A tb:=by
 funext t r bs p;exact propext ⟨fun⟨n,h⟩=>⟨n,B7 c c' htb n t r bs p h⟩,fun⟨n,h⟩=>⟨n,B7 c' c htb n t r bs p h⟩⟩
end
theorem Inv.split2 [Con]{I:Itp A}{V:Val}{h:bD A}{hR:PHeap}{w:World}(hi:Inv I V h hR w)(S:Nat→Bool):
 ∃hR',Inv I V (fun l=>if S l then h l else none) hR' w∧(∀b o,hR b=some o→hR' b=some o)∧(∀l e,S l=false→h l=some e→ ∃p,e.interp I V l p∧ ∀b o,p b=some o→hR' b=some o)∧
  ∀V' g w',V.le V'→Inv I V' g hR' w'→(∀l,S l=false→h l≠none→g l=none)→
   Inv I V' (fun l=>if S l=false∧h l≠none then h l else g l) hR w':=by
 obtain⟨hs,h1,h2,h3,h4,h5,h6⟩:=hi
 let rs:Nat→PHeap:=fun l=>if S l then .emp else hs l
 have rd: ∀l m,l≠m→(rs l).disj (rs m):=by
  intro l m hlm;show PHeap.disj (if S l then .emp else hs l) (if S m then .emp else hs m)
  split
  ·exact(aHc _).symm
  ·split
   ·exact aHc _
   ·exact h3 l m hlm
 have rhR: ∀b,aHh rs b=none∨hR b=none:=by
  intro b;cases e:aHh rs b with
  | none=>exact .inl rfl
  | some o=>
    obtain⟨l,hl⟩:=aHt e
    have:hs l b≠none:=by
     have hl':(if S l then PHeap.emp else hs l) b=some o:=hl
     split at hl'
     ·cases hl'
     ·rw [hl'];simp
    rcases h4 l b with d | d
    ·exact(this d).elim
    ·exact .inr d
 refine⟨PHeap.join hR (aHh rs),⟨fun l=>if S l then hs l else .emp,?_,?_,?_,?_,?_,?_⟩,fun b o e=>aHI e,?_,?_⟩
 ·intro l e he;cases hS:S l with
  | true=>simp [hS]at he⊢;exact h1 l e he
  | false=>simp [hS]at he
 ·intro l hl;cases hS:S l with
  | true=>simp [hS]at hl⊢;exact h2 l hl
  | false=>simp [hS]
 ·intro l m hlm;show PHeap.disj (if S l then hs l else .emp) (if S m then hs m else .emp)
  split
  ·split
   ·exact h3 l m hlm
   ·exact aHc _
  ·exact(aHc _).symm
 ·intro l b;show(if S l then hs l else PHeap.emp) b=none∨_
  cases hS:S l with
  | false=>exact .inl rfl
  | true=>
    simp only [if_true];cases e:hs l b with
    | none=>exact .inl rfl
    | some o=>
      refine .inr (PHeap.join_none.2 ⟨?_,aHQ fun m=>?_⟩)
      ·rcases h4 l b with d | d
       ·rw [e]at d;cases d
       ·exact d
      ·show(if S m then PHeap.emp else hs m) b=none
       by_cases hm:S m=true
       ·rw [if_pos hm];rfl
       ·rw [if_neg hm];have:l≠m:=fun e'=>hm (e'▸hS);rcases h3 l m this b with d | d
        ·rw [e]at d;cases d
        ·exact d
 ·intro l;show(if S l then hs l else PHeap.emp).sub w
  split
  ·exact h5 l
  ·exact aHC _
 ·refine⟨?_,fun b o e=>aHI (h6.2 b o e)⟩;intro b o e;unfold PHeap.join at e;cases er:hR b with
  | some p=>rw [er]at e;cases e;exact h6.1 b _ er
  | none=>
    rw [er]at e;obtain⟨l,hl⟩:=aHt e;have hl':(if S l then PHeap.emp else hs l) b=some o:=hl
    split at hl'
    ·cases hl'
    ·exact h5 l b o hl'
 ·intro l e hS he;refine⟨hs l,h1 l e he,fun b o eb=>?_⟩
  have e1:rs l b=some o:=by
   show(if S l then PHeap.emp else hs l) b=some o
   rw [if_neg (by rw [hS];simp)];exact eb
  have e2:=aHu rd e1;rcases rhR b with d | d
  ·rw [e2]at d;cases d
  ·rw [aHM d];exact e2
 ·intro V' g w' hV hg hz;obtain⟨gs,g1,g2,g3,g4,g5,g6⟩:=hg
  have rsub: ∀l,(rs l).sub w':=by
   intro l b o e;have:=aHu rd e;refine g6.1 b o ?_;rcases rhR b with d | d
   ·rw [this]at d;cases d
   ·rw [aHM d];exact this
  have hRsub:hR.sub w':=fun b o e=>g6.1 b o (aHI e)
  have grs: ∀l m,(gs l).disj (rs m):=by
   intro l m b;rcases g4 l b with d | d
   ·exact .inl d
   ·cases e:rs m b with
    | none=>exact .inr rfl
    | some o=>rw [(PHeap.join_none.1 d).2.symm,aHu rd e];exact .inr rfl
  have ghR: ∀l,(gs l).disj hR:=fun l b=>(g4 l b).imp id (fun d=>(PHeap.join_none.1 d).1)
  have rshR: ∀l,(rs l).disj hR:=by
   intro l;show PHeap.disj (if S l then .emp else hs l) hR
   split
   ·exact(aHc _).symm
   ·exact h4 l
  classical
  refine⟨fun l=>if S l=false∧h l≠none then rs l else gs l,?_,?_,?_,?_,?_,⟨hRsub,h6.2⟩⟩
  ·intro l e he
   by_cases hc:S l=false∧h l≠none
   ·simp only [if_pos hc]at he⊢;show e.interp I V' l (if S l then .emp else hs l)
    rw [if_neg (by simp [hc.1])]
    exact aHw hV (h1 l e he)
   ·simp only [if_neg hc]at he⊢;exact g1 l e he
  ·intro l hl
   by_cases hc:S l=false∧h l≠none
   ·simp only [if_pos hc]at hl;exact(hc.2 hl).elim
   ·simp only [if_neg hc]at hl⊢;exact g2 l hl
  ·intro l m hlm
   by_cases hc:S l=false∧h l≠none
   ·simp only [if_pos hc]
    by_cases hd:S m=false∧h m≠none
    ·simp only [if_pos hd];exact rd l m hlm
    ·simp only [if_neg hd];exact(grs m l).symm
   ·simp only [if_neg hc]
    by_cases hd:S m=false∧h m≠none
    ·simp only [if_pos hd];exact grs l m
    ·simp only [if_neg hd];exact g3 l m hlm
  ·intro l
   by_cases hc:S l=false∧h l≠none
   ·simp only [if_pos hc];exact rshR l
   ·simp only [if_neg hc];exact ghR l
  ·intro l
   by_cases hc:S l=false∧h l≠none
   ·simp only [if_pos hc];exact rsub l
   ·simp only [if_neg hc];exact g5 l
def thaw(S:Nat→Bool):Nat→aC A→aC A
 | _,[]=>[]
 | i,e::h=>(cond (S i) e none)::thaw S (i+1) h
def back(S:Nat→Bool):Nat→aC A→aC A→aC A
 | _,[],g=>g
 | i,e::h,[]=>e::h
 | i,e::h,x::g=>(cond (S i) x e)::back S (i+1) h g
theorem qH(S:Nat→Bool): ∀(h:aC A) (i:Nat),(thaw S i h).length =h.length
 | [],_=>rfl
 | e::h,i=>congrArg (· +1) (qH S h (i+1))
theorem CX(S:Nat→Bool): ∀(h:aC A) (i l:Nat),toF (thaw S i h) l=if S (i+l)then toF h l else none
 | [],i,l=>by
   show none=if _ then none else none
   split<;>rfl
 | e::h,i,0=>by
   show(cond (S i) e none)=if S (i+0)then e else none
   rw [Nat.add_zero];cases S i<;>rfl
 | e::h,i,l+1=>by
   show toF (thaw S (i+1) h) l=if S (i+(l+1))then toF h l else none
   rw [CX S h (i+1) l,show i+1+l=i+(l+1)from by omega]
theorem zU(S:Nat→Bool): ∀(h g:aC A) (i:Nat),h.length≤g.length→(back S i h g).length =g.length
 | [],g,_,_=>rfl
 | e::h,[],_,hl=>by simp at hl
 | e::h,x::g,i,hl=>congrArg (· +1) (zU S h g (i+1) (by simpa using hl))
theorem CV(S:Nat→Bool): ∀(h g:aC A) (i l:Nat),h.length≤g.length→(∀m,S (i+m)=false→toF h m=none→m<h.length→toF g m=none)→
 toF (back S i h g) l=if S (i+l)=false∧toF h l≠none then toF h l else toF g l
 | [],g,i,l,_,_=>by
   show toF g l=_;split
   ·rename_i hq;exact(hq.2 rfl).elim
   ·rfl
 | e::h,[],_,_,hl,_=>by simp at hl
 | e::h,x::g,i,0,hl,hz=>by
   show(cond (S i) x e)=if S (i+0)=false∧e≠none then e else x
   rw [Nat.add_zero];cases hS:S i with
   | true=>simp
   | false=>
     cases e with
     | some e=>simp
     | none=>
       have:=hz 0 (by rw [Nat.add_zero];exact hS) rfl (by simp)
       have this:x=none:=this;simp [this]
 | e::h,x::g,i,l+1,hl,hz=>by
   show toF (back S (i+1) h g) l=if S (i+(l+1))=false∧toF h l≠none then toF h l else toF g l
   rw [CV S h g (i+1) l (by simpa using hl) (fun m h1 h2 h3=>hz (m+1) (by rw [←h1];congr 1;omega) h2 (by simpa using h3)),show i+1+l=i+(l+1)from by omega]
structure aFD (S:Nat→Bool) (h:aC A) (K:AVal→aC A→Prop) (v:AVal) (g:aC A):Prop where
 hv:v.noV=true
 hg:cK g=true
 hz: ∀l,l<h.length→S l=false→aL g l=none
 hk:K v (back S 0 h g)
theorem aH5 [c:Con]{tb:A→Nat×aC A}(htb: ∀t,cK (tb t).2=true){P:Program}{f:FuncId}{args args2:List AVal}{h:aC A}{K:AVal→aC A→Prop}(S:Nat→Bool)
 (ha: ∀(c':Con),Con.sub c c'→ ∀(V:Val) (l:List Value),(∀m e,S m=false→aL h m=some e→ ∃p,@aH.interp c' A (@obI c' A tb) V m e p∧ ∀b o,p b=some o→c'.con b=some o)→ @aG c V args l→ @aG c' V args2 l)
 (h0: ∀c':Con,@aB c' A (@obI c' A tb) P f args2 (thaw S 0 h) (aFD S h K)):aB (obI tb) P f args h K:=by
 intro V hR w args' hi hf hr;obtain⟨hR',i1,i2,i3,i4⟩:=hi.split2 S
 let c':Con:=⟨hR'⟩
 have hcc:Con.sub c c':=by
  obtain⟨_,_,_,_,_,_,h6⟩:=hi;exact fun b o e=>i2 b o (h6.2 b o e)
 have hI: @obI c' A tb= @obI c A tb:=PM c' c htb
 have hT:(fun l=>if S l then toF h l else none)=toF (thaw S 0 h):=by
  funext l;rw [CX,Nat.zero_add]
 rw [hT]at i1
 have j1: @Inv c' A (@obI c' A tb) V (toF (thaw S 0 h)) hR' w:=by
  obtain⟨hs,k1,k2,k3,k4,k5,k6⟩:=i1;refine⟨hs,fun l e he=>?_,k2,k3,k4,k5,⟨k6.1,fun b o e=>e⟩⟩;rw [hI];exact aHV hcc (k1 l e he)
 have j2: @aG c' V args2 args'.toList:=by
  refine ha c' hcc V _ ?_ hr;intro m e hS he;obtain⟨p,p1,p2⟩:=i3 m e hS he;refine⟨p,?_,p2⟩;rw [hI];exact aHV hcc p1
 refine(h0 c' V hR' w args' j1 (by rw [qH];exact hf) j2).mono ?_
 rintro e w' ⟨v,v',V',g,⟨hv,hg,hz,hk⟩,rfl,q3,q4,q5,q6,q7,q8⟩;rw [qH]at q6;have hbl:=zU S h g 0 q6;refine⟨v,v',V',_,hk,rfl,aHZ v v' hv q3,q4,by rw [hbl];exact q5,by rw [hbl];exact q6,?_,q8⟩
 have j3: @Inv c A (@obI c A tb) V' (toF g) hR' w':=by
  obtain⟨hs,k1,k2,k3,k4,k5,k6⟩:=q7;refine⟨hs,fun l e he=>?_,k2,k3,k4,k5,⟨k6.1,hcc⟩⟩;rw [←hI];exact aHT (sF hg he) (k1 l e he)
 have j4:=i4 V' (toF g) w' q4 j3 (fun l hS hn=>hz l (by
  cases hq:toF h l with
  | none=>exact(hn hq).elim
  | some e=>exact cZ hq) hS)
 have:(fun l=>if S l=false∧toF h l≠none then toF h l else toF g l)=toF (back S 0 h g):=by
  funext l;rw [CV S h g 0 l q6 (fun m h1 _ h3=>hz m h3 (by rw [←h1,Nat.zero_add])),Nat.zero_add]
 rw [this]at j4;exact j4
theorem tC{c:Con}{I:Itp A}{V:Val}{l n k:Nat}{vs:List AVal}{p:PHeap}{v:Value}{row:Nat→List AVal}
 (hv: @Rep c V (.slice l 0 n k) v) (he: @aH.interp c A I V l (.cells vs) p) (hp: ∀b o,p b=some o→c.con b=some o)
 (hrow: ∀i,i<n→(row i).length =k∧ ∀rs,@aG c V ((vs.drop (i*k)).take k) rs→ @aG c (fun _=>none) (row i) rs) (hlen:n*k≤vs.length): @Rep c V (.view n k row) v:=by
 obtain⟨base,cap,e1,e2,e3⟩:=hv;refine⟨base,cap,e1,e2,?_⟩;rcases e3 with⟨b,kk,g1,g2,g3⟩ | ⟨g1,g2⟩
 ·left;obtain⟨b',k',a1,cs,T,a2,a3,rs,tail,a4,a5⟩:=he;rw [g1]at a1;cases a1;refine⟨b,0,cs,T,_,g2,hp b (.cells cs T) (by rw [a2];exact if_pos rfl),fun i hi=>⟨(hrow i hi).1,?_⟩⟩
  refine(hrow i hi).2 _ ?_;rw [Nat.zero_add,a4];have hrl:=aG.length a5
  have hle:i*k+k≤vs.length:=by
   have:(i+1)*k≤n*k:=Nat.mul_le_mul_right k hi;rw [Nat.add_mul,Nat.one_mul]at this;omega
  rw [List.drop_append_of_le_length (by omega),List.take_append_of_le_length (by rw [List.length_drop];omega)]
  exact aG.take (aG.drop a5 (i*k)) k
 ·right;omega
end Go.Sh
namespace Go.Sh
open Go
variable [Con] {A:Type} {tb:A→Nat×aC A} {P:Program}
def H3(P:Program)(t:TypeId)(off:Nat)(vs:List AVal):Option AVal:=match eB P t,bX P t with
 | some true,some n=>cond (Nat.ble (off+n) vs.length&&aHf [] ((vs.drop off).take n)) (some (.agg ((vs.drop off).take n))) none
 | some false,_=>match vs[off]? with
   | some v=>cond (v.within []) (some v) none
   | none=>none
 | _,_=>none
def uN(tb:A→Nat×aC A)(P:Program)(t:TypeId)(l off:Nat)(h:aC A):Option AVal:=
 match aL h l with
 | some (.abs o _)=>match tb o with
   | (_,some (.cells vs)::_)=>H3 P t off vs
   | _=>none
 | _=>none
theorem KM(t:TypeId)(l off:Nat)(h:aC A)(v:AVal)(hk:uN tb P t l off h=some v)(V:Val)(hR:PHeap)(w:World)(b k:Nat)(hi:Inv (obI tb) V (toF h) hR w)(hV:V l=some (b,k)): ∃v',(Instr.loadAt t (.pointer (some ⟨b,off,none⟩))).run P w=.ok v' w∧Rep V v v':=by
 unfold uN at hk;split at hk
 case h_2=>cases hk
 rename_i ob ps hl;split at hk
 case h_2=>cases hk
 rename_i np vs rest htb;obtain⟨hs,h1,h2,h3,h4,h5,h6⟩:=id hi;obtain⟨b',k',hV',bs,hlo,N,hob⟩:=h1 l _ hl;rw [hV]at hV';simp only [sI',pI']at hV';obtain⟨rfl,rfl⟩:=hV';cases N with
 | zero=>exact hob.elim
 | succ N=>
 obtain⟨Vg,gs,g1,g2,g3,⟨g4,g5,g6⟩,g7⟩:=hob;rw [htb]at g4;have hc:=g4 0 (.cells vs) rfl;obtain⟨b2,k2,c1,cs,T,c2,c3,rs,tail,c4,c5⟩:=hc;have hbk:b2=b:=by have c1':Vg 0=some (b2,k2):=c1;rw [g1]at c1';simp at c1';exact c1'.1.symm
 subst hbk
 have hcell:w.heap[b2]? =some (.cells cs T):=by
  refine h5 l b2 _ ?_;rw [g7];refine aHu g6 (l:=0) ?_;rw [c2];simp [PHeap.one]
 have hlen:=aG.length c5
 have drop1:off≤vs.length→cs.toList.drop off=rs.drop off++tail:=by
  intro hle;rw [c4,List.drop_append_of_le_length (by omega)]
 unfold H3 at hk;split at hk
 ·rename_i n e1 e2;cases hc1:(Nat.ble (off+n) vs.length&&aHf [] ((vs.drop off).take n))with
  | false=>rw [hc1]at hk;cases hk
  | true=>
  rw [hc1]at hk;simp only [cond_true,sI']at hk;subst hk;obtain⟨hc2,hc3⟩:=Bool.and_eq_true_iff.1 hc1;have hle:off+n≤vs.length:=Nat.le_of_ble_eq_true hc2;have hrep:aG V ((vs.drop off).take n) ((rs.drop off).take n):=aHy (pl:=[]) (fun i hi=>by cases hi) _ _ hc3 (aG.take (aG.drop c5 off) n)
  obtain⟨v',g8,g9⟩:=iD (P:=P) (V:=V) (t:=t) (av:=(vs.drop off).take n) (v:=.agg (((vs.drop off).take n).take n)) hcell (seg:=(rs.drop off).take n) (rest:=(rs.drop off).drop n++tail) (by rw [drop1 (by omega),←List.append_assoc,List.take_append_drop]) hrep (by
   unfold eW;rw [e1,e2];simp only;rw [if_pos (by rw [List.length_take,List.length_drop];omega)])
  rw [List.take_take,Nat.min_self]at g9;exact⟨v',g8,g9⟩
 ·rename_i e2 e1;split at hk
  case h_2=>cases hk
  rename_i v1 hv;cases hc1:v1.within []with
  | false=>rw [hc1]at hk;cases hk
  | true=>
  rw [hc1]at hk;simp only [cond_true,sI']at hk;subst hk;have hlt:off<vs.length:=(List.getElem?_eq_some_iff.1 hv).1;have hri:=aG.at c5 (i:=off) (a:=v1) (v:=rs[off]'(by omega)) hv (gE' (by omega))
  have hrep:Rep V v1 (rs[off]'(by omega)):=aHL (pl:=[]) (fun i hi=>by cases hi) _ _ hc1 hri
  obtain⟨v',g8,g9⟩:=iD (P:=P) (V:=V) (t:=t) (av:=[v1]) (v:=v1) hcell (seg:=[rs[off]'(by omega)]) (rest:=rs.drop (off+1)++tail) (by
   rw [drop1 (by omega),List.drop_eq_getElem_cons (by omega)];rfl) ⟨_,[],rfl,hrep,rfl⟩ (by unfold eW;rw [e1];rfl)
  exact⟨v',g8,g9⟩
 ·cases hk
end Go.Sh
namespace Go.Sh
open Go
variable [Con] {A:Type} {P:Program}
structure C9 (A:Type) where
 X:Type
 hd:Nat→X→AVal
 en:X→aH A
variable {E:C9 A}
def QH(E:C9 A):Nat→List E.X→List AVal
 | _,[]=>[]
 | k,x::r=>E.hd k x::QH E (k+1) r
def ZE(E:C9 A)(ws:List E.X):aC A:=ws.map fun x=>some (E.en x)
def aE7(E:C9 A)(ws:List E.X):aC A:=some (.cells (QH E 1 ws))::ZE E ws
def aFY(E:C9 A)(ws:List E.X)(i:Nat):AVal:=match ws[i]? with
 | some x=>E.hd 1 x
 | none=>.O
def aB0(E:C9 A)(ws:List E.X)(i:Nat):aC A:=some (.cells ((QH E 2 ws).set i (aFY E ws i)))::none::(ZE E ws).set i none
variable {tb:A→Nat×aC A}
structure aFG (tb:A→Nat×aC A) (E:C9 A) where
 row:List E.X→A
 hole:List E.X→Nat→A
 isRow:A→Option (List E.X)
 isHole:A→Option (List E.X×Nat)
 rd:aH A→Option E.X
 isRow_eq: ∀t r,isRow t=some r→t=row r
 isHole_eq: ∀t r i,isHole t=some (r,i)→t=hole r i
 rd_eq: ∀e x,rd e=some x→e=E.en x
 tbRow: ∀r,tb (row r)=(0,aE7 E r)
 tbHole: ∀r i,tb (hole r i)=(1,aB0 E r i)
 hdRep: ∀(V V':Val) (k k':Nat) (x:E.X) (v:Value),V k=V' k'→Rep V (E.hd k x) v→Rep V' (E.hd k' x) v
 enLoc: ∀(N:Nat) (V V':Val) (l l':Nat) (x:E.X) (p:PHeap),V l=V' l'→aH.interp (obN tb N) V l (E.en x) p→aH.interp (obN tb N) V' l' (E.en x) p
end Go.Sh
namespace Go.Sh
open Go
variable [Con] {A:Type} {P:Program} {E:C9 A} {tb:A→Nat×aC A}
end Go.Sh
namespace Go.Sh
open Go
variable [Con] {A:Type} {P:Program} {E:C9 A} {tb:A→Nat×aC A}
end Go.Sh
namespace Go.Sh
open Go
variable [Con] {A:Type} {P:Program} {E:C9 A} {tb:A→Nat×aC A}
structure aFF (tb:A→Nat×aC A) (E:C9 A) extends aFG tb E where
 get:List E.X→Nat→E.X
 get_eq: ∀ws i,i<ws.length→ws[i]? =some (get ws i)
 lab:AVal→Option Nat
 hdIs:Nat→E.X→AVal→Prop
 hdIs_eq: ∀q y v,hdIs q y v→v=E.hd q y
end Go.Sh
namespace Go.Sh
open Go
variable [Con] {A:Type} {P:Program} {E:C9 A} {tb:A→Nat×aC A}
end Go.Sh
