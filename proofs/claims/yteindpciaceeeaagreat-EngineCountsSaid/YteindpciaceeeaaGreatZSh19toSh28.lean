import Derived.Test.YteindpciaceeeaaGreatZSh14toSh18
set_option linter.all false
set_option maxHeartbeats 8000000
namespace Go.Sh
open Go Go.ChangeShapes Go.RowKit
def uA(P:Program):List TypeId→Option (List (Bool×List Shp))
 | []=>some []
 | t::ts=>match fZ P t,PX P 40 t,uA P ts with
   | some b,some r,some l=>if b=true∨r.length=1 then some ((b,r)::l)else none
   | _,_,_=>none
def DenA:List (Bool×List Shp)→Type
 | []=>Unit
 | (_,r)::l=>DenL r×DenA l
def rZ:(l:List (Bool×List Shp))→DenA l→List AVal
 | [],_=>[]
 | (true,r)::l,x=>.agg (i8 r x.1)::rZ l x.2
 | (false,r)::l,x=>(i8 r x.1).headD .O ::rZ l x.2
def okA:(l:List (Bool×List Shp))→DenA l→Prop
 | [],_=>True
 | (_,r)::l,x=>J2 r x.1∧okA l x.2
section
variable {H:Type} {enc:TypeId×Value→H} {P:Program} {w:World}
theorem yR{t:TypeId}{v:Value}{base:Nat}(hb:fZ P t=some false)(ho:Value.okWide P w .any base t v)(hs: ∃m r,PX P m t=some r):v.cells= #[v]:=by
 obtain⟨m,r,hs⟩:=hs;cases m with
 | zero=>simp [PX]at hs
 | succ m=>
   unfold PX at hs;unfold fZ at hb;unfold Value.okWide at ho;cases hu:P.underlying t with
   | none=>rw [hu]at hs;cases hs
   | some d=>
     rw [hu]at ho hb hs;cases v with
     | agg cs=>
       exfalso;cases d<;>simp at hb hs<;>simp [Cell.okWide,hu,Cell.ok]at ho
     | _=>rfl
theorem zR [Con](hcon: ∀b o,w.heap[b]? =some o→Con.con b=some o){base:Nat} : ∀(ts:List TypeId) (vs:List Value) (ds:List (DataW H)) (ps:List MemPlace) (l:List (Bool×List Shp)),
 DataW.TrodAll enc P w 0 (fun _=>true) true ts vs ds ps→(∀(j:Nat) t v,ts[j]? =some t→vs[j]? =some v→Value.okWide P w .any base t v)→uA P ts=some l→
 ∃x:DenA l,okA l x∧aG (fun _=>none) (rZ l x) vs
 | [],vs,ds,ps,l,h,_,hl=>by
   obtain⟨rfl,rfl,rfl⟩:=trodAll_nil h;simp [uA]at hl;subst hl;exact⟨(),trivial,by simp [rZ,aG]⟩
 | t::ts,vs,ds,ps,l,h,hv,hl=>by
   obtain⟨v,vs',d,ds',p,q,rfl,rfl,rfl,h1,h2⟩:=trodAll_cons h;simp only [uA]at hl;split at hl
   ·rename_i b r l' hb hr hl';split at hl
    case isFalse=>cases hl
    rename_i hc;simp at hl;subst hl;obtain⟨y,oy,ry⟩:=zR hcon ts vs' ds' q l' h2 (fun j t v a b=>hv (j+1) t v (by simpa using a) (by simpa using b)) hl'
    obtain⟨n,hn⟩:=h1;obtain⟨x,ox,rx⟩:=QH hcon 40 n t _ _ true r hn hr;have hok:=hv 0 t v rfl rfl;cases b with
    | true=>
      refine⟨(x,y),⟨ox,oy⟩,v,vs',rfl,?_,ry⟩
      have: ∃cs,v=.agg cs:=by
       unfold Value.okWide at hok;unfold fZ at hb;cases hu:P.underlying t with
       | none=>rw [hu]at hb;cases hb
       | some d=>
         rw [hu]at hok hb;cases d<;>simp at hb<;>(obtain⟨cs,e,_⟩:=hok;exact⟨cs,e⟩)
      obtain⟨cs,rfl⟩:=this;exact⟨cs,rfl,rx⟩
    | false=>
      refine⟨(x,y),⟨ox,oy⟩,v,vs',rfl,?_,ry⟩;rw [yR hb hok ⟨40,r,hr⟩]at rx;have hr1:r.length=1:=by simpa using hc
      show Rep _ ((i8 r x).headD .O) v
      match r,hr1,x,rx with
      | [s],_,x,rx=>
        obtain⟨u,us,e,r1,_⟩:=rx;simp only [lI']at e;rw [e.1];exact r1
   ·cases hl
theorem oX{W W':World}(hl:laidOutB P=true){sp:Nat→Bool} : ∀(ts:List TypeId) (vs:List Value) (ds:List (DataW H)) (ps:List MemPlace),
 (∀t∈ts,P.readableRec t=true∧t<P.types.size)→DataW.TrodAll enc P W 0 (fun _=>true) true ts vs ds ps→(∀p∈ps,W.sameAt W' p)→(∀p∈ps,sp p.block=true)→DataW.TrodAll enc P W' 0 sp true ts vs ds ps
 | [],vs,ds,ps,_,h,_,_=>by
   obtain⟨rfl,rfl,rfl⟩:=trodAll_nil h;exact trodAll_mk0
 | t::ts,vs,ds,ps,ht,h,hs,hp=>by
   obtain⟨v,vs',d,ds',p,q,rfl,rfl,rfl,h1,h2⟩:=trodAll_cons h
   exact trodAll_cons_mk (WideElems.Trod_stays hl (ht t (by simp)).1 (ht t (by simp)).2 h1 (fun x hx=>hs x (by simp [hx])) (fun x hx=>hp x (by simp [hx])))
    (oX hl ts vs' ds' q (fun u hu=>ht u (by simp [hu])) h2 (fun x hx=>hs x (by simp [hx])) (fun x hx=>hp x (by simp [hx])))
theorem nT{w:World}{sp:Nat→Bool}{b:Nat}{hd:Bool} : ∀(ts:List TypeId) (vs:List Value) (ds:List (DataW H)) (ps:List MemPlace),DataW.TrodAll enc P w b sp hd ts vs ds ps→ds.length=ts.length
 | [],vs,ds,ps,h=>by obtain⟨rfl,rfl,rfl⟩:=trodAll_nil h;rfl
 | t::ts,vs,ds,ps,h=>by
   obtain⟨v,vs',d,ds',p,q,rfl,rfl,rfl,h1,h2⟩:=trodAll_cons h;simp [nT ts vs' ds' q h2]
abbrev aHO(W:World):Con:=⟨fun b=>W.heap[b]?⟩
theorem KE{f:Func}{s:ChangeSpec}{apart fresh handsOn again:Bool}{W W':World}{args:Array Value}{v:Value}{ds gs:List (DataW H)}{before pa pv:List MemPlace}
 (hW:DataW.Whole enc P f.params.toList s.vars apart W args.toList ds gs before)
 (h1: ∀(b:Nat) (sp:Nat→Bool) (hd:Bool),DataW.TrodAll enc P W' b sp hd f.resultTypes.toList (v.resultList f.resultTypes.size) (s.fn H (ds++gs)).results [])
 (h2: ∀sp:Nat→Bool,(∀p∈before,sp p.block=true)→DataW.TrodAll enc P W' 0 sp true f.params.toList args.toList (s.fn H (ds++gs)).args pa)
 (h3: ∀sp:Nat→Bool,(∀p∈before,sp p.block=true)→DataW.TrodVars enc P W' sp s.vars (s.fn H (ds++gs)).vars pv)
 (hb:before=pa++pv) (hk:W.keptBut W' (· ∈before)) (hz: ∀a:Addr,a.block<W.heap.size→W'.frozen? a=W.frozen? a)
 (ho: ∀(j:Nat) (t:TypeId) (r:Value),f.resultTypes[j]? =some t→(v.resultList f.resultTypes.size)[j]? =some r→Value.okWide P W' .any 0 t r):
 s.post enc P f apart fresh handsOn again W args v W':=by
 have lt: ∀p∈before,p.block<W.heap.size:=fun p hp=>hW.lt p hp;refine⟨ds,gs,before,[],pa,pv,hW,h1 _ _ _,h2 _ (fun p hp=>by simpa using lt p hp),h3 _ (fun p hp=>by simpa using lt p hp),World.keptBut_mono (fun p hp=>⟨hp,.inr (List.mem_append.1 (hb▸hp))⟩) hk,fun _=>⟨ho,_,_,([]++pa)++pv,⟨[]++pa,pv,trodAll_append (h2 _ (fun _ _=>rfl)) (h1 _ _ _),h3 _ (fun _ _=>rfl),rfl,?_,?_⟩,?_⟩⟩
 ·intro b off hp;have hp':MemPlace.cell b off∈before:=by rw [hb];simpa using hp
  obtain⟨_,_,_,_,_,q,_⟩:=hW;rw [hz _ (lt _ hp')];exact q b off hp'
 ·intro ha;obtain⟨_,_,_,_,_,_,q⟩:=hW;have:=q ha;rw [hb]at this
  simpa using this
 ·intro p hp _;rw [hb]
  simpa using hp
theorem OL{A:Type}{F:Func}{f:FuncId}{s:ChangeSpec}{tb:TypeId}{l:List (Bool×List Shp)}(hl:laidOutB P=true)
 (hpar:F.params.toList.all (fun t=>P.readableRec t&&decide (t<P.types.size))=true) (hsh:uA P F.params.toList=some l) (hv:s.vars=[]) (hres:F.resultTypes= #[tb]) (htb:P.underlying tb=some .bool)
 (hfn: ∀ds:List (DataW H),ds.length=F.params.toList.length→s.fn H ds= {results:=[.lit (.bool true)],args:=ds})
 (law: ∀W0:World,∃I:Itp A,∀x:DenA l,okA l x→ @aB (aHO W0) A I P f (rZ l x) ([]:aC A) (fun v _=>v=.bool true))
 (W:World) (base:Nat) (args:Array Value) (ds gs:List (DataW H)) (before:List MemPlace)
 (hval: ∀(j:Nat) t v,F.params[j]? =some t→args[j]? =some v→Value.okWide P W .any base t v)
 (hW:DataW.Whole enc P F.params.toList s.vars false W args.toList ds gs before):
 Calls P f args W fun e W'=> ∃v,e=.returned v∧s.post enc P F false true false false W args v W':=by
 have hW':=hW;obtain⟨p,q,hA,hV,rfl,hfz,hnd⟩:=hW;rw [hv]at hV;obtain⟨rfl,rfl⟩:=trodVars_none hV;obtain⟨I,hI⟩:=law W
 letI:Con:=aHO W
 obtain⟨x,ox,rx⟩:=zR (enc:=enc) (P:=P) (w:=W) (base:=base) (fun b o h=>h) F.params.toList args.toList ds p l hA (fun j t v a b=>hval j t v (by simpa using a) (by simpa using b)) hsh
 have hlen:=nT _ _ _ _ hA;refine(aB.law (hI x ox) rx W (fun b o h=>h)).mono ?_;rintro e W' ⟨rfl,hg⟩
 have hsame: ∀p'∈p,W.sameAt W' p':=by
  intro p' hp;have hlt:p'.block<W.heap.size:=hW'.lt p' (by simpa using hp)
  have hk:=hg.1.2.2 p'.block hlt;cases p' with
  | cell b off=>
    show W'.cell? ⟨b,off,none⟩=W.cell? ⟨b,off,none⟩;simp only [MemPlace.block]at hk hlt;unfold World.cell?;simp only;cases h1:W.heap[b]? with
    | none=>rw [Array.getElem?_eq_getElem hlt]at h1;cases h1
    | some o=>
      rw [h1]at hk;cases h2:W'.heap[b]? with
      | none=>rw [h2]at hk;cases o<;>simp at hk
      | some o'=>
        rw [h2]at hk;cases o<;>cases o'<;>simp at hk<;>first | rfl | skip
        rename_i c t fr c' t' fr';obtain⟨_,_,hsz,hc⟩:=hk;exact hc off
  | map b=>
    show W'.heap[b]? =W.heap[b]?;simp only [MemPlace.block]at hk hlt;cases h1:W.heap[b]? with
    | none=>rw [Array.getElem?_eq_getElem hlt]at h1;cases h1
    | some o=>
      rw [h1]at hk;cases h2:W'.heap[b]? with
      | none=>rw [h2]at hk;cases o<;>simp at hk
      | some o'=>
        rw [h2]at hk;cases o<;>cases o'<;>simp at hk<;>first | (simp_all;done) | skip
        rename_i c t fr c' t' fr';obtain⟨rfl,rfl,hsz,hc⟩:=hk
        have:c=c':=by
         apply Array.ext_getElem?;intro i;exact(hc i).symm
        rw [this]
 have hpar': ∀t∈F.params.toList,P.readableRec t=true∧t<P.types.size:=by
  intro t ht;have:=List.all_eq_true.1 hpar t ht
  simpa using this
 have hf0:s.fn H (ds++ [])= {results:=[.lit (.bool true)],args:=ds} :=by rw [List.append_nil];exact hfn ds hlen
 refine⟨_,rfl,KE (pa:=p) (pv:=[]) hW' ?_ ?_ ?_ rfl (World.keptBut_mono (fun _ h=>h.elim) hg.1) hg.2.1 ?_⟩
 ·intro b sp hd;rw [hf0,hres];exact trodAll_cons_mk (shut_bool htb _) trodAll_mk0
 ·intro sp hsp;rw [hf0];exact oX hl _ _ _ _ hpar' hA hsame (fun p' hp=>hsp p' (by simpa using hp))
 ·intro sp _;rw [hf0,hv];rfl
 ·exact ok_one hres rfl (okWide_bool_mk htb _)
end
end Go.Sh
namespace Go.Sh
open Go
variable [Con] {A:Type} (tb:A→Nat×aC A)
structure qZ (I:Itp A) (V:Val) (h:bH A) (hs:Nat→PHeap):Prop where
 ent: ∀l e,h l=some e→e.interp I V l (hs l)
 non: ∀l,h l=none→hs l=.emp
 dis: ∀l m,l≠m→(hs l).disj (hs m)
def obN:Nat→Itp A
 | 0,_,_,_,_=>False
 | n+1,t,r,bs,p=> ∃V hs,V 0=some r∧(∀i,i<(tb t).1→V (1+i)=bs[i]?)∧bs.length=(tb t).1∧qZ (obN n) V (toF (tb t).2) hs∧p=aGT hs
def obI:Itp A:=fun t r bs p=> ∃n,obN tb n t r bs p
theorem aHc{I I':Itp A}(hI: ∀t r bs p,I t r bs p→I' t r bs p){V:Val}{l:Nat}{e:aH A}{p:PHeap}(h:e.interp I V l p):e.interp I' V l p:=by
 cases e with
 | abs t ps=>
   obtain⟨b,k,h1,bs,h2,h3⟩:=h;exact⟨b,k,h1,bs,h2,hI _ _ _ _ h3⟩
 | cells vs=>exact h
 | ints c xs=>exact h
 | tab ks rows=>exact h
 | imap kk vc m=>exact h
theorem qZ.mono_I{I I':Itp A}(hI: ∀t r bs p,I t r bs p→I' t r bs p){V:Val}{h:bH A}{hs:Nat→PHeap}(q:qZ I V h hs):qZ I' V h hs:=
 ⟨fun l e he=>aHc hI (q.ent l e he),q.non,q.dis⟩
theorem CN: ∀(n:Nat) (t:A) (r:Nat×Nat) (bs:List (Nat×Nat)) (p:PHeap),obN tb n t r bs p→obN tb (n+1) t r bs p
 | 0,_,_,_,_,h=>h.elim
 | n+1,t,r,bs,p,⟨V,hs,h1,h2,h3,h4,h5⟩=>⟨V,hs,h1,h2,h3,h4.mono_I (CN n),h5⟩
theorem yF{n m:Nat}(hnm:n≤m){t:A}{r:Nat×Nat}{bs:List (Nat×Nat)}{p:PHeap}(h:obN tb n t r bs p):obN tb m t r bs p:=by
 induction hnm with
 | refl=>exact h
 | step _ ih=>exact CN tb _ _ _ _ _ ih
theorem AA{V:Val}{hs:Nat→PHeap} : ∀(g:aC A) (k:Nat),(∀l e,aO g l=some e→e.interp (obI tb) V (k+l) (hs (k+l)))→ ∃n,∀l e,aO g l=some e→e.interp (obN tb n) V (k+l) (hs (k+l))
 | [],k,_=>⟨0,fun l e h=>by simp [aO]at h⟩
 | x::g,k,h=>by
   obtain⟨n,hn⟩:=AA g (k+1) (fun l e he=>by
    have:=h (l+1) e (by simpa [aO]using he)
    rw [show k+(l+1)=k+1+l from by omega]at this
    exact this)
   have h0: ∃m,∀e,x=some e→e.interp (obN tb m) V k (hs k):=by
    cases x with
    | none=>exact⟨0,fun e he=>by cases he⟩
    | some e=>
      have:=h 0 e rfl;cases e with
      | abs t ps=>
        obtain⟨b,q,h1,bs,h2,m,h3⟩:=this;exact⟨m,fun e he=>by cases he;exact⟨b,q,h1,bs,h2,h3⟩⟩
      | cells vs=>exact⟨0,fun e he=>by cases he;exact this⟩
      | ints c xs=>exact⟨0,fun e he=>by cases he;exact this⟩
      | tab ks rows=>exact⟨0,fun e he=>by cases he;exact this⟩
      | imap kk vc mm=>exact⟨0,fun e he=>by cases he;exact this⟩
   obtain⟨m,hm⟩:=h0;refine⟨max n m,fun l e he=>?_⟩;cases l with
   | zero=>
     have hx:x=some e:=by simpa [aO]using he
     exact aHc (fun t r bs p=>yF tb (Nat.le_max_right n m)) (hm e hx)
   | succ l=>
     have:=aHc (fun t r bs p=>yF tb (Nat.le_max_left n m)) (hn l e (by simpa [aO]using he))
     rw [show k+1+l=k+(l+1)from by omega]at this
     exact this
theorem aHI{I:Itp A}{V V':Val}{pl:List Nat}(hV: ∀l,pl.elem l=true→V l=V' l){l:Nat}{e:aH A}{p:PHeap}(q1:V l=V' l)(q2:e.within pl=true)(hi:e.interp I V l p):e.interp I V' l p:=by
 cases e with
 | cells vs=>
   obtain⟨b,k,hl,cs,T,e1,e2,rs,tail,e3,r⟩:=hi;exact⟨b,k,by rw [←q1];exact hl,cs,T,e1,e2,rs,tail,e3,aG7 hV _ _ q2 r⟩
 | ints c xs=>
   rcases hi with⟨e1,e2,b,hl⟩ | ⟨b,k,hl,r⟩
   ·exact .inl ⟨e1,e2,b,by rw [←q1];exact hl⟩
   ·exact .inr ⟨b,k,by rw [←q1];exact hl,r⟩
 | abs t ps=>
   obtain⟨b,k,hl,bs,hb,r⟩:=hi;exact⟨b,k,by rw [←q1];exact hl,bs,fY.congr (fun m hm=>hV m (rB q2 m hm)) hb,r⟩
 | tab ks rows=>
   rcases hi with⟨e1,e2,b,hl⟩ | ⟨b,k,hl,r⟩
   ·exact .inl ⟨e1,e2,b,by rw [←q1];exact hl⟩
   ·exact .inr ⟨b,k,by rw [←q1];exact hl,r⟩
 | imap kk vc m=>
   obtain⟨b,k,hl,r⟩:=hi;exact⟨b,k,by rw [←q1];exact hl,r⟩
theorem jL{n l:Nat} :(upto 0 n).elem l=true↔l<n:=by rw [iQ];omega
theorem fY.len{V:Val} : ∀ {ls:List Nat} {bs:List (Nat×Nat)},fY V ls bs→bs.length=ls.length
 | [],_,e=>by rw [e];rfl
 | _::_,_,⟨x,r,h1,h2,h3⟩=>by rw [h2];simp [fY.len h3]
theorem fY.get{V:Val} : ∀ {ls:List Nat} {bs:List (Nat×Nat)},fY V ls bs→ ∀i,i<ls.length→V (ls.getD i 0)=bs[i]?
 | [],_,_,i,hi=>by cases hi
 | l::ls,_,⟨x,r,h1,h2,h3⟩,i,hi=>by
   subst h2;cases i with
   | zero=>simpa using h1
   | succ i=>simpa using fY.get h3 i (by simpa using hi)
theorem fY.mk{V:Val} : ∀ {ls:List Nat},(∀l∈ls,∃x,V l=some x)→ ∃bs,fY V ls bs
 | [],_=>⟨[],rfl⟩
 | l::ls,h=>by
   obtain⟨x,hx⟩:=h l List.mem_cons_self;obtain⟨r,hr⟩:=fY.mk (fun m hm=>h m (List.mem_cons_of_mem _ hm));exact⟨x::r,x,r,hx,rfl,hr⟩
def unI(l:Nat)(ps:List Nat)(n np:Nat)(i:Nat):Nat:=match i with
 | 0=>l
 | j+1=>if j<np then ps.getD j 0 else n+(j - np)
def aM(h:aC A)(l np:Nat)(g:aC A)(ps:List Nat):aC A:=
 h.set l ((aO g 0).map (aH.ren (unI l ps h.length np)))++(g.drop (1+np)).map (Option.map (aH.ren (unI l ps h.length np)))
theorem gA(h:aC A)(l np:Nat)(g:aC A)(ps:List Nat):(aM h l np g ps).length =h.length+(g.length - (1+np)):=by
 unfold aM;simp
def obOk(np:Nat)(g:aC A):Bool:=dE g.length g&&Nat.ble (1+np) g.length&&(g.drop 1 |>.take np).all (·.isNone)&&(aO g 0).isSome
theorem wX{np:Nat}{g:aC A}(h:obOk np g=true):dE g.length g=true∧1+np≤g.length∧(∀i,i<np→aO g (1+i)=none)∧ ∃e,aO g 0=some e:=by
 unfold obOk at h;simp only [Bool.and_eq_true]at h;obtain⟨⟨⟨h1,h2⟩,h3⟩,h4⟩:=h;refine⟨h1,Nat.le_of_ble_eq_true h2,?_,Option.isSome_iff_exists.1 h4⟩;intro i hi;have hlen:=Nat.le_of_ble_eq_true h2;rw [List.all_eq_true]at h3
 have hx:=h3 (aO g (1+i)) (by
  rw [List.mem_iff_getElem?];refine⟨i,?_⟩;rw [List.getElem?_take,if_pos hi,List.getElem?_drop];simp only [aO,gD'];rw [gE' (by omega)]
  rfl)
 simpa using hx
theorem xJ{g:aC A}(h:dE g.length g=true){l:Nat}{e:aH A}(he:aO g l=some e):e.within (upto 0 g.length)=true:=by
 unfold dE at h;rw [List.all_eq_true]at h;simp only [aO,gD']at he
 have hl:l<g.length:=by
  cases Nat.lt_or_ge l g.length with
  | inl q=>exact q
  | inr q=>rw [List.getElem?_eq_none q]at he;cases he
 rw [gE' hl]at he;have:=h (g[l]) (List.getElem_mem hl);simp only [Option.getD_some]at he;rw [he]at this;exact this
theorem mG{h:aC A}{l np:Nat}{g:aC A}{ps:List Nat}(hl:l<h.length):aO (aM h l np g ps) l=(aO g 0).map (aH.ren (unI l ps h.length np)):=by
 unfold aM;rw [cW (by simpa using hl)]
 simp only [aO,gD'];rw [List.getElem?_set_self hl];rfl
theorem fW{h:aC A}{l np:Nat}{g:aC A}{ps:List Nat}{m:Nat}(hm:m<h.length)(hlm:m≠l):aO (aM h l np g ps) m=aO h m:=by
 unfold aM;rw [cW (by simpa using hm)]
 simp only [aO,gD'];rw [List.getElem?_set_ne (fun e=>hlm e.symm)]
theorem kY{h:aC A}{l np:Nat}{g:aC A}{ps:List Nat}{j:Nat} :aO (aM h l np g ps) (h.length+j)=(aO g (1+np+j)).map (aH.ren (unI l ps h.length np)):=by
 unfold aM;simp only [aO,gD'];rw [List.getElem?_append_right (by simp),List.length_set,List.getElem?_map,List.getElem?_drop,Nat.add_sub_cancel_left]
 cases g[1+np+j]? <;>rfl
theorem Inv.unpack{V:Val}{h:aC A}{hR:PHeap}{w:World}{t:A}{l np:Nat}{g:aC A}{ps:List Nat}(hi:Inv (obI tb) V (toF h) hR w)(hf:bY V h.length)(hl:aO h l=some (.abs t ps))(ht:tb t=(np,g))(ho:obOk np g=true)(hnp:ps.length=np):
 ∃V',V.le V'∧bY V' (aM h l np g ps).length ∧Inv (obI tb) V' (toF (aM h l np g ps)) hR w:=by
 obtain⟨o1,o2,o3,e0,o4⟩:=wX ho;have hll:=dH hl;obtain⟨hs,h1,h2,h3,h4,h5,h6⟩:=hi;obtain⟨b,k,hV,bs,hlo,n,hob⟩:=h1 l _ hl;cases n with
 | zero=>exact hob.elim
 | succ n=>
 obtain⟨Vg,gs,g1,g2,g3,⟨g4,g5,g6⟩,g7⟩:=hob;rw [ht]at g2 g3 g4 g5;dsimp only at g2 g3 g4 g5
 let V':Val:=fun m=>if m<h.length then V m else if m<(aM h l np g ps).length then Vg (m - h.length+1+np)else none
 have hlen:=gA h l np g ps
 have hle:V.le V':=by
  intro m x hm
  have hlt:m<h.length:=by
   cases Nat.lt_or_ge m h.length with
   | inl q=>exact q
   | inr q=>rw [hf m q]at hm;cases hm
  show(if m<h.length then V m else _)=some x
  rw [if_pos hlt];exact hm
 have hVι: ∀i,(upto 0 g.length).elem i=true→Vg i=V' (unI l ps h.length np i):=by
  intro i hi;rw [jL]at hi;cases i with
  | zero=>
    show _=V' l;rw [hle l _ hV];exact g1
  | succ j=>
    show _=V' (if j<np then ps.getD j 0 else h.length+(j - np))
    by_cases hj:j<np
    ·rw [if_pos hj];have hg:=hlo.get j (by omega)
     have hj2:j<bs.length:=by omega
     rw [gE' hj2]at hg;rw [hle _ _ hg,Nat.add_comm,g2 j hj,gE' hj2]
    ·rw [if_neg hj];show _=if h.length+(j - np)<h.length then _ else _
     rw [if_neg (by omega),if_pos (by omega)]
     congr 1;omega
 have hent: ∀i e,aO g i=some e→(e.ren (unI l ps h.length np)).interp (obI tb) V' (unI l ps h.length np i) (gs i):=by
  intro i e he;refine aH.interp_ren.2 ?_;have q1:=aHc (I':=(obI tb)) (fun t r bs p hh=>⟨n,hh⟩) (g4 i e he);exact aHI hVι (hVι i (jL.2 (dH he))) (xJ o1 he) q1
 have hsub: ∀i b' o,gs i b'=some o→hs l b'=some o:=by
  intro i b' o hh;rw [g7];exact aG4 g6 hh
 let hs':Nat→PHeap:=fun m=>if m<h.length then(if m=l then gs 0 else hs m)else gs (m - h.length+1+np)
 refine⟨V',hle,?_,hs',?_,?_,?_,?_,?_,h6⟩
 ·intro m hm;show(if m<h.length then _ else _)=none
  rw [if_neg (by omega),if_neg (by omega)]
 ·intro m e he
  by_cases hm:m<h.length
  ·by_cases hml:m=l
   ·subst hml;have he':aO (aM h m np g ps) m=some e:=he;rw [mG hm,o4]at he';simp only [Option.map_some,sI']at he';show e.interp (obI tb) V' m (if m<h.length then(if m=m then gs 0 else hs m)else _)
    rw [if_pos hm,if_pos rfl,←he'];exact hent 0 e0 o4
   ·have he':aO (aM h l np g ps) m=some e:=he;rw [fW hm hml]at he';show e.interp (obI tb) V' m (if m<h.length then(if m=l then gs 0 else hs m)else _)
    rw [if_pos hm,if_neg hml];exact aG5 hle (h1 m e he')
  ·have he':aO (aM h l np g ps) m=some e:=he;have hm2:m=h.length+(m - h.length):=by omega
   rw [hm2,kY]at he';cases hq:aO g (1+np+(m - h.length))with
   | none=>rw [hq]at he';cases he'
   | some e1=>
     rw [hq]at he';simp only [Option.map_some,sI']at he';have:=hent _ e1 hq;show e.interp (obI tb) V' m (if m<h.length then _ else gs (m - h.length+1+np))
     rw [if_neg hm,←he']
     have e3:unI l ps h.length np (1+np+(m - h.length))=m:=by
      have:1+np+(m - h.length)=(np+(m - h.length))+1:=by omega
      rw [this];show(if np+(m - h.length)<np then _ else h.length+(np+(m - h.length) - np))=m
      rw [if_neg (by omega)];omega
     rw [e3]at this;have e4:m - h.length+1+np=1+np+(m - h.length):=by omega
     rw [e4];exact this
 ·intro m he
  by_cases hm:m<h.length
  ·by_cases hml:m=l
   ·subst hml;have he':aO (aM h m np g ps) m=none:=he;rw [mG hm,o4]at he';cases he'
   ·have he':aO (aM h l np g ps) m=none:=he;rw [fW hm hml]at he';show(if m<h.length then(if m=l then gs 0 else hs m)else _)=_
    rw [if_pos hm,if_neg hml];exact h2 m he'
  ·have he':aO (aM h l np g ps) m=none:=he;have hm2:m=h.length+(m - h.length):=by omega
   rw [hm2,kY]at he';show(if m<h.length then _ else gs (m - h.length+1+np))=_
   rw [if_neg hm];have e4:m - h.length+1+np=1+np+(m - h.length):=by omega
   rw [e4];refine g5 _ ?_;cases hq:aO g (1+np+(m - h.length))with
   | none=>exact hq
   | some e1=>rw [hq]at he';cases he'
 ·intro m m' hmm;intro b';show(if m<h.length then(if m=l then gs 0 else hs m)else gs (m - h.length+1+np)) b'=none∨(if m'<h.length then(if m'=l then gs 0 else hs m')else gs (m' - h.length+1+np)) b'=none
  have out: ∀i m,m≠l→gs i b'=none∨hs m b'=none:=by
   intro i m hml;cases hq:gs i b' with
   | none=>exact .inl rfl
   | some o=>
     right;have:=hsub i b' o hq;rcases h3 l m (fun e=>hml e.symm) b' with q | q
     ·rw [q]at this;cases this
     ·exact q
  by_cases hm:m<h.length
  ·by_cases hm':m'<h.length
   ·rw [if_pos hm,if_pos hm']
    by_cases hml:m=l
    ·have hml':m'≠l:=fun e=>hmm (hml.trans e.symm);rw [if_pos hml,if_neg hml'];exact out 0 m' hml'
    ·rw [if_neg hml]
     by_cases hml':m'=l
     ·rw [if_pos hml'];exact(out 0 m hml).symm
     ·rw [if_neg hml'];exact h3 m m' hmm b'
   ·rw [if_pos hm,if_neg hm']
    by_cases hml:m=l
    ·rw [if_pos hml];exact g6 0 _ (by omega) b'
    ·rw [if_neg hml];exact(out _ m hml).symm
  ·by_cases hm':m'<h.length
   ·rw [if_neg hm,if_pos hm']
    by_cases hml':m'=l
    ·rw [if_pos hml'];exact g6 _ 0 (by omega) b'
    ·rw [if_neg hml'];exact out _ m' hml'
   ·rw [if_neg hm,if_neg hm'];exact g6 _ _ (by omega) b'
 ·intro m b'
  have out: ∀i,gs i b'=none∨hR b'=none:=by
   intro i;cases hq:gs i b' with
   | none=>exact .inl rfl
   | some o=>
     right;have:=hsub i b' o hq;rcases h4 l b' with q | q
     ·rw [q]at this;cases this
     ·exact q
  show(if m<h.length then(if m=l then gs 0 else hs m)else gs (m - h.length+1+np)) b'=none∨hR b'=none
  split
  ·split
   ·exact out 0
   ·exact h4 m b'
  ·exact out _
 ·intro m b' o hq;have hq':(if m<h.length then(if m=l then gs 0 else hs m)else gs (m - h.length+1+np)) b'=some o:=hq
  split at hq'
  ·split at hq'
   ·exact h5 l b' o (hsub 0 b' o hq')
   ·exact h5 m b' o hq'
  ·exact h5 l b' o (hsub _ b' o hq')
def rQ(h:aC A)(l:Nat)(ps:List Nat):Bool:=dE h.length h&&ps.all (fun p=>Nat.blt p h.length&& !Nat.beq p l&&(aO h p).isSome)
theorem Inv.pack{V:Val}{h:aC A}{hR:PHeap}{w:World}{t:A}{l np:Nat}{g:aC A}{ps:List Nat}(hi:Inv (obI tb) V (toF (aM h l np g ps)) hR w)(hl:aO h l=some (.abs t ps))(ht:tb t=(np,g))(ho:obOk np g=true)(hnp:ps.length=np)(hp:rQ h l ps=true):
 Inv (obI tb) (fun m=>if m<h.length then V m else none) (toF h) hR w:=by
 obtain⟨o1,o2,o3,e0,o4⟩:=wX ho;have hll:=dH hl;unfold rQ at hp;rw [Bool.and_eq_true,List.all_eq_true]at hp;obtain⟨p1,p2⟩:=hp;have hdom: ∀m e,aO (aM h l np g ps) m=some e→ ∃x,V m=some x:=fun m e he=>hi.dom he;obtain⟨hs,h1,h2,h3,h4,h5,h6⟩:=hi;have hlen:=gA h l np g ps
 have hps: ∀p∈ps,p<h.length∧p≠l∧ ∃x,V p=some x:=by
  intro p hp;have:=p2 p hp;simp only [Bool.and_eq_true,Bool.not_eq_true',Nat.blt_eq]at this;obtain⟨⟨q1,q2⟩,q3⟩:=this;have q2':p≠l:=by intro e;rw [e]at q2;simp at q2
  obtain⟨e,he⟩:=Option.isSome_iff_exists.1 q3;exact⟨q1,q2',hdom p e (by rw [fW q1 q2'];exact he)⟩
 have hV0: ∃x,V l=some x:=hdom l (e0.ren (unI l ps h.length np)) (by rw [mG hll,o4];rfl)
 obtain⟨⟨b,k⟩,hVl⟩:=hV0;obtain⟨bs,hbs⟩:=fY.mk (V:=V) (ls:=ps) (fun p hp=>(hps p hp).2.2)
 let gs:Nat→PHeap:=fun j=>match j with
  | 0=>hs l
  | i+1=>if i<np then .emp else hs (h.length+(i - np))
 have gs_sub: ∀j,gs j=.emp ∨ ∃m,(m=l∨h.length≤m)∧gs j=hs m:=by
  intro j;cases j with
  | zero=>exact .inr ⟨l,.inl rfl,rfl⟩
  | succ i=>
    show(if i<np then PHeap.emp else hs (h.length+(i - np)))=.emp ∨_
    by_cases hi:i<np
    ·rw [if_pos hi];exact .inl rfl
    ·right;refine⟨h.length+(i - np),.inr (by omega),?_⟩
     show(if i<np then PHeap.emp else hs (h.length+(i - np)))=_
     rw [if_neg hi]
 have gdis: ∀i j,i≠j→(gs i).disj (gs j):=by
  intro i j hij;cases i with
  | zero=>
    cases j with
    | zero=>exact(hij rfl).elim
    | succ j=>
      show PHeap.disj (hs l) (if j<np then .emp else hs (h.length+(j - np)))
      split
      ·exact aGO _
      ·exact h3 _ _ (by omega)
  | succ i=>
    cases j with
    | zero=>
      show PHeap.disj (if i<np then .emp else hs (h.length+(i - np))) (hs l)
      split
      ·exact(aGO _).symm
      ·exact h3 _ _ (by omega)
    | succ j=>
      show PHeap.disj (if i<np then .emp else hs (h.length+(i - np))) (if j<np then .emp else hs (h.length+(j - np)))
      split
      ·exact(aGO _).symm
      ·split
       ·exact aGO _
       ·exact h3 _ _ (by omega)
 have gent: ∀i e,aO g i=some e→e.interp (obI tb) (fun i=>V (unI l ps h.length np i)) i (gs i):=by
  intro i e he;refine aH.interp_ren.1 ?_;cases i with
  | zero=>
    show(e.ren _).interp (obI tb) V l (hs l);exact h1 l _ (by show aO _ _=_;rw [mG hll,he];rfl)
  | succ i=>
    have hi: ¬i<np:=by
     intro hi;have:=o3 i hi;rw [Nat.add_comm,he]at this;cases this
    have e3:unI l ps h.length np (i+1)=h.length+(i - np):=by
     show(if i<np then _ else _)=_
     rw [if_neg hi]
    show(e.ren _).interp (obI tb) V (unI l ps h.length np (i+1)) (if i<np then PHeap.emp else hs (h.length+(i - np)))
    rw [if_neg hi,e3];refine h1 _ _ ?_;show aO _ _=_;rw [kY];have:1+np+(i - np)=i+1:=by omega
    rw [this,he];rfl
 obtain⟨n,hn⟩:=AA tb (hs:=gs) g 0 (by simpa using gent)
 have gnon: ∀i,toF g i=none→gs i=.emp :=by
  intro i he;cases i with
  | zero=>have:aO g 0=none:=he;rw [o4]at this;cases this
  | succ i=>
    show(if i<np then PHeap.emp else hs (h.length+(i - np)))=.emp
    by_cases hi:i<np
    ·rw [if_pos hi]
    ·rw [if_neg hi];refine h2 _ ?_;show aO _ _=_;rw [kY];have:1+np+(i - np)=i+1:=by omega
     have he':aO g (i+1)=none:=he;rw [this,he'];rfl
 have hbig: ∀b' o,aGT gs b'=some o→ ∃m,(m=l∨h.length≤m)∧hs m b'=some o:=by
  intro b' o hh;obtain⟨j,hj⟩:=aG3 hh;rcases gs_sub j with q | ⟨m,q1,q2⟩
  ·rw [q]at hj;cases hj
  ·exact⟨m,q1,by rw [←q2];exact hj⟩
 have own: ∀m,m<h.length→(fun m=>if m<h.length then V m else none) m=V m:=fun m hm=>if_pos hm
 refine⟨fun m=>if m=l then aGT gs else if m<h.length then hs m else .emp,?_,?_,?_,?_,?_,h6⟩
 ·intro m e he;have hm:m<h.length:=dH he
  by_cases hml:m=l
  ·subst hml;have he':aO h m=some e:=he;rw [hl]at he';simp only [sI']at he';subst he';show aH.interp (obI tb) _ m _ (if m=m then aGT gs else _)
   rw [if_pos rfl];refine⟨b,k,by show(if m<h.length then V m else none)=_;rw [if_pos hm];exact hVl,bs,hbs.congr (fun p hp=>(own p (hps p hp).1).symm),n+1,?_⟩
   show∃V1 hs1,V1 0=some (b,k)∧(∀i,i<(tb t).1→V1 (1+i)=bs[i]?)∧bs.length=(tb t).1∧qZ (obN tb n) V1 (toF (tb t).2) hs1∧aGT gs=aGT hs1;rw [ht];refine⟨(fun i=>V (unI m ps h.length np i)),gs,hVl,?_,by rw [hbs.len];exact hnp,⟨fun l e he=>by have:=hn l e he;simpa using this,gnon,gdis⟩,rfl⟩
   intro i hi;have:=hbs.get i (by omega)
   rw [←this];show V (unI m ps h.length np (1+i))=_;rw [Nat.add_comm];show V (if i<np then _ else _)=_
   rw [if_pos hi]
  ·show e.interp (obI tb) _ m (if m=l then _ else if m<h.length then hs m else .emp)
   rw [if_neg hml,if_pos hm];have he':aO h m=some e:=he;refine aHI (pl:=upto 0 h.length) (V:=V) (fun i hi=>(own i (jL.1 hi)).symm) (own m hm).symm (xJ p1 he') ?_;exact h1 m e (by show aO _ _=_;rw [fW hm hml];exact he')
 ·intro m he;have he':aO h m=none:=he
  by_cases hml:m=l
  ·subst hml;rw [hl]at he';cases he'
  ·show(if m=l then _ else if m<h.length then hs m else .emp)=_
   rw [if_neg hml]
   by_cases hm:m<h.length
   ·rw [if_pos hm];exact h2 m (by show aO _ _=_;rw [fW hm hml];exact he')
   ·rw [if_neg hm]
 ·intro m m' hmm b';show(if m=l then aGT gs else if m<h.length then hs m else .emp) b'=none∨(if m'=l then aGT gs else if m'<h.length then hs m' else .emp) b'=none
  have out: ∀m,m≠l→aGT gs b'=none∨(if m<h.length then hs m else PHeap.emp) b'=none:=by
   intro m hml
   by_cases hm:m<h.length
   ·rw [if_pos hm];cases hq:aGT gs b' with
    | none=>exact .inl rfl
    | some o=>
      right;obtain⟨m2,q1,q2⟩:=hbig b' o hq;rcases h3 m2 m (by rcases q1 with q | q<;>omega) b' with q | q
      ·rw [q]at q2;cases q2
      ·exact q
   ·rw [if_neg hm];exact .inr rfl
  by_cases hml:m=l
  ·have hml':m'≠l:=fun e=>hmm (hml.trans e.symm);rw [if_pos hml,if_neg hml'];exact out m' hml'
  ·rw [if_neg hml]
   by_cases hml':m'=l
   ·rw [if_pos hml'];exact(out m hml).symm
   ·rw [if_neg hml']
    by_cases hm:m<h.length
    ·rw [if_pos hm]
     by_cases hm':m'<h.length
     ·rw [if_pos hm'];exact h3 m m' hmm b'
     ·rw [if_neg hm'];exact .inr rfl
    ·rw [if_neg hm];exact .inl rfl
 ·intro m b';show(if m=l then aGT gs else if m<h.length then hs m else .emp) b'=none∨hR b'=none
  by_cases hml:m=l
  ·rw [if_pos hml];cases hq:aGT gs b' with
   | none=>exact .inl rfl
   | some o=>
     right;obtain⟨m2,q1,q2⟩:=hbig b' o hq;rcases h4 m2 b' with q | q
     ·rw [q]at q2;cases q2
     ·exact q
  ·rw [if_neg hml]
   by_cases hm:m<h.length
   ·rw [if_pos hm];exact h4 m b'
   ·rw [if_neg hm];exact .inl rfl
 ·intro m b' o hq;have hq':(if m=l then aGT gs else if m<h.length then hs m else .emp) b'=some o:=hq
  by_cases hml:m=l
  ·rw [if_pos hml]at hq';obtain⟨m2,q1,q2⟩:=hbig b' o hq';exact h5 m2 b' o q2
  ·rw [if_neg hml]at hq'
   by_cases hm:m<h.length
   ·rw [if_pos hm]at hq';exact h5 m b' o hq'
   ·rw [if_neg hm]at hq';cases hq'
variable {P:Program}
theorem aB.unpack{f:FuncId}{args:List AVal}{h:aC A}{K:AVal→aC A→Prop}(t:A)(l np:Nat)(g:aC A)(ps:List Nat)(hl:aO h l=some (.abs t ps))(ht:tb t=(np,g))(ho:obOk np g=true)(hnp:ps.length=np)
 (h0:aB (obI tb) P f args (aM h l np g ps) K):aB (obI tb) P f args h K:=by
 intro V hR w args' hi hf hr;obtain⟨V1,v1,v2,v3⟩:=hi.unpack tb hf hl ht ho hnp;refine(h0 V1 hR w args' v3 v2 (aG.mono v1 _ _ hr)).mono ?_;rintro e w' ⟨v,v',V',h',k1,k2,k3,k4,k5,k6,k7,k8⟩;exact⟨v,v',V',h',k1,k2,k3,Val.le_trans v1 k4,k5,Nat.le_trans (by rw [gA];omega) k6,k7,k8⟩
structure zD (n:Nat) (K:AVal→aC A→Prop) (v:AVal) (g':aC A):Prop where
 ex: ∃(pl:List Nat) (h2:aC A) (t:A) (l np:Nat) (g:aC A) (ps:List Nat),(dZ pl g'.length&&i9 pl 0 n&&Nat.ble n h2.length&&obOk np g&&rQ h2 l ps&&(kX pl v).within (upto 0 h2.length)&&Nat.beq ps.length np)=true∧gQ pl g'=aM h2 l np g ps∧tb t=(np,g)∧aO h2 l=some (.abs t ps)∧K (kX pl v) h2
theorem aB.pack{f:FuncId}{args:List AVal}{h:aC A}{K:AVal→aC A→Prop}(h0:aB (obI tb) P f args h (zD tb h.length K)):aB (obI tb) P f args h K:=by
 intro V hR w args' hi hf hr;refine(h0 V hR w args' hi hf hr).mono ?_;rintro e w' ⟨v,v',V',g',⟨pl,h2,t,l,np,g,ps,hb,hT,ht,hl,hK⟩,k2,k3,k4,k5,k6,k7,k8⟩;simp only [Bool.and_eq_true]at hb;obtain⟨⟨⟨⟨⟨⟨b1,b2⟩,b3⟩,b4⟩,b5⟩,b6⟩,b7⟩:=hb;obtain⟨e1,e2⟩:=l8 b2;have hp:=nS (h:=g') b1;have hi2:=k7.pick hp;rw [hT]at hi2;have hi3:=hi2.pack tb hl ht b4 (Nat.eq_of_beq_eq_true b7) b5;have hn:h.length≤h2.length:=Nat.le_of_ble_eq_true b3;refine⟨kX pl v,v',_,h2,hK,k2,?_,?_,?_,hn,hi3,k8⟩
 ·have:=oK (n:=g'.length) (pl:=pl) k3
  exact aHk (pl:=upto 0 h2.length) (fun i hi=>by
   show _=if i<h2.length then _ else none
   rw [if_pos (jL.1 hi)]) _ _ b6 this
 ·intro m x hm
  have hlt:m<h.length:=by
   cases Nat.lt_or_ge m h.length with
   | inl q=>exact q
   | inr q=>rw [hf m q]at hm;cases hm
  show(if m<h2.length then V' (lab pl g'.length m)else none)=some x
  rw [if_pos (by omega)]
  have:lab pl g'.length m=m:=by unfold lab;rw [e2 m hlt];simp
  rw [this];exact k4 m x hm
 ·intro m hm;show(if m<h2.length then _ else none)=none
  rw [if_neg (by omega)]
def farI(n k i:Nat):Nat:=if i<n then i else i+k
def EB(n k:Nat)(g:aC A):aC A:=(g.take n).map (Option.map (aH.ren (farI n k)))++List.replicate k none++(g.drop n).map (Option.map (aH.ren (farI n k)))
theorem NJ{n k:Nat}{g:aC A}(hn:n≤g.length)(i:Nat):aO (EB n k g) (farI n k i)=(aO g i).map (aH.ren (farI n k)):=by
 have hl:((g.take n).map (Option.map (aH.ren (farI n k)))).length =n:=by rw [List.length_map,List.length_take];omega
 unfold EB aO;simp only [gD']
 by_cases hi:i<n
 ·have e:farI n k i=i:=if_pos hi;rw [e,List.append_assoc,List.getElem?_append_left (by rw [hl];exact hi),List.getElem?_map,List.getElem?_take,if_pos hi]
  rw [gE' (by omega)]
  rfl
 ·have e:farI n k i=i+k:=if_neg hi;rw [e,List.getElem?_append_right (by rw [List.length_append,hl,List.length_replicate];omega),List.getElem?_map,List.getElem?_drop]
  have e2:n+(i+k - ((g.take n).map (Option.map (aH.ren (farI n k)))++List.replicate k (none:Option (aH A))).length)=i:=by
   rw [List.length_append,hl,List.length_replicate];omega
  rw [e2];cases g[i]? <;>rfl
theorem A6{n k:Nat}{g:aC A}(hn:n≤g.length):(EB n k g).length =g.length+k:=by
 unfold EB;rw [List.length_append,List.length_append,List.length_map,List.length_take,List.length_replicate,List.length_map,List.length_drop];omega
theorem I4{n k:Nat}{g:aC A}(hn:n≤g.length){m:Nat}(h1:n≤m)(h2:m<n+k):aO (EB n k g) m=none:=by
 have hl:((g.take n).map (Option.map (aH.ren (farI n k)))).length =n:=by rw [List.length_map,List.length_take];omega
 unfold EB aO;simp only [gD'];rw [List.append_assoc,List.getElem?_append_right (by rw [hl];exact h1),hl,List.getElem?_append_left (by rw [List.length_replicate];omega),List.getElem?_replicate,if_pos (by omega)]
 rfl
theorem NK{n k:Nat} : ∀i j,farI n k i=farI n k j→i=j:=by
 intro i j h;unfold farI at h;split at h<;>split at h<;>omega
theorem aB.shut{f:FuncId}{args:List AVal}{h':aC A}{K:AVal→aC A→Prop}(h:aC A)(t:A)(l np:Nat)(g:aC A)(ps:List Nat)(he:h'=aM h l np g ps)(hl:aO h l=some (.abs t ps))(ht:tb t=(np,g))
 (hb:(obOk np g&&rQ h l ps&&aGS (upto 0 h.length) args&&Nat.beq ps.length np)=true)
 (h0:aB (obI tb) P f args h (fun v g2=>K (v.ren (farI h.length (h'.length - h.length))) (EB h.length (h'.length - h.length) g2))):aB (obI tb) P f args h' K:=by
 subst he;simp only [Bool.and_eq_true]at hb;obtain⟨⟨⟨b1,b2⟩,b3⟩,b4⟩:=hb;have hlen:=gA h l np g ps;generalize hk:(aM h l np g ps).length - h.length=k at h0;intro V hR w args' hi hf hr;have hi2:=hi.pack tb hl ht b1 (Nat.eq_of_beq_eq_true b4) b2
 have hf2:bY (fun m=>if m<h.length then V m else none) h.length:=by
  intro m hm;show(if m<h.length then _ else none)=none
  rw [if_neg (by omega)]
 have hr2:aG (fun m=>if m<h.length then V m else none) args args'.toList:=aG7 (pl:=upto 0 h.length) (fun i hi=>by
  show _=if i<h.length then _ else none
  rw [if_pos (jL.1 hi)]) _ _ b3 hr
 refine(h0 _ hR w args' hi2 hf2 hr2).mono ?_;rintro e w' ⟨v,v',V',g2,hK,k2,k3,k4,k5,k6,k7,k8⟩
 let V1:Val:=fun m=>if m<h.length then V' m else if m<h.length+k then V m else V' (m - k)
 have hV1:(fun i=>V1 (farI h.length k i))=V':=by
  funext i;show(if farI h.length k i<h.length then _ else _)=_
  by_cases hi:i<h.length
  ·have e:farI h.length k i=i:=if_pos hi;rw [e,if_pos hi]
  ·have e:farI h.length k i=i+k:=if_neg hi;rw [e,if_neg (by omega),if_neg (by omega),Nat.add_sub_cancel]
 refine⟨_,v',V1,_,hK,k2,?_,?_,?_,?_,?_,k8⟩
 ·refine(Rep.ren _ _).2 ?_;rw [hV1];exact k3
 ·intro m x hm;show(if m<h.length then _ else _)=some x
  by_cases h1:m<h.length
  ·rw [if_pos h1];exact k4 m x (by show(if m<h.length then V m else none)=some x;rw [if_pos h1];exact hm)
  ·rw [if_neg h1]
   have h2:m<h.length+k:=by
    cases Nat.lt_or_ge m (h.length+k)with
    | inl q=>exact q
    | inr q=>rw [hf m (by omega)]at hm;cases hm
   rw [if_pos h2];exact hm
 ·intro m hm;rw [A6 k6]at hm;show(if m<h.length then _ else _)=none
  rw [if_neg (by omega),if_neg (by omega)]
  exact k5 _ (by omega)
 ·rw [A6 k6];omega
 ·refine(aHi (ι:=farI h.length k) (h0:=toF g2) NK (fun i=>NJ k6 i) ?_).2 (by rw [hV1];exact k7)
  intro m hm
  by_cases h1:m<h.length
  ·exact(hm m (if_pos h1)).elim
  ·by_cases h2:m<h.length+k
   ·exact I4 k6 (by omega) h2
   ·refine(hm (m - k) ?_).elim;show(if m - k<h.length then _ else _)=m
    rw [if_neg (by omega)];omega
end Go.Sh
namespace Go.Sh
open Go
variable [Con] {A:Type} {P:Program}
def nU:List AVal→List AVal→Prop
 | [],[]=>True
 | v::vs,w::ws=>(w=v∨w=.O)∧nU vs ws
 | _,_=>False
theorem xI{V:Val} : ∀ {vs ws:List AVal} {xs:List Value},nU vs ws→aG V vs xs→aG V ws xs
 | [],[],_,_,r=>r
 | v::vs,w::ws,_,⟨h,h2⟩,⟨x,xs,e,r,r2⟩=>⟨x,xs,e,by rcases h with rfl | rfl;exact r;exact trivial,xI h2 r2⟩
def oY:Option (aH A)→Option (aH A)→Prop
 | _,none=>True
 | some (.cells vs),some (.cells ws)=>nU vs ws
 | x,y=>x=y
def kZ:aC A→aC A→Prop
 | [],[]=>True
 | x::g,y::g2=>oY x y∧kZ g g2
 | _,_=>False
theorem hM: ∀ {g g2:aC A},kZ g g2→g2.length=g.length
 | [],[],_=>rfl
 | x::g,y::g2,h=>by simp [hM h.2]
theorem xH: ∀ {g g2:aC A},kZ g g2→ ∀l,oY (aO g l) (aO g2 l)
 | [],[],_,l=>by simp [aO,oY]
 | x::g,y::g2,h,0=>by simpa [aO]using h.1
 | x::g,y::g2,h,l+1=>by
   have:=xH h.2 l
   simpa [aO]using this
theorem Inv.weak{I:Itp A}{V:Val}{g g2:aC A}{hR:PHeap}{w:World}(hw:kZ g g2)(hi:Inv I V (toF g) hR w):Inv I V (toF g2) hR w:=by
 classical
 obtain⟨hs,h1,h2,h3,h4,h5,h6⟩:=hi;refine⟨fun l=>if aO g2 l=none then .emp else hs l,?_,?_,?_,?_,?_,h6⟩
 ·intro l e he;have he':aO g2 l=some e:=he;have hq:=xH hw l;rw [he']at hq;show e.interp I V l (if aO g2 l=none then PHeap.emp else hs l)
  rw [if_neg (by rw [he'];simp)]
  cases hg:aO g l with
  | none=>rw [hg]at hq;cases e<;>cases hq
  | some e1=>
    rw [hg]at hq;have hi1:=h1 l e1 hg;cases e1 with
    | cells vs=>
      cases e with
      | cells ws=>
        obtain⟨b,k,q1,cs,T,q2,q3,rs,tail,q4,q5⟩:=hi1;exact⟨b,k,q1,cs,T,q2,q3,rs,tail,q4,xI hq q5⟩
      | _=>simp [oY]at hq
    | _=>
      simp only [oY,sI']at hq;subst hq;exact hi1
 ·intro l he;have he':aO g2 l=none:=he;show(if aO g2 l=none then PHeap.emp else hs l)=_
  rw [if_pos he']
 ·intro l m hlm;show PHeap.disj (if aO g2 l=none then .emp else hs l) (if aO g2 m=none then .emp else hs m)
  split
  ·exact(aGO _).symm
  ·split
   ·exact aGO _
   ·exact h3 l m hlm
 ·intro l;show PHeap.disj (if aO g2 l=none then .emp else hs l) hR
  split
  ·exact(aGO _).symm
  ·exact h4 l
 ·intro l;show PHeap.sub (if aO g2 l=none then .emp else hs l) w
  split
  ·exact aHb _
  ·exact h5 l
structure LD (K:AVal→aC A→Prop) (v:AVal) (g:aC A):Prop where
 ex: ∃g2,kZ g g2∧K v g2
theorem aB.less{I:Itp A}{f:FuncId}{args:List AVal}{h:aC A}{K:AVal→aC A→Prop}(h0:aB I P f args h (LD K)):aB I P f args h K:=by
 intro V hR w args' hi hf hr;refine(h0 V hR w args' hi hf hr).mono ?_;rintro e w' ⟨v,v',V',g',⟨g2,hw,hK⟩,k2,k3,k4,k5,k6,k7,k8⟩;exact⟨v,v',V',g2,hK,k2,k3,k4,by rw [hM hw];exact k5,by rw [hM hw];exact k6,k7.weak hw,k8⟩
end Go.Sh
namespace Go.Sh
open Go
variable [Con] {A:Type} {P:Program}
def aF(I:Itp A)(n:Nat)(v:AVal)(g:aC A)(v2:AVal)(g2:aC A):Prop:=
 ∀V hR w x,Inv I V (toF g) hR w→bY V g.length→n≤g.length→Rep V v x→
  ∃V',(∀l y,l<n→V l=some y→V' l=some y)∧bY V' g2.length∧n≤g2.length∧Rep V' v2 x∧Inv I V' (toF g2) hR w
theorem aGW{I:Itp A}(n:Nat)(v:AVal)(g:aC A):aF I n v g v g:=fun V hR w x h1 h2 h3 h4=>⟨V,fun _ _ _ h=>h,h2,h3,h4,h1⟩
theorem aF.trans{I:Itp A}{n:Nat}{v v2 v3:AVal}{g g2 g3:aC A}(a:aF I n v g v2 g2)(b:aF I n v2 g2 v3 g3):aF I n v g v3 g3:=by
 intro V hR w x h1 h2 h3 h4;obtain⟨V1,a1,a2,a3,a4,a5⟩:=a V hR w x h1 h2 h3 h4;obtain⟨V2,b1,b2,b3,b4,b5⟩:=b V1 hR w x a5 a2 a3 a4;exact⟨V2,fun l y hl hy=>b1 l y hl (a1 l y hl hy),b2,b3,b4,b5⟩
theorem aF.weak{I:Itp A}{n:Nat}{v:AVal}{g g2:aC A}(h:kZ g g2):aF I n v g v g2:=fun V hR w x h1 h2 h3 h4=>⟨V,fun _ _ _ h=>h,by rw [hM h];exact h2,by rw [hM h];exact h3,h4,h1.weak h⟩
theorem aF.pick{I:Itp A}{n:Nat}{v:AVal}{g:aC A}(pl:List Nat)(h:(dZ pl g.length&&i9 pl 0 n)=true):aF I n v g (kX pl v) (gQ pl g):=by
 intro V hR w x h1 h2 h3 h4;obtain⟨q1,q2⟩:=Bool.and_eq_true_iff.1 h;obtain⟨p1,p2,p3,p4⟩:=wB.elim q1 q2 h1 h2;exact⟨_,fun l y hl hy=>(p1 l hl).trans hy,p2,p3,oK h4,p4⟩
theorem aF.unpack{tb:A→Nat×aC A}{n:Nat}{v:AVal}{g:aC A}(t:A)(l np:Nat)(e:aC A)(ps:List Nat)(hl:aO g l=some (.abs t ps))(ht:tb t=(np,e))(ho:obOk np e=true)(hnp:ps.length=np):aF (obI tb) n v g v (aM g l np e ps):=by
 intro V hR w x h1 h2 h3 h4;obtain⟨V1,v1,v2,v3⟩:=h1.unpack tb h2 hl ht ho hnp;exact⟨V1,fun l y _ hy=>v1 l y hy,v2,by rw [gA];omega,Rep.mono v1 _ _ h4,v3⟩
theorem aF.pack{tb:A→Nat×aC A}{n:Nat}{v:AVal}{g:aC A}(h2:aC A)(t:A)(l np:Nat)(e:aC A)(ps:List Nat)(hg:g=aM h2 l np e ps)(hl:aO h2 l=some (.abs t ps))(ht:tb t=(np,e))
 (hb:(Nat.ble n h2.length&&obOk np e&&rQ h2 l ps&&v.within (upto 0 h2.length)&&Nat.beq ps.length np)=true):aF (obI tb) n v g v h2:=by
 subst hg;simp only [Bool.and_eq_true]at hb;obtain⟨⟨⟨⟨b3,b4⟩,b5⟩,b6⟩,b7⟩:=hb;have hn:n≤h2.length:=Nat.le_of_ble_eq_true b3;intro V hR w x h1 hf h3 h4;refine⟨_,?_,?_,hn,?_,h1.pack tb hl ht b4 (Nat.eq_of_beq_eq_true b7) b5⟩
 ·intro m y hm hy;show(if m<h2.length then V m else none)=some y
  rw [if_pos (by omega)];exact hy
 ·intro m hm;show(if m<h2.length then _ else none)=none
  rw [if_neg (by omega)]
 ·exact aHk (pl:=upto 0 h2.length) (fun i hi=>by
   show _=if i<h2.length then _ else none
   rw [if_pos (jL.1 hi)]) _ _ b6 h4
theorem aGQ{I:Itp A}{n:Nat}{v v2:AVal}{g g2:aC A}(h1:v=v2)(h2:g=g2):aF I n v g v2 g2:=by subst h1 h2;exact aGW _ _ _
theorem aF.less{I:Itp A}{n m:Nat}{v v2:AVal}{g g2:aC A}(h:aF I n v g v2 g2)(hm:m≤n)(hn:n≤g.length):aF I m v g v2 g2:=by
 intro V hR w x h1 hf h3 h4;obtain⟨V1,a1,a2,a3,a4,a5⟩:=h V hR w x h1 hf hn h4;exact⟨V1,fun l y hl hy=>a1 l y (by omega) hy,a2,by omega,a4,a5⟩
structure eH (I:Itp A) (n:Nat) (K:AVal→aC A→Prop) (v:AVal) (g:aC A):Prop where
 ex: ∃v2 g2,aF I n v g v2 g2∧K v2 g2
theorem aGZ{I:Itp A}{f:FuncId}{args:List AVal}{h:aC A}{K:AVal→aC A→Prop}(h0:aB I P f args h (eH I h.length K)):aB I P f args h K:=by
 intro V hR w args' hi hf hr;refine(h0 V hR w args' hi hf hr).mono ?_;rintro e w' ⟨v,v',V',g',⟨v2,g2,ht,hK⟩,k2,k3,k4,k5,k6,k7,k8⟩;obtain⟨V1,a1,a2,a3,a4,a5⟩:=ht V' hR w' v' k7 k5 k6 k3;refine⟨v2,v',V1,g2,hK,k2,a4,?_,a2,a3,a5,k8⟩;intro l y hl
 have hlt:l<h.length:=by
  cases Nat.lt_or_ge l h.length with
  | inl q=>exact q
  | inr q=>rw [hf l q]at hl;cases hl
 exact a1 l y hlt (k4 l y hl)
inductive Tr (X:Type) where
 | ret (x:X)
 | ite (b:Bool) (l r:Tr X)
 | pre (p:Prop) (t:Tr X)
def Tr.run{X:Type} :Tr X→(X→Prop)→Prop
 | .ret x,K=>K x
 | .ite b l r,K=>cond b (l.run K) (r.run K)
 | .pre p t,K=>p∧t.run K
def Tr.val{X:Type} :Tr X→X
 | .ret x=>x
 | .ite b l r=>bif b then l.val else r.val
 | .pre _ t=>t.val
def Tr.ok{X:Type} :Tr X→Prop
 | .ret _=>True
 | .ite b l r=>cond b l.ok r.ok
 | .pre p t=>p∧t.ok
theorem aGR{X:Type}{K:X→Prop} : ∀ {t:Tr X},t.ok→K t.val→t.run K
 | .ret x,_,k=>k
 | .ite b l r,o,k=>by
   cases b with
   | true=>exact aGR (t:=l) o k
   | false=>exact aGR (t:=r) o k
 | .pre p t,o,k=>⟨o.1,aGR (t:=t) o.2 k⟩
def YT{X:Type}(n:Nat)(parse:AVal→aC A→Option (Prop×X))(K:X→Prop)(v:AVal)(g:aC A):Prop:=
 dF (dZ (d9 n g v.labels) g.length&&i9 (d9 n g v.labels) 0 n) (match parse (kX (d9 n g v.labels) v) (gQ (d9 n g v.labels) g)with
  | some (p,x)=>p∧K x
  | none=>False)
def bV{X:Type}(I:Itp A)(n:Nat)(parse:AVal→aC A→Option (Prop×X))(fin:X→Out A):Prop:=
 ∀v g p x,parse v g=some (p,x)→p→ ∀K,(fin x).run K→eH I n K v g
theorem aB.leaf{X:Type}{I:Itp A}{f:FuncId}{args:List AVal}{h:aC A}{K:AVal→aC A→Prop}{parse:AVal→aC A→Option (Prop×X)}{fin:X→Out A}(n:Nat)(hn:n≤h.length)(hr:bV I n parse fin)
 (h0:aB I P f args h (YT n parse fun x=>(fin x).run K)): ∀V hR w (args':Array Value),Inv I V (toF h) hR w→bY V h.length→aG V args args'.toList→Calls P f args' w (fun e w'=> ∃v v' V' h',K v h'∧e=.returned v'∧Rep V' v v'∧(∀l y,l<n→V l=some y→V' l=some y)∧bY V' h'.length∧n≤h'.length∧Inv I V' (toF h') hR w'∧bZ w w'):=by
 intro V hR w args' hi hf hrp;refine(h0 V hR w args' hi hf hrp).mono ?_;rintro e w' ⟨v,v',V',g',hL,k2,k3,k4,k5,k6,k7,k8⟩;unfold YT at hL;obtain⟨hg,hL⟩:=bO.1 hL;have ht:=aF.pick (I:=I) (v:=v) _ hg;split at hL
 ·rename_i p x hp;obtain⟨v2,g2,ht2,hK⟩:=(hr _ _ p x hp hL.1 K hL.2).ex;obtain⟨V1,a1,a2,a3,a4,a5⟩:=(ht.trans ht2) V' hR w' v' k7 k5 (by omega) k3
  exact⟨v2,v',V1,g2,hK,k2,a4,fun l y hl hy=>a1 l y hl (k4 l y hy),a2,a3,a5,k8⟩
 ·exact hL.elim
theorem aB.plain{X:Type}{I:Itp A}{f:FuncId}{args:List AVal}{h:aC A}{K:AVal→aC A→Prop}{parse:AVal→aC A→Option (Prop×X)}{fin:X→Out A}(hr:bV I h.length parse fin)
 (h0:aB I P f args h (YT h.length parse fun x=>(fin x).run K)):aB I P f args h K:=by
 intro V hR w args' hi hf hrp;refine(aB.leaf h.length (Nat.le_refl _) hr h0 V hR w args' hi hf hrp).mono ?_;rintro e w' ⟨v,v',V',h',k1,k2,k3,k4,k5,k6,k7,k8⟩;refine⟨v,v',V',h',k1,k2,k3,?_,k5,k6,k7,k8⟩;intro l y hy
 have hlt:l<h.length:=by
  cases Nat.lt_or_ge l h.length with
  | inl q=>exact q
  | inr q=>rw [hf l q]at hy;cases hy
 exact k4 l y hlt hy
end Go.Sh
namespace Go.Sh
open Go
variable [Con] {A:Type} {P:Program}
def YO(g:aC A):AVal→Bool
 | .ptr l 0=>(match aO g l with
   | some (.abs _ _)=>false
   | _=>true)
 | _=>true
def QE(g:aC A)(pos:List Nat):Nat→List AVal→List AVal
 | _,[]=>[]
 | i,v::vs=>cond (pos.elem i&&YO g v) .O v::QE g pos (i+1) vs
theorem vH(g:aC A)(pos:List Nat): ∀(i:Nat) (vs:List AVal),nU vs (QE g pos i vs)
 | _,[]=>trivial
 | i,v::vs=>by
   refine⟨?_,vH g pos (i+1) vs⟩;cases pos.elem i&&YO g v with
   | true=>exact .inr rfl
   | false=>exact .inl rfl
theorem vM: ∀(vs:List AVal),nU vs vs
 | []=>trivial
 | _::vs=>⟨.inl rfl,vM vs⟩
theorem vJ(e:Option (aH A)):oY e e:=by
 cases e with
 | none=>trivial
 | some e=>cases e with
   | cells vs=>exact vM vs
   | _=>rfl
theorem mH: ∀(g:aC A),kZ g g
 | []=>trivial
 | _::g=>⟨vJ _,mH g⟩
theorem jS: ∀(g:aC A) (l:Nat) (e2:Option (aH A)),oY (aO g l) e2→kZ g (g.set l e2)
 | [],_,_,_=>trivial
 | x::g,0,e2,h=>⟨by simpa [aO]using h,mH g⟩
 | x::g,l+1,e2,h=>⟨vJ x,jS g l e2 (by simpa [aO]using h)⟩
def yY(g:aC A)(root:Nat)(pos:List Nat):aC A:=match aO g root with
 | some (.cells vs)=>g.set root (some (.cells (QE g pos 0 vs)))
 | _=>g
theorem yZ(g:aC A)(root:Nat)(pos:List Nat):kZ g (yY g root pos):=by
 unfold yY;split
 ·rename_i vs h;refine jS g root _ ?_;rw [h];exact vH g pos 0 vs
 ·exact mH g
theorem aHa{I:Itp A}{n:Nat}{cs:List (Place×gT)}{v v2:AVal}{g g2:aC A}(h:hU cs [v] g=some ([v2],g2)):aF I n v g v2 g2:=by
 intro V hR w x h1 h2 h3 h4;obtain⟨V',⟨c1,c2,c3,c4⟩,r⟩:=f0 h h1 h2 (xs:=[x]) ⟨x,[],rfl,h4,rfl⟩;obtain⟨y,ys,e,r1,_⟩:=r;simp only [lI']at e;obtain⟨rfl,_⟩:=e;exact⟨V',fun l y _ hy=>c1 l y hy,c2,by omega,r1,c4⟩
def bP{X:Type}(n root:Nat)(pos:List Nat)(cs:List (Place×gT))(parse:AVal→aC A→Option (Prop×X))(K:X→Prop)(v:AVal)(g:aC A):Prop:=
 let pl:=d9 n g v.labels
 dF (dZ pl g.length&&i9 pl 0 n) (
  match hU cs [kX pl v] (yY (gQ pl g) root pos)with
  | some ([v3],g3)=>
    let pl2:=d9 n g3 v3.labels
    dF (dZ pl2 g3.length&&i9 pl2 0 n) (match parse (kX pl2 v3) (gQ pl2 g3)with
     | some (p,x)=>p∧K x
     | none=>False)
  | _=>False)
theorem bP.sees{X:Type}{I:Itp A}{n root:Nat}{pos:List Nat}{cs:List (Place×gT)}{parse:AVal→aC A→Option (Prop×X)}{fin:X→Out A}(hr:bV I n parse fin){K:AVal→aC A→Prop}{v:AVal}{g:aC A}
 (h:bP n root pos cs parse (fun x=>(fin x).run K) v g):eH I n K v g:=by
 unfold bP at h;obtain⟨h1,h⟩:=bO.1 h;have t1:=aF.pick (I:=I) (v:=v) _ h1;split at h
 ·rename_i v3 g3 hc;obtain⟨h2,h⟩:=bO.1 h;have t2:aF I n (kX (d9 n g v.labels) v) (gQ (d9 n g v.labels) g) v3 g3:=(aF.weak (yZ _ root pos)).trans (aHa hc);have t3:=aF.pick (I:=I) (v:=v3) _ h2;split at h
  ·rename_i p x hp;obtain⟨v4,g4,t4,hK⟩:=(hr _ _ p x hp h.1 K h.2).ex;exact⟨v4,g4,((t1.trans t2).trans t3).trans t4,hK⟩
  ·exact h.elim
 ·exact h.elim
theorem aHH{X:Type}{I:Itp A}{f:FuncId}{args:List AVal}{h:aC A}{K:AVal→aC A→Prop}{parse:AVal→aC A→Option (Prop×X)}{fin:X→Out A}(n:Nat)(hn:n≤h.length){root:Nat}{pos:List Nat}{cs:List (Place×gT)}(hr:bV I n parse fin)
 (h0:aB I P f args h (bP n root pos cs parse fun x=>(fin x).run K)): ∀V hR w (args':Array Value),Inv I V (toF h) hR w→bY V h.length→aG V args args'.toList→Calls P f args' w (fun e w'=> ∃v v' V' h',K v h'∧e=.returned v'∧Rep V' v v'∧(∀l y,l<n→V l=some y→V' l=some y)∧bY V' h'.length∧n≤h'.length∧Inv I V' (toF h') hR w'∧bZ w w'):=by
 intro V hR w args' hi hf hrp;refine(h0 V hR w args' hi hf hrp).mono ?_;rintro e w' ⟨v,v',V',g',hL,k2,k3,k4,k5,k6,k7,k8⟩;obtain⟨v2,g2,ht2,hK⟩:=(bP.sees hr hL).ex;obtain⟨V1,a1,a2,a3,a4,a5⟩:=ht2 V' hR w' v' k7 k5 (by omega) k3
 exact⟨v2,v',V1,g2,hK,k2,a4,fun l y hl hy=>a1 l y hl (k4 l y hy),a2,a3,a5,k8⟩
theorem aGX{X:Type}{I:Itp A}{f:FuncId}{args:List AVal}{h:aC A}{K:AVal→aC A→Prop}{parse:AVal→aC A→Option (Prop×X)}{fin:X→Out A}{root:Nat}{pos:List Nat}{cs:List (Place×gT)}(hr:bV I h.length parse fin)
 (h0:aB I P f args h (bP h.length root pos cs parse fun x=>(fin x).run K)):aB I P f args h K:=by
 intro V hR w args' hi hf hrp;refine(aHH h.length (Nat.le_refl _) hr h0 V hR w args' hi hf hrp).mono ?_;rintro e w' ⟨v,v',V',h',k1,k2,k3,k4,k5,k6,k7,k8⟩;refine⟨v,v',V',h',k1,k2,k3,?_,k5,k6,k7,k8⟩;intro l y hy
 have hlt:l<h.length:=by
  cases Nat.lt_or_ge l h.length with
  | inl q=>exact q
  | inr q=>rw [hf l q]at hy;cases hy
 exact k4 l y hlt hy
end Go.Sh
namespace Go.Sh
open Go
variable [Con] {A:Type} {P:Program}
def rowC:Nat→List (Option A)→List AVal
 | _,[]=>[]
 | k,none::r=>.raw (.pointer none)::rowC (k+1) r
 | k,some _::r=>.ptr k 0::rowC (k+1) r
def PR(ws:List (Option A)):aC A:=ws.map (Option.map fun t=>aH.abs t [])
def rowE(ws:List (Option A)):aC A:=some (.cells (rowC 1 ws))::PR ws
def kR(ws:List (Option A))(i:Nat):aC A:=some (.cells ((rowC 2 ws).set i (.ptr 1 0)))::none::(PR ws).set i none
def KN(k:Nat):Option A→AVal
 | none=>.raw (.pointer none)
 | some _=>.ptr k 0
theorem iM: ∀(ws:List (Option A)) (k j:Nat),(rowC k ws)[j]? =(ws[j]?).map (KN (k+j))
 | [],_,_=>by simp [rowC]
 | none::r,k,0=>by simp [rowC,KN]
 | some _::r,k,0=>by simp [rowC,KN]
 | none::r,k,j+1=>by simp only [rowC,List.getElem?_cons_succ];rw [iM r (k+1) j];rw [show k+1+j=k+(j+1)from by omega]
 | some _::r,k,j+1=>by simp only [rowC,List.getElem?_cons_succ];rw [iM r (k+1) j];rw [show k+1+j=k+(j+1)from by omega]
theorem gM(k:Nat)(ws:List (Option A)):(rowC k ws).length =ws.length:=by
 induction ws generalizing k with
 | nil=>rfl
 | cons o r ih=>cases o<;>simp [rowC,ih]
theorem aHz{V:Val} : ∀ {av:List AVal} {vs:List Value},av.length=vs.length→(∀(i:Nat) (a:AVal) (v:Value),av[i]? =some a→vs[i]? =some v→Rep V a v)→aG V av vs
 | [],[],_,_=>rfl
 | [],_::_,h,_=>by simp at h
 | _::_,[],h,_=>by simp at h
 | a::av,v::vs,h,hg=>⟨v,vs,rfl,hg 0 a v rfl rfl,aHz (by simpa using h) (fun i a v h1 h2=>hg (i+1) a v (by simpa using h1) (by simpa using h2))⟩
theorem aG.at{V:Val}{av:List AVal}{vs:List Value}(h:aG V av vs){i:Nat}{a:AVal}{v:Value}(ha:av[i]? =some a)(hv:vs[i]? =some v):Rep V a v:=by
 obtain⟨y,hy,r⟩:=aG.get h i a ha;rw [hv]at hy;cases hy;exact r
structure iT (tb:A→Nat×aC A) where
 R:Type
 row:R→A
 hole:R→Nat→A
 els:R→List (Option A)
 len:R→Nat
 upd:R→Nat→A→Option R
 isRow:A→Option R
 isHole:A→Option (R×Nat)
 is:R→Nat→Bool
 get:R→Nat→A
 isRow_eq: ∀t r,isRow t=some r→t=row r
 isHole_eq: ∀t r i,isHole t=some (r,i)→t=hole r i
 len_eq: ∀r,len r=(els r).length
 upd_eq: ∀r i t r',upd r i t=some r'→els r'=(els r).set i (some t)
 is_true: ∀r i,is r i=true→i<len r→(els r)[i]? =some (some (get r i))
 is_false: ∀r i,is r i=false→i<len r→(els r)[i]? =some none
 tbRow: ∀r,tb (row r)=(0,rowE (els r))
 tbHole: ∀r i,tb (hole r i)=(1,kR (els r) i)
theorem eT(ws:List (Option A))(j:Nat):aO (rowE ws) (j+1)=(ws[j]?).join.map (fun t=>aH.abs t []):=by
 simp only [rowE,aO,List.getD_cons_succ,PR];rw [gD',List.getElem?_map];cases ws[j]? with
 | none=>rfl
 | some o=>cases o<;>rfl
theorem fX(ws:List (Option A))(i j:Nat):aO (kR ws i) (j+2)=if i=j then none else(ws[j]?).join.map (fun t=>aH.abs t []):=by
 simp only [kR,aO,List.getD_cons_succ,PR];rw [gD',List.getElem?_set];split
 ·split<;>rfl
 ·rw [List.getElem?_map];cases ws[j]? with
  | none=>rfl
  | some o=>cases o<;>rfl
variable {tb:A→Nat×aC A}
theorem o0{N:Nat}{V:Val}{l:Nat}{t:A}{p:PHeap}(h:aH.interp (obN tb N) V l (.abs t []) p): ∃x,V l=some x∧obN tb N t x [] p:=by
 obtain⟨b,k,h1,bs,h2,h3⟩:=h;have:bs=[]:=h2;subst this;exact⟨_,h1,h3⟩
theorem iT.lend(R:iT tb){rr:R.R}{i:Nat}{t:A}{r:Nat×Nat}{p:PHeap}{N:Nat}(h:obN tb (N+1) (R.row rr) r [] p)(hw:(R.els rr)[i]? =some (some t)):
 ∃x q p',obN tb N t x [] q∧obN tb (N+1) (R.hole rr i) r [x] p'∧q.disj p'∧(∀b o,q b=some o→p b=some o)∧(∀b o,p' b=some o→p b=some o)∧
  ∃cs T,p r.1=some (.cells cs T)∧cs.toList[i]? =some (.pointer (some ⟨x.1,0,none⟩)):=by
 obtain⟨V,gs,g1,g2,g3,⟨g4,g5,g6⟩,g7⟩:=h;have htb:=R.tbHole rr i;rw [R.tbRow]at g2 g3 g4 g5;dsimp only at g2 g3 g4 g5;generalize R.els rr=ws at*;have hi:aO (rowE ws) (i+1)=some (.abs t []):=by rw [eT,hw];rfl
 obtain⟨x,hx,hq⟩:=o0 (g4 _ _ hi);have hc:=g4 0 _ (show aO (rowE ws) 0=some (.cells (rowC 1 ws))from rfl)
 obtain⟨b,k,c1,cs,T,c2,c3,rs,tail,c4,c5⟩:=hc;have hbk:r=(b,k):=by have c1':V 0=some (b,k):=c1;rw [g1]at c1';simpa using c1'
 have hlen:=aG.length c5
 have hil:i<rs.length:=by
  rw [hlen,gM];exact(List.getElem?_eq_some_iff.1 hw).1
 have hri:=aG.at c5 (i:=i) (a:=.ptr (1+i) 0) (v:=rs[i]) (by rw [iM,hw];rfl) (gE' hil)
 obtain⟨b2,k2,e1,e2⟩:=hri
 have hx2:x=(b2,k2):=by
  have:V (1+i)=some (b2,k2):=e1;rw [Nat.add_comm]at this;have hx':V (i+1)=some x:=hx;rw [hx']at this;simpa using this
 let V':Val:=fun m=>match m with
  | 0=>V 0
  | 1=>some x
  | j+2=>V (j+1)
 let gs':Nat→PHeap:=fun m=>match m with
  | 0=>gs 0
  | 1=>.emp
  | j+2=>if i=j then .emp else gs (j+1)
 have hsub: ∀j b o,gs j b=some o→p b=some o:=by
  intro j b o hh;rw [g7];exact aG4 g6 hh
 have gs'_sub: ∀m b o,gs' m b=some o→ ∃j,j≠i+1∧gs j b=some o:=by
  intro m b o hh
  match m,hh with
  | 0,hh=>exact⟨0,by omega,hh⟩
  | 1,hh=>cases hh
  | j+2,hh=>
    have hh':(if i=j then PHeap.emp else gs (j+1)) b=some o:=hh
    split at hh'
    ·cases hh'
    ·exact⟨j+1,by omega,hh'⟩
 have gdis: ∀l m,l≠m→(gs' l).disj (gs' m):=by
  intro l m hlm b;cases h1:gs' l b with
  | none=>exact .inl rfl
  | some o=>
    right;cases h2:gs' m b with
    | none=>rfl
    | some o2=>
      exfalso
      have key: ∀l m,l≠m→ ∀o o2,gs' l b=some o→gs' m b=some o2→False:=by
       intro l m hlm o o2 h1 h2
       match l,m,h1,h2 with
       | 0,0,_,_=>exact hlm rfl
       | 1,_,h1,_=>cases h1
       | _,1,_,h2=>cases h2
       | 0,j+2,h1,h2=>
         have h2':(if i=j then PHeap.emp else gs (j+1)) b=some o2:=h2
         split at h2'
         ·cases h2'
         ·rcases g6 0 (j+1) (by omega) b with d | d
          ·have h1':gs 0 b=some o:=h1;rw [d]at h1';cases h1'
          ·rw [d]at h2';cases h2'
       | j+2,0,h1,h2=>
         have h1':(if i=j then PHeap.emp else gs (j+1)) b=some o:=h1
         split at h1'
         ·cases h1'
         ·rcases g6 0 (j+1) (by omega) b with d | d
          ·have h2':gs 0 b=some o2:=h2;rw [d]at h2';cases h2'
          ·rw [d]at h1';cases h1'
       | j+2,j2+2,h1,h2=>
         have h1':(if i=j then PHeap.emp else gs (j+1)) b=some o:=h1
         have h2':(if i=j2 then PHeap.emp else gs (j2+1)) b=some o2:=h2
         split at h1'
         ·cases h1'
         ·split at h2'
          ·cases h2'
          ·rcases g6 (j+1) (j2+1) (by omega) b with d | d
           ·rw [d]at h1';cases h1'
           ·rw [d]at h2';cases h2'
      exact key l m hlm o o2 h1 h2
 have hcell:aO (kR ws i) 0=some (.cells ((rowC 2 ws).set i (.ptr 1 0))):=rfl;refine⟨x,gs (i+1),aGT gs',hq,⟨V',gs',g1,?_,?_,⟨?_,?_,gdis⟩,rfl⟩,?_,hsub _,?_,cs,T,?_,?_⟩
 ·intro j hj;rw [htb]at hj;have:j=0:=by dsimp only at hj;omega
  subst this;rfl
 ·rw [htb];rfl
 ·intro l e he;rw [htb]at he
  match l,he with
  | 0,he=>
    have he':aO (kR ws i) 0=some e:=he;rw [hcell]at he';simp only [sI']at he';subst he';refine⟨b,k,c1,cs,T,c2,c3,rs,tail,c4,?_⟩;refine aHz (by rw [List.length_set,gM,hlen,gM]) ?_
    intro j a v ha hv;rw [List.getElem?_set]at ha;split at ha
    ·rename_i hij;subst hij;split at ha
     ·simp only [sI']at ha;subst ha;rw [gE' hil]at hv;simp only [sI']at hv;subst hv;refine⟨b2,k2,?_,e2⟩;show some x=_;rw [hx2]
     ·cases ha
    ·rw [iM]at ha;cases hwj:ws[j]? with
     | none=>rw [hwj]at ha;cases ha
     | some o=>
       rw [hwj]at ha;simp only [Option.map_some,sI']at ha;have hr:=aG.at c5 (i:=j) (a:=KN (1+j) o) (v:=v) (by rw [iM,hwj];rfl) hv
       cases o with
       | none=>subst ha;exact hr
       | some s=>
         subst ha;obtain⟨b3,k3,f1,f2⟩:=hr;refine⟨b3,k3,?_,f2⟩;show V' (2+j)=_;rw [Nat.add_comm];show V (j+1)=_;rw [Nat.add_comm];exact f1
  | 1,he=>cases he
  | j+2,he=>
    have he':aO (kR ws i) (j+2)=some e:=he;rw [fX]at he';split at he'
    ·cases he'
    ·rename_i hij;have hj2:aO (rowE ws) (j+1)=some e:=by rw [eT];exact he'
     have hin:=g4 _ _ hj2;show aH.interp (obN tb N) V' (j+2) e (if i=j then PHeap.emp else gs (j+1))
     rw [if_neg hij];cases hwj:(ws[j]?).join with
     | none=>rw [hwj]at he';cases he'
     | some s=>
       rw [hwj]at he';simp only [Option.map_some,sI']at he';subst he';obtain⟨x3,f1,f2⟩:=o0 hin;exact⟨x3.1,x3.2,f1,[],rfl,f2⟩
 ·intro l he;rw [htb]at he
  match l,he with
  | 0,he=>cases he
  | 1,he=>rfl
  | j+2,he=>
    have he':aO (kR ws i) (j+2)=none:=he;rw [fX]at he';show(if i=j then PHeap.emp else gs (j+1))=_
    split at he'
    ·rename_i hij;rw [if_pos hij]
    ·rename_i hij;rw [if_neg hij];refine g5 _ ?_;show aO (rowE ws) (j+1)=none;rw [eT];exact he'
 ·intro b';cases h1:gs (i+1) b' with
  | none=>exact .inl rfl
  | some o=>
    right;refine aHp fun m=>?_;cases h2:gs' m b' with
    | none=>rfl
    | some o2=>
      exfalso;obtain⟨j,hj,h3⟩:=gs'_sub m b' o2 h2;rcases g6 j (i+1) hj b' with d | d
      ·rw [d]at h3;cases h3
      ·rw [d]at h1;cases h1
 ·intro b' o hh;obtain⟨m,hm⟩:=aG3 hh;obtain⟨j,_,h3⟩:=gs'_sub m b' o hm;exact hsub j b' o h3
 ·refine hsub 0 r.1 _ ?_;rw [c2,hbk];simp [PHeap.one]
 ·rw [c4,List.getElem?_append_left hil,gE' hil,e2,hx2]
theorem iT.back(R:iT tb){rr rr':R.R}{i:Nat}{t:A}{r x:Nat×Nat}{p' q:PHeap}{N:Nat}(hp:obN tb (N+1) (R.hole rr i) r [x] p')(hq:obN tb N t x [] q)(hd:q.disj p')(hi:i<R.len rr)(hu:R.upd rr i t=some rr'):
 ∃p,obN tb (N+1) (R.row rr') r [] p∧(∀b o,p b=some o→q b=some o∨p' b=some o):=by
 obtain⟨V,gs,g1,g2,g3,⟨g4,g5,g6⟩,g7⟩:=hp;have htb:=R.tbRow rr';rw [R.upd_eq _ _ _ _ hu]at htb;rw [R.len_eq]at hi;rw [R.tbHole]at g2 g3 g4 g5;dsimp only at g2 g3 g4 g5;generalize R.els rr=ws at*;have hx:V 1=some x:=by have:=g2 0 (by omega);simpa using this
 have hc:=g4 0 _ (show aO (kR ws i) 0=some (.cells ((rowC 2 ws).set i (.ptr 1 0)))from rfl)
 obtain⟨b,k,c1,cs,T,c2,c3,rs,tail,c4,c5⟩:=hc;have hlen:=aG.length c5;rw [List.length_set,gM]at hlen
 let V':Val:=fun m=>match m with
  | 0=>V 0
  | j+1=>if i=j then some x else V (j+2)
 let gs':Nat→PHeap:=fun m=>match m with
  | 0=>gs 0
  | j+1=>if i=j then q else gs (j+2)
 have hsub: ∀j b o,gs j b=some o→p' b=some o:=by
  intro j b o hh;rw [g7];exact aG4 g6 hh
 have hqd: ∀j b o o2,gs j b=some o→q b=some o2→False:=by
  intro j b o o2 h1 h2;have:=hsub j b o h1;rcases hd b with d | d
  ·rw [d]at h2;cases h2
  ·rw [d]at this;cases this
 have key: ∀l m b,l≠m→ ∀o o2,gs' l b=some o→gs' m b=some o2→False:=by
  intro l m b hlm o o2 h1 h2
  match l,m,h1,h2 with
  | 0,0,_,_=>exact hlm rfl
  | 0,j+1,h1,h2=>
    have h2':(if i=j then q else gs (j+2)) b=some o2:=h2
    split at h2'
    ·exact hqd 0 b o o2 h1 h2'
    ·rcases g6 0 (j+2) (by omega) b with d | d
     ·have h1':gs 0 b=some o:=h1;rw [d]at h1';cases h1'
     ·rw [d]at h2';cases h2'
  | j+1,0,h1,h2=>
    have h1':(if i=j then q else gs (j+2)) b=some o:=h1
    split at h1'
    ·exact hqd 0 b o2 o h2 h1'
    ·rcases g6 0 (j+2) (by omega) b with d | d
     ·have h2':gs 0 b=some o2:=h2;rw [d]at h2';cases h2'
     ·rw [d]at h1';cases h1'
  | j+1,j2+1,h1,h2=>
    have h1':(if i=j then q else gs (j+2)) b=some o:=h1
    have h2':(if i=j2 then q else gs (j2+2)) b=some o2:=h2
    split at h1'
    ·split at h2'
     ·omega
     ·exact hqd _ b o2 o h2' h1'
    ·split at h2'
     ·exact hqd _ b o o2 h1' h2'
     ·rcases g6 (j+2) (j2+2) (by omega) b with d | d
      ·rw [d]at h1';cases h1'
      ·rw [d]at h2';cases h2'
 have gdis: ∀l m,l≠m→(gs' l).disj (gs' m):=by
  intro l m hlm b;cases h1:gs' l b with
  | none=>exact .inl rfl
  | some o=>
    right;cases h2:gs' m b with
    | none=>rfl
    | some o2=>exact(key l m b hlm o o2 h1 h2).elim
 refine⟨aGT gs',⟨V',gs',g1,?_,?_,⟨?_,?_,gdis⟩,rfl⟩,?_⟩
 ·intro j hj;rw [htb]at hj;dsimp only at hj;omega
 ·rw [htb];rfl
 ·intro l e he;rw [htb]at he
  match l,he with
  | 0,he=>
    have he':some (aH.cells (rowC 1 (ws.set i (some t))))=some e:=he;simp only [sI']at he';subst he';refine⟨b,k,c1,cs,T,c2,c3,rs,tail,c4,?_⟩;refine aHz (by rw [gM,List.length_set,hlen]) ?_
    intro j a v ha hv;rw [iM,List.getElem?_set]at ha;split at ha
    ·rename_i hij;subst hij;simp only [Option.map_some,sI',KN]at ha;subst ha;have hr:=aG.at c5 (i:=i) (a:=.ptr 1 0) (v:=v) (by rw [List.getElem?_set,if_pos rfl,if_pos (by rw [gM];exact hi)]) hv
     obtain⟨b3,k3,f1,f2⟩:=hr;refine⟨b3,k3,?_,f2⟩;show V' (1+i)=_;rw [Nat.add_comm];show(if i=i then some x else _)=_
     rw [if_pos rfl,←hx];exact f1
    ·rename_i hij;cases hwj:ws[j]? with
     | none=>rw [hwj]at ha;cases ha
     | some o=>
       rw [hwj]at ha;simp only [Option.map_some,sI']at ha;have hr:=aG.at c5 (i:=j) (a:=KN (2+j) o) (v:=v) (by rw [List.getElem?_set,if_neg hij,iM,hwj];rfl) hv
       cases o with
       | none=>subst ha;exact hr
       | some s=>
         subst ha;obtain⟨b3,k3,f1,f2⟩:=hr;refine⟨b3,k3,?_,f2⟩;show V' (1+j)=_;rw [Nat.add_comm];show(if i=j then some x else V (j+2))=_
         rw [if_neg hij,Nat.add_comm];exact f1
  | j+1,he=>
    have he':aO (rowE (ws.set i (some t))) (j+1)=some e:=he;rw [eT,List.getElem?_set]at he';show aH.interp (obN tb N) V' (j+1) e (if i=j then q else gs (j+2))
    split at he'
    ·rename_i hij;subst hij;simp only [Option.join_some,Option.map_some,sI']at he';subst he';rw [if_pos rfl];exact⟨x.1,x.2,by show(if i=i then some x else _)=_;rw [if_pos rfl],[],rfl,hq⟩
    ·rename_i hij;rw [if_neg hij];have hj2:aO (kR ws i) (j+2)=some e:=by rw [fX,if_neg hij];exact he'
     have hin:=g4 _ _ hj2;cases hwj:(ws[j]?).join with
     | none=>rw [hwj]at he';cases he'
     | some s=>
       rw [hwj]at he';simp only [Option.map_some,sI']at he';subst he';obtain⟨x3,f1,f2⟩:=o0 hin;refine⟨x3.1,x3.2,?_,[],rfl,f2⟩;show(if i=j then some x else V (j+2))=_
       rw [if_neg hij];exact f1
 ·intro l he;rw [htb]at he
  match l,he with
  | 0,he=>cases he
  | j+1,he=>
    have he':aO (rowE (ws.set i (some t))) (j+1)=none:=he;rw [eT,List.getElem?_set]at he';show(if i=j then q else gs (j+2))=_
    split at he'
    ·rename_i hij;subst hij;cases he'
    ·rename_i hij;rw [if_neg hij];refine g5 _ ?_;show aO (kR ws i) (j+2)=none;rw [fX,if_neg hij];exact he'
 ·intro b' o hh;obtain⟨m,hm⟩:=aG3 hh
  match m,hm with
  | 0,hm=>exact .inr (hsub 0 b' o hm)
  | j+1,hm=>
    have hm':(if i=j then q else gs (j+2)) b'=some o:=hm
    split at hm'
    ·exact .inl hm'
    ·exact .inr (hsub _ b' o hm')
theorem iT.nil(R:iT tb){rr:R.R}{i:Nat}{r:Nat×Nat}{p:PHeap}{N:Nat}(h:obN tb (N+1) (R.row rr) r [] p)(hw:(R.els rr)[i]? =some none):
 ∃cs T,p r.1=some (.cells cs T)∧cs.toList[i]? =some (.pointer none):=by
 obtain⟨V,gs,g1,g2,g3,⟨g4,g5,g6⟩,g7⟩:=h;rw [R.tbRow]at g4;dsimp only at g4;generalize R.els rr=ws at*;have hc:=g4 0 _ (show aO (rowE ws) 0=some (.cells (rowC 1 ws))from rfl)
 obtain⟨b,k,c1,cs,T,c2,c3,rs,tail,c4,c5⟩:=hc;have hbk:r=(b,k):=by have c1':V 0=some (b,k):=c1;rw [g1]at c1';simpa using c1'
 have hlen:=aG.length c5;have hil:i<rs.length:=by rw [hlen,gM];exact(List.getElem?_eq_some_iff.1 hw).1
 have hri:=aG.at c5 (i:=i) (a:=.raw (.pointer none)) (v:=rs[i]) (by rw [iM,hw];rfl) (gE' hil)
 have e2:rs[i]=.pointer none:=hri;refine⟨cs,T,?_,?_⟩
 ·rw [g7];refine aG4 g6 (l:=0) ?_;rw [c2,hbk];simp [PHeap.one]
 ·rw [c4,List.getElem?_append_left hil,gE' hil,e2]
theorem iT.lent(R:iT tb){rr:R.R}{i:Nat}{r x:Nat×Nat}{p:PHeap}{N:Nat}(h:obN tb (N+1) (R.hole rr i) r [x] p)(hi:i<R.len rr):
 ∃cs T,p r.1=some (.cells cs T)∧cs.toList[i]? =some (.pointer (some ⟨x.1,0,none⟩)):=by
 obtain⟨V,gs,g1,g2,g3,⟨g4,g5,g6⟩,g7⟩:=h;rw [R.tbHole]at g2 g4;rw [R.len_eq]at hi;dsimp only at g2 g4;generalize R.els rr=ws at*;have hx:V 1=some x:=by have:=g2 0 (by omega);simpa using this
 have hc:=g4 0 _ (show aO (kR ws i) 0=some (.cells ((rowC 2 ws).set i (.ptr 1 0)))from rfl)
 obtain⟨b,k,c1,cs,T,c2,c3,rs,tail,c4,c5⟩:=hc;have hbk:r=(b,k):=by have c1':V 0=some (b,k):=c1;rw [g1]at c1';simpa using c1'
 have hlen:=aG.length c5;rw [List.length_set,gM]at hlen;have hil:i<rs.length:=by omega
 have hri:=aG.at c5 (i:=i) (a:=.ptr 1 0) (v:=rs[i]) (by rw [List.getElem?_set,if_pos rfl,if_pos (by rw [gM];exact hi)]) (gE' hil)
 obtain⟨b2,k2,e1,e2⟩:=hri
 have hx2:x=(b2,k2):=by
  have:V 1=some (b2,k2):=e1;rw [hx]at this;simpa using this
 refine⟨cs,T,?_,?_⟩
 ·rw [g7];refine aG4 g6 (l:=0) ?_;rw [c2,hbk];simp [PHeap.one]
 ·rw [c4,List.getElem?_append_left hil,gE' hil,e2,hx2]
theorem Inv.lend(R:iT tb){V:Val}{h:aC A}{hR:PHeap}{w:World}{l i:Nat}{ws:R.R}{t:A}(hi:Inv (obI tb) V (toF h) hR w)(hf:bY V h.length)(hl:aO h l=some (.abs (R.row ws) []))(hw:(R.els ws)[i]? =some (some t)):
 ∃V' x b k cs T,V.le V'∧bY V' (h.length+1)∧Inv (obI tb) V' (toF (h.set l (some (.abs (R.hole ws i) [h.length]))++ [some (.abs t [])])) hR w∧V' h.length=some x∧V l=some (b,k)∧w.heap[b]? =some (.cells cs T)∧cs.toList[i]? =some (.pointer (some ⟨x.1,0,none⟩)):=by
 have hll:=dH hl;obtain⟨hs,h1,h2,h3,h4,h5,h6⟩:=hi;obtain⟨b,k,hV,bs,hlo,N,hob⟩:=h1 l _ hl;have hbs:bs=[]:=hlo;subst hbs;cases N with
 | zero=>exact hob.elim
 | succ N=>
 obtain⟨x,q,p',o1,o2,o3,o4,o5,cs,T,o6,o7⟩:=R.lend hob hw;have hn:V h.length=none:=hf _ (Nat.le_refl _);have hle:=aG2 (x:=x) hn
 let hs':Nat→PHeap:=fun m=>if m=l then p' else if m=h.length then q else hs m
 have get1: ∀m,m<h.length→m≠l→aO (h.set l (some (.abs (R.hole ws i) [h.length]))++ [some (.abs t [])]) m=aO h m:=by
  intro m hm hml;rw [cW (by simpa using hm)]
  simp only [aO,gD'];rw [List.getElem?_set_ne (fun e=>hml e.symm)]
 have get2:aO (h.set l (some (.abs (R.hole ws i) [h.length]))++ [some (.abs t [])]) l=some (.abs (R.hole ws i) [h.length]):=by
  rw [cW (by simpa using hll)]
  simp only [aO,gD'];rw [List.getElem?_set_self hll];rfl
 have get3:aO (h.set l (some (.abs (R.hole ws i) [h.length]))++ [some (.abs t [])]) h.length=some (.abs t []):=by
  simp only [aO,gD'];rw [List.getElem?_append_right (by simp)];simp
 have get4: ∀m,h.length<m→aO (h.set l (some (.abs (R.hole ws i) [h.length]))++ [some (.abs t [])]) m=none:=fun m hm=>cK (by simp;omega)
 have hsl: ∀b o,p' b=some o→hs l b=some o:=o5;have hsq: ∀b o,q b=some o→hs l b=some o:=o4;have hsn: ∀m,h.length≤m→hs m=.emp :=fun m hm=>h2 m (cK hm);refine⟨V.add h.length x,x,b,k,cs,T,hle,?_,⟨hs',?_,?_,?_,?_,?_,h6⟩,aG1 _ _ _,hV,?_,o7⟩
 ·intro m hm;rw [aHC _ _ (by omega)]
  exact hf m (by omega)
 ·intro m e he;have he':aO (h.set l (some (.abs (R.hole ws i) [h.length]))++ [some (.abs t [])]) m=some e:=he
  by_cases hml:m=l
  ·subst hml;rw [get2]at he';simp only [sI']at he';subst he';show aH.interp _ _ _ _ (if m=m then p' else _)
   rw [if_pos rfl];exact⟨b,k,hle _ _ hV,[x],⟨x,[],aG1 _ _ _,rfl,rfl⟩,N+1,o2⟩
  ·by_cases hmn:m=h.length
   ·subst hmn;rw [get3]at he';simp only [sI']at he';subst he';show aH.interp _ _ _ _ (if h.length=l then p' else if h.length=h.length then q else _)
    rw [if_neg hml,if_pos rfl];exact⟨x.1,x.2,aG1 _ _ _,[],rfl,N,o1⟩
   ·by_cases hlt:m<h.length
    ·rw [get1 m hlt hml]at he';show aH.interp _ _ _ _ (if m=l then p' else if m=h.length then q else hs m)
     rw [if_neg hml,if_neg hmn];exact aG5 hle (h1 m e he')
    ·rw [get4 m (by omega)]at he';cases he'
 ·intro m he;have he':aO (h.set l (some (.abs (R.hole ws i) [h.length]))++ [some (.abs t [])]) m=none:=he;show(if m=l then p' else if m=h.length then q else hs m)=_
  by_cases hml:m=l
  ·subst hml;rw [get2]at he';cases he'
  ·by_cases hmn:m=h.length
   ·subst hmn;rw [get3]at he';cases he'
   ·rw [if_neg hml,if_neg hmn]
    by_cases hlt:m<h.length
    ·rw [get1 m hlt hml]at he';exact h2 m he'
    ·exact hsn m (by omega)
 ·intro m m' hmm b';show(if m=l then p' else if m=h.length then q else hs m) b'=none∨(if m'=l then p' else if m'=h.length then q else hs m') b'=none
  have part: ∀m,m≠l→m≠h.length→(p' b'=none∧q b'=none)∨hs m b'=none:=by
   intro m hml hmn;rcases h3 l m (fun e=>hml e.symm) b' with d | d
   ·left;constructor
    ·cases hp:p' b' with
     | none=>rfl
     | some o=>rw [hsl b' o hp]at d;cases d
    ·cases hp:q b' with
     | none=>rfl
     | some o=>rw [hsq b' o hp]at d;cases d
   ·exact .inr d
  by_cases a1:m=l
  ·rw [if_pos a1]
   by_cases a2:m'=l
   ·exact(hmm (a1.trans a2.symm)).elim
   ·rw [if_neg a2]
    by_cases a3:m'=h.length
    ·rw [if_pos a3];exact(o3 b').symm
    ·rw [if_neg a3];rcases part m' a2 a3 with d | d
     ·exact .inl d.1
     ·exact .inr d
  ·rw [if_neg a1]
   by_cases a0:m=h.length
   ·rw [if_pos a0]
    by_cases a2:m'=l
    ·rw [if_pos a2];exact o3 b'
    ·rw [if_neg a2]
     by_cases a3:m'=h.length
     ·exact(hmm (a0.trans a3.symm)).elim
     ·rw [if_neg a3];rcases part m' a2 a3 with d | d
      ·exact .inl d.2
      ·exact .inr d
   ·rw [if_neg a0]
    by_cases a2:m'=l
    ·rw [if_pos a2];rcases part m a1 a0 with d | d
     ·exact .inr d.1
     ·exact .inl d
    ·rw [if_neg a2]
     by_cases a3:m'=h.length
     ·rw [if_pos a3];rcases part m a1 a0 with d | d
      ·exact .inr d.2
      ·exact .inl d
     ·rw [if_neg a3];exact h3 m m' hmm b'
 ·intro m b';show(if m=l then p' else if m=h.length then q else hs m) b'=none∨hR b'=none
  split
  ·rcases h4 l b' with d | d
   ·cases hp:p' b' with
    | none=>exact .inl rfl
    | some o=>rw [hsl b' o hp]at d;cases d
   ·exact .inr d
  ·split
   ·rcases h4 l b' with d | d
    ·cases hp:q b' with
     | none=>exact .inl rfl
     | some o=>rw [hsq b' o hp]at d;cases d
    ·exact .inr d
   ·exact h4 m b'
 ·intro m b' o hh;have hh':(if m=l then p' else if m=h.length then q else hs m) b'=some o:=hh
  split at hh'
  ·exact h5 l b' o (hsl b' o hh')
  ·split at hh'
   ·exact h5 l b' o (hsq b' o hh')
   ·exact h5 m b' o hh'
 ·exact h5 l b _ o6
theorem Inv.back(R:iT tb){V:Val}{h:aC A}{hR:PHeap}{w:World}{l i k:Nat}{ws ws':R.R}{t:A}(hu:R.upd ws i t=some ws')(hi:Inv (obI tb) V (toF h) hR w)(hl:aO h l=some (.abs (R.hole ws i) [k]))(hk:aO h k=some (.abs t []))(hkl:k≠l)(hlt:i<R.len ws):
 Inv (obI tb) V (toF ((h.set l (some (.abs (R.row ws') []))).set k none)) hR w:=by
 have hll:=dH hl;have hkk:=dH hk;obtain⟨hs,h1,h2,h3,h4,h5,h6⟩:=hi;obtain⟨b,kk,hV,bs,hlo,N,hob⟩:=h1 l _ hl;obtain⟨x,r,hx,rfl,hr⟩:=hlo;have hr':r=[]:=hr;subst hr';obtain⟨b2,k2,hV2,bs2,hlo2,N2,hob2⟩:=h1 k _ hk;have hbs2:bs2=[]:=hlo2;subst hbs2
 have hxk:x=(b2,k2):=by
  have:V k=some x:=hx;rw [hV2]at this;simpa using this.symm
 subst hxk;cases N with
 | zero=>exact hob.elim
 | succ N=>
 have q1:=yF tb (Nat.le_max_right N N2) hob2;have q2:=yF tb (show N+1≤max N N2+1 by omega) hob
 obtain⟨p,p1,p2⟩:=R.back q2 q1 (h3 k l hkl) hlt hu
 let hs':Nat→PHeap:=fun m=>if m=l then p else if m=k then .emp else hs m
 have get1: ∀m,m≠l→m≠k→aO ((h.set l (some (.abs (R.row ws') []))).set k none) m=aO h m:=by
  intro m hml hmk;simp only [aO,gD'];rw [List.getElem?_set_ne (fun e=>hmk e.symm),List.getElem?_set_ne (fun e=>hml e.symm)]
 have get2:aO ((h.set l (some (.abs (R.row ws') []))).set k none) l=some (.abs (R.row ws') []):=by
  simp only [aO,gD'];rw [List.getElem?_set_ne hkl,List.getElem?_set_self hll];rfl
 have get3:aO ((h.set l (some (.abs (R.row ws') []))).set k none) k=none:=by
  simp only [aO,gD'];rw [List.getElem?_set_self (by simpa using hkk)];rfl
 refine⟨hs',?_,?_,?_,?_,?_,h6⟩
 ·intro m e he;have he':aO ((h.set l (some (.abs (R.row ws') []))).set k none) m=some e:=he;show aH.interp _ _ _ _ (if m=l then p else if m=k then .emp else hs m)
  by_cases hml:m=l
  ·subst hml;rw [get2]at he';simp only [sI']at he';subst he';rw [if_pos rfl];exact⟨b,kk,hV,[],rfl,_,p1⟩
  ·by_cases hmk:m=k
   ·subst hmk;rw [get3]at he';cases he'
   ·rw [if_neg hml,if_neg hmk];rw [get1 m hml hmk]at he';exact h1 m e he'
 ·intro m he;have he':aO ((h.set l (some (.abs (R.row ws') []))).set k none) m=none:=he;show(if m=l then p else if m=k then .emp else hs m)=_
  by_cases hml:m=l
  ·subst hml;rw [get2]at he';cases he'
  ·rw [if_neg hml]
   by_cases hmk:m=k
   ·rw [if_pos hmk]
   ·rw [if_neg hmk];rw [get1 m hml hmk]at he';exact h2 m he'
 ·intro m m' hmm b';show(if m=l then p else if m=k then .emp else hs m) b'=none∨(if m'=l then p else if m'=k then .emp else hs m') b'=none
  have part: ∀m,m≠l→m≠k→p b'=none∨hs m b'=none:=by
   intro m hml hmk;cases hp:p b' with
   | none=>exact .inl rfl
   | some o=>
     right;rcases p2 b' o hp with d | d
     ·rcases h3 k m (fun e=>hmk e.symm) b' with f | f
      ·rw [f]at d;cases d
      ·exact f
     ·rcases h3 l m (fun e=>hml e.symm) b' with f | f
      ·rw [f]at d;cases d
      ·exact f
  by_cases a1:m=l
  ·rw [if_pos a1]
   by_cases a2:m'=l
   ·exact(hmm (a1.trans a2.symm)).elim
   ·rw [if_neg a2]
    by_cases a3:m'=k
    ·rw [if_pos a3];exact .inr rfl
    ·rw [if_neg a3];exact part m' a2 a3
  ·rw [if_neg a1]
   by_cases a0:m=k
   ·rw [if_pos a0];exact .inl rfl
   ·rw [if_neg a0]
    by_cases a2:m'=l
    ·rw [if_pos a2];exact(part m a1 a0).symm
    ·rw [if_neg a2]
     by_cases a3:m'=k
     ·rw [if_pos a3];exact .inr rfl
     ·rw [if_neg a3];exact h3 m m' hmm b'
 ·intro m b';show(if m=l then p else if m=k then .emp else hs m) b'=none∨hR b'=none
  split
  ·cases hp:p b' with
   | none=>exact .inl rfl
   | some o=>
     right;rcases p2 b' o hp with d | d
     ·rcases h4 k b' with f | f
      ·rw [f]at d;cases d
      ·exact f
     ·rcases h4 l b' with f | f
      ·rw [f]at d;cases d
      ·exact f
  ·split
   ·exact .inl rfl
   ·exact h4 m b'
 ·intro m b' o hh;have hh':(if m=l then p else if m=k then .emp else hs m) b'=some o:=hh
  split at hh'
  ·rcases p2 b' o hh' with d | d
   ·exact h5 k b' o d
   ·exact h5 l b' o d
  ·split at hh'
   ·cases hh'
   ·exact h5 m b' o hh'
def iT.at(R:iT tb)(ws:R.R)(l off:Nat)(h:aC A)(K:AVal→aC A→Prop):Prop:=
 off<R.len ws∧cond (R.is ws off) (K (.ptr h.length 0) (h.set l (some (.abs (R.hole ws off) [h.length]))++ [some (.abs (R.get ws off) [])])) (K (.raw (.pointer none)) h)
def iT.load(R:iT tb)(P:Program)(ρ:Operand→AVal)(op:Op)(h:aC A)(K:AVal→aC A→Prop):Prop:=
 match op with
 | .load t a=>match ρ a,fZ P t with
   | .ptr l off,some false=>match aO h l with
     | some (.abs a [])=>match R.isRow a with
       | some ws=>R.at ws l off h K
       | none=>False
     | some (.abs a [k])=>match R.isHole a with
       | some (ws,i)=>match aO h k with
         | some (.abs s [])=>(match R.upd ws i s with
           | some ws'=>cond (Nat.beq k l) False (i<R.len ws∧R.at ws' l off ((h.set l (some (.abs (R.row ws') []))).set k none) K)
           | none=>False)
         | _=>(i<R.len ws∧off=i)∧K (.ptr k 0) h
       | none=>False
     | _=>False
   | _,_=>False
 | _=>False
theorem iT.at_ok(R:iT tb){ws:R.R}{l off:Nat}{h:aC A}{K:AVal→aC A→Prop}(hk:R.at ws l off h K){V:Val}{hR:PHeap}{w:World}{t:TypeId}(ht:fZ P t=some false)(hi:Inv (obI tb) V (toF h) hR w)(hf:bY V h.length)(hl:aO h l=some (.abs (R.row ws) [])){x:Value}(hx:Rep V (.ptr l off) x):
 ∃v v' V' h2,K v h2∧(Instr.loadAt t x).run P w=.ok v' w∧Rep V' v v'∧V.le V'∧bY V' h2.length∧h.length≤h2.length∧Inv (obI tb) V' (toF h2) hR w:=by
 obtain⟨hlt,hk⟩:=hk;obtain⟨b,k,hV,rfl⟩:=hx
 have seg: ∀ {cs:Array Value} {v:Value},cs.toList[off]? =some v→cs.toList.drop off=[v]++cs.toList.drop (off+1):=by
  intro cs v hv;obtain⟨hlt',hv'⟩:=List.getElem?_eq_some_iff.1 hv;rw [←hv'];exact List.drop_eq_getElem_cons hlt'
 cases hs:R.is ws off with
 | true=>
   rw [hs]at hk;have hw:=R.is_true ws off hs hlt;obtain⟨V',y,b',k',cs,T,a1,a2,a3,a4,a5,a6,a7⟩:=hi.lend R hf hl hw;rw [hV]at a5;simp only [sI',pI']at a5;obtain⟨rfl,rfl⟩:=a5;obtain⟨v',g1,g2⟩:=iK (P:=P) (V:=V') (t:=t) (av:=[.ptr h.length 0]) (v:=.ptr h.length 0) a6 (seg a7) ⟨_,[],rfl,⟨y.1,y.2,a4,rfl⟩,rfl⟩ (by unfold fI;rw [ht];rfl)
   exact⟨_,v',V',_,hk,g1,g2,a1,by simpa using a2,by simp,a3⟩
 | false=>
   rw [hs]at hk;have hw:=R.is_false ws off hs hlt;have hi0:=hi;obtain⟨hs',h1,h2,h3,h4,h5,h6⟩:=hi;obtain⟨b',k',hV',bs,hlo,N,hob⟩:=h1 l _ hl;have hbs:bs=[]:=hlo;subst hbs;rw [hV]at hV';simp only [sI',pI']at hV';obtain⟨rfl,rfl⟩:=hV';cases N with
   | zero=>exact hob.elim
   | succ N=>
   obtain⟨cs,T,o6,o7⟩:=R.nil hob hw;obtain⟨v',g1,g2⟩:=iK (P:=P) (V:=V) (t:=t) (av:=[.raw (.pointer none)]) (v:=.raw (.pointer none)) (h5 l b _ o6) (seg o7) ⟨_,[],rfl,rfl,rfl⟩ (by unfold fI;rw [ht];rfl)
   exact⟨_,v',V,h,hk,g1,g2,V.le_refl,hf,Nat.le_refl _,hi0⟩
theorem iT.load_ok(R:iT tb)(ρ:Operand→AVal)(o:Oper)(h:aC A)(K:AVal→aC A→Prop)(hk:R.load P ρ o.op h K)(V:Val)(hR:PHeap)(w:World)(ρ':Operand→Value)(hi:Inv (obI tb) V (toF h) hR w)(hf: ∀l,h.length≤l→V l=none)(hρ: ∀x,Rep V (ρ x) (ρ' x)):
 ∃nx w' V' v v' h2,K v h2∧(execOp ρ' o).run P w=.ok nx w'∧(nx=.value v'∨nx=.skip ∧v'=undef)∧Rep V' v v'∧V.le V'∧(∀l,h2.length≤l→V' l=none)∧h.length≤h2.length∧Inv (obI tb) V' (toF h2) hR w'∧bZ w w':=by
 unfold iT.load at hk;split at hk
 case h_2=>exact hk.elim
 rename_i t a hop;split at hk
 case h_2=>exact hk.elim
 rename_i l off hρa hag;have hx:=hρ a;rw [hρa]at hx
 have fin: ∀ {v v' V' h2},K v h2→(Instr.loadAt t (ρ' a)).run P w=.ok v' w→Rep V' v v'→V.le V'→bY V' h2.length→h.length≤h2.length→Inv (obI tb) V' (toF h2) hR w→
  ∃nx w' V' v v' h2,K v h2∧(execOp ρ' o).run P w=.ok nx w'∧(nx=.value v'∨nx=.skip ∧v'=undef)∧Rep V' v v'∧V.le V'∧(∀l,h2.length≤l→V' l=none)∧h.length≤h2.length∧Inv (obI tb) V' (toF h2) hR w'∧bZ w w':=by
  intro v v' V' h2 a1 a2 a3 a4 a5 a6 a7;exact⟨_,w,V',v,v',h2,a1,by simp [execOp,hop,a2],.inl rfl,a3,a4,a5,a6,a7,aG6 w⟩
 split at hk
 ·rename_i a0 hl;split at hk
  case h_2=>exact hk.elim
  rename_i ws hr;have:=R.isRow_eq _ _ hr;subst this;obtain⟨v,v',V',h2,a1,a2,a3,a4,a5,a6,a7⟩:=R.at_ok (P:=P) hk hag hi hf hl hx;exact fin a1 a2 a3 a4 a5 a6 a7
 ·rename_i a0 k hl;split at hk
  case h_2=>exact hk.elim
  rename_i ws i hr;have:=R.isHole_eq _ _ _ hr;subst this;split at hk
  ·rename_i s hkk;split at hk
   case h_2=>exact hk.elim
   rename_i ws' hu;cases hb:Nat.beq k l with
   | true=>rw [hb]at hk;exact hk.elim
   | false=>
     rw [hb]at hk;obtain⟨hil,hk⟩:=hk;have hkl:k≠l:=by intro e;rw [e,Nat.beq_refl]at hb;cases hb
     have hi2:=hi.back R hu hl hkk hkl hil;have hll:=dH hl
     obtain⟨v,v',V',h2,a1,a2,a3,a4,a5,a6,a7⟩:=R.at_ok (P:=P) hk hag hi2 (by intro m hm;exact hf m (by simpa using hm)) (by
      simp only [aO,gD'];rw [List.getElem?_set_ne hkl,List.getElem?_set_self hll];rfl) hx
     exact fin a1 a2 a3 a4 a5 (by simpa using a6) a7
  ·obtain⟨⟨hil,hoff⟩,hk⟩:=hk;subst hoff;obtain⟨b,kk,hV,hx⟩:=hx;obtain⟨hs',h1,h2,h3,h4,h5,h6⟩:=id hi;obtain⟨b',k',hV',bs,hlo,N,hob⟩:=h1 l _ hl;obtain⟨x,r,hxk,rfl,hr'⟩:=hlo;have hr'':r=[]:=hr';subst hr'';rw [hV]at hV';simp only [sI',pI']at hV';obtain⟨rfl,rfl⟩:=hV';cases N with
   | zero=>exact hob.elim
   | succ N=>
   obtain⟨cs,T,o6,o7⟩:=R.lent hob hil
   have seg:cs.toList.drop off=[.pointer (some ⟨x.1,0,none⟩)]++cs.toList.drop (off+1):=by
    obtain⟨hlt',hv'⟩:=List.getElem?_eq_some_iff.1 o7;rw [←hv'];exact List.drop_eq_getElem_cons hlt'
   obtain⟨v',g1,g2⟩:=iK (P:=P) (V:=V) (t:=t) (av:=[.ptr k 0]) (v:=.ptr k 0) (h5 l b _ o6) seg ⟨_,[],rfl,⟨x.1,x.2,hxk,rfl⟩,rfl⟩ (by unfold fI;rw [hag];rfl)
   exact fin hk (by rw [hx];exact g1) g2 V.le_refl hf (Nat.le_refl _) hi
 ·exact hk.elim
def wQ(tb:A→Nat×aC A)(P:Program)(t:TypeId)(o:A)(off:Nat)(h:aC A)(K:AVal→aC A→Prop):Prop:=
 match tb o with
 | (_,some (.cells vs)::_)=>match fZ P t,cG P t with
   | some true,some n=>dF (Nat.ble (off+n) vs.length&&aGS [] ((vs.drop off).take n)) (K (.agg ((vs.drop off).take n)) h)
   | some false,_=>match vs[off]? with
     | some v=>dF (v.within []) (K v h)
     | none=>False
   | _,_=>False
 | _=>False
def iT.ops(R:iT tb)(P:Program)(ρ:Operand→AVal)(op:Op)(h:aC A)(K:AVal→aC A→Prop):Prop:=
 match op with
 | .load t a=>match ρ a with
   | .ptr l off=>match aO h l with
     | some (.abs o ps)=>match R.isRow o,R.isHole o with
       | none,none=>wQ tb P t o off h K
       | _,_=>R.load P ρ op h K
     | _=>False
   | _=>False
 | _=>False
theorem iT.ops_ok(R:iT tb)(ρ:Operand→AVal)(o:Oper)(h:aC A)(K:AVal→aC A→Prop)(hk:R.ops P ρ o.op h K)(V:Val)(hR:PHeap)(w:World)(ρ':Operand→Value)(hi:Inv (obI tb) V (toF h) hR w)(hf: ∀l,h.length≤l→V l=none)(hρ: ∀x,Rep V (ρ x) (ρ' x)):
 ∃nx w' V' v v' h2,K v h2∧(execOp ρ' o).run P w=.ok nx w'∧(nx=.value v'∨nx=.skip ∧v'=undef)∧Rep V' v v'∧V.le V'∧(∀l,h2.length≤l→V' l=none)∧h.length≤h2.length∧Inv (obI tb) V' (toF h2) hR w'∧bZ w w':=by
 have hk0:=hk;unfold iT.ops at hk;split at hk
 case h_2=>exact hk.elim
 rename_i t a hop;split at hk
 case h_2=>exact hk.elim
 rename_i l off hρa;split at hk
 case h_2=>exact hk.elim
 rename_i ob ps hl;split at hk
 case h_2=>exact R.load_ok ρ o h K hk V hR w ρ' hi hf hρ
 unfold wQ at hk;have hx:=hρ a;rw [hρa]at hx;obtain⟨b,kk,hV,hx⟩:=hx;split at hk
 case h_2=>exact hk.elim
 rename_i np vs rest htb;obtain⟨hs,h1,h2,h3,h4,h5,h6⟩:=id hi;obtain⟨b',k',hV',bs,hlo,N,hob⟩:=h1 l _ hl;rw [hV]at hV';simp only [sI',pI']at hV';obtain⟨rfl,rfl⟩:=hV';cases N with
 | zero=>exact hob.elim
 | succ N=>
 obtain⟨Vg,gs,g1,g2,g3,⟨g4,g5,g6⟩,g7⟩:=hob;rw [htb]at g4;have hc:=g4 0 (.cells vs) rfl;obtain⟨b2,k2,c1,cs,T,c2,c3,rs,tail,c4,c5⟩:=hc;have hbk:b2=b:=by have c1':Vg 0=some (b2,k2):=c1;rw [g1]at c1';simp at c1';exact c1'.1.symm
 subst hbk
 have hcell:w.heap[b2]? =some (.cells cs T):=by
  refine h5 l b2 _ ?_;rw [g7];refine aG4 g6 (l:=0) ?_;rw [c2];simp [PHeap.one]
 have hlen:=aG.length c5
 have drop1: ∀ {av:List AVal},off≤vs.length→cs.toList.drop off=rs.drop off++tail:=by
  intro av hle;rw [c4,List.drop_append_of_le_length (by omega)]
 split at hk
 ·rename_i n e1 e2;obtain⟨hc1,hk⟩:=bO.1 hk;obtain⟨hc2,hc3⟩:=Bool.and_eq_true_iff.1 hc1;have hle:off+n≤vs.length:=Nat.le_of_ble_eq_true hc2;have hrep:aG V ((vs.drop off).take n) ((rs.drop off).take n):=aG7 (pl:=[]) (fun i hi=>by cases hi) _ _ hc3 (aG.take (aG.drop c5 off) n)
  obtain⟨v',g8,g9⟩:=iK (P:=P) (V:=V) (t:=t) (av:=(vs.drop off).take n) (v:=.agg (((vs.drop off).take n).take n)) hcell (seg:=(rs.drop off).take n) (rest:=(rs.drop off).drop n++tail) (by rw [drop1 (av:=[]) (by omega),←List.append_assoc,List.take_append_drop]) hrep (by
   unfold fI;rw [e1,e2];simp only;rw [if_pos (by rw [List.length_take,List.length_drop];omega)])
  rw [List.take_take,Nat.min_self]at g9;exact⟨_,w,V,_,v',h,hk,by simp [execOp,hop,hx,g8],.inl rfl,g9,V.le_refl,hf,Nat.le_refl _,hi,aG6 w⟩
 ·rename_i e2 e1;split at hk
  case h_2=>exact hk.elim
  rename_i v hv;obtain⟨hc1,hk⟩:=bO.1 hk;have hlt:off<vs.length:=(List.getElem?_eq_some_iff.1 hv).1;have hri:=aG.at c5 (i:=off) (a:=v) (v:=rs[off]'(by omega)) hv (gE' (by omega))
  have hrep:Rep V v (rs[off]'(by omega)):=aHk (pl:=[]) (fun i hi=>by cases hi) _ _ hc1 hri
  obtain⟨v',g8,g9⟩:=iK (P:=P) (V:=V) (t:=t) (av:=[v]) (v:=v) hcell (seg:=[rs[off]'(by omega)]) (rest:=rs.drop (off+1)++tail) (by
   rw [drop1 (av:=[]) (by omega),List.drop_eq_getElem_cons (by omega)];rfl) ⟨_,[],rfl,hrep,rfl⟩ (by unfold fI;rw [e1];rfl)
  exact⟨_,w,V,_,v',h,hk,by simp [execOp,hop,hx,g8],.inl rfl,g9,V.le_refl,hf,Nat.le_refl _,hi,aG6 w⟩
 ·exact hk.elim
end Go.Sh
namespace Go.Sh
open Go
variable [Con] {A:Type} {P:Program}
def aS(I:Itp A)(h h2:aC A):Prop:= ∀V hR w,Inv I V (toF h) hR w→bY V h.length→ ∃V',V.le V'∧bY V' h2.length∧h.length≤h2.length∧Inv I V' (toF h2) hR w
theorem aS.refl{I:Itp A}(h:aC A):aS I h h:=fun V hR w h1 h2=>⟨V,V.le_refl,h2,Nat.le_refl _,h1⟩
theorem aS.trans{I:Itp A}{h h2 h3:aC A}(a:aS I h h2)(b:aS I h2 h3):aS I h h3:=by
 intro V hR w h1 hf;obtain⟨V1,a1,a2,a3,a4⟩:=a V hR w h1 hf;obtain⟨V2,b1,b2,b3,b4⟩:=b V1 hR w a4 a2;exact⟨V2,Val.le_trans a1 b1,b2,Nat.le_trans a3 b3,b4⟩
theorem aS.unpack{tb:A→Nat×aC A}{h:aC A}(t:A)(l np:Nat)(g:aC A)(ps:List Nat)(hl:aO h l=some (.abs t ps))(ht:tb t=(np,g))(ho:obOk np g=true)(hnp:ps.length=np):aS (obI tb) h (aM h l np g ps):=by
 intro V hR w h1 hf;obtain⟨V1,v1,v2,v3⟩:=h1.unpack tb hf hl ht ho hnp;exact⟨V1,v1,v2,by rw [gA];omega,v3⟩
theorem aS.weak{I:Itp A}{h h2:aC A}(hw:kZ h h2):aS I h h2:=fun V hR w h1 hf=>⟨V,V.le_refl,by rw [hM hw];exact hf,by rw [hM hw];exact Nat.le_refl _,h1.weak hw⟩
theorem aHP{I:Itp A}{h h2:aC A}(e:h=h2):aS I h h2:=by subst e;exact aS.refl h
theorem aGU{I:Itp A}{f:FuncId}{args:List AVal}{h h2:aC A}{K:AVal→aC A→Prop}(ho:aS I h h2)(h0:aB I P f args h2 K):aB I P f args h K:=by
 intro V hR w args' hi hf hr;obtain⟨V1,v1,v2,v3,v4⟩:=ho V hR w hi hf;refine(h0 V1 hR w args' v4 v2 (aG.mono v1 _ _ hr)).mono ?_;rintro e w' ⟨v,v',V',h',k1,k2,k3,k4,k5,k6,k7,k8⟩;exact⟨v,v',V',h',k1,k2,k3,Val.le_trans v1 k4,k5,Nat.le_trans v3 k6,k7,k8⟩
theorem aGL{X:Type}{I:Itp A}{f:FuncId}{args:List AVal}{h h2:aC A}{K:AVal→aC A→Prop}{parse:AVal→aC A→Option (Prop×X)}{fin:X→Out A}{root:Nat}{pos:List Nat}{cs:List (Place×gT)}(hr:bV I h.length parse fin)(ho:aS I h h2)
 (h0:aB I P f args h2 (bP h.length root pos cs parse fun x=>(fin x).run K)):aB I P f args h K:=by
 intro V hR w args' hi hf hrp;obtain⟨V1,v1,v2,v3,v4⟩:=ho V hR w hi hf;refine(aHH h.length v3 hr h0 V1 hR w args' v4 v2 (aG.mono v1 _ _ hrp)).mono ?_;rintro e w' ⟨v,v',V',h',k1,k2,k3,k4,k5,k6,k7,k8⟩;refine⟨v,v',V',h',k1,k2,k3,?_,k5,k6,k7,k8⟩;intro l y hy
 have hlt:l<h.length:=by
  cases Nat.lt_or_ge l h.length with
  | inl q=>exact q
  | inr q=>rw [hf l q]at hy;cases hy
 exact k4 l y hlt (v1 l y hy)
def aI.or(F G:aI A):aI A:=fun args h=>match F args h with
 | some o=>some o
 | none=>G args h
theorem aG9{I:Itp A}{f:FuncId}{F G:aI A}(hF:aI.ok I P f F)(hG:aI.ok I P f G):aI.ok I P f (F.or G):=by
 intro args h o ho K hK;unfold aI.or at ho;split at ho
 ·rename_i o' h1;simp only [sI']at ho;subst ho;exact hF args h _ h1 K hK
 ·exact hG args h o ho K hK
def aCr(pos:List Nat):Nat→List AVal→List AVal
 | _,[]=>[]
 | i,v::vs=>cond (pos.elem i) .O v::aCr pos (i+1) vs
theorem xE(pos:List Nat): ∀(i:Nat) (vs:List AVal),nU vs (aCr pos i vs)
 | _,[]=>trivial
 | i,v::vs=>by
   refine⟨?_,xE pos (i+1) vs⟩;cases pos.elem i with
   | true=>exact .inr rfl
   | false=>exact .inl rfl
def aEE(g:aC A)(root:Nat)(pos:List Nat):aC A:=match aO g root with
 | some (.cells vs)=>g.set root (some (.cells (aCr pos 0 vs)))
 | _=>g
theorem cA(g:aC A)(root:Nat)(pos:List Nat):kZ g (aEE g root pos):=by
 unfold aEE;split
 ·rename_i vs h;refine jS g root _ ?_;rw [h];exact xE pos 0 vs
 ·exact mH g
theorem qP{I:Itp A}{n:Nat}{K:AVal→aC A→Prop}{d:Bool}{a b g:aC A}(hK:(Out.ite d (.ret (.bool true) a) (.ret (.bool false) b)).run K)(h1:K (.bool true) a→eH I n K (.bool true) g)(h2:K (.bool false) b→eH I n K (.bool false) g):eH I n K (.bool d) g:=by
 cases d with
 | true=>exact h1 hK
 | false=>exact h2 hK
end Go.Sh
