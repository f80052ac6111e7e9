import Derived.RangeFuncRecord
import Derived.Below
import Derived.Test.YteindpciaceeeaaGreatZSh14toSh18
set_option linter.all false
set_option maxHeartbeats 8000000
namespace Go.Sh
open Go Go.ChangeShapes Go.RowKit
def uL(P:Program):List TypeId->Option (List (Bool×List Shp))
 | []=>some []
 | t::ts=>match d6 P t,S0 P 40 t,uL P ts with
   | some b,some r,some l=>if b=true\/r.length=1 then some ((b,r)::l)else none
   | _,_,_=>none
def DenA:List (Bool×List Shp)->Type
 | []=>Unit
 | (_,r)::l=>DenL r×DenA l
def sE:(l:List (Bool×List Shp))->DenA l->List AVal
 | [],_=>[]
 | (true,r)::l,x=>.agg (iX r x.1)::sE l x.2
 | (false,r)::l,x=>(iX r x.1).headD .O ::sE l x.2
def okA:(l:List (Bool×List Shp))->DenA l->Prop
 | [],_=>True
 | (_,r)::l,x=>L9 r x.1/\okA l x.2
section
variable {H:Type} {enc:TypeId×Value->H} {P:Program} {w:World}
theorem zN{t:TypeId}{v:Value}{base:Nat}(hb:d6 P t=some false)(ho:Value.okWide P w .any base t v)(hs: ∃m r,S0 P m t=some r):v.cells= #[v]:=by
 obtain⟨m,r,hs⟩:=hs;cases m with
 | zero=>simp [S0]at hs
 | succ m=>
   unfold S0 at hs;unfold d6 at hb;unfold Value.okWide at ho;cases hu:P.underlying t with
   | none=>rw [hu]at hs;cases hs
   | some d=>
     rw [hu]at ho hb hs;cases v with
     | agg cs=>
       exfalso;cases d<;>simp at hb hs<;>simp [Cell.okWide,hu,Cell.ok]at ho
     | _=>rfl
theorem AQ [Con](hcon: ∀b o,w.heap[b]? =some o->Con.con b=some o){base:Nat} : ∀(ts:List TypeId) (vs:List Value) (ds:List (DataW H)) (ps:List MemPlace) (l:List (Bool×List Shp)),
 DataW.TrodAll enc P w 0 (fun _=>true) true ts vs ds ps->(∀(j:Nat) t v,ts[j]? =some t->vs[j]? =some v->Value.okWide P w .any base t v)->uL P ts=some l->
 ∃x:DenA l,okA l x/\aI (fun _=>none) (sE l x) vs
 | [],vs,ds,ps,l,h,_,hl=>by
   obtain⟨rfl,rfl,rfl⟩:=trodAll_nil h;simp [uL]at hl;subst hl;exact⟨(),trivial,by simp [sE,aI]⟩
 | t::ts,vs,ds,ps,l,h,hv,hl=>by
   obtain⟨v,vs',d,ds',p,q,rfl,rfl,rfl,h1,h2⟩:=trodAll_cons h;simp only [uL]at hl;split at hl
   ·rename_i b r l' hb hr hl';split at hl
    case isFalse=>cases hl
    rename_i hc;simp at hl;subst hl;obtain⟨y,oy,ry⟩:=AQ hcon ts vs' ds' q l' h2 (fun j t v a b=>hv (j+1) t v (by simpa using a) (by simpa using b)) hl'
    obtain⟨n,hn⟩:=h1;obtain⟨x,ox,rx⟩:=TH hcon 40 n t _ _ true r hn hr;have hok:=hv 0 t v rfl rfl;cases b with
    | true=>
      refine⟨(x,y),⟨ox,oy⟩,v,vs',rfl,?_,ry⟩
      have: ∃cs,v=.agg cs:=by
       unfold Value.okWide at hok;unfold d6 at hb;cases hu:P.underlying t with
       | none=>rw [hu]at hb;cases hb
       | some d=>
         rw [hu]at hok hb;cases d<;>simp at hb<;>(obtain⟨cs,e,_⟩:=hok;exact⟨cs,e⟩)
      obtain⟨cs,rfl⟩:=this;exact⟨cs,rfl,rx⟩
    | false=>
      refine⟨(x,y),⟨ox,oy⟩,v,vs',rfl,?_,ry⟩;rw [zN hb hok ⟨40,r,hr⟩]at rx;have hr1:r.length=1:=by simpa using hc
      show Rep _ ((iX r x).headD .O) v
      match r,hr1,x,rx with
      | [s],_,x,rx=>
        obtain⟨u,us,e,r1,_⟩:=rx;simp only [lI']at e;rw [e.1];exact r1
   ·cases hl
theorem oU{W W':World}(hl:laidOutB P=true){sp:Nat->Bool} : ∀(ts:List TypeId) (vs:List Value) (ds:List (DataW H)) (ps:List MemPlace),
 (∀t∈ts,P.readableRec t=true/\t<P.types.size)->DataW.TrodAll enc P W 0 (fun _=>true) true ts vs ds ps->(∀p∈ps,W.sameAt W' p)->(∀p∈ps,sp p.block=true)->DataW.TrodAll enc P W' 0 sp true ts vs ds ps
 | [],vs,ds,ps,_,h,_,_=>by
   obtain⟨rfl,rfl,rfl⟩:=trodAll_nil h;exact trodAll_mk0
 | t::ts,vs,ds,ps,ht,h,hs,hp=>by
   obtain⟨v,vs',d,ds',p,q,rfl,rfl,rfl,h1,h2⟩:=trodAll_cons h
   exact trodAll_cons_mk (WideElems.Trod_stays hl (ht t (by simp)).1 (ht t (by simp)).2 h1 (fun x hx=>hs x (by simp [hx])) (fun x hx=>hp x (by simp [hx])))
    (oU hl ts vs' ds' q (fun u hu=>ht u (by simp [hu])) h2 (fun x hx=>hs x (by simp [hx])) (fun x hx=>hp x (by simp [hx])))
theorem nT{w:World}{sp:Nat->Bool}{b:Nat}{hd:Bool} : ∀(ts:List TypeId) (vs:List Value) (ds:List (DataW H)) (ps:List MemPlace),DataW.TrodAll enc P w b sp hd ts vs ds ps->ds.length=ts.length
 | [],vs,ds,ps,h=>by obtain⟨rfl,rfl,rfl⟩:=trodAll_nil h;rfl
 | t::ts,vs,ds,ps,h=>by
   obtain⟨v,vs',d,ds',p,q,rfl,rfl,rfl,h1,h2⟩:=trodAll_cons h;simp [nT ts vs' ds' q h2]
abbrev aK5(W:World):Con:=⟨fun b=>W.heap[b]?⟩
theorem MN{f:Func}{s:ChangeSpec}{apart fresh handsOn again:Bool}{W W':World}{args:Array Value}{v:Value}{ds gs:List (DataW H)}{before pa pv:List MemPlace}
 (hW:DataW.Whole enc P f.params.toList s.vars apart W args.toList ds gs before)
 (h1: ∀(b:Nat) (sp:Nat->Bool) (hd:Bool),DataW.TrodAll enc P W' b sp hd f.resultTypes.toList (v.resultList f.resultTypes.size) (s.fn H (ds++gs)).results [])
 (h2: ∀sp:Nat->Bool,(∀p∈before,sp p.block=true)->DataW.TrodAll enc P W' 0 sp true f.params.toList args.toList (s.fn H (ds++gs)).args pa)
 (h3: ∀sp:Nat->Bool,(∀p∈before,sp p.block=true)->DataW.TrodVars enc P W' sp s.vars (s.fn H (ds++gs)).vars pv)
 (hb:before=pa++pv) (hk:W.keptBut W' (· ∈before)) (hz: ∀a:Addr,a.block<W.heap.size->W'.frozen? a=W.frozen? a)
 (ho: ∀(j:Nat) (t:TypeId) (r:Value),f.resultTypes[j]? =some t->(v.resultList f.resultTypes.size)[j]? =some r->Value.okWide P W' .any 0 t r):
 s.post enc P f apart fresh handsOn again W args v W':=by
 have lt: ∀p∈before,p.block<W.heap.size:=fun p hp=>hW.lt p hp;refine⟨ds,gs,before,[],pa,pv,hW,h1 _ _ _,h2 _ (fun p hp=>by simpa using lt p hp),h3 _ (fun p hp=>by simpa using lt p hp),World.keptBut_mono (fun p hp=>⟨hp,.inr (List.mem_append.1 (hb▸hp))⟩) hk,fun _=>⟨ho,_,_,([]++pa)++pv,⟨[]++pa,pv,trodAll_append (h2 _ (fun _ _=>rfl)) (h1 _ _ _),h3 _ (fun _ _=>rfl),rfl,?_,?_⟩,?_⟩⟩
 ·intro b off hp;have hp':MemPlace.cell b off∈before:=by rw [hb];simpa using hp
  obtain⟨_,_,_,_,_,q,_⟩:=hW;rw [hz _ (lt _ hp')];exact q b off hp'
 ·intro ha;obtain⟨_,_,_,_,_,_,q⟩:=hW;have:=q ha;rw [hb]at this
  simpa using this
 ·intro p hp _;rw [hb]
  simpa using hp
theorem Q0{A:Type}{F:Func}{f:FuncId}{s:ChangeSpec}{tb:TypeId}{l:List (Bool×List Shp)}(hl:laidOutB P=true)
 (hpar:F.params.toList.all (fun t=>P.readableRec t&&decide (t<P.types.size))=true) (hsh:uL P F.params.toList=some l) (hv:s.vars=[]) (hres:F.resultTypes= #[tb]) (htb:P.underlying tb=some .bool)
 (hfn: ∀ds:List (DataW H),ds.length=F.params.toList.length->s.fn H ds= {results:=[.lit (.bool true)],args:=ds})
 (law: ∀W0:World,∃I:Itp A,∀x:DenA l,okA l x-> @aA (aK5 W0) A I P f (sE l x) ([]:aC A) (fun v _=>v=.bool true))
 (W:World) (base:Nat) (args:Array Value) (ds gs:List (DataW H)) (before:List MemPlace)
 (hval: ∀(j:Nat) t v,F.params[j]? =some t->args[j]? =some v->Value.okWide P W .any base t v)
 (hW:DataW.Whole enc P F.params.toList s.vars false W args.toList ds gs before):
 Calls P f args W fun e W'=> ∃v,e=.returned v/\s.post enc P F false true false false W args v W':=by
 have hW':=hW;obtain⟨p,q,hA,hV,rfl,hfz,hnd⟩:=hW;rw [hv]at hV;obtain⟨rfl,rfl⟩:=trodVars_none hV;obtain⟨I,hI⟩:=law W
 letI:Con:=aK5 W
 obtain⟨x,ox,rx⟩:=AQ (enc:=enc) (P:=P) (w:=W) (base:=base) (fun b o h=>h) F.params.toList args.toList ds p l hA (fun j t v a b=>hval j t v (by simpa using a) (by simpa using b)) hsh
 have hlen:=nT _ _ _ _ hA;refine(aA.law (hI x ox) rx W (fun b o h=>h)).mono ?_;rintro e W' ⟨rfl,hg⟩
 have hsame: ∀p'∈p,W.sameAt W' p':=by
  intro p' hp;have hlt:p'.block<W.heap.size:=hW'.lt p' (by simpa using hp)
  have hk:=hg.1.2.2 p'.block hlt;cases p' with
  | cell b off=>
    show W'.cell? ⟨b,off,none⟩=W.cell? ⟨b,off,none⟩;simp only [MemPlace.block]at hk hlt;unfold World.cell?;simp only;cases h1:W.heap[b]? with
    | none=>rw [Array.getElem?_eq_getElem hlt]at h1;cases h1
    | some o=>
      rw [h1]at hk;cases h2:W'.heap[b]? with
      | none=>rw [h2]at hk;cases o<;>simp at hk
      | some o'=>
        rw [h2]at hk;cases o<;>cases o'<;>simp at hk<;>first | rfl | skip
        rename_i c t fr c' t' fr';obtain⟨_,_,hsz,hc⟩:=hk;exact hc off
  | map b=>
    show W'.heap[b]? =W.heap[b]?;simp only [MemPlace.block]at hk hlt;cases h1:W.heap[b]? with
    | none=>rw [Array.getElem?_eq_getElem hlt]at h1;cases h1
    | some o=>
      rw [h1]at hk;cases h2:W'.heap[b]? with
      | none=>rw [h2]at hk;cases o<;>simp at hk
      | some o'=>
        rw [h2]at hk;cases o<;>cases o'<;>simp at hk<;>first | (simp_all;done) | skip
        rename_i c t fr c' t' fr';obtain⟨rfl,rfl,hsz,hc⟩:=hk
        have:c=c':=by
         apply Array.ext_getElem?;intro i;exact(hc i).symm
        rw [this]
 have hpar': ∀t∈F.params.toList,P.readableRec t=true/\t<P.types.size:=by
  intro t ht;have:=List.all_eq_true.1 hpar t ht
  simpa using this
 have hf0:s.fn H (ds++ [])= {results:=[.lit (.bool true)],args:=ds} :=by rw [List.append_nil];exact hfn ds hlen
 refine⟨_,rfl,MN (pa:=p) (pv:=[]) hW' ?_ ?_ ?_ rfl (World.keptBut_mono (fun _ h=>h.elim) hg.1) hg.2.1 ?_⟩
 ·intro b sp hd;rw [hf0,hres];exact trodAll_cons_mk (shut_bool htb _) trodAll_mk0
 ·intro sp hsp;rw [hf0];exact oU hl _ _ _ _ hpar' hA hsame (fun p' hp=>hsp p' (by simpa using hp))
 ·intro sp _;rw [hf0,hv];rfl
 ·exact ok_one hres rfl (okWide_bool_mk htb _)
end
end Go.Sh
namespace Go.Sh
open Go
variable [Con] {A:Type} (tb:A->Nat×aC A)
structure rF (I:Itp A) (V:Val) (h:bH A) (hs:Nat->PHeap):Prop where
 ent: ∀l e,h l=some e->e.interp I V l (hs l)
 non: ∀l,h l=none->hs l=.emp
 dis: ∀l m,l≠m->(hs l).disj (hs m)
def obN:Nat->Itp A
 | 0,_,_,_,_=>False
 | n+1,t,r,bs,p=> ∃V hs,V 0=some r/\(∀i,i<(tb t).1->V (1+i)=bs[i]?)/\bs.length=(tb t).1/\rF (obN n) V (toF (tb t).2) hs/\p=aKe hs
def obI:Itp A:=fun t r bs p=> ∃n,obN tb n t r bs p
theorem aKo{I I':Itp A}(hI: ∀t r bs p,I t r bs p->I' t r bs p){V:Val}{l:Nat}{e:aG A}{p:PHeap}(h:e.interp I V l p):e.interp I' V l p:=by
 cases e with
 | abs t ps=>
   obtain⟨b,k,h1,bs,h2,h3⟩:=h;exact⟨b,k,h1,bs,h2,hI _ _ _ _ h3⟩
 | cells vs=>exact h
 | ints c xs=>exact h
 | tab ks rows=>exact h
 | imap kk vc m=>exact h
 | iter lm kk vc m left cur=>exact h
theorem rF.mono_I{I I':Itp A}(hI: ∀t r bs p,I t r bs p->I' t r bs p){V:Val}{h:bH A}{hs:Nat->PHeap}(q:rF I V h hs):rF I' V h hs:=
 ⟨fun l e he=>aKo hI (q.ent l e he),q.non,q.dis⟩
theorem CY: ∀(n:Nat) (t:A) (r:Nat×Nat) (bs:List (Nat×Nat)) (p:PHeap),obN tb n t r bs p->obN tb (n+1) t r bs p
 | 0,_,_,_,_,h=>h.elim
 | n+1,t,r,bs,p,⟨V,hs,h1,h2,h3,h4,h5⟩=>⟨V,hs,h1,h2,h3,h4.mono_I (CY n),h5⟩
theorem nI{n m:Nat}(hnm:n<=m){t:A}{r:Nat×Nat}{bs:List (Nat×Nat)}{p:PHeap}(h:obN tb n t r bs p):obN tb m t r bs p:=by
 induction hnm with
 | refl=>exact h
 | step _ ih=>exact CY tb _ _ _ _ _ ih
theorem A0{V:Val}{hs:Nat->PHeap} : ∀(g:aC A) (k:Nat),(∀l e,aL g l=some e->e.interp (obI tb) V (k+l) (hs (k+l)))-> ∃n,∀l e,aL g l=some e->e.interp (obN tb n) V (k+l) (hs (k+l))
 | [],k,_=>⟨0,fun l e h=>by simp [aL]at h⟩
 | x::g,k,h=>by
   obtain⟨n,hn⟩:=A0 g (k+1) (fun l e he=>by
    have:=h (l+1) e (by simpa [aL]using he)
    rw [show k+(l+1)=k+1+l from by omega]at this
    exact this)
   have h0: ∃m,∀e,x=some e->e.interp (obN tb m) V k (hs k):=by
    cases x with
    | none=>exact⟨0,fun e he=>by cases he⟩
    | some e=>
      have:=h 0 e rfl;cases e with
      | abs t ps=>
        obtain⟨b,q,h1,bs,h2,m,h3⟩:=this;exact⟨m,fun e he=>by cases he;exact⟨b,q,h1,bs,h2,h3⟩⟩
      | cells vs=>exact⟨0,fun e he=>by cases he;exact this⟩
      | ints c xs=>exact⟨0,fun e he=>by cases he;exact this⟩
      | tab ks rows=>exact⟨0,fun e he=>by cases he;exact this⟩
      | imap kk vc mm=>exact⟨0,fun e he=>by cases he;exact this⟩
      | iter lm kk vc mm left cur=>exact⟨0,fun e he=>by cases he;exact this⟩
   obtain⟨m,hm⟩:=h0;refine⟨max n m,fun l e he=>?_⟩;cases l with
   | zero=>
     have hx:x=some e:=by simpa [aL]using he
     exact aKo (fun t r bs p=>nI tb (Nat.le_max_right n m)) (hm e hx)
   | succ l=>
     have:=aKo (fun t r bs p=>nI tb (Nat.le_max_left n m)) (hn l e (by simpa [aL]using he))
     rw [show k+1+l=k+(l+1)from by omega]at this
     exact this
theorem aKZ{I:Itp A}{V V':Val}{pl:List Nat}(hV: ∀l,pl.elem l=true->V l=V' l){l:Nat}{e:aG A}{p:PHeap}(q1:V l=V' l)(q2:e.within pl=true)(hi:e.interp I V l p):e.interp I V' l p:=by
 cases e with
 | cells vs=>
   obtain⟨b,k,hl,cs,T,e1,e2,rs,tail,e3,r⟩:=hi;exact⟨b,k,by rw [<-q1];exact hl,cs,T,e1,e2,rs,tail,e3,aKq hV _ _ q2 r⟩
 | ints c xs=>
   rcases hi with⟨e1,e2,b,hl⟩ | ⟨b,k,hl,r⟩
   ·exact .inl ⟨e1,e2,b,by rw [<-q1];exact hl⟩
   ·exact .inr ⟨b,k,by rw [<-q1];exact hl,r⟩
 | abs t ps=>
   obtain⟨b,k,hl,bs,hb,r⟩:=hi;exact⟨b,k,by rw [<-q1];exact hl,bs,fQ.congr (fun m hm=>hV m (rH q2 m hm)) hb,r⟩
 | tab ks rows=>
   rcases hi with⟨e1,e2,b,hl⟩ | ⟨b,k,hl,r⟩
   ·exact .inl ⟨e1,e2,b,by rw [<-q1];exact hl⟩
   ·exact .inr ⟨b,k,by rw [<-q1];exact hl,r⟩
 | imap kk vc m=>
   obtain⟨b,k,hl,r⟩:=hi;exact⟨b,k,by rw [<-q1];exact hl,r⟩
 | iter lm kk vc m left cur=>
   obtain⟨b,k,hl,bm,km,hm,r⟩:=hi;exact⟨b,k,by rw [<-q1];exact hl,bm,km,by rw [<-hV lm q2];exact hm,r⟩
theorem jK{n l:Nat} :(upto 0 n).elem l=true↔l<n:=by rw [nU];omega
theorem fQ.len{V:Val} : ∀ {ls:List Nat} {bs:List (Nat×Nat)},fQ V ls bs->bs.length=ls.length
 | [],_,e=>by rw [e];rfl
 | _::_,_,⟨x,r,h1,h2,h3⟩=>by rw [h2];simp [fQ.len h3]
theorem fQ.get{V:Val} : ∀ {ls:List Nat} {bs:List (Nat×Nat)},fQ V ls bs-> ∀i,i<ls.length->V (ls.getD i 0)=bs[i]?
 | [],_,_,i,hi=>by cases hi
 | l::ls,_,⟨x,r,h1,h2,h3⟩,i,hi=>by
   subst h2;cases i with
   | zero=>simpa using h1
   | succ i=>simpa using fQ.get h3 i (by simpa using hi)
theorem fQ.mk{V:Val} : ∀ {ls:List Nat},(∀l∈ls,∃x,V l=some x)-> ∃bs,fQ V ls bs
 | [],_=>⟨[],rfl⟩
 | l::ls,h=>by
   obtain⟨x,hx⟩:=h l List.mem_cons_self;obtain⟨r,hr⟩:=fQ.mk (fun m hm=>h m (List.mem_cons_of_mem _ hm));exact⟨x::r,x,r,hx,rfl,hr⟩
def unI(l:Nat)(ps:List Nat)(n np:Nat)(i:Nat):Nat:=match i with
 | 0=>l
 | j+1=>if j<np then ps.getD j 0 else n+(j - np)
def aP(h:aC A)(l np:Nat)(g:aC A)(ps:List Nat):aC A:=
 h.set l ((aL g 0).map (aG.ren (unI l ps h.length np)))++(g.drop (1+np)).map (Option.map (aG.ren (unI l ps h.length np)))
theorem f0(h:aC A)(l np:Nat)(g:aC A)(ps:List Nat):(aP h l np g ps).length =h.length+(g.length - (1+np)):=by
 unfold aP;simp
def obOk(np:Nat)(g:aC A):Bool:=dR g.length g&&Nat.ble (1+np) g.length&&(g.drop 1 |>.take np).all (·.isNone)&&(aL g 0).isSome
theorem xS{np:Nat}{g:aC A}(h:obOk np g=true):dR g.length g=true/\1+np<=g.length/\(∀i,i<np->aL g (1+i)=none)/\ ∃e,aL g 0=some e:=by
 unfold obOk at h;simp only [Bool.and_eq_true]at h;obtain⟨⟨⟨h1,h2⟩,h3⟩,h4⟩:=h;refine⟨h1,Nat.le_of_ble_eq_true h2,?_,Option.isSome_iff_exists.1 h4⟩;intro i hi;have hlen:=Nat.le_of_ble_eq_true h2;rw [List.all_eq_true]at h3
 have hx:=h3 (aL g (1+i)) (by
  rw [List.mem_iff_getElem?];refine⟨i,?_⟩;rw [List.getElem?_take,if_pos hi,List.getElem?_drop];simp only [aL,gD'];rw [gE' (by omega)]
  rfl)
 simpa using hx
theorem x7{g:aC A}(h:dR g.length g=true){l:Nat}{e:aG A}(he:aL g l=some e):e.within (upto 0 g.length)=true:=by
 unfold dR at h;rw [List.all_eq_true]at h;simp only [aL,gD']at he
 have hl:l<g.length:=by
  cases Nat.lt_or_ge l g.length with
  | inl q=>exact q
  | inr q=>rw [List.getElem?_eq_none q]at he;cases he
 rw [gE' hl]at he;have:=h (g[l]) (List.getElem_mem hl);simp only [Option.getD_some]at he;rw [he]at this;exact this
theorem mF{h:aC A}{l np:Nat}{g:aC A}{ps:List Nat}(hl:l<h.length):aL (aP h l np g ps) l=(aL g 0).map (aG.ren (unI l ps h.length np)):=by
 unfold aP;rw [cE (by simpa using hl)]
 simp only [aL,gD'];rw [List.getElem?_set_self hl];rfl
theorem fL{h:aC A}{l np:Nat}{g:aC A}{ps:List Nat}{m:Nat}(hm:m<h.length)(hlm:m≠l):aL (aP h l np g ps) m=aL h m:=by
 unfold aP;rw [cE (by simpa using hm)]
 simp only [aL,gD'];rw [List.getElem?_set_ne (fun e=>hlm e.symm)]
theorem kV{h:aC A}{l np:Nat}{g:aC A}{ps:List Nat}{j:Nat} :aL (aP h l np g ps) (h.length+j)=(aL g (1+np+j)).map (aG.ren (unI l ps h.length np)):=by
 unfold aP;simp only [aL,gD'];rw [List.getElem?_append_right (by simp),List.length_set,List.getElem?_map,List.getElem?_drop,Nat.add_sub_cancel_left]
 cases g[1+np+j]? <;>rfl
theorem Inv.unpack{V:Val}{h:aC A}{hR:PHeap}{w:World}{t:A}{l np:Nat}{g:aC A}{ps:List Nat}(hi:Inv (obI tb) V (toF h) hR w)(hf:bU V h.length)(hl:aL h l=some (.abs t ps))(ht:tb t=(np,g))(ho:obOk np g=true)(hnp:ps.length=np):
 ∃V',V.le V'/\bU V' (aP h l np g ps).length /\Inv (obI tb) V' (toF (aP h l np g ps)) hR w:=by
 obtain⟨o1,o2,o3,e0,o4⟩:=xS ho;have hll:=cB hl;obtain⟨hs,h1,h2,h3,h4,h5,h6⟩:=hi;obtain⟨b,k,hV,bs,hlo,n,hob⟩:=h1 l _ hl;cases n with
 | zero=>exact hob.elim
 | succ n=>
 obtain⟨Vg,gs,g1,g2,g3,⟨g4,g5,g6⟩,g7⟩:=hob;rw [ht]at g2 g3 g4 g5;dsimp only at g2 g3 g4 g5
 let V':Val:=fun m=>if m<h.length then V m else if m<(aP h l np g ps).length then Vg (m - h.length+1+np)else none
 have hlen:=f0 h l np g ps
 have hle:V.le V':=by
  intro m x hm
  have hlt:m<h.length:=by
   cases Nat.lt_or_ge m h.length with
   | inl q=>exact q
   | inr q=>rw [hf m q]at hm;cases hm
  show(if m<h.length then V m else _)=some x
  rw [if_pos hlt];exact hm
 have hVι: ∀i,(upto 0 g.length).elem i=true->Vg i=V' (unI l ps h.length np i):=by
  intro i hi;rw [jK]at hi;cases i with
  | zero=>
    show _=V' l;rw [hle l _ hV];exact g1
  | succ j=>
    show _=V' (if j<np then ps.getD j 0 else h.length+(j - np))
    by_cases hj:j<np
    ·rw [if_pos hj];have hg:=hlo.get j (by omega)
     have hj2:j<bs.length:=by omega
     rw [gE' hj2]at hg;rw [hle _ _ hg,Nat.add_comm,g2 j hj,gE' hj2]
    ·rw [if_neg hj];show _=if h.length+(j - np)<h.length then _ else _
     rw [if_neg (by omega),if_pos (by omega)]
     congr 1;omega
 have hent: ∀i e,aL g i=some e->(e.ren (unI l ps h.length np)).interp (obI tb) V' (unI l ps h.length np i) (gs i):=by
  intro i e he;refine aG.interp_ren.2 ?_;have q1:=aKo (I':=(obI tb)) (fun t r bs p hh=>⟨n,hh⟩) (g4 i e he);exact aKZ hVι (hVι i (jK.2 (cB he))) (x7 o1 he) q1
 have hsub: ∀i b' o,gs i b'=some o->hs l b'=some o:=by
  intro i b' o hh;rw [g7];exact aKl g6 hh
 let hs':Nat->PHeap:=fun m=>if m<h.length then(if m=l then gs 0 else hs m)else gs (m - h.length+1+np)
 refine⟨V',hle,?_,hs',?_,?_,?_,?_,?_,h6⟩
 ·intro m hm;show(if m<h.length then _ else _)=none
  rw [if_neg (by omega),if_neg (by omega)]
 ·intro m e he
  by_cases hm:m<h.length
  ·by_cases hml:m=l
   ·subst hml;have he':aL (aP h m np g ps) m=some e:=he;rw [mF hm,o4]at he';simp only [Option.map_some,sI']at he';show e.interp (obI tb) V' m (if m<h.length then(if m=m then gs 0 else hs m)else _)
    rw [if_pos hm,if_pos rfl,<-he'];exact hent 0 e0 o4
   ·have he':aL (aP h l np g ps) m=some e:=he;rw [fL hm hml]at he';show e.interp (obI tb) V' m (if m<h.length then(if m=l then gs 0 else hs m)else _)
    rw [if_pos hm,if_neg hml];exact aKk hle (h1 m e he')
  ·have he':aL (aP h l np g ps) m=some e:=he;have hm2:m=h.length+(m - h.length):=by omega
   rw [hm2,kV]at he';cases hq:aL g (1+np+(m - h.length))with
   | none=>rw [hq]at he';cases he'
   | some e1=>
     rw [hq]at he';simp only [Option.map_some,sI']at he';have:=hent _ e1 hq;show e.interp (obI tb) V' m (if m<h.length then _ else gs (m - h.length+1+np))
     rw [if_neg hm,<-he']
     have e3:unI l ps h.length np (1+np+(m - h.length))=m:=by
      have:1+np+(m - h.length)=(np+(m - h.length))+1:=by omega
      rw [this];show(if np+(m - h.length)<np then _ else h.length+(np+(m - h.length) - np))=m
      rw [if_neg (by omega)];omega
     rw [e3]at this;have e4:m - h.length+1+np=1+np+(m - h.length):=by omega
     rw [e4];exact this
 ·intro m he
  by_cases hm:m<h.length
  ·by_cases hml:m=l
   ·subst hml;have he':aL (aP h m np g ps) m=none:=he;rw [mF hm,o4]at he';cases he'
   ·have he':aL (aP h l np g ps) m=none:=he;rw [fL hm hml]at he';show(if m<h.length then(if m=l then gs 0 else hs m)else _)=_
    rw [if_pos hm,if_neg hml];exact h2 m he'
  ·have he':aL (aP h l np g ps) m=none:=he;have hm2:m=h.length+(m - h.length):=by omega
   rw [hm2,kV]at he';show(if m<h.length then _ else gs (m - h.length+1+np))=_
   rw [if_neg hm];have e4:m - h.length+1+np=1+np+(m - h.length):=by omega
   rw [e4];refine g5 _ ?_;cases hq:aL g (1+np+(m - h.length))with
   | none=>exact hq
   | some e1=>rw [hq]at he';cases he'
 ·intro m m' hmm;intro b';show(if m<h.length then(if m=l then gs 0 else hs m)else gs (m - h.length+1+np)) b'=none\/(if m'<h.length then(if m'=l then gs 0 else hs m')else gs (m' - h.length+1+np)) b'=none
  have out: ∀i m,m≠l->gs i b'=none\/hs m b'=none:=by
   intro i m hml;cases hq:gs i b' with
   | none=>exact .inl rfl
   | some o=>
     right;have:=hsub i b' o hq;rcases h3 l m (fun e=>hml e.symm) b' with q | q
     ·rw [q]at this;cases this
     ·exact q
  by_cases hm:m<h.length
  ·by_cases hm':m'<h.length
   ·rw [if_pos hm,if_pos hm']
    by_cases hml:m=l
    ·have hml':m'≠l:=fun e=>hmm (hml.trans e.symm);rw [if_pos hml,if_neg hml'];exact out 0 m' hml'
    ·rw [if_neg hml]
     by_cases hml':m'=l
     ·rw [if_pos hml'];exact(out 0 m hml).symm
     ·rw [if_neg hml'];exact h3 m m' hmm b'
   ·rw [if_pos hm,if_neg hm']
    by_cases hml:m=l
    ·rw [if_pos hml];exact g6 0 _ (by omega) b'
    ·rw [if_neg hml];exact(out _ m hml).symm
  ·by_cases hm':m'<h.length
   ·rw [if_neg hm,if_pos hm']
    by_cases hml':m'=l
    ·rw [if_pos hml'];exact g6 _ 0 (by omega) b'
    ·rw [if_neg hml'];exact out _ m' hml'
   ·rw [if_neg hm,if_neg hm'];exact g6 _ _ (by omega) b'
 ·intro m b'
  have out: ∀i,gs i b'=none\/hR b'=none:=by
   intro i;cases hq:gs i b' with
   | none=>exact .inl rfl
   | some o=>
     right;have:=hsub i b' o hq;rcases h4 l b' with q | q
     ·rw [q]at this;cases this
     ·exact q
  show(if m<h.length then(if m=l then gs 0 else hs m)else gs (m - h.length+1+np)) b'=none\/hR b'=none
  split
  ·split
   ·exact out 0
   ·exact h4 m b'
  ·exact out _
 ·intro m b' o hq;have hq':(if m<h.length then(if m=l then gs 0 else hs m)else gs (m - h.length+1+np)) b'=some o:=hq
  split at hq'
  ·split at hq'
   ·exact h5 l b' o (hsub 0 b' o hq')
   ·exact h5 m b' o hq'
  ·exact h5 l b' o (hsub _ b' o hq')
def iU(h:aC A)(l:Nat)(ps:List Nat):Bool:=dR h.length h&&ps.all (fun p=>Nat.blt p h.length&& !Nat.beq p l&&(aL h p).isSome)
theorem Inv.pack{V:Val}{h:aC A}{hR:PHeap}{w:World}{t:A}{l np:Nat}{g:aC A}{ps:List Nat}(hi:Inv (obI tb) V (toF (aP h l np g ps)) hR w)(hl:aL h l=some (.abs t ps))(ht:tb t=(np,g))(ho:obOk np g=true)(hnp:ps.length=np)(hp:iU h l ps=true):
 Inv (obI tb) (fun m=>if m<h.length then V m else none) (toF h) hR w:=by
 obtain⟨o1,o2,o3,e0,o4⟩:=xS ho;have hll:=cB hl;unfold iU at hp;rw [Bool.and_eq_true,List.all_eq_true]at hp;obtain⟨p1,p2⟩:=hp;have hdom: ∀m e,aL (aP h l np g ps) m=some e-> ∃x,V m=some x:=fun m e he=>hi.dom he;obtain⟨hs,h1,h2,h3,h4,h5,h6⟩:=hi;have hlen:=f0 h l np g ps
 have hps: ∀p∈ps,p<h.length/\p≠l/\ ∃x,V p=some x:=by
  intro p hp;have:=p2 p hp;simp only [Bool.and_eq_true,Bool.not_eq_true',Nat.blt_eq]at this;obtain⟨⟨q1,q2⟩,q3⟩:=this;have q2':p≠l:=by intro e;rw [e]at q2;simp at q2
  obtain⟨e,he⟩:=Option.isSome_iff_exists.1 q3;exact⟨q1,q2',hdom p e (by rw [fL q1 q2'];exact he)⟩
 have hV0: ∃x,V l=some x:=hdom l (e0.ren (unI l ps h.length np)) (by rw [mF hll,o4];rfl)
 obtain⟨⟨b,k⟩,hVl⟩:=hV0;obtain⟨bs,hbs⟩:=fQ.mk (V:=V) (ls:=ps) (fun p hp=>(hps p hp).2.2)
 let gs:Nat->PHeap:=fun j=>match j with
  | 0=>hs l
  | i+1=>if i<np then .emp else hs (h.length+(i - np))
 have gs_sub: ∀j,gs j=.emp \/ ∃m,(m=l\/h.length<=m)/\gs j=hs m:=by
  intro j;cases j with
  | zero=>exact .inr ⟨l,.inl rfl,rfl⟩
  | succ i=>
    show(if i<np then PHeap.emp else hs (h.length+(i - np)))=.emp \/_
    by_cases hi:i<np
    ·rw [if_pos hi];exact .inl rfl
    ·right;refine⟨h.length+(i - np),.inr (by omega),?_⟩
     show(if i<np then PHeap.emp else hs (h.length+(i - np)))=_
     rw [if_neg hi]
 have gdis: ∀i j,i≠j->(gs i).disj (gs j):=by
  intro i j hij;cases i with
  | zero=>
    cases j with
    | zero=>exact(hij rfl).elim
    | succ j=>
      show PHeap.disj (hs l) (if j<np then .emp else hs (h.length+(j - np)))
      split
      ·exact aJ3 _
      ·exact h3 _ _ (by omega)
  | succ i=>
    cases j with
    | zero=>
      show PHeap.disj (if i<np then .emp else hs (h.length+(i - np))) (hs l)
      split
      ·exact(aJ3 _).symm
      ·exact h3 _ _ (by omega)
    | succ j=>
      show PHeap.disj (if i<np then .emp else hs (h.length+(i - np))) (if j<np then .emp else hs (h.length+(j - np)))
      split
      ·exact(aJ3 _).symm
      ·split
       ·exact aJ3 _
       ·exact h3 _ _ (by omega)
 have gent: ∀i e,aL g i=some e->e.interp (obI tb) (fun i=>V (unI l ps h.length np i)) i (gs i):=by
  intro i e he;refine aG.interp_ren.1 ?_;cases i with
  | zero=>
    show(e.ren _).interp (obI tb) V l (hs l);exact h1 l _ (by show aL _ _=_;rw [mF hll,he];rfl)
  | succ i=>
    have hi: ¬i<np:=by
     intro hi;have:=o3 i hi;rw [Nat.add_comm,he]at this;cases this
    have e3:unI l ps h.length np (i+1)=h.length+(i - np):=by
     show(if i<np then _ else _)=_
     rw [if_neg hi]
    show(e.ren _).interp (obI tb) V (unI l ps h.length np (i+1)) (if i<np then PHeap.emp else hs (h.length+(i - np)))
    rw [if_neg hi,e3];refine h1 _ _ ?_;show aL _ _=_;rw [kV];have:1+np+(i - np)=i+1:=by omega
    rw [this,he];rfl
 obtain⟨n,hn⟩:=A0 tb (hs:=gs) g 0 (by simpa using gent)
 have gnon: ∀i,toF g i=none->gs i=.emp :=by
  intro i he;cases i with
  | zero=>have:aL g 0=none:=he;rw [o4]at this;cases this
  | succ i=>
    show(if i<np then PHeap.emp else hs (h.length+(i - np)))=.emp
    by_cases hi:i<np
    ·rw [if_pos hi]
    ·rw [if_neg hi];refine h2 _ ?_;show aL _ _=_;rw [kV];have:1+np+(i - np)=i+1:=by omega
     have he':aL g (i+1)=none:=he;rw [this,he'];rfl
 have hbig: ∀b' o,aKe gs b'=some o-> ∃m,(m=l\/h.length<=m)/\hs m b'=some o:=by
  intro b' o hh;obtain⟨j,hj⟩:=aKm hh;rcases gs_sub j with q | ⟨m,q1,q2⟩
  ·rw [q]at hj;cases hj
  ·exact⟨m,q1,by rw [<-q2];exact hj⟩
 have own: ∀m,m<h.length->(fun m=>if m<h.length then V m else none) m=V m:=fun m hm=>if_pos hm
 refine⟨fun m=>if m=l then aKe gs else if m<h.length then hs m else .emp,?_,?_,?_,?_,?_,h6⟩
 ·intro m e he;have hm:m<h.length:=cB he
  by_cases hml:m=l
  ·subst hml;have he':aL h m=some e:=he;rw [hl]at he';simp only [sI']at he';subst he';show aG.interp (obI tb) _ m _ (if m=m then aKe gs else _)
   rw [if_pos rfl];refine⟨b,k,by show(if m<h.length then V m else none)=_;rw [if_pos hm];exact hVl,bs,hbs.congr (fun p hp=>(own p (hps p hp).1).symm),n+1,?_⟩
   show∃V1 hs1,V1 0=some (b,k)/\(∀i,i<(tb t).1->V1 (1+i)=bs[i]?)/\bs.length=(tb t).1/\rF (obN tb n) V1 (toF (tb t).2) hs1/\aKe gs=aKe hs1;rw [ht];refine⟨(fun i=>V (unI m ps h.length np i)),gs,hVl,?_,by rw [hbs.len];exact hnp,⟨fun l e he=>by have:=hn l e he;simpa using this,gnon,gdis⟩,rfl⟩
   intro i hi;have:=hbs.get i (by omega)
   rw [<-this];show V (unI m ps h.length np (1+i))=_;rw [Nat.add_comm];show V (if i<np then _ else _)=_
   rw [if_pos hi]
  ·show e.interp (obI tb) _ m (if m=l then _ else if m<h.length then hs m else .emp)
   rw [if_neg hml,if_pos hm];have he':aL h m=some e:=he;refine aKZ (pl:=upto 0 h.length) (V:=V) (fun i hi=>(own i (jK.1 hi)).symm) (own m hm).symm (x7 p1 he') ?_;exact h1 m e (by show aL _ _=_;rw [fL hm hml];exact he')
 ·intro m he;have he':aL h m=none:=he
  by_cases hml:m=l
  ·subst hml;rw [hl]at he';cases he'
  ·show(if m=l then _ else if m<h.length then hs m else .emp)=_
   rw [if_neg hml]
   by_cases hm:m<h.length
   ·rw [if_pos hm];exact h2 m (by show aL _ _=_;rw [fL hm hml];exact he')
   ·rw [if_neg hm]
 ·intro m m' hmm b';show(if m=l then aKe gs else if m<h.length then hs m else .emp) b'=none\/(if m'=l then aKe gs else if m'<h.length then hs m' else .emp) b'=none
  have out: ∀m,m≠l->aKe gs b'=none\/(if m<h.length then hs m else PHeap.emp) b'=none:=by
   intro m hml
   by_cases hm:m<h.length
   ·rw [if_pos hm];cases hq:aKe gs b' with
    | none=>exact .inl rfl
    | some o=>
      right;obtain⟨m2,q1,q2⟩:=hbig b' o hq;rcases h3 m2 m (by rcases q1 with q | q<;>omega) b' with q | q
      ·rw [q]at q2;cases q2
      ·exact q
   ·rw [if_neg hm];exact .inr rfl
  by_cases hml:m=l
  ·have hml':m'≠l:=fun e=>hmm (hml.trans e.symm);rw [if_pos hml,if_neg hml'];exact out m' hml'
  ·rw [if_neg hml]
   by_cases hml':m'=l
   ·rw [if_pos hml'];exact(out m hml).symm
   ·rw [if_neg hml']
    by_cases hm:m<h.length
    ·rw [if_pos hm]
     by_cases hm':m'<h.length
     ·rw [if_pos hm'];exact h3 m m' hmm b'
     ·rw [if_neg hm'];exact .inr rfl
    ·rw [if_neg hm];exact .inl rfl
 ·intro m b';show(if m=l then aKe gs else if m<h.length then hs m else .emp) b'=none\/hR b'=none
  by_cases hml:m=l
  ·rw [if_pos hml];cases hq:aKe gs b' with
   | none=>exact .inl rfl
   | some o=>
     right;obtain⟨m2,q1,q2⟩:=hbig b' o hq;rcases h4 m2 b' with q | q
     ·rw [q]at q2;cases q2
     ·exact q
  ·rw [if_neg hml]
   by_cases hm:m<h.length
   ·rw [if_pos hm];exact h4 m b'
   ·rw [if_neg hm];exact .inl rfl
 ·intro m b' o hq;have hq':(if m=l then aKe gs else if m<h.length then hs m else .emp) b'=some o:=hq
  by_cases hml:m=l
  ·rw [if_pos hml]at hq';obtain⟨m2,q1,q2⟩:=hbig b' o hq';exact h5 m2 b' o q2
  ·rw [if_neg hml]at hq'
   by_cases hm:m<h.length
   ·rw [if_pos hm]at hq';exact h5 m b' o hq'
   ·rw [if_neg hm]at hq';cases hq'
variable {P:Program}
theorem aA.unpack{f:FuncId}{args:List AVal}{h:aC A}{K:AVal->aC A->Prop}(t:A)(l np:Nat)(g:aC A)(ps:List Nat)(hl:aL h l=some (.abs t ps))(ht:tb t=(np,g))(ho:obOk np g=true)(hnp:ps.length=np)
 (h0:aA (obI tb) P f args (aP h l np g ps) K):aA (obI tb) P f args h K:=by
 intro V hR w args' hi hf hr;obtain⟨V1,v1,v2,v3⟩:=hi.unpack tb hf hl ht ho hnp;refine(h0 V1 hR w args' v3 v2 (aI.mono v1 _ _ hr)).mono ?_;rintro e w' ⟨v,v',V',h',k1,k2,k3,k4,k5,k6,k7,k8⟩;exact⟨v,v',V',h',k1,k2,k3,Val.le_trans v1 k4,k5,Nat.le_trans (by rw [f0];omega) k6,k7,k8⟩
structure AB (n:Nat) (K:AVal->aC A->Prop) (v:AVal) (g':aC A):Prop where
 ex: ∃(pl:List Nat) (h2:aC A) (t:A) (l np:Nat) (g:aC A) (ps:List Nat),(dO pl g'.length&&gO pl 0 n&&Nat.ble n h2.length&&obOk np g&&iU h2 l ps&&(kI pl v).within (upto 0 h2.length)&&Nat.beq ps.length np)=true/\fZ pl g'=aP h2 l np g ps/\tb t=(np,g)/\aL h2 l=some (.abs t ps)/\K (kI pl v) h2
theorem aA.pack{f:FuncId}{args:List AVal}{h:aC A}{K:AVal->aC A->Prop}(h0:aA (obI tb) P f args h (AB tb h.length K)):aA (obI tb) P f args h K:=by
 intro V hR w args' hi hf hr;refine(h0 V hR w args' hi hf hr).mono ?_;rintro e w' ⟨v,v',V',g',⟨pl,h2,t,l,np,g,ps,hb,hT,ht,hl,hK⟩,k2,k3,k4,k5,k6,k7,k8⟩;simp only [Bool.and_eq_true]at hb;obtain⟨⟨⟨⟨⟨⟨b1,b2⟩,b3⟩,b4⟩,b5⟩,b6⟩,b7⟩:=hb;obtain⟨e1,e2⟩:=l7 b2;have hp:=nS (h:=g') b1;have hi2:=k7.pick hp;rw [hT]at hi2;have hi3:=hi2.pack tb hl ht b4 (Nat.eq_of_beq_eq_true b7) b5;have hn:h.length<=h2.length:=Nat.le_of_ble_eq_true b3;refine⟨kI pl v,v',_,h2,hK,k2,?_,?_,?_,hn,hi3,k8⟩
 ·have:=oI (n:=g'.length) (pl:=pl) k3
  exact aKB (pl:=upto 0 h2.length) (fun i hi=>by
   show _=if i<h2.length then _ else none
   rw [if_pos (jK.1 hi)]) _ _ b6 this
 ·intro m x hm
  have hlt:m<h.length:=by
   cases Nat.lt_or_ge m h.length with
   | inl q=>exact q
   | inr q=>rw [hf m q]at hm;cases hm
  show(if m<h2.length then V' (lab pl g'.length m)else none)=some x
  rw [if_pos (by omega)]
  have:lab pl g'.length m=m:=by unfold lab;rw [e2 m hlt];simp
  rw [this];exact k4 m x hm
 ·intro m hm;show(if m<h2.length then _ else none)=none
  rw [if_neg (by omega)]
def farI(n k i:Nat):Nat:=if i<n then i else i+k
def FN(n k:Nat)(g:aC A):aC A:=(g.take n).map (Option.map (aG.ren (farI n k)))++List.replicate k none++(g.drop n).map (Option.map (aG.ren (farI n k)))
theorem PW{n k:Nat}{g:aC A}(hn:n<=g.length)(i:Nat):aL (FN n k g) (farI n k i)=(aL g i).map (aG.ren (farI n k)):=by
 have hl:((g.take n).map (Option.map (aG.ren (farI n k)))).length =n:=by rw [List.length_map,List.length_take];omega
 unfold FN aL;simp only [gD']
 by_cases hi:i<n
 ·have e:farI n k i=i:=if_pos hi;rw [e,List.append_assoc,List.getElem?_append_left (by rw [hl];exact hi),List.getElem?_map,List.getElem?_take,if_pos hi]
  rw [gE' (by omega)]
  rfl
 ·have e:farI n k i=i+k:=if_neg hi;rw [e,List.getElem?_append_right (by rw [List.length_append,hl,List.length_replicate];omega),List.getElem?_map,List.getElem?_drop]
  have e2:n+(i+k - ((g.take n).map (Option.map (aG.ren (farI n k)))++List.replicate k (none:Option (aG A))).length)=i:=by
   rw [List.length_append,hl,List.length_replicate];omega
  rw [e2];cases g[i]? <;>rfl
theorem BU{n k:Nat}{g:aC A}(hn:n<=g.length):(FN n k g).length =g.length+k:=by
 unfold FN;rw [List.length_append,List.length_append,List.length_map,List.length_take,List.length_replicate,List.length_map,List.length_drop];omega
theorem K4{n k:Nat}{g:aC A}(hn:n<=g.length){m:Nat}(h1:n<=m)(h2:m<n+k):aL (FN n k g) m=none:=by
 have hl:((g.take n).map (Option.map (aG.ren (farI n k)))).length =n:=by rw [List.length_map,List.length_take];omega
 unfold FN aL;simp only [gD'];rw [List.append_assoc,List.getElem?_append_right (by rw [hl];exact h1),hl,List.getElem?_append_left (by rw [List.length_replicate];omega),List.getElem?_replicate,if_pos (by omega)]
 rfl
theorem PX{n k:Nat} : ∀i j,farI n k i=farI n k j->i=j:=by
 intro i j h;unfold farI at h;split at h<;>split at h<;>omega
theorem aA.shut{f:FuncId}{args:List AVal}{h':aC A}{K:AVal->aC A->Prop}(h:aC A)(t:A)(l np:Nat)(g:aC A)(ps:List Nat)(he:h'=aP h l np g ps)(hl:aL h l=some (.abs t ps))(ht:tb t=(np,g))
 (hb:(obOk np g&&iU h l ps&&aKb (upto 0 h.length) args&&Nat.beq ps.length np)=true)
 (h0:aA (obI tb) P f args h (fun v g2=>K (v.ren (farI h.length (h'.length - h.length))) (FN h.length (h'.length - h.length) g2))):aA (obI tb) P f args h' K:=by
 subst he;simp only [Bool.and_eq_true]at hb;obtain⟨⟨⟨b1,b2⟩,b3⟩,b4⟩:=hb;have hlen:=f0 h l np g ps;generalize hk:(aP h l np g ps).length - h.length=k at h0;intro V hR w args' hi hf hr;have hi2:=hi.pack tb hl ht b1 (Nat.eq_of_beq_eq_true b4) b2
 have hf2:bU (fun m=>if m<h.length then V m else none) h.length:=by
  intro m hm;show(if m<h.length then _ else none)=none
  rw [if_neg (by omega)]
 have hr2:aI (fun m=>if m<h.length then V m else none) args args'.toList:=aKq (pl:=upto 0 h.length) (fun i hi=>by
  show _=if i<h.length then _ else none
  rw [if_pos (jK.1 hi)]) _ _ b3 hr
 refine(h0 _ hR w args' hi2 hf2 hr2).mono ?_;rintro e w' ⟨v,v',V',g2,hK,k2,k3,k4,k5,k6,k7,k8⟩
 let V1:Val:=fun m=>if m<h.length then V' m else if m<h.length+k then V m else V' (m - k)
 have hV1:(fun i=>V1 (farI h.length k i))=V':=by
  funext i;show(if farI h.length k i<h.length then _ else _)=_
  by_cases hi:i<h.length
  ·have e:farI h.length k i=i:=if_pos hi;rw [e,if_pos hi]
  ·have e:farI h.length k i=i+k:=if_neg hi;rw [e,if_neg (by omega),if_neg (by omega),Nat.add_sub_cancel]
 refine⟨_,v',V1,_,hK,k2,?_,?_,?_,?_,?_,k8⟩
 ·refine(Rep.ren _ _).2 ?_;rw [hV1];exact k3
 ·intro m x hm;show(if m<h.length then _ else _)=some x
  by_cases h1:m<h.length
  ·rw [if_pos h1];exact k4 m x (by show(if m<h.length then V m else none)=some x;rw [if_pos h1];exact hm)
  ·rw [if_neg h1]
   have h2:m<h.length+k:=by
    cases Nat.lt_or_ge m (h.length+k)with
    | inl q=>exact q
    | inr q=>rw [hf m (by omega)]at hm;cases hm
   rw [if_pos h2];exact hm
 ·intro m hm;rw [BU k6]at hm;show(if m<h.length then _ else _)=none
  rw [if_neg (by omega),if_neg (by omega)]
  exact k5 _ (by omega)
 ·rw [BU k6];omega
 ·refine(aKz (ι:=farI h.length k) (h0:=toF g2) PX (fun i=>PW k6 i) ?_).2 (by rw [hV1];exact k7)
  intro m hm
  by_cases h1:m<h.length
  ·exact(hm m (if_pos h1)).elim
  ·by_cases h2:m<h.length+k
   ·exact K4 k6 (by omega) h2
   ·refine(hm (m - k) ?_).elim;show(if m - k<h.length then _ else _)=m
    rw [if_neg (by omega)];omega
end Go.Sh
namespace Go.Sh
open Go
variable [Con] {A:Type} {P:Program}
def nV:List AVal->List AVal->Prop
 | [],[]=>True
 | v::vs,w::ws=>(w=v\/w=.O)/\nV vs ws
 | _,_=>False
theorem x6{V:Val} : ∀ {vs ws:List AVal} {xs:List Value},nV vs ws->aI V vs xs->aI V ws xs
 | [],[],_,_,r=>r
 | v::vs,w::ws,_,⟨h,h2⟩,⟨x,xs,e,r,r2⟩=>⟨x,xs,e,by rcases h with rfl | rfl;exact r;exact trivial,x6 h2 r2⟩
def oV:Option (aG A)->Option (aG A)->Prop
 | _,none=>True
 | some (.cells vs),some (.cells ws)=>nV vs ws
 | x,y=>x=y
def lQ:aC A->aC A->Prop
 | [],[]=>True
 | x::g,y::g2=>oV x y/\lQ g g2
 | _,_=>False
theorem lR: ∀ {g g2:aC A},lQ g g2->g2.length=g.length
 | [],[],_=>rfl
 | x::g,y::g2,h=>by simp [lR h.2]
theorem x5: ∀ {g g2:aC A},lQ g g2-> ∀l,oV (aL g l) (aL g2 l)
 | [],[],_,l=>by simp [aL,oV]
 | x::g,y::g2,h,0=>by simpa [aL]using h.1
 | x::g,y::g2,h,l+1=>by
   have:=x5 h.2 l
   simpa [aL]using this
theorem Inv.weak{I:Itp A}{V:Val}{g g2:aC A}{hR:PHeap}{w:World}(hw:lQ g g2)(hi:Inv I V (toF g) hR w):Inv I V (toF g2) hR w:=by
 classical
 obtain⟨hs,h1,h2,h3,h4,h5,h6⟩:=hi;refine⟨fun l=>if aL g2 l=none then .emp else hs l,?_,?_,?_,?_,?_,h6⟩
 ·intro l e he;have he':aL g2 l=some e:=he;have hq:=x5 hw l;rw [he']at hq;show e.interp I V l (if aL g2 l=none then PHeap.emp else hs l)
  rw [if_neg (by rw [he'];simp)]
  cases hg:aL g l with
  | none=>rw [hg]at hq;cases e<;>cases hq
  | some e1=>
    rw [hg]at hq;have hi1:=h1 l e1 hg;cases e1 with
    | cells vs=>
      cases e with
      | cells ws=>
        obtain⟨b,k,q1,cs,T,q2,q3,rs,tail,q4,q5⟩:=hi1;exact⟨b,k,q1,cs,T,q2,q3,rs,tail,q4,x6 hq q5⟩
      | _=>simp [oV]at hq
    | _=>
      simp only [oV,sI']at hq;subst hq;exact hi1
 ·intro l he;have he':aL g2 l=none:=he;show(if aL g2 l=none then PHeap.emp else hs l)=_
  rw [if_pos he']
 ·intro l m hlm;show PHeap.disj (if aL g2 l=none then .emp else hs l) (if aL g2 m=none then .emp else hs m)
  split
  ·exact(aJ3 _).symm
  ·split
   ·exact aJ3 _
   ·exact h3 l m hlm
 ·intro l;show PHeap.disj (if aL g2 l=none then .emp else hs l) hR
  split
  ·exact(aJ3 _).symm
  ·exact h4 l
 ·intro l;show PHeap.sub (if aL g2 l=none then .emp else hs l) w
  split
  ·exact aKt _
  ·exact h5 l
structure NV (K:AVal->aC A->Prop) (v:AVal) (g:aC A):Prop where
 ex: ∃g2,lQ g g2/\K v g2
theorem aKR{I:Itp A}{f:FuncId}{args:List AVal}{h:aC A}{K:AVal->aC A->Prop}(h0:aA I P f args h (NV K)):aA I P f args h K:=by
 intro V hR w args' hi hf hr;refine(h0 V hR w args' hi hf hr).mono ?_;rintro e w' ⟨v,v',V',g',⟨g2,hw,hK⟩,k2,k3,k4,k5,k6,k7,k8⟩;exact⟨v,v',V',g2,hK,k2,k3,k4,by rw [lR hw];exact k5,by rw [lR hw];exact k6,k7.weak hw,k8⟩
end Go.Sh
namespace Go.Sh
open Go
variable [Con] {A:Type} {P:Program}
theorem aKi{I:Itp A}(n:Nat)(v:AVal)(g:aC A):aF I n v g v g:=fun V hR w x h1 h2 h3 h4=>⟨V,fun _ _ _ h=>h,h2,h3,h4,h1⟩
theorem aF.trans{I:Itp A}{n:Nat}{v v2 v3:AVal}{g g2 g3:aC A}(a:aF I n v g v2 g2)(b:aF I n v2 g2 v3 g3):aF I n v g v3 g3:=by
 intro V hR w x h1 h2 h3 h4;obtain⟨V1,a1,a2,a3,a4,a5⟩:=a V hR w x h1 h2 h3 h4;obtain⟨V2,b1,b2,b3,b4,b5⟩:=b V1 hR w x a5 a2 a3 a4;exact⟨V2,fun l y hl hy=>b1 l y hl (a1 l y hl hy),b2,b3,b4,b5⟩
theorem aF.weak{I:Itp A}{n:Nat}{v:AVal}{g g2:aC A}(h:lQ g g2):aF I n v g v g2:=fun V hR w x h1 h2 h3 h4=>⟨V,fun _ _ _ h=>h,by rw [lR h];exact h2,by rw [lR h];exact h3,h4,h1.weak h⟩
theorem aF.pick{I:Itp A}{n:Nat}{v:AVal}{g:aC A}(pl:List Nat)(h:(dO pl g.length&&gO pl 0 n)=true):aF I n v g (kI pl v) (fZ pl g):=by
 intro V hR w x h1 h2 h3 h4;obtain⟨q1,q2⟩:=Bool.and_eq_true_iff.1 h;obtain⟨p1,p2,p3,p4⟩:=t8.elim q1 q2 h1 h2;exact⟨_,fun l y hl hy=>(p1 l hl).trans hy,p2,p3,oI h4,p4⟩
theorem aF.unpack{tb:A->Nat×aC A}{n:Nat}{v:AVal}{g:aC A}(t:A)(l np:Nat)(e:aC A)(ps:List Nat)(hl:aL g l=some (.abs t ps))(ht:tb t=(np,e))(ho:obOk np e=true)(hnp:ps.length=np):aF (obI tb) n v g v (aP g l np e ps):=by
 intro V hR w x h1 h2 h3 h4;obtain⟨V1,v1,v2,v3⟩:=h1.unpack tb h2 hl ht ho hnp;exact⟨V1,fun l y _ hy=>v1 l y hy,v2,by rw [f0];omega,Rep.mono v1 _ _ h4,v3⟩
theorem aF.pack{tb:A->Nat×aC A}{n:Nat}{v:AVal}{g:aC A}(h2:aC A)(t:A)(l np:Nat)(e:aC A)(ps:List Nat)(hg:g=aP h2 l np e ps)(hl:aL h2 l=some (.abs t ps))(ht:tb t=(np,e))
 (hb:(Nat.ble n h2.length&&obOk np e&&iU h2 l ps&&v.within (upto 0 h2.length)&&Nat.beq ps.length np)=true):aF (obI tb) n v g v h2:=by
 subst hg;simp only [Bool.and_eq_true]at hb;obtain⟨⟨⟨⟨b3,b4⟩,b5⟩,b6⟩,b7⟩:=hb;have hn:n<=h2.length:=Nat.le_of_ble_eq_true b3;intro V hR w x h1 hf h3 h4;refine⟨_,?_,?_,hn,?_,h1.pack tb hl ht b4 (Nat.eq_of_beq_eq_true b7) b5⟩
 ·intro m y hm hy;show(if m<h2.length then V m else none)=some y
  rw [if_pos (by omega)];exact hy
 ·intro m hm;show(if m<h2.length then _ else none)=none
  rw [if_neg (by omega)]
 ·exact aKB (pl:=upto 0 h2.length) (fun i hi=>by
   show _=if i<h2.length then _ else none
   rw [if_pos (jK.1 hi)]) _ _ b6 h4
theorem aJ8{I:Itp A}{n:Nat}{v v2:AVal}{g g2:aC A}(h1:v=v2)(h2:g=g2):aF I n v g v2 g2:=by subst h1 h2;exact aKi _ _ _
structure cO (I:Itp A) (n:Nat) (K:AVal->aC A->Prop) (v:AVal) (g:aC A):Prop where
 ex: ∃v2 g2,aF I n v g v2 g2/\K v2 g2
theorem aJ9{I:Itp A}{f:FuncId}{args:List AVal}{h:aC A}{K:AVal->aC A->Prop}(h0:aA I P f args h (cO I h.length K)):aA I P f args h K:=by
 intro V hR w args' hi hf hr;refine(h0 V hR w args' hi hf hr).mono ?_;rintro e w' ⟨v,v',V',g',⟨v2,g2,ht,hK⟩,k2,k3,k4,k5,k6,k7,k8⟩;obtain⟨V1,a1,a2,a3,a4,a5⟩:=ht V' hR w' v' k7 k5 k6 k3;refine⟨v2,v',V1,g2,hK,k2,a4,?_,a2,a3,a5,k8⟩;intro l y hl
 have hlt:l<h.length:=by
  cases Nat.lt_or_ge l h.length with
  | inl q=>exact q
  | inr q=>rw [hf l q]at hl;cases hl
 exact a1 l y hlt (k4 l y hl)
inductive Tr (X:Type) where
 | ret (x:X)
 | ite (b:Bool) (l r:Tr X)
 | pre (p:Prop) (t:Tr X)
def Tr.run{X:Type} :Tr X->(X->Prop)->Prop
 | .ret x,K=>K x
 | .ite b l r,K=>cond b (l.run K) (r.run K)
 | .pre p t,K=>p/\t.run K
def Tr.val{X:Type} :Tr X->X
 | .ret x=>x
 | .ite b l r=>bif b then l.val else r.val
 | .pre _ t=>t.val
def Tr.ok{X:Type} :Tr X->Prop
 | .ret _=>True
 | .ite b l r=>cond b l.ok r.ok
 | .pre p t=>p/\t.ok
theorem aJ5{X:Type}{K:X->Prop} : ∀ {t:Tr X},t.ok->K t.val->t.run K
 | .ret x,_,k=>k
 | .ite b l r,o,k=>by
   cases b with
   | true=>exact aJ5 (t:=l) o k
   | false=>exact aJ5 (t:=r) o k
 | .pre p t,o,k=>⟨o.1,aJ5 (t:=t) o.2 k⟩
def aBA{X:Type}(n:Nat)(parse:AVal->aC A->Option (Prop×X))(K:X->Prop)(v:AVal)(g:aC A):Prop:=
 cK (dO (dI n g v.labels) g.length&&gO (dI n g v.labels) 0 n) (match parse (kI (dI n g v.labels) v) (fZ (dI n g v.labels) g)with
  | some (p,x)=>p/\K x
  | none=>False)
def bO{X:Type}(I:Itp A)(n:Nat)(parse:AVal->aC A->Option (Prop×X))(fin:X->Out A):Prop:=
 ∀v g p x,parse v g=some (p,x)->p-> ∀K,(fin x).run K->cO I n K v g
theorem aA.leaf{X:Type}{I:Itp A}{f:FuncId}{args:List AVal}{h:aC A}{K:AVal->aC A->Prop}{parse:AVal->aC A->Option (Prop×X)}{fin:X->Out A}(n:Nat)(hn:n<=h.length)(hr:bO I n parse fin)
 (h0:aA I P f args h (aBA n parse fun x=>(fin x).run K)): ∀V hR w (args':Array Value),Inv I V (toF h) hR w->bU V h.length->aI V args args'.toList->Calls P f args' w (fun e w'=> ∃v v' V' h',K v h'/\e=.returned v'/\Rep V' v v'/\(∀l y,l<n->V l=some y->V' l=some y)/\bU V' h'.length/\n<=h'.length/\Inv I V' (toF h') hR w'/\bX w w'):=by
 intro V hR w args' hi hf hrp;refine(h0 V hR w args' hi hf hrp).mono ?_;rintro e w' ⟨v,v',V',g',hL,k2,k3,k4,k5,k6,k7,k8⟩;unfold aBA at hL;obtain⟨hg,hL⟩:=bM.1 hL;have ht:=aF.pick (I:=I) (v:=v) _ hg;split at hL
 ·rename_i p x hp;obtain⟨v2,g2,ht2,hK⟩:=(hr _ _ p x hp hL.1 K hL.2).ex;obtain⟨V1,a1,a2,a3,a4,a5⟩:=(ht.trans ht2) V' hR w' v' k7 k5 (by omega) k3
  exact⟨v2,v',V1,g2,hK,k2,a4,fun l y hl hy=>a1 l y hl (k4 l y hy),a2,a3,a5,k8⟩
 ·exact hL.elim
theorem aA.plain{X:Type}{I:Itp A}{f:FuncId}{args:List AVal}{h:aC A}{K:AVal->aC A->Prop}{parse:AVal->aC A->Option (Prop×X)}{fin:X->Out A}(hr:bO I h.length parse fin)
 (h0:aA I P f args h (aBA h.length parse fun x=>(fin x).run K)):aA I P f args h K:=by
 intro V hR w args' hi hf hrp;refine(aA.leaf h.length (Nat.le_refl _) hr h0 V hR w args' hi hf hrp).mono ?_;rintro e w' ⟨v,v',V',h',k1,k2,k3,k4,k5,k6,k7,k8⟩;refine⟨v,v',V',h',k1,k2,k3,?_,k5,k6,k7,k8⟩;intro l y hy
 have hlt:l<h.length:=by
  cases Nat.lt_or_ge l h.length with
  | inl q=>exact q
  | inr q=>rw [hf l q]at hy;cases hy
 exact k4 l y hlt hy
end Go.Sh
namespace Go.Sh
open Go
variable [Con] {A:Type} {P:Program}
def aBk(g:aC A):AVal->Bool
 | .ptr l 0=>(match aL g l with
   | some (.abs _ _)=>false
   | _=>true)
 | _=>true
def TE(g:aC A)(pos:List Nat):Nat->List AVal->List AVal
 | _,[]=>[]
 | i,v::vs=>cond (pos.elem i&&aBk g v) .O v::TE g pos (i+1) vs
theorem wA(g:aC A)(pos:List Nat): ∀(i:Nat) (vs:List AVal),nV vs (TE g pos i vs)
 | _,[]=>trivial
 | i,v::vs=>by
   refine⟨?_,wA g pos (i+1) vs⟩;cases pos.elem i&&aBk g v with
   | true=>exact .inr rfl
   | false=>exact .inl rfl
theorem wD: ∀(vs:List AVal),nV vs vs
 | []=>trivial
 | _::vs=>⟨.inl rfl,wD vs⟩
theorem wC(e:Option (aG A)):oV e e:=by
 cases e with
 | none=>trivial
 | some e=>cases e with
   | cells vs=>exact wD vs
   | _=>rfl
theorem mG: ∀(g:aC A),lQ g g
 | []=>trivial
 | _::g=>⟨wC _,mG g⟩
theorem jR: ∀(g:aC A) (l:Nat) (e2:Option (aG A)),oV (aL g l) e2->lQ g (g.set l e2)
 | [],_,_,_=>trivial
 | x::g,0,e2,h=>⟨by simpa [aL]using h,mG g⟩
 | x::g,l+1,e2,h=>⟨wC x,jR g l e2 (by simpa [aL]using h)⟩
def zU(g:aC A)(root:Nat)(pos:List Nat):aC A:=match aL g root with
 | some (.cells vs)=>g.set root (some (.cells (TE g pos 0 vs)))
 | _=>g
theorem zV(g:aC A)(root:Nat)(pos:List Nat):lQ g (zU g root pos):=by
 unfold zU;split
 ·rename_i vs h;refine jR g root _ ?_;rw [h];exact wA g pos 0 vs
 ·exact mG g
theorem aF.cast{I:Itp A}{n:Nat}{cs:List (Place×f5)}{v v2:AVal}{g g2:aC A}(h:f7 cs [v] g=some ([v2],g2)):aF I n v g v2 g2:=by
 intro V hR w x h1 h2 h3 h4;obtain⟨V',⟨c1,c2,c3,c4⟩,r⟩:=eR h h1 h2 (xs:=[x]) ⟨x,[],rfl,h4,rfl⟩;obtain⟨y,ys,e,r1,_⟩:=r;simp only [lI']at e;obtain⟨rfl,_⟩:=e;exact⟨V',fun l y _ hy=>c1 l y hy,c2,by omega,r1,c4⟩
def bS{X:Type}(n root:Nat)(pos:List Nat)(cs:List (Place×f5))(parse:AVal->aC A->Option (Prop×X))(K:X->Prop)(v:AVal)(g:aC A):Prop:=
 let pl:=dI n g v.labels
 cK (dO pl g.length&&gO pl 0 n) (
  match f7 cs [kI pl v] (zU (fZ pl g) root pos)with
  | some ([v3],g3)=>
    let pl2:=dI n g3 v3.labels
    cK (dO pl2 g3.length&&gO pl2 0 n) (match parse (kI pl2 v3) (fZ pl2 g3)with
     | some (p,x)=>p/\K x
     | none=>False)
  | _=>False)
theorem bS.sees{X:Type}{I:Itp A}{n root:Nat}{pos:List Nat}{cs:List (Place×f5)}{parse:AVal->aC A->Option (Prop×X)}{fin:X->Out A}(hr:bO I n parse fin){K:AVal->aC A->Prop}{v:AVal}{g:aC A}
 (h:bS n root pos cs parse (fun x=>(fin x).run K) v g):cO I n K v g:=by
 unfold bS at h;obtain⟨h1,h⟩:=bM.1 h;have t1:=aF.pick (I:=I) (v:=v) _ h1;split at h
 ·rename_i v3 g3 hc;obtain⟨h2,h⟩:=bM.1 h;have t2:aF I n (kI (dI n g v.labels) v) (fZ (dI n g v.labels) g) v3 g3:=(aF.weak (zV _ root pos)).trans (aF.cast hc);have t3:=aF.pick (I:=I) (v:=v3) _ h2;split at h
  ·rename_i p x hp;obtain⟨v4,g4,t4,hK⟩:=(hr _ _ p x hp h.1 K h.2).ex;exact⟨v4,g4,((t1.trans t2).trans t3).trans t4,hK⟩
  ·exact h.elim
 ·exact h.elim
theorem aKY{X:Type}{I:Itp A}{f:FuncId}{args:List AVal}{h:aC A}{K:AVal->aC A->Prop}{parse:AVal->aC A->Option (Prop×X)}{fin:X->Out A}(n:Nat)(hn:n<=h.length){root:Nat}{pos:List Nat}{cs:List (Place×f5)}(hr:bO I n parse fin)
 (h0:aA I P f args h (bS n root pos cs parse fun x=>(fin x).run K)): ∀V hR w (args':Array Value),Inv I V (toF h) hR w->bU V h.length->aI V args args'.toList->Calls P f args' w (fun e w'=> ∃v v' V' h',K v h'/\e=.returned v'/\Rep V' v v'/\(∀l y,l<n->V l=some y->V' l=some y)/\bU V' h'.length/\n<=h'.length/\Inv I V' (toF h') hR w'/\bX w w'):=by
 intro V hR w args' hi hf hrp;refine(h0 V hR w args' hi hf hrp).mono ?_;rintro e w' ⟨v,v',V',g',hL,k2,k3,k4,k5,k6,k7,k8⟩;obtain⟨v2,g2,ht2,hK⟩:=(bS.sees hr hL).ex;obtain⟨V1,a1,a2,a3,a4,a5⟩:=ht2 V' hR w' v' k7 k5 (by omega) k3
 exact⟨v2,v',V1,g2,hK,k2,a4,fun l y hl hy=>a1 l y hl (k4 l y hy),a2,a3,a5,k8⟩
theorem aKf{X:Type}{I:Itp A}{f:FuncId}{args:List AVal}{h:aC A}{K:AVal->aC A->Prop}{parse:AVal->aC A->Option (Prop×X)}{fin:X->Out A}{root:Nat}{pos:List Nat}{cs:List (Place×f5)}(hr:bO I h.length parse fin)
 (h0:aA I P f args h (bS h.length root pos cs parse fun x=>(fin x).run K)):aA I P f args h K:=by
 intro V hR w args' hi hf hrp;refine(aKY h.length (Nat.le_refl _) hr h0 V hR w args' hi hf hrp).mono ?_;rintro e w' ⟨v,v',V',h',k1,k2,k3,k4,k5,k6,k7,k8⟩;refine⟨v,v',V',h',k1,k2,k3,?_,k5,k6,k7,k8⟩;intro l y hy
 have hlt:l<h.length:=by
  cases Nat.lt_or_ge l h.length with
  | inl q=>exact q
  | inr q=>rw [hf l q]at hy;cases hy
 exact k4 l y hlt hy
end Go.Sh
namespace Go.Sh
open Go
variable [Con] {A:Type} {P:Program}
def rowC:Nat->List (Option A)->List AVal
 | _,[]=>[]
 | k,none::r=>.raw (.pointer none)::rowC (k+1) r
 | k,some _::r=>.ptr k 0::rowC (k+1) r
def ST(ws:List (Option A)):aC A:=ws.map (Option.map fun t=>aG.abs t [])
def rowE(ws:List (Option A)):aC A:=some (.cells (rowC 1 ws))::ST ws
def kP(ws:List (Option A))(i:Nat):aC A:=some (.cells ((rowC 2 ws).set i (.ptr 1 0)))::none::(ST ws).set i none
def MY(k:Nat):Option A->AVal
 | none=>.raw (.pointer none)
 | some _=>.ptr k 0
theorem iN: ∀(ws:List (Option A)) (k j:Nat),(rowC k ws)[j]? =(ws[j]?).map (MY (k+j))
 | [],_,_=>by simp [rowC]
 | none::r,k,0=>by simp [rowC,MY]
 | some _::r,k,0=>by simp [rowC,MY]
 | none::r,k,j+1=>by simp only [rowC,List.getElem?_cons_succ];rw [iN r (k+1) j];rw [show k+1+j=k+(j+1)from by omega]
 | some _::r,k,j+1=>by simp only [rowC,List.getElem?_cons_succ];rw [iN r (k+1) j];rw [show k+1+j=k+(j+1)from by omega]
theorem gG(k:Nat)(ws:List (Option A)):(rowC k ws).length =ws.length:=by
 induction ws generalizing k with
 | nil=>rfl
 | cons o r ih=>cases o<;>simp [rowC,ih]
theorem aKD{V:Val} : ∀ {av:List AVal} {vs:List Value},av.length=vs.length->(∀(i:Nat) (a:AVal) (v:Value),av[i]? =some a->vs[i]? =some v->Rep V a v)->aI V av vs
 | [],[],_,_=>rfl
 | [],_::_,h,_=>by simp at h
 | _::_,[],h,_=>by simp at h
 | a::av,v::vs,h,hg=>⟨v,vs,rfl,hg 0 a v rfl rfl,aKD (by simpa using h) (fun i a v h1 h2=>hg (i+1) a v (by simpa using h1) (by simpa using h2))⟩
theorem aI.at{V:Val}{av:List AVal}{vs:List Value}(h:aI V av vs){i:Nat}{a:AVal}{v:Value}(ha:av[i]? =some a)(hv:vs[i]? =some v):Rep V a v:=by
 obtain⟨y,hy,r⟩:=aI.get h i a ha;rw [hv]at hy;cases hy;exact r
structure gP (tb:A->Nat×aC A) where
 R:Type
 row:R->A
 hole:R->Nat->A
 els:R->List (Option A)
 len:R->Nat
 upd:R->Nat->A->Option R
 isRow:A->Option R
 isHole:A->Option (R×Nat)
 is:R->Nat->Bool
 get:R->Nat->A
 isRow_eq: ∀t r,isRow t=some r->t=row r
 isHole_eq: ∀t r i,isHole t=some (r,i)->t=hole r i
 len_eq: ∀r,len r=(els r).length
 upd_eq: ∀r i t r',upd r i t=some r'->els r'=(els r).set i (some t)
 is_true: ∀r i,is r i=true->i<len r->(els r)[i]? =some (some (get r i))
 is_false: ∀r i,is r i=false->i<len r->(els r)[i]? =some none
 tbRow: ∀r,tb (row r)=(0,rowE (els r))
 tbHole: ∀r i,tb (hole r i)=(1,kP (els r) i)
theorem eS(ws:List (Option A))(j:Nat):aL (rowE ws) (j+1)=(ws[j]?).join.map (fun t=>aG.abs t []):=by
 simp only [rowE,aL,List.getD_cons_succ,ST];rw [gD',List.getElem?_map];cases ws[j]? with
 | none=>rfl
 | some o=>cases o<;>rfl
theorem fN(ws:List (Option A))(i j:Nat):aL (kP ws i) (j+2)=if i=j then none else(ws[j]?).join.map (fun t=>aG.abs t []):=by
 simp only [kP,aL,List.getD_cons_succ,ST];rw [gD',List.getElem?_set];split
 ·split<;>rfl
 ·rw [List.getElem?_map];cases ws[j]? with
  | none=>rfl
  | some o=>cases o<;>rfl
variable {tb:A->Nat×aC A}
theorem oX{N:Nat}{V:Val}{l:Nat}{t:A}{p:PHeap}(h:aG.interp (obN tb N) V l (.abs t []) p): ∃x,V l=some x/\obN tb N t x [] p:=by
 obtain⟨b,k,h1,bs,h2,h3⟩:=h;have:bs=[]:=h2;subst this;exact⟨_,h1,h3⟩
theorem gP.lend(R:gP tb){rr:R.R}{i:Nat}{t:A}{r:Nat×Nat}{p:PHeap}{N:Nat}(h:obN tb (N+1) (R.row rr) r [] p)(hw:(R.els rr)[i]? =some (some t)):
 ∃x q p',obN tb N t x [] q/\obN tb (N+1) (R.hole rr i) r [x] p'/\q.disj p'/\(∀b o,q b=some o->p b=some o)/\(∀b o,p' b=some o->p b=some o)/\
  ∃cs T,p r.1=some (.cells cs T)/\cs.toList[i]? =some (.pointer (some ⟨x.1,0,none⟩)):=by
 obtain⟨V,gs,g1,g2,g3,⟨g4,g5,g6⟩,g7⟩:=h;have htb:=R.tbHole rr i;rw [R.tbRow]at g2 g3 g4 g5;dsimp only at g2 g3 g4 g5;generalize R.els rr=ws at*;have hi:aL (rowE ws) (i+1)=some (.abs t []):=by rw [eS,hw];rfl
 obtain⟨x,hx,hq⟩:=oX (g4 _ _ hi);have hc:=g4 0 _ (show aL (rowE ws) 0=some (.cells (rowC 1 ws))from rfl)
 obtain⟨b,k,c1,cs,T,c2,c3,rs,tail,c4,c5⟩:=hc;have hbk:r=(b,k):=by have c1':V 0=some (b,k):=c1;rw [g1]at c1';simpa using c1'
 have hlen:=aI.length c5
 have hil:i<rs.length:=by
  rw [hlen,gG];exact(List.getElem?_eq_some_iff.1 hw).1
 have hri:=aI.at c5 (i:=i) (a:=.ptr (1+i) 0) (v:=rs[i]) (by rw [iN,hw];rfl) (gE' hil)
 obtain⟨b2,k2,e1,e2⟩:=hri
 have hx2:x=(b2,k2):=by
  have:V (1+i)=some (b2,k2):=e1;rw [Nat.add_comm]at this;have hx':V (i+1)=some x:=hx;rw [hx']at this;simpa using this
 let V':Val:=fun m=>match m with
  | 0=>V 0
  | 1=>some x
  | j+2=>V (j+1)
 let gs':Nat->PHeap:=fun m=>match m with
  | 0=>gs 0
  | 1=>.emp
  | j+2=>if i=j then .emp else gs (j+1)
 have hsub: ∀j b o,gs j b=some o->p b=some o:=by
  intro j b o hh;rw [g7];exact aKl g6 hh
 have gs'_sub: ∀m b o,gs' m b=some o-> ∃j,j≠i+1/\gs j b=some o:=by
  intro m b o hh
  match m,hh with
  | 0,hh=>exact⟨0,by omega,hh⟩
  | 1,hh=>cases hh
  | j+2,hh=>
    have hh':(if i=j then PHeap.emp else gs (j+1)) b=some o:=hh
    split at hh'
    ·cases hh'
    ·exact⟨j+1,by omega,hh'⟩
 have gdis: ∀l m,l≠m->(gs' l).disj (gs' m):=by
  intro l m hlm b;cases h1:gs' l b with
  | none=>exact .inl rfl
  | some o=>
    right;cases h2:gs' m b with
    | none=>rfl
    | some o2=>
      exfalso
      have key: ∀l m,l≠m-> ∀o o2,gs' l b=some o->gs' m b=some o2->False:=by
       intro l m hlm o o2 h1 h2
       match l,m,h1,h2 with
       | 0,0,_,_=>exact hlm rfl
       | 1,_,h1,_=>cases h1
       | _,1,_,h2=>cases h2
       | 0,j+2,h1,h2=>
         have h2':(if i=j then PHeap.emp else gs (j+1)) b=some o2:=h2
         split at h2'
         ·cases h2'
         ·rcases g6 0 (j+1) (by omega) b with d | d
          ·have h1':gs 0 b=some o:=h1;rw [d]at h1';cases h1'
          ·rw [d]at h2';cases h2'
       | j+2,0,h1,h2=>
         have h1':(if i=j then PHeap.emp else gs (j+1)) b=some o:=h1
         split at h1'
         ·cases h1'
         ·rcases g6 0 (j+1) (by omega) b with d | d
          ·have h2':gs 0 b=some o2:=h2;rw [d]at h2';cases h2'
          ·rw [d]at h1';cases h1'
       | j+2,j2+2,h1,h2=>
         have h1':(if i=j then PHeap.emp else gs (j+1)) b=some o:=h1
         have h2':(if i=j2 then PHeap.emp else gs (j2+1)) b=some o2:=h2
         split at h1'
         ·cases h1'
         ·split at h2'
          ·cases h2'
          ·rcases g6 (j+1) (j2+1) (by omega) b with d | d
           ·rw [d]at h1';cases h1'
           ·rw [d]at h2';cases h2'
      exact key l m hlm o o2 h1 h2
 have hcell:aL (kP ws i) 0=some (.cells ((rowC 2 ws).set i (.ptr 1 0))):=rfl;refine⟨x,gs (i+1),aKe gs',hq,⟨V',gs',g1,?_,?_,⟨?_,?_,gdis⟩,rfl⟩,?_,hsub _,?_,cs,T,?_,?_⟩
 ·intro j hj;rw [htb]at hj;have:j=0:=by dsimp only at hj;omega
  subst this;rfl
 ·rw [htb];rfl
 ·intro l e he;rw [htb]at he
  match l,he with
  | 0,he=>
    have he':aL (kP ws i) 0=some e:=he;rw [hcell]at he';simp only [sI']at he';subst he';refine⟨b,k,c1,cs,T,c2,c3,rs,tail,c4,?_⟩;refine aKD (by rw [List.length_set,gG,hlen,gG]) ?_
    intro j a v ha hv;rw [List.getElem?_set]at ha;split at ha
    ·rename_i hij;subst hij;split at ha
     ·simp only [sI']at ha;subst ha;rw [gE' hil]at hv;simp only [sI']at hv;subst hv;refine⟨b2,k2,?_,e2⟩;show some x=_;rw [hx2]
     ·cases ha
    ·rw [iN]at ha;cases hwj:ws[j]? with
     | none=>rw [hwj]at ha;cases ha
     | some o=>
       rw [hwj]at ha;simp only [Option.map_some,sI']at ha;have hr:=aI.at c5 (i:=j) (a:=MY (1+j) o) (v:=v) (by rw [iN,hwj];rfl) hv
       cases o with
       | none=>subst ha;exact hr
       | some s=>
         subst ha;obtain⟨b3,k3,f1,f2⟩:=hr;refine⟨b3,k3,?_,f2⟩;show V' (2+j)=_;rw [Nat.add_comm];show V (j+1)=_;rw [Nat.add_comm];exact f1
  | 1,he=>cases he
  | j+2,he=>
    have he':aL (kP ws i) (j+2)=some e:=he;rw [fN]at he';split at he'
    ·cases he'
    ·rename_i hij;have hj2:aL (rowE ws) (j+1)=some e:=by rw [eS];exact he'
     have hin:=g4 _ _ hj2;show aG.interp (obN tb N) V' (j+2) e (if i=j then PHeap.emp else gs (j+1))
     rw [if_neg hij];cases hwj:(ws[j]?).join with
     | none=>rw [hwj]at he';cases he'
     | some s=>
       rw [hwj]at he';simp only [Option.map_some,sI']at he';subst he';obtain⟨x3,f1,f2⟩:=oX hin;exact⟨x3.1,x3.2,f1,[],rfl,f2⟩
 ·intro l he;rw [htb]at he
  match l,he with
  | 0,he=>cases he
  | 1,he=>rfl
  | j+2,he=>
    have he':aL (kP ws i) (j+2)=none:=he;rw [fN]at he';show(if i=j then PHeap.emp else gs (j+1))=_
    split at he'
    ·rename_i hij;rw [if_pos hij]
    ·rename_i hij;rw [if_neg hij];refine g5 _ ?_;show aL (rowE ws) (j+1)=none;rw [eS];exact he'
 ·intro b';cases h1:gs (i+1) b' with
  | none=>exact .inl rfl
  | some o=>
    right;refine aKE fun m=>?_;cases h2:gs' m b' with
    | none=>rfl
    | some o2=>
      exfalso;obtain⟨j,hj,h3⟩:=gs'_sub m b' o2 h2;rcases g6 j (i+1) hj b' with d | d
      ·rw [d]at h3;cases h3
      ·rw [d]at h1;cases h1
 ·intro b' o hh;obtain⟨m,hm⟩:=aKm hh;obtain⟨j,_,h3⟩:=gs'_sub m b' o hm;exact hsub j b' o h3
 ·refine hsub 0 r.1 _ ?_;rw [c2,hbk];simp [PHeap.one]
 ·rw [c4,List.getElem?_append_left hil,gE' hil,e2,hx2]
theorem gP.back(R:gP tb){rr rr':R.R}{i:Nat}{t:A}{r x:Nat×Nat}{p' q:PHeap}{N:Nat}(hp:obN tb (N+1) (R.hole rr i) r [x] p')(hq:obN tb N t x [] q)(hd:q.disj p')(hi:i<R.len rr)(hu:R.upd rr i t=some rr'):
 ∃p,obN tb (N+1) (R.row rr') r [] p/\(∀b o,p b=some o->q b=some o\/p' b=some o):=by
 obtain⟨V,gs,g1,g2,g3,⟨g4,g5,g6⟩,g7⟩:=hp;have htb:=R.tbRow rr';rw [R.upd_eq _ _ _ _ hu]at htb;rw [R.len_eq]at hi;rw [R.tbHole]at g2 g3 g4 g5;dsimp only at g2 g3 g4 g5;generalize R.els rr=ws at*;have hx:V 1=some x:=by have:=g2 0 (by omega);simpa using this
 have hc:=g4 0 _ (show aL (kP ws i) 0=some (.cells ((rowC 2 ws).set i (.ptr 1 0)))from rfl)
 obtain⟨b,k,c1,cs,T,c2,c3,rs,tail,c4,c5⟩:=hc;have hlen:=aI.length c5;rw [List.length_set,gG]at hlen
 let V':Val:=fun m=>match m with
  | 0=>V 0
  | j+1=>if i=j then some x else V (j+2)
 let gs':Nat->PHeap:=fun m=>match m with
  | 0=>gs 0
  | j+1=>if i=j then q else gs (j+2)
 have hsub: ∀j b o,gs j b=some o->p' b=some o:=by
  intro j b o hh;rw [g7];exact aKl g6 hh
 have hqd: ∀j b o o2,gs j b=some o->q b=some o2->False:=by
  intro j b o o2 h1 h2;have:=hsub j b o h1;rcases hd b with d | d
  ·rw [d]at h2;cases h2
  ·rw [d]at this;cases this
 have key: ∀l m b,l≠m-> ∀o o2,gs' l b=some o->gs' m b=some o2->False:=by
  intro l m b hlm o o2 h1 h2
  match l,m,h1,h2 with
  | 0,0,_,_=>exact hlm rfl
  | 0,j+1,h1,h2=>
    have h2':(if i=j then q else gs (j+2)) b=some o2:=h2
    split at h2'
    ·exact hqd 0 b o o2 h1 h2'
    ·rcases g6 0 (j+2) (by omega) b with d | d
     ·have h1':gs 0 b=some o:=h1;rw [d]at h1';cases h1'
     ·rw [d]at h2';cases h2'
  | j+1,0,h1,h2=>
    have h1':(if i=j then q else gs (j+2)) b=some o:=h1
    split at h1'
    ·exact hqd 0 b o2 o h2 h1'
    ·rcases g6 0 (j+2) (by omega) b with d | d
     ·have h2':gs 0 b=some o2:=h2;rw [d]at h2';cases h2'
     ·rw [d]at h1';cases h1'
  | j+1,j2+1,h1,h2=>
    have h1':(if i=j then q else gs (j+2)) b=some o:=h1
    have h2':(if i=j2 then q else gs (j2+2)) b=some o2:=h2
    split at h1'
    ·split at h2'
     ·omega
     ·exact hqd _ b o2 o h2' h1'
    ·split at h2'
     ·exact hqd _ b o o2 h1' h2'
     ·rcases g6 (j+2) (j2+2) (by omega) b with d | d
      ·rw [d]at h1';cases h1'
      ·rw [d]at h2';cases h2'
 have gdis: ∀l m,l≠m->(gs' l).disj (gs' m):=by
  intro l m hlm b;cases h1:gs' l b with
  | none=>exact .inl rfl
  | some o=>
    right;cases h2:gs' m b with
    | none=>rfl
    | some o2=>exact(key l m b hlm o o2 h1 h2).elim
 refine⟨aKe gs',⟨V',gs',g1,?_,?_,⟨?_,?_,gdis⟩,rfl⟩,?_⟩
 ·intro j hj;rw [htb]at hj;dsimp only at hj;omega
 ·rw [htb];rfl
 ·intro l e he;rw [htb]at he
  match l,he with
  | 0,he=>
    have he':some (aG.cells (rowC 1 (ws.set i (some t))))=some e:=he;simp only [sI']at he';subst he';refine⟨b,k,c1,cs,T,c2,c3,rs,tail,c4,?_⟩;refine aKD (by rw [gG,List.length_set,hlen]) ?_
    intro j a v ha hv;rw [iN,List.getElem?_set]at ha;split at ha
    ·rename_i hij;subst hij;simp only [Option.map_some,sI',MY]at ha;subst ha;have hr:=aI.at c5 (i:=i) (a:=.ptr 1 0) (v:=v) (by rw [List.getElem?_set,if_pos rfl,if_pos (by rw [gG];exact hi)]) hv
     obtain⟨b3,k3,f1,f2⟩:=hr;refine⟨b3,k3,?_,f2⟩;show V' (1+i)=_;rw [Nat.add_comm];show(if i=i then some x else _)=_
     rw [if_pos rfl,<-hx];exact f1
    ·rename_i hij;cases hwj:ws[j]? with
     | none=>rw [hwj]at ha;cases ha
     | some o=>
       rw [hwj]at ha;simp only [Option.map_some,sI']at ha;have hr:=aI.at c5 (i:=j) (a:=MY (2+j) o) (v:=v) (by rw [List.getElem?_set,if_neg hij,iN,hwj];rfl) hv
       cases o with
       | none=>subst ha;exact hr
       | some s=>
         subst ha;obtain⟨b3,k3,f1,f2⟩:=hr;refine⟨b3,k3,?_,f2⟩;show V' (1+j)=_;rw [Nat.add_comm];show(if i=j then some x else V (j+2))=_
         rw [if_neg hij,Nat.add_comm];exact f1
  | j+1,he=>
    have he':aL (rowE (ws.set i (some t))) (j+1)=some e:=he;rw [eS,List.getElem?_set]at he';show aG.interp (obN tb N) V' (j+1) e (if i=j then q else gs (j+2))
    split at he'
    ·rename_i hij;subst hij;simp only [Option.join_some,Option.map_some,sI']at he';subst he';rw [if_pos rfl];exact⟨x.1,x.2,by show(if i=i then some x else _)=_;rw [if_pos rfl],[],rfl,hq⟩
    ·rename_i hij;rw [if_neg hij];have hj2:aL (kP ws i) (j+2)=some e:=by rw [fN,if_neg hij];exact he'
     have hin:=g4 _ _ hj2;cases hwj:(ws[j]?).join with
     | none=>rw [hwj]at he';cases he'
     | some s=>
       rw [hwj]at he';simp only [Option.map_some,sI']at he';subst he';obtain⟨x3,f1,f2⟩:=oX hin;refine⟨x3.1,x3.2,?_,[],rfl,f2⟩;show(if i=j then some x else V (j+2))=_
       rw [if_neg hij];exact f1
 ·intro l he;rw [htb]at he
  match l,he with
  | 0,he=>cases he
  | j+1,he=>
    have he':aL (rowE (ws.set i (some t))) (j+1)=none:=he;rw [eS,List.getElem?_set]at he';show(if i=j then q else gs (j+2))=_
    split at he'
    ·rename_i hij;subst hij;cases he'
    ·rename_i hij;rw [if_neg hij];refine g5 _ ?_;show aL (kP ws i) (j+2)=none;rw [fN,if_neg hij];exact he'
 ·intro b' o hh;obtain⟨m,hm⟩:=aKm hh
  match m,hm with
  | 0,hm=>exact .inr (hsub 0 b' o hm)
  | j+1,hm=>
    have hm':(if i=j then q else gs (j+2)) b'=some o:=hm
    split at hm'
    ·exact .inl hm'
    ·exact .inr (hsub _ b' o hm')
theorem gP.nil(R:gP tb){rr:R.R}{i:Nat}{r:Nat×Nat}{p:PHeap}{N:Nat}(h:obN tb (N+1) (R.row rr) r [] p)(hw:(R.els rr)[i]? =some none):
 ∃cs T,p r.1=some (.cells cs T)/\cs.toList[i]? =some (.pointer none):=by
 obtain⟨V,gs,g1,g2,g3,⟨g4,g5,g6⟩,g7⟩:=h;rw [R.tbRow]at g4;dsimp only at g4;generalize R.els rr=ws at*;have hc:=g4 0 _ (show aL (rowE ws) 0=some (.cells (rowC 1 ws))from rfl)
 obtain⟨b,k,c1,cs,T,c2,c3,rs,tail,c4,c5⟩:=hc;have hbk:r=(b,k):=by have c1':V 0=some (b,k):=c1;rw [g1]at c1';simpa using c1'
 have hlen:=aI.length c5;have hil:i<rs.length:=by rw [hlen,gG];exact(List.getElem?_eq_some_iff.1 hw).1
 have hri:=aI.at c5 (i:=i) (a:=.raw (.pointer none)) (v:=rs[i]) (by rw [iN,hw];rfl) (gE' hil)
 have e2:rs[i]=.pointer none:=hri;refine⟨cs,T,?_,?_⟩
 ·rw [g7];refine aKl g6 (l:=0) ?_;rw [c2,hbk];simp [PHeap.one]
 ·rw [c4,List.getElem?_append_left hil,gE' hil,e2]
theorem gP.lent(R:gP tb){rr:R.R}{i:Nat}{r x:Nat×Nat}{p:PHeap}{N:Nat}(h:obN tb (N+1) (R.hole rr i) r [x] p)(hi:i<R.len rr):
 ∃cs T,p r.1=some (.cells cs T)/\cs.toList[i]? =some (.pointer (some ⟨x.1,0,none⟩)):=by
 obtain⟨V,gs,g1,g2,g3,⟨g4,g5,g6⟩,g7⟩:=h;rw [R.tbHole]at g2 g4;rw [R.len_eq]at hi;dsimp only at g2 g4;generalize R.els rr=ws at*;have hx:V 1=some x:=by have:=g2 0 (by omega);simpa using this
 have hc:=g4 0 _ (show aL (kP ws i) 0=some (.cells ((rowC 2 ws).set i (.ptr 1 0)))from rfl)
 obtain⟨b,k,c1,cs,T,c2,c3,rs,tail,c4,c5⟩:=hc;have hbk:r=(b,k):=by have c1':V 0=some (b,k):=c1;rw [g1]at c1';simpa using c1'
 have hlen:=aI.length c5;rw [List.length_set,gG]at hlen;have hil:i<rs.length:=by omega
 have hri:=aI.at c5 (i:=i) (a:=.ptr 1 0) (v:=rs[i]) (by rw [List.getElem?_set,if_pos rfl,if_pos (by rw [gG];exact hi)]) (gE' hil)
 obtain⟨b2,k2,e1,e2⟩:=hri
 have hx2:x=(b2,k2):=by
  have:V 1=some (b2,k2):=e1;rw [hx]at this;simpa using this
 refine⟨cs,T,?_,?_⟩
 ·rw [g7];refine aKl g6 (l:=0) ?_;rw [c2,hbk];simp [PHeap.one]
 ·rw [c4,List.getElem?_append_left hil,gE' hil,e2,hx2]
theorem Inv.lend(R:gP tb){V:Val}{h:aC A}{hR:PHeap}{w:World}{l i:Nat}{ws:R.R}{t:A}(hi:Inv (obI tb) V (toF h) hR w)(hf:bU V h.length)(hl:aL h l=some (.abs (R.row ws) []))(hw:(R.els ws)[i]? =some (some t)):
 ∃V' x b k cs T,V.le V'/\bU V' (h.length+1)/\Inv (obI tb) V' (toF (h.set l (some (.abs (R.hole ws i) [h.length]))++ [some (.abs t [])])) hR w/\V' h.length=some x/\V l=some (b,k)/\w.heap[b]? =some (.cells cs T)/\cs.toList[i]? =some (.pointer (some ⟨x.1,0,none⟩)):=by
 have hll:=cB hl;obtain⟨hs,h1,h2,h3,h4,h5,h6⟩:=hi;obtain⟨b,k,hV,bs,hlo,N,hob⟩:=h1 l _ hl;have hbs:bs=[]:=hlo;subst hbs;cases N with
 | zero=>exact hob.elim
 | succ N=>
 obtain⟨x,q,p',o1,o2,o3,o4,o5,cs,T,o6,o7⟩:=R.lend hob hw;have hn:V h.length=none:=hf _ (Nat.le_refl _);have hle:=aKh (x:=x) hn
 let hs':Nat->PHeap:=fun m=>if m=l then p' else if m=h.length then q else hs m
 have get1: ∀m,m<h.length->m≠l->aL (h.set l (some (.abs (R.hole ws i) [h.length]))++ [some (.abs t [])]) m=aL h m:=by
  intro m hm hml;rw [cE (by simpa using hm)]
  simp only [aL,gD'];rw [List.getElem?_set_ne (fun e=>hml e.symm)]
 have get2:aL (h.set l (some (.abs (R.hole ws i) [h.length]))++ [some (.abs t [])]) l=some (.abs (R.hole ws i) [h.length]):=by
  rw [cE (by simpa using hll)]
  simp only [aL,gD'];rw [List.getElem?_set_self hll];rfl
 have get3:aL (h.set l (some (.abs (R.hole ws i) [h.length]))++ [some (.abs t [])]) h.length=some (.abs t []):=by
  simp only [aL,gD'];rw [List.getElem?_append_right (by simp)];simp
 have get4: ∀m,h.length<m->aL (h.set l (some (.abs (R.hole ws i) [h.length]))++ [some (.abs t [])]) m=none:=fun m hm=>cA (by simp;omega)
 have hsl: ∀b o,p' b=some o->hs l b=some o:=o5;have hsq: ∀b o,q b=some o->hs l b=some o:=o4;have hsn: ∀m,h.length<=m->hs m=.emp :=fun m hm=>h2 m (cA hm);refine⟨V.add h.length x,x,b,k,cs,T,hle,?_,⟨hs',?_,?_,?_,?_,?_,h6⟩,aKa _ _ _,hV,?_,o7⟩
 ·intro m hm;rw [aKC _ _ (by omega)]
  exact hf m (by omega)
 ·intro m e he;have he':aL (h.set l (some (.abs (R.hole ws i) [h.length]))++ [some (.abs t [])]) m=some e:=he
  by_cases hml:m=l
  ·subst hml;rw [get2]at he';simp only [sI']at he';subst he';show aG.interp _ _ _ _ (if m=m then p' else _)
   rw [if_pos rfl];exact⟨b,k,hle _ _ hV,[x],⟨x,[],aKa _ _ _,rfl,rfl⟩,N+1,o2⟩
  ·by_cases hmn:m=h.length
   ·subst hmn;rw [get3]at he';simp only [sI']at he';subst he';show aG.interp _ _ _ _ (if h.length=l then p' else if h.length=h.length then q else _)
    rw [if_neg hml,if_pos rfl];exact⟨x.1,x.2,aKa _ _ _,[],rfl,N,o1⟩
   ·by_cases hlt:m<h.length
    ·rw [get1 m hlt hml]at he';show aG.interp _ _ _ _ (if m=l then p' else if m=h.length then q else hs m)
     rw [if_neg hml,if_neg hmn];exact aKk hle (h1 m e he')
    ·rw [get4 m (by omega)]at he';cases he'
 ·intro m he;have he':aL (h.set l (some (.abs (R.hole ws i) [h.length]))++ [some (.abs t [])]) m=none:=he;show(if m=l then p' else if m=h.length then q else hs m)=_
  by_cases hml:m=l
  ·subst hml;rw [get2]at he';cases he'
  ·by_cases hmn:m=h.length
   ·subst hmn;rw [get3]at he';cases he'
   ·rw [if_neg hml,if_neg hmn]
    by_cases hlt:m<h.length
    ·rw [get1 m hlt hml]at he';exact h2 m he'
    ·exact hsn m (by omega)
 ·intro m m' hmm b';show(if m=l then p' else if m=h.length then q else hs m) b'=none\/(if m'=l then p' else if m'=h.length then q else hs m') b'=none
  have part: ∀m,m≠l->m≠h.length->(p' b'=none/\q b'=none)\/hs m b'=none:=by
   intro m hml hmn;rcases h3 l m (fun e=>hml e.symm) b' with d | d
   ·left;constructor
    ·cases hp:p' b' with
     | none=>rfl
     | some o=>rw [hsl b' o hp]at d;cases d
    ·cases hp:q b' with
     | none=>rfl
     | some o=>rw [hsq b' o hp]at d;cases d
   ·exact .inr d
  by_cases a1:m=l
  ·rw [if_pos a1]
   by_cases a2:m'=l
   ·exact(hmm (a1.trans a2.symm)).elim
   ·rw [if_neg a2]
    by_cases a3:m'=h.length
    ·rw [if_pos a3];exact(o3 b').symm
    ·rw [if_neg a3];rcases part m' a2 a3 with d | d
     ·exact .inl d.1
     ·exact .inr d
  ·rw [if_neg a1]
   by_cases a0:m=h.length
   ·rw [if_pos a0]
    by_cases a2:m'=l
    ·rw [if_pos a2];exact o3 b'
    ·rw [if_neg a2]
     by_cases a3:m'=h.length
     ·exact(hmm (a0.trans a3.symm)).elim
     ·rw [if_neg a3];rcases part m' a2 a3 with d | d
      ·exact .inl d.2
      ·exact .inr d
   ·rw [if_neg a0]
    by_cases a2:m'=l
    ·rw [if_pos a2];rcases part m a1 a0 with d | d
     ·exact .inr d.1
     ·exact .inl d
    ·rw [if_neg a2]
     by_cases a3:m'=h.length
     ·rw [if_pos a3];rcases part m a1 a0 with d | d
      ·exact .inr d.2
      ·exact .inl d
     ·rw [if_neg a3];exact h3 m m' hmm b'
 ·intro m b';show(if m=l then p' else if m=h.length then q else hs m) b'=none\/hR b'=none
  split
  ·rcases h4 l b' with d | d
   ·cases hp:p' b' with
    | none=>exact .inl rfl
    | some o=>rw [hsl b' o hp]at d;cases d
   ·exact .inr d
  ·split
   ·rcases h4 l b' with d | d
    ·cases hp:q b' with
     | none=>exact .inl rfl
     | some o=>rw [hsq b' o hp]at d;cases d
    ·exact .inr d
   ·exact h4 m b'
 ·intro m b' o hh;have hh':(if m=l then p' else if m=h.length then q else hs m) b'=some o:=hh
  split at hh'
  ·exact h5 l b' o (hsl b' o hh')
  ·split at hh'
   ·exact h5 l b' o (hsq b' o hh')
   ·exact h5 m b' o hh'
 ·exact h5 l b _ o6
theorem Inv.back(R:gP tb){V:Val}{h:aC A}{hR:PHeap}{w:World}{l i k:Nat}{ws ws':R.R}{t:A}(hu:R.upd ws i t=some ws')(hi:Inv (obI tb) V (toF h) hR w)(hl:aL h l=some (.abs (R.hole ws i) [k]))(hk:aL h k=some (.abs t []))(hkl:k≠l)(hlt:i<R.len ws):
 Inv (obI tb) V (toF ((h.set l (some (.abs (R.row ws') []))).set k none)) hR w:=by
 have hll:=cB hl;have hkk:=cB hk;obtain⟨hs,h1,h2,h3,h4,h5,h6⟩:=hi;obtain⟨b,kk,hV,bs,hlo,N,hob⟩:=h1 l _ hl;obtain⟨x,r,hx,rfl,hr⟩:=hlo;have hr':r=[]:=hr;subst hr';obtain⟨b2,k2,hV2,bs2,hlo2,N2,hob2⟩:=h1 k _ hk;have hbs2:bs2=[]:=hlo2;subst hbs2
 have hxk:x=(b2,k2):=by
  have:V k=some x:=hx;rw [hV2]at this;simpa using this.symm
 subst hxk;cases N with
 | zero=>exact hob.elim
 | succ N=>
 have q1:=nI tb (Nat.le_max_right N N2) hob2;have q2:=nI tb (show N+1<=max N N2+1 by omega) hob
 obtain⟨p,p1,p2⟩:=R.back q2 q1 (h3 k l hkl) hlt hu
 let hs':Nat->PHeap:=fun m=>if m=l then p else if m=k then .emp else hs m
 have get1: ∀m,m≠l->m≠k->aL ((h.set l (some (.abs (R.row ws') []))).set k none) m=aL h m:=by
  intro m hml hmk;simp only [aL,gD'];rw [List.getElem?_set_ne (fun e=>hmk e.symm),List.getElem?_set_ne (fun e=>hml e.symm)]
 have get2:aL ((h.set l (some (.abs (R.row ws') []))).set k none) l=some (.abs (R.row ws') []):=by
  simp only [aL,gD'];rw [List.getElem?_set_ne hkl,List.getElem?_set_self hll];rfl
 have get3:aL ((h.set l (some (.abs (R.row ws') []))).set k none) k=none:=by
  simp only [aL,gD'];rw [List.getElem?_set_self (by simpa using hkk)];rfl
 refine⟨hs',?_,?_,?_,?_,?_,h6⟩
 ·intro m e he;have he':aL ((h.set l (some (.abs (R.row ws') []))).set k none) m=some e:=he;show aG.interp _ _ _ _ (if m=l then p else if m=k then .emp else hs m)
  by_cases hml:m=l
  ·subst hml;rw [get2]at he';simp only [sI']at he';subst he';rw [if_pos rfl];exact⟨b,kk,hV,[],rfl,_,p1⟩
  ·by_cases hmk:m=k
   ·subst hmk;rw [get3]at he';cases he'
   ·rw [if_neg hml,if_neg hmk];rw [get1 m hml hmk]at he';exact h1 m e he'
 ·intro m he;have he':aL ((h.set l (some (.abs (R.row ws') []))).set k none) m=none:=he;show(if m=l then p else if m=k then .emp else hs m)=_
  by_cases hml:m=l
  ·subst hml;rw [get2]at he';cases he'
  ·rw [if_neg hml]
   by_cases hmk:m=k
   ·rw [if_pos hmk]
   ·rw [if_neg hmk];rw [get1 m hml hmk]at he';exact h2 m he'
 ·intro m m' hmm b';show(if m=l then p else if m=k then .emp else hs m) b'=none\/(if m'=l then p else if m'=k then .emp else hs m') b'=none
  have part: ∀m,m≠l->m≠k->p b'=none\/hs m b'=none:=by
   intro m hml hmk;cases hp:p b' with
   | none=>exact .inl rfl
   | some o=>
     right;rcases p2 b' o hp with d | d
     ·rcases h3 k m (fun e=>hmk e.symm) b' with f | f
      ·rw [f]at d;cases d
      ·exact f
     ·rcases h3 l m (fun e=>hml e.symm) b' with f | f
      ·rw [f]at d;cases d
      ·exact f
  by_cases a1:m=l
  ·rw [if_pos a1]
   by_cases a2:m'=l
   ·exact(hmm (a1.trans a2.symm)).elim
   ·rw [if_neg a2]
    by_cases a3:m'=k
    ·rw [if_pos a3];exact .inr rfl
    ·rw [if_neg a3];exact part m' a2 a3
  ·rw [if_neg a1]
   by_cases a0:m=k
   ·rw [if_pos a0];exact .inl rfl
   ·rw [if_neg a0]
    by_cases a2:m'=l
    ·rw [if_pos a2];exact(part m a1 a0).symm
    ·rw [if_neg a2]
     by_cases a3:m'=k
     ·rw [if_pos a3];exact .inr rfl
     ·rw [if_neg a3];exact h3 m m' hmm b'
 ·intro m b';show(if m=l then p else if m=k then .emp else hs m) b'=none\/hR b'=none
  split
  ·cases hp:p b' with
   | none=>exact .inl rfl
   | some o=>
     right;rcases p2 b' o hp with d | d
     ·rcases h4 k b' with f | f
      ·rw [f]at d;cases d
      ·exact f
     ·rcases h4 l b' with f | f
      ·rw [f]at d;cases d
      ·exact f
  ·split
   ·exact .inl rfl
   ·exact h4 m b'
 ·intro m b' o hh;have hh':(if m=l then p else if m=k then .emp else hs m) b'=some o:=hh
  split at hh'
  ·rcases p2 b' o hh' with d | d
   ·exact h5 k b' o d
   ·exact h5 l b' o d
  ·split at hh'
   ·cases hh'
   ·exact h5 m b' o hh'
def gP.at(R:gP tb)(ws:R.R)(l off:Nat)(h:aC A)(K:AVal->aC A->Prop):Prop:=
 off<R.len ws/\cond (R.is ws off) (K (.ptr h.length 0) (h.set l (some (.abs (R.hole ws off) [h.length]))++ [some (.abs (R.get ws off) [])])) (K (.raw (.pointer none)) h)
def gP.load(R:gP tb)(P:Program)(ρ:Operand->AVal)(op:Op)(h:aC A)(K:AVal->aC A->Prop):Prop:=
 match op with
 | .load t a=>match ρ a,d6 P t with
   | .ptr l off,some false=>match aL h l with
     | some (.abs a [])=>match R.isRow a with
       | some ws=>R.at ws l off h K
       | none=>False
     | some (.abs a [k])=>match R.isHole a with
       | some (ws,i)=>match aL h k with
         | some (.abs s [])=>(match R.upd ws i s with
           | some ws'=>cond (Nat.beq k l) False (i<R.len ws/\R.at ws' l off ((h.set l (some (.abs (R.row ws') []))).set k none) K)
           | none=>False)
         | _=>(i<R.len ws/\off=i)/\K (.ptr k 0) h
       | none=>False
     | _=>False
   | _,_=>False
 | _=>False
theorem gP.at_ok(R:gP tb){ws:R.R}{l off:Nat}{h:aC A}{K:AVal->aC A->Prop}(hk:R.at ws l off h K){V:Val}{hR:PHeap}{w:World}{t:TypeId}(ht:d6 P t=some false)(hi:Inv (obI tb) V (toF h) hR w)(hf:bU V h.length)(hl:aL h l=some (.abs (R.row ws) [])){x:Value}(hx:Rep V (.ptr l off) x):
 ∃v v' V' h2,K v h2/\(Instr.loadAt t x).run P w=.ok v' w/\Rep V' v v'/\V.le V'/\bU V' h2.length/\h.length<=h2.length/\Inv (obI tb) V' (toF h2) hR w:=by
 obtain⟨hlt,hk⟩:=hk;obtain⟨b,k,hV,rfl⟩:=hx
 have seg: ∀ {cs:Array Value} {v:Value},cs.toList[off]? =some v->cs.toList.drop off=[v]++cs.toList.drop (off+1):=by
  intro cs v hv;obtain⟨hlt',hv'⟩:=List.getElem?_eq_some_iff.1 hv;rw [<-hv'];exact List.drop_eq_getElem_cons hlt'
 cases hs:R.is ws off with
 | true=>
   rw [hs]at hk;have hw:=R.is_true ws off hs hlt;obtain⟨V',y,b',k',cs,T,a1,a2,a3,a4,a5,a6,a7⟩:=hi.lend R hf hl hw;rw [hV]at a5;simp only [sI',pI']at a5;obtain⟨rfl,rfl⟩:=a5;obtain⟨v',g1,g2⟩:=fI (P:=P) (V:=V') (t:=t) (av:=[.ptr h.length 0]) (v:=.ptr h.length 0) a6 (seg a7) ⟨_,[],rfl,⟨y.1,y.2,a4,rfl⟩,rfl⟩ (by unfold eJ;rw [ht];rfl)
   exact⟨_,v',V',_,hk,g1,g2,a1,by simpa using a2,by simp,a3⟩
 | false=>
   rw [hs]at hk;have hw:=R.is_false ws off hs hlt;have hi0:=hi;obtain⟨hs',h1,h2,h3,h4,h5,h6⟩:=hi;obtain⟨b',k',hV',bs,hlo,N,hob⟩:=h1 l _ hl;have hbs:bs=[]:=hlo;subst hbs;rw [hV]at hV';simp only [sI',pI']at hV';obtain⟨rfl,rfl⟩:=hV';cases N with
   | zero=>exact hob.elim
   | succ N=>
   obtain⟨cs,T,o6,o7⟩:=R.nil hob hw;obtain⟨v',g1,g2⟩:=fI (P:=P) (V:=V) (t:=t) (av:=[.raw (.pointer none)]) (v:=.raw (.pointer none)) (h5 l b _ o6) (seg o7) ⟨_,[],rfl,rfl,rfl⟩ (by unfold eJ;rw [ht];rfl)
   exact⟨_,v',V,h,hk,g1,g2,V.le_refl,hf,Nat.le_refl _,hi0⟩
theorem gP.load_ok(R:gP tb)(ρ:Operand->AVal)(o:Oper)(h:aC A)(K:AVal->aC A->Prop)(hk:R.load P ρ o.op h K)(V:Val)(hR:PHeap)(w:World)(ρ':Operand->Value)(hi:Inv (obI tb) V (toF h) hR w)(hf: ∀l,h.length<=l->V l=none)(hρ: ∀x,Rep V (ρ x) (ρ' x)):
 ∃nx w' V' v v' h2,K v h2/\(execOp ρ' o).run P w=.ok nx w'/\(nx=.value v'\/nx=.skip /\v'=undef)/\Rep V' v v'/\V.le V'/\(∀l,h2.length<=l->V' l=none)/\h.length<=h2.length/\Inv (obI tb) V' (toF h2) hR w'/\bX w w':=by
 unfold gP.load at hk;split at hk
 case h_2=>exact hk.elim
 rename_i t a hop;split at hk
 case h_2=>exact hk.elim
 rename_i l off hρa hag;have hx:=hρ a;rw [hρa]at hx
 have fin: ∀ {v v' V' h2},K v h2->(Instr.loadAt t (ρ' a)).run P w=.ok v' w->Rep V' v v'->V.le V'->bU V' h2.length->h.length<=h2.length->Inv (obI tb) V' (toF h2) hR w->
  ∃nx w' V' v v' h2,K v h2/\(execOp ρ' o).run P w=.ok nx w'/\(nx=.value v'\/nx=.skip /\v'=undef)/\Rep V' v v'/\V.le V'/\(∀l,h2.length<=l->V' l=none)/\h.length<=h2.length/\Inv (obI tb) V' (toF h2) hR w'/\bX w w':=by
  intro v v' V' h2 a1 a2 a3 a4 a5 a6 a7;exact⟨_,w,V',v,v',h2,a1,by simp [execOp,hop,a2],.inl rfl,a3,a4,a5,a6,a7,aKp w⟩
 split at hk
 ·rename_i a0 hl;split at hk
  case h_2=>exact hk.elim
  rename_i ws hr;have:=R.isRow_eq _ _ hr;subst this;obtain⟨v,v',V',h2,a1,a2,a3,a4,a5,a6,a7⟩:=R.at_ok (P:=P) hk hag hi hf hl hx;exact fin a1 a2 a3 a4 a5 a6 a7
 ·rename_i a0 k hl;split at hk
  case h_2=>exact hk.elim
  rename_i ws i hr;have:=R.isHole_eq _ _ _ hr;subst this;split at hk
  ·rename_i s hkk;split at hk
   case h_2=>exact hk.elim
   rename_i ws' hu;cases hb:Nat.beq k l with
   | true=>rw [hb]at hk;exact hk.elim
   | false=>
     rw [hb]at hk;obtain⟨hil,hk⟩:=hk;have hkl:k≠l:=by intro e;rw [e,Nat.beq_refl]at hb;cases hb
     have hi2:=hi.back R hu hl hkk hkl hil;have hll:=cB hl
     obtain⟨v,v',V',h2,a1,a2,a3,a4,a5,a6,a7⟩:=R.at_ok (P:=P) hk hag hi2 (by intro m hm;exact hf m (by simpa using hm)) (by
      simp only [aL,gD'];rw [List.getElem?_set_ne hkl,List.getElem?_set_self hll];rfl) hx
     exact fin a1 a2 a3 a4 a5 (by simpa using a6) a7
  ·obtain⟨⟨hil,hoff⟩,hk⟩:=hk;subst hoff;obtain⟨b,kk,hV,hx⟩:=hx;obtain⟨hs',h1,h2,h3,h4,h5,h6⟩:=id hi;obtain⟨b',k',hV',bs,hlo,N,hob⟩:=h1 l _ hl;obtain⟨x,r,hxk,rfl,hr'⟩:=hlo;have hr'':r=[]:=hr';subst hr'';rw [hV]at hV';simp only [sI',pI']at hV';obtain⟨rfl,rfl⟩:=hV';cases N with
   | zero=>exact hob.elim
   | succ N=>
   obtain⟨cs,T,o6,o7⟩:=R.lent hob hil
   have seg:cs.toList.drop off=[.pointer (some ⟨x.1,0,none⟩)]++cs.toList.drop (off+1):=by
    obtain⟨hlt',hv'⟩:=List.getElem?_eq_some_iff.1 o7;rw [<-hv'];exact List.drop_eq_getElem_cons hlt'
   obtain⟨v',g1,g2⟩:=fI (P:=P) (V:=V) (t:=t) (av:=[.ptr k 0]) (v:=.ptr k 0) (h5 l b _ o6) seg ⟨_,[],rfl,⟨x.1,x.2,hxk,rfl⟩,rfl⟩ (by unfold eJ;rw [hag];rfl)
   exact fin hk (by rw [hx];exact g1) g2 V.le_refl hf (Nat.le_refl _) hi
 ·exact hk.elim
def xI(tb:A->Nat×aC A)(P:Program)(t:TypeId)(o:A)(off:Nat)(h:aC A)(K:AVal->aC A->Prop):Prop:=
 match tb o with
 | (_,some (.cells vs)::_)=>match d6 P t,bW P t with
   | some true,some n=>cK (Nat.ble (off+n) vs.length&&aKb [] ((vs.drop off).take n)) (K (.agg ((vs.drop off).take n)) h)
   | some false,_=>match vs[off]? with
     | some v=>cK (v.within []) (K v h)
     | none=>False
   | _,_=>False
 | _=>False
def gP.ops(R:gP tb)(P:Program)(ρ:Operand->AVal)(op:Op)(h:aC A)(K:AVal->aC A->Prop):Prop:=
 match op with
 | .load t a=>match ρ a with
   | .ptr l off=>match aL h l with
     | some (.abs o ps)=>match R.isRow o,R.isHole o with
       | none,none=>xI tb P t o off h K
       | _,_=>R.load P ρ op h K
     | _=>False
   | _=>False
 | _=>False
theorem gP.ops_ok(R:gP tb)(ρ:Operand->AVal)(o:Oper)(h:aC A)(K:AVal->aC A->Prop)(hk:R.ops P ρ o.op h K)(V:Val)(hR:PHeap)(w:World)(ρ':Operand->Value)(hi:Inv (obI tb) V (toF h) hR w)(hf: ∀l,h.length<=l->V l=none)(hρ: ∀x,Rep V (ρ x) (ρ' x)):
 ∃nx w' V' v v' h2,K v h2/\(execOp ρ' o).run P w=.ok nx w'/\(nx=.value v'\/nx=.skip /\v'=undef)/\Rep V' v v'/\V.le V'/\(∀l,h2.length<=l->V' l=none)/\h.length<=h2.length/\Inv (obI tb) V' (toF h2) hR w'/\bX w w':=by
 have hk0:=hk;unfold gP.ops at hk;split at hk
 case h_2=>exact hk.elim
 rename_i t a hop;split at hk
 case h_2=>exact hk.elim
 rename_i l off hρa;split at hk
 case h_2=>exact hk.elim
 rename_i ob ps hl;split at hk
 case h_2=>exact R.load_ok ρ o h K hk V hR w ρ' hi hf hρ
 unfold xI at hk;have hx:=hρ a;rw [hρa]at hx;obtain⟨b,kk,hV,hx⟩:=hx;split at hk
 case h_2=>exact hk.elim
 rename_i np vs rest htb;obtain⟨hs,h1,h2,h3,h4,h5,h6⟩:=id hi;obtain⟨b',k',hV',bs,hlo,N,hob⟩:=h1 l _ hl;rw [hV]at hV';simp only [sI',pI']at hV';obtain⟨rfl,rfl⟩:=hV';cases N with
 | zero=>exact hob.elim
 | succ N=>
 obtain⟨Vg,gs,g1,g2,g3,⟨g4,g5,g6⟩,g7⟩:=hob;rw [htb]at g4;have hc:=g4 0 (.cells vs) rfl;obtain⟨b2,k2,c1,cs,T,c2,c3,rs,tail,c4,c5⟩:=hc;have hbk:b2=b:=by have c1':Vg 0=some (b2,k2):=c1;rw [g1]at c1';simp at c1';exact c1'.1.symm
 subst hbk
 have hcell:w.heap[b2]? =some (.cells cs T):=by
  refine h5 l b2 _ ?_;rw [g7];refine aKl g6 (l:=0) ?_;rw [c2];simp [PHeap.one]
 have hlen:=aI.length c5
 have drop1: ∀ {av:List AVal},off<=vs.length->cs.toList.drop off=rs.drop off++tail:=by
  intro av hle;rw [c4,List.drop_append_of_le_length (by omega)]
 split at hk
 ·rename_i n e1 e2;obtain⟨hc1,hk⟩:=bM.1 hk;obtain⟨hc2,hc3⟩:=Bool.and_eq_true_iff.1 hc1;have hle:off+n<=vs.length:=Nat.le_of_ble_eq_true hc2;have hrep:aI V ((vs.drop off).take n) ((rs.drop off).take n):=aKq (pl:=[]) (fun i hi=>by cases hi) _ _ hc3 (aI.take (aI.drop c5 off) n)
  obtain⟨v',g8,g9⟩:=fI (P:=P) (V:=V) (t:=t) (av:=(vs.drop off).take n) (v:=.agg (((vs.drop off).take n).take n)) hcell (seg:=(rs.drop off).take n) (rest:=(rs.drop off).drop n++tail) (by rw [drop1 (av:=[]) (by omega),<-List.append_assoc,List.take_append_drop]) hrep (by
   unfold eJ;rw [e1,e2];simp only;rw [if_pos (by rw [List.length_take,List.length_drop];omega)])
  rw [List.take_take,Nat.min_self]at g9;exact⟨_,w,V,_,v',h,hk,by simp [execOp,hop,hx,g8],.inl rfl,g9,V.le_refl,hf,Nat.le_refl _,hi,aKp w⟩
 ·rename_i e2 e1;split at hk
  case h_2=>exact hk.elim
  rename_i v hv;obtain⟨hc1,hk⟩:=bM.1 hk;have hlt:off<vs.length:=(List.getElem?_eq_some_iff.1 hv).1;have hri:=aI.at c5 (i:=off) (a:=v) (v:=rs[off]'(by omega)) hv (gE' (by omega))
  have hrep:Rep V v (rs[off]'(by omega)):=aKB (pl:=[]) (fun i hi=>by cases hi) _ _ hc1 hri
  obtain⟨v',g8,g9⟩:=fI (P:=P) (V:=V) (t:=t) (av:=[v]) (v:=v) hcell (seg:=[rs[off]'(by omega)]) (rest:=rs.drop (off+1)++tail) (by
   rw [drop1 (av:=[]) (by omega),List.drop_eq_getElem_cons (by omega)];rfl) ⟨_,[],rfl,hrep,rfl⟩ (by unfold eJ;rw [e1];rfl)
  exact⟨_,w,V,_,v',h,hk,by simp [execOp,hop,hx,g8],.inl rfl,g9,V.le_refl,hf,Nat.le_refl _,hi,aKp w⟩
 ·exact hk.elim
end Go.Sh
namespace Go.Sh
open Go
variable [Con] {A:Type} {P:Program}
def aQ(I:Itp A)(h h2:aC A):Prop:= ∀V hR w,Inv I V (toF h) hR w->bU V h.length-> ∃V',V.le V'/\bU V' h2.length/\h.length<=h2.length/\Inv I V' (toF h2) hR w
theorem aQ.refl{I:Itp A}(h:aC A):aQ I h h:=fun V hR w h1 h2=>⟨V,V.le_refl,h2,Nat.le_refl _,h1⟩
theorem aQ.trans{I:Itp A}{h h2 h3:aC A}(a:aQ I h h2)(b:aQ I h2 h3):aQ I h h3:=by
 intro V hR w h1 hf;obtain⟨V1,a1,a2,a3,a4⟩:=a V hR w h1 hf;obtain⟨V2,b1,b2,b3,b4⟩:=b V1 hR w a4 a2;exact⟨V2,Val.le_trans a1 b1,b2,Nat.le_trans a3 b3,b4⟩
theorem aQ.unpack{tb:A->Nat×aC A}{h:aC A}(t:A)(l np:Nat)(g:aC A)(ps:List Nat)(hl:aL h l=some (.abs t ps))(ht:tb t=(np,g))(ho:obOk np g=true)(hnp:ps.length=np):aQ (obI tb) h (aP h l np g ps):=by
 intro V hR w h1 hf;obtain⟨V1,v1,v2,v3⟩:=h1.unpack tb hf hl ht ho hnp;exact⟨V1,v1,v2,by rw [f0];omega,v3⟩
theorem aKU{I:Itp A}{h h2:aC A}(e:h=h2):aQ I h h2:=by subst e;exact aQ.refl h
theorem aJ6{I:Itp A}{f:FuncId}{args:List AVal}{h h2:aC A}{K:AVal->aC A->Prop}(ho:aQ I h h2)(h0:aA I P f args h2 K):aA I P f args h K:=by
 intro V hR w args' hi hf hr;obtain⟨V1,v1,v2,v3,v4⟩:=ho V hR w hi hf;refine(h0 V1 hR w args' v4 v2 (aI.mono v1 _ _ hr)).mono ?_;rintro e w' ⟨v,v',V',h',k1,k2,k3,k4,k5,k6,k7,k8⟩;exact⟨v,v',V',h',k1,k2,k3,Val.le_trans v1 k4,k5,Nat.le_trans v3 k6,k7,k8⟩
theorem aJ2{X:Type}{I:Itp A}{f:FuncId}{args:List AVal}{h h2:aC A}{K:AVal->aC A->Prop}{parse:AVal->aC A->Option (Prop×X)}{fin:X->Out A}{root:Nat}{pos:List Nat}{cs:List (Place×f5)}(hr:bO I h.length parse fin)(ho:aQ I h h2)
 (h0:aA I P f args h2 (bS h.length root pos cs parse fun x=>(fin x).run K)):aA I P f args h K:=by
 intro V hR w args' hi hf hrp;obtain⟨V1,v1,v2,v3,v4⟩:=ho V hR w hi hf;refine(aKY h.length v3 hr h0 V1 hR w args' v4 v2 (aI.mono v1 _ _ hrp)).mono ?_;rintro e w' ⟨v,v',V',h',k1,k2,k3,k4,k5,k6,k7,k8⟩;refine⟨v,v',V',h',k1,k2,k3,?_,k5,k6,k7,k8⟩;intro l y hy
 have hlt:l<h.length:=by
  cases Nat.lt_or_ge l h.length with
  | inl q=>exact q
  | inr q=>rw [hf l q]at hy;cases hy
 exact k4 l y hlt (v1 l y hy)
def aH.or(F G:aH A):aH A:=fun args h=>match F args h with
 | some o=>some o
 | none=>G args h
theorem aKs{I:Itp A}{f:FuncId}{F G:aH A}(hF:aH.ok I P f F)(hG:aH.ok I P f G):aH.ok I P f (F.or G):=by
 intro args h o ho K hK;unfold aH.or at ho;split at ho
 ·rename_i o' h1;simp only [sI']at ho;subst ho;exact hF args h _ h1 K hK
 ·exact hG args h o ho K hK
def aE1(pos:List Nat):Nat->List AVal->List AVal
 | _,[]=>[]
 | i,v::vs=>cond (pos.elem i) .O v::aE1 pos (i+1) vs
theorem x0(pos:List Nat): ∀(i:Nat) (vs:List AVal),nV vs (aE1 pos i vs)
 | _,[]=>trivial
 | i,v::vs=>by
   refine⟨?_,x0 pos (i+1) vs⟩;cases pos.elem i with
   | true=>exact .inr rfl
   | false=>exact .inl rfl
def aAd(g:aC A)(root:Nat)(pos:List Nat):aC A:=match aL g root with
 | some (.cells vs)=>g.set root (some (.cells (aE1 pos 0 vs)))
 | _=>g
theorem d5(g:aC A)(root:Nat)(pos:List Nat):lQ g (aAd g root pos):=by
 unfold aAd;split
 ·rename_i vs h;refine jR g root _ ?_;rw [h];exact x0 pos 0 vs
 ·exact mG g
theorem qT{I:Itp A}{n:Nat}{K:AVal->aC A->Prop}{d:Bool}{a b g:aC A}(hK:(Out.ite d (.ret (.bool true) a) (.ret (.bool false) b)).run K)(h1:K (.bool true) a->cO I n K (.bool true) g)(h2:K (.bool false) b->cO I n K (.bool false) g):cO I n K (.bool d) g:=by
 cases d with
 | true=>exact h1 hK
 | false=>exact h2 hK
end Go.Sh
namespace Go.Sh
open Go
variable [Con]
theorem PHeap.join_some{h g:PHeap}{b:Nat}{o:Obj}(e:h.join g b=some o):h b=some o\/(h b=none/\g b=some o):=by
 unfold PHeap.join at e;cases hh:h b with
 | some o'=>rw [hh]at e;exact .inl (by simpa using e)
 | none=>rw [hh]at e;exact .inr ⟨rfl,e⟩
section
variable {P:Program}
end
end Go.Sh
namespace Go.Sh
open Go
variable [Con] {A:Type}
section
variable {P:Program} {E:Env A P}
end
section
variable {P:Program} {E:Env A P}
end
end Go.Sh
namespace Go.Sh
open Go Go.RowKit
variable [Con] {A:Type}
section
variable {P:Program} {E:Env A P}
end
end Go.Sh
namespace Go.Sh
open Go Go.RowKit
variable [Con] {A:Type}
section
variable {P:Program} {E:Env A P}
end
end Go.Sh
namespace Go.Sh
open Go
variable {A:Type}
mutual
def AVal.noV:AVal->Bool
 | .func _ f c=>aKv f&&aKv c
 | .iface _ a=>AVal.noV a
 | .agg av=>aKv av
 | .tup av=>aKv av
 | .iview _ _=>false
 | .view _ _ _=>false
 | .cptr _=>false
 | .bool _=>true
 | .int _ _=>true
 | .str _=>true
 | .ptr _ _=>true
 | .slice _ _ _ _=>true
 | .map _=>true
 | .raw _=>true
 | .any =>true
 | .O =>true
 | .tslice _ _ _ _=>true
 | .tptr _ _ _ _=>true
 | .empty =>true
def aKv:List AVal->Bool
 | []=>true
 | a::av=>AVal.noV a&&aKv av
end
def Con.sub(c c':Con):Prop:= ∀b o,c.con b=some o->c'.con b=some o
mutual
theorem Rep.con{c c':Con}(h:Con.sub c c'){V:Val} : ∀(a:AVal) (v:Value),@Rep c V a v-> @Rep c' V a v
 | .bool _,_,r=>r
 | .int _ _,_,r=>r
 | .str _,_,r=>r
 | .ptr _ _,_,r=>r
 | .slice _ _ _ _,_,r=>r
 | .map _,_,r=>r
 | .func _ f g,_,⟨fs,cs,hv,r,s⟩=>⟨fs,cs,hv,aI.con h f _ r,aI.con h g _ s⟩
 | .iface _ a,_,⟨x,hv,r⟩=>⟨x,hv,Rep.con h a _ r⟩
 | .agg av,_,⟨cs,hv,r⟩=>⟨cs,hv,aI.con h av _ r⟩
 | .tup av,_,⟨cs,hv,r⟩=>⟨cs,hv,aI.con h av _ r⟩
 | .raw _,_,r=>r
 | .any,_,r=>r
 | .O,_,r=>r
 | .iview _ _,_,⟨base,cap,hv,hc,r⟩=>⟨base,cap,hv,hc,r.imp (fun⟨b,off,cs,T,fz,e,f,g⟩=>⟨b,off,cs,T,fz,e,h _ _ f,g⟩) id⟩
 | .view _ _ row,_,⟨base,cap,hv,hc,r⟩=>⟨base,cap,hv,hc,r.imp (fun⟨b,off,cs,T,fz,e,f,g⟩=>⟨b,off,cs,T,fz,e,h _ _ f,fun i hi=>⟨(g i hi).1,aI.con h (row i) _ (g i hi).2⟩⟩) id⟩
 | .tslice _ _ _ _,_,r=>r
 | .tptr _ _ _ _,_,r=>r
 | .empty,_,r=>r
 | .cptr av,_,⟨b,off,cs,T,fz,e,f,g⟩=>⟨b,off,cs,T,fz,e,h _ _ f,aI.con h av _ g⟩
theorem aI.con{c c':Con}(h:Con.sub c c'){V:Val} : ∀(a:List AVal) (v:List Value),@aI c V a v-> @aI c' V a v
 | [],_,r=>r
 | a::av,_,⟨v,vs,e,r,s⟩=>⟨v,vs,e,Rep.con h a v r,aI.con h av vs s⟩
end
mutual
theorem aKS{c c':Con}{V:Val} : ∀(a:AVal) (v:Value),a.noV=true-> @Rep c V a v-> @Rep c' V a v
 | .bool _,_,_,r=>r
 | .int _ _,_,_,r=>r
 | .str _,_,_,r=>r
 | .ptr _ _,_,_,r=>r
 | .slice _ _ _ _,_,_,r=>r
 | .map _,_,_,r=>r
 | .func _ f g,_,n,⟨fs,cs,hv,r,s⟩=>⟨fs,cs,hv,aKA f _ (Bool.and_eq_true_iff.1 n).1 r,aKA g _ (Bool.and_eq_true_iff.1 n).2 s⟩
 | .iface _ a,_,n,⟨x,hv,r⟩=>⟨x,hv,aKS a _ n r⟩
 | .agg av,_,n,⟨cs,hv,r⟩=>⟨cs,hv,aKA av _ n r⟩
 | .tup av,_,n,⟨cs,hv,r⟩=>⟨cs,hv,aKA av _ n r⟩
 | .raw _,_,_,r=>r
 | .any,_,_,r=>r
 | .O,_,_,r=>r
 | .iview _ _,_,n,_=>Bool.noConfusion (show false=true from n)
 | .view _ _ _,_,n,_=>Bool.noConfusion (show false=true from n)
 | .tslice _ _ _ _,_,_,r=>r
 | .tptr _ _ _ _,_,_,r=>r
 | .empty,_,_,r=>r
 | .cptr _,_,n,_=>Bool.noConfusion (show false=true from n)
theorem aKA{c c':Con}{V:Val} : ∀(a:List AVal) (v:List Value),aKv a=true-> @aI c V a v-> @aI c' V a v
 | [],_,_,r=>r
 | a::av,_,n,⟨v,vs,e,r,s⟩=>⟨v,vs,e,aKS a v (Bool.and_eq_true_iff.1 n).1 r,aKA av vs (Bool.and_eq_true_iff.1 n).2 s⟩
end
def aG.noV:aG A->Bool
 | .cells vs=>aKv vs
 | _=>true
def cG(h:aC A):Bool:=h.all fun e=>match e with
 | some e=>e.noV
 | none=>true
theorem sV{h:aC A}(hn:cG h=true){l:Nat}{e:aG A}(he:aL h l=some e):e.noV=true:=by
 letI:Con:=⟨fun _=>none⟩
 have hl:=cB he;unfold cG at hn;rw [List.all_eq_true]at hn
 have hm:(some e:Option (aG A))∈h:=by
  have:h[l]'hl=some e:=by
   have:=he;unfold aL at this;rw [gD',gE' hl]at this;exact this
  rw [<-this];exact List.getElem_mem hl
 exact hn _ hm
theorem aKO{c c':Con}(h:Con.sub c c'){I:Itp A}{V:Val}{l:Nat}{e:aG A}{p:PHeap}(hi: @aG.interp c A I V l e p): @aG.interp c' A I V l e p:=by
 cases e with
 | cells vs=>
   obtain⟨b,k,hl,cs,T,e1,e2,rs,tail,e3,r⟩:=hi;exact⟨b,k,hl,cs,T,e1,e2,rs,tail,e3,aI.con h _ _ r⟩
 | ints c xs=>exact hi
 | abs t ps=>exact hi
 | tab ks rows=>exact hi
 | imap kk vc m=>exact hi
 | iter lm kk vc m left cur=>exact hi
theorem aKL{c c':Con}{I:Itp A}{V:Val}{l:Nat}{e:aG A}{p:PHeap}(hn:e.noV=true)(hi: @aG.interp c A I V l e p): @aG.interp c' A I V l e p:=by
 cases e with
 | cells vs=>
   obtain⟨b,k,hl,cs,T,e1,e2,rs,tail,e3,r⟩:=hi;exact⟨b,k,hl,cs,T,e1,e2,rs,tail,e3,aKA _ _ hn r⟩
 | ints c xs=>exact hi
 | abs t ps=>exact hi
 | tab ks rows=>exact hi
 | imap kk vc m=>exact hi
 | iter lm kk vc m left cur=>exact hi
section
variable {tb:A->Nat×aC A}
theorem CX(c c':Con)(htb: ∀t,cG (tb t).2=true)(n:Nat): ∀(t:A) (r:Nat×Nat) (bs:List (Nat×Nat)) (p:PHeap),@obN c A tb n t r bs p-> @obN c' A tb n t r bs p:=by
 induction n with
 | zero=>intro t r bs p h;exact h
 | succ n ih=>
   intro t r bs p h;obtain⟨V,hs,h1,h2,h3,⟨q1,q2,q3⟩,h5⟩:=h;refine⟨V,hs,h1,h2,h3,@rF.mk c' A (@obN c' A tb n) V (toF (tb t).2) hs (fun l e he=>?_) q2 q3,h5⟩;have h6:=q1 l e he;have h7: @aG.interp c' A (@obN c A tb n) V l e (hs l):=aKL (sV (htb t) he) h6;exact @aKo c' A _ _ ih V l e (hs l) h7
theorem RL(c c':Con)(htb: ∀t,cG (tb t).2=true): @obI c A tb= @obI c' A tb:=by
 funext t r bs p;exact propext ⟨fun⟨n,h⟩=>⟨n,CX c c' htb n t r bs p h⟩,fun⟨n,h⟩=>⟨n,CX c' c htb n t r bs p h⟩⟩
end
theorem Inv.split2 [Con]{I:Itp A}{V:Val}{h:bH A}{hR:PHeap}{w:World}(hi:Inv I V h hR w)(S:Nat->Bool):
 ∃hR',Inv I V (fun l=>if S l then h l else none) hR' w/\(∀b o,hR b=some o->hR' b=some o)/\(∀l e,S l=false->h l=some e-> ∃p,e.interp I V l p/\ ∀b o,p b=some o->hR' b=some o)/\
  ∀V' g w',V.le V'->Inv I V' g hR' w'->(∀l,S l=false->h l≠none->g l=none)->
   Inv I V' (fun l=>if S l=false/\h l≠none then h l else g l) hR w':=by
 obtain⟨hs,h1,h2,h3,h4,h5,h6⟩:=hi
 let rs:Nat->PHeap:=fun l=>if S l then .emp else hs l
 have rd: ∀l m,l≠m->(rs l).disj (rs m):=by
  intro l m hlm;show PHeap.disj (if S l then .emp else hs l) (if S m then .emp else hs m)
  split
  ·exact(aJ3 _).symm
  ·split
   ·exact aJ3 _
   ·exact h3 l m hlm
 have rhR: ∀b,aKe rs b=none\/hR b=none:=by
  intro b;cases e:aKe rs b with
  | none=>exact .inl rfl
  | some o=>
    obtain⟨l,hl⟩:=aKm e
    have:hs l b≠none:=by
     have hl':(if S l then PHeap.emp else hs l) b=some o:=hl
     split at hl'
     ·cases hl'
     ·rw [hl'];simp
    rcases h4 l b with d | d
    ·exact(this d).elim
    ·exact .inr d
 refine⟨PHeap.join hR (aKe rs),⟨fun l=>if S l then hs l else .emp,?_,?_,?_,?_,?_,?_⟩,fun b o e=>aKy e,?_,?_⟩
 ·intro l e he;cases hS:S l with
  | true=>simp [hS]at he⊢;exact h1 l e he
  | false=>simp [hS]at he
 ·intro l hl;cases hS:S l with
  | true=>simp [hS]at hl⊢;exact h2 l hl
  | false=>simp [hS]
 ·intro l m hlm;show PHeap.disj (if S l then hs l else .emp) (if S m then hs m else .emp)
  split
  ·split
   ·exact h3 l m hlm
   ·exact aJ3 _
  ·exact(aJ3 _).symm
 ·intro l b;show(if S l then hs l else PHeap.emp) b=none\/_
  cases hS:S l with
  | false=>exact .inl rfl
  | true=>
    simp only [if_true];cases e:hs l b with
    | none=>exact .inl rfl
    | some o=>
      refine .inr (PHeap.join_none.2 ⟨?_,aKE fun m=>?_⟩)
      ·rcases h4 l b with d | d
       ·rw [e]at d;cases d
       ·exact d
      ·show(if S m then PHeap.emp else hs m) b=none
       by_cases hm:S m=true
       ·rw [if_pos hm];rfl
       ·rw [if_neg hm];have:l≠m:=fun e'=>hm (e'▸hS);rcases h3 l m this b with d | d
        ·rw [e]at d;cases d
        ·exact d
 ·intro l;show(if S l then hs l else PHeap.emp).sub w
  split
  ·exact h5 l
  ·exact aKt _
 ·refine⟨?_,fun b o e=>aKy (h6.2 b o e)⟩;intro b o e;unfold PHeap.join at e;cases er:hR b with
  | some p=>rw [er]at e;cases e;exact h6.1 b _ er
  | none=>
    rw [er]at e;obtain⟨l,hl⟩:=aKm e;have hl':(if S l then PHeap.emp else hs l) b=some o:=hl
    split at hl'
    ·cases hl'
    ·exact h5 l b o hl'
 ·intro l e hS he;refine⟨hs l,h1 l e he,fun b o eb=>?_⟩
  have e1:rs l b=some o:=by
   show(if S l then PHeap.emp else hs l) b=some o
   rw [if_neg (by rw [hS];simp)];exact eb
  have e2:=aKl rd e1;rcases rhR b with d | d
  ·rw [e2]at d;cases d
  ·rw [aKG d];exact e2
 ·intro V' g w' hV hg hz;obtain⟨gs,g1,g2,g3,g4,g5,g6⟩:=hg
  have rsub: ∀l,(rs l).sub w':=by
   intro l b o e;have:=aKl rd e;refine g6.1 b o ?_;rcases rhR b with d | d
   ·rw [this]at d;cases d
   ·rw [aKG d];exact this
  have hRsub:hR.sub w':=fun b o e=>g6.1 b o (aKy e)
  have grs: ∀l m,(gs l).disj (rs m):=by
   intro l m b;rcases g4 l b with d | d
   ·exact .inl d
   ·cases e:rs m b with
    | none=>exact .inr rfl
    | some o=>rw [(PHeap.join_none.1 d).2.symm,aKl rd e];exact .inr rfl
  have ghR: ∀l,(gs l).disj hR:=fun l b=>(g4 l b).imp id (fun d=>(PHeap.join_none.1 d).1)
  have rshR: ∀l,(rs l).disj hR:=by
   intro l;show PHeap.disj (if S l then .emp else hs l) hR
   split
   ·exact(aJ3 _).symm
   ·exact h4 l
  classical
  refine⟨fun l=>if S l=false/\h l≠none then rs l else gs l,?_,?_,?_,?_,?_,⟨hRsub,h6.2⟩⟩
  ·intro l e he
   by_cases hc:S l=false/\h l≠none
   ·simp only [if_pos hc]at he⊢;show e.interp I V' l (if S l then .emp else hs l)
    rw [if_neg (by simp [hc.1])]
    exact aKk hV (h1 l e he)
   ·simp only [if_neg hc]at he⊢;exact g1 l e he
  ·intro l hl
   by_cases hc:S l=false/\h l≠none
   ·simp only [if_pos hc]at hl;exact(hc.2 hl).elim
   ·simp only [if_neg hc]at hl⊢;exact g2 l hl
  ·intro l m hlm
   by_cases hc:S l=false/\h l≠none
   ·simp only [if_pos hc]
    by_cases hd:S m=false/\h m≠none
    ·simp only [if_pos hd];exact rd l m hlm
    ·simp only [if_neg hd];exact(grs m l).symm
   ·simp only [if_neg hc]
    by_cases hd:S m=false/\h m≠none
    ·simp only [if_pos hd];exact grs l m
    ·simp only [if_neg hd];exact g3 l m hlm
  ·intro l
   by_cases hc:S l=false/\h l≠none
   ·simp only [if_pos hc];exact rshR l
   ·simp only [if_neg hc];exact ghR l
  ·intro l
   by_cases hc:S l=false/\h l≠none
   ·simp only [if_pos hc];exact rsub l
   ·simp only [if_neg hc];exact g5 l
def thaw(S:Nat->Bool):Nat->aC A->aC A
 | _,[]=>[]
 | i,e::h=>(cond (S i) e none)::thaw S (i+1) h
def back(S:Nat->Bool):Nat->aC A->aC A->aC A
 | _,[],g=>g
 | i,e::h,[]=>e::h
 | i,e::h,x::g=>(cond (S i) x e)::back S (i+1) h g
theorem v7(S:Nat->Bool): ∀(h:aC A) (i:Nat),(thaw S i h).length =h.length
 | [],_=>rfl
 | e::h,i=>congrArg (· +1) (v7 S h (i+1))
theorem DQ(S:Nat->Bool): ∀(h:aC A) (i l:Nat),toF (thaw S i h) l=if S (i+l)then toF h l else none
 | [],i,l=>by
   show none=if _ then none else none
   split<;>rfl
 | e::h,i,0=>by
   show(cond (S i) e none)=if S (i+0)then e else none
   rw [Nat.add_zero];cases S i<;>rfl
 | e::h,i,l+1=>by
   show toF (thaw S (i+1) h) l=if S (i+(l+1))then toF h l else none
   rw [DQ S h (i+1) l,show i+1+l=i+(l+1)from by omega]
theorem AS(S:Nat->Bool): ∀(h g:aC A) (i:Nat),h.length<=g.length->(back S i h g).length =g.length
 | [],g,_,_=>rfl
 | e::h,[],_,hl=>by simp at hl
 | e::h,x::g,i,hl=>congrArg (· +1) (AS S h g (i+1) (by simpa using hl))
theorem DO(S:Nat->Bool): ∀(h g:aC A) (i l:Nat),h.length<=g.length->(∀m,S (i+m)=false->toF h m=none->m<h.length->toF g m=none)->
 toF (back S i h g) l=if S (i+l)=false/\toF h l≠none then toF h l else toF g l
 | [],g,i,l,_,_=>by
   show toF g l=_;split
   ·rename_i hq;exact(hq.2 rfl).elim
   ·rfl
 | e::h,[],_,_,hl,_=>by simp at hl
 | e::h,x::g,i,0,hl,hz=>by
   show(cond (S i) x e)=if S (i+0)=false/\e≠none then e else x
   rw [Nat.add_zero];cases hS:S i with
   | true=>simp
   | false=>
     cases e with
     | some e=>simp
     | none=>
       have:=hz 0 (by rw [Nat.add_zero];exact hS) rfl (by simp)
       have this:x=none:=this;simp [this]
 | e::h,x::g,i,l+1,hl,hz=>by
   show toF (back S (i+1) h g) l=if S (i+(l+1))=false/\toF h l≠none then toF h l else toF g l
   rw [DO S h g (i+1) l (by simpa using hl) (fun m h1 h2 h3=>hz (m+1) (by rw [<-h1];congr 1;omega) h2 (by simpa using h3)),show i+1+l=i+(l+1)from by omega]
structure aHV (S:Nat->Bool) (h:aC A) (K:AVal->aC A->Prop) (v:AVal) (g:aC A):Prop where
 hv:v.noV=true
 hg:cG g=true
 hz: ∀l,l<h.length->S l=false->aL g l=none
 hk:K v (back S 0 h g)
theorem aKW [c:Con]{tb:A->Nat×aC A}(htb: ∀t,cG (tb t).2=true){P:Program}{f:FuncId}{args args2:List AVal}{h:aC A}{K:AVal->aC A->Prop}(S:Nat->Bool)
 (ha: ∀(c':Con),Con.sub c c'-> ∀(V:Val) (l:List Value),(∀m e,S m=false->aL h m=some e-> ∃p,@aG.interp c' A (@obI c' A tb) V m e p/\ ∀b o,p b=some o->c'.con b=some o)-> @aI c V args l-> @aI c' V args2 l)
 (h0: ∀c':Con,@aA c' A (@obI c' A tb) P f args2 (thaw S 0 h) (aHV S h K)):aA (obI tb) P f args h K:=by
 intro V hR w args' hi hf hr;obtain⟨hR',i1,i2,i3,i4⟩:=hi.split2 S
 let c':Con:=⟨hR'⟩
 have hcc:Con.sub c c':=by
  obtain⟨_,_,_,_,_,_,h6⟩:=hi;exact fun b o e=>i2 b o (h6.2 b o e)
 have hI: @obI c' A tb= @obI c A tb:=RL c' c htb
 have hT:(fun l=>if S l then toF h l else none)=toF (thaw S 0 h):=by
  funext l;rw [DQ,Nat.zero_add]
 rw [hT]at i1
 have j1: @Inv c' A (@obI c' A tb) V (toF (thaw S 0 h)) hR' w:=by
  obtain⟨hs,k1,k2,k3,k4,k5,k6⟩:=i1;refine⟨hs,fun l e he=>?_,k2,k3,k4,k5,⟨k6.1,fun b o e=>e⟩⟩;rw [hI];exact aKO hcc (k1 l e he)
 have j2: @aI c' V args2 args'.toList:=by
  refine ha c' hcc V _ ?_ hr;intro m e hS he;obtain⟨p,p1,p2⟩:=i3 m e hS he;refine⟨p,?_,p2⟩;rw [hI];exact aKO hcc p1
 refine(h0 c' V hR' w args' j1 (by rw [v7];exact hf) j2).mono ?_
 rintro e w' ⟨v,v',V',g,⟨hv,hg,hz,hk⟩,rfl,q3,q4,q5,q6,q7,q8⟩;rw [v7]at q6;have hbl:=AS S h g 0 q6;refine⟨v,v',V',_,hk,rfl,aKS v v' hv q3,q4,by rw [hbl];exact q5,by rw [hbl];exact q6,?_,q8⟩
 have j3: @Inv c A (@obI c A tb) V' (toF g) hR' w':=by
  obtain⟨hs,k1,k2,k3,k4,k5,k6⟩:=q7;refine⟨hs,fun l e he=>?_,k2,k3,k4,k5,⟨k6.1,hcc⟩⟩;rw [<-hI];exact aKL (sV hg he) (k1 l e he)
 have j4:=i4 V' (toF g) w' q4 j3 (fun l hS hn=>hz l (by
  cases hq:toF h l with
  | none=>exact(hn hq).elim
  | some e=>exact cB hq) hS)
 have:(fun l=>if S l=false/\toF h l≠none then toF h l else toF g l)=toF (back S 0 h g):=by
  funext l;rw [DO S h g 0 l q6 (fun m h1 _ h3=>hz m h3 (by rw [<-h1,Nat.zero_add])),Nat.zero_add]
 rw [this]at j4;exact j4
theorem rB{c:Con}{I:Itp A}{V:Val}{l n k:Nat}{vs:List AVal}{p:PHeap}{v:Value}{row:Nat->List AVal}
 (hv: @Rep c V (.slice l 0 n k) v) (he: @aG.interp c A I V l (.cells vs) p) (hp: ∀b o,p b=some o->c.con b=some o)
 (hrow: ∀i,i<n->(row i).length =k/\ ∀rs,@aI c V ((vs.drop (i*k)).take k) rs-> @aI c (fun _=>none) (row i) rs) (hlen:n*k<=vs.length): @Rep c V (.view n k row) v:=by
 obtain⟨base,cap,e1,e2,e3⟩:=hv;refine⟨base,cap,e1,e2,?_⟩;rcases e3 with⟨b,kk,g1,g2,g3⟩ | ⟨g1,g2⟩
 ·left;obtain⟨b',k',a1,cs,T,a2,a3,rs,tail,a4,a5⟩:=he;rw [g1]at a1;cases a1;refine⟨b,0,cs,T,_,g2,hp b (.cells cs T) (by rw [a2];exact if_pos rfl),fun i hi=>⟨(hrow i hi).1,?_⟩⟩
  refine(hrow i hi).2 _ ?_;rw [Nat.zero_add,a4];have hrl:=aI.length a5
  have hle:i*k+k<=vs.length:=by
   have:(i+1)*k<=n*k:=Nat.mul_le_mul_right k hi;rw [Nat.add_mul,Nat.one_mul]at this;omega
  rw [List.drop_append_of_le_length (by omega),List.take_append_of_le_length (by rw [List.length_drop];omega)]
  exact aI.take (aI.drop a5 (i*k)) k
 ·right;omega
end Go.Sh
namespace Go.Sh
open Go
variable [Con] {A:Type} {tb:A->Nat×aC A} {P:Program}
def JA(P:Program)(t:TypeId)(off:Nat)(vs:List AVal):Option AVal:=match d6 P t,bW P t with
 | some true,some n=>cond (Nat.ble (off+n) vs.length&&aKb [] ((vs.drop off).take n)) (some (.agg ((vs.drop off).take n))) none
 | some false,_=>match vs[off]? with
   | some v=>cond (v.within []) (some v) none
   | none=>none
 | _,_=>none
def vI(tb:A->Nat×aC A)(P:Program)(t:TypeId)(l off:Nat)(h:aC A):Option AVal:=
 match aL h l with
 | some (.abs o _)=>match tb o with
   | (_,some (.cells vs)::_)=>JA P t off vs
   | _=>none
 | _=>none
theorem L6(t:TypeId)(l off:Nat)(h:aC A)(v:AVal)(hk:vI tb P t l off h=some v)(V:Val)(hR:PHeap)(w:World)(b k:Nat)(hi:Inv (obI tb) V (toF h) hR w)(hV:V l=some (b,k)): ∃v',(Instr.loadAt t (.pointer (some ⟨b,off,none⟩))).run P w=.ok v' w/\Rep V v v':=by
 unfold vI at hk;split at hk
 case h_2=>cases hk
 rename_i ob ps hl;split at hk
 case h_2=>cases hk
 rename_i np vs rest htb;obtain⟨hs,h1,h2,h3,h4,h5,h6⟩:=id hi;obtain⟨b',k',hV',bs,hlo,N,hob⟩:=h1 l _ hl;rw [hV]at hV';simp only [sI',pI']at hV';obtain⟨rfl,rfl⟩:=hV';cases N with
 | zero=>exact hob.elim
 | succ N=>
 obtain⟨Vg,gs,g1,g2,g3,⟨g4,g5,g6⟩,g7⟩:=hob;rw [htb]at g4;have hc:=g4 0 (.cells vs) rfl;obtain⟨b2,k2,c1,cs,T,c2,c3,rs,tail,c4,c5⟩:=hc;have hbk:b2=b:=by have c1':Vg 0=some (b2,k2):=c1;rw [g1]at c1';simp at c1';exact c1'.1.symm
 subst hbk
 have hcell:w.heap[b2]? =some (.cells cs T):=by
  refine h5 l b2 _ ?_;rw [g7];refine aKl g6 (l:=0) ?_;rw [c2];simp [PHeap.one]
 have hlen:=aI.length c5
 have drop1:off<=vs.length->cs.toList.drop off=rs.drop off++tail:=by
  intro hle;rw [c4,List.drop_append_of_le_length (by omega)]
 unfold JA at hk;split at hk
 ·rename_i n e1 e2;cases hc1:(Nat.ble (off+n) vs.length&&aKb [] ((vs.drop off).take n))with
  | false=>rw [hc1]at hk;cases hk
  | true=>
  rw [hc1]at hk;simp only [cond_true,sI']at hk;subst hk;obtain⟨hc2,hc3⟩:=Bool.and_eq_true_iff.1 hc1;have hle:off+n<=vs.length:=Nat.le_of_ble_eq_true hc2;have hrep:aI V ((vs.drop off).take n) ((rs.drop off).take n):=aKq (pl:=[]) (fun i hi=>by cases hi) _ _ hc3 (aI.take (aI.drop c5 off) n)
  obtain⟨v',g8,g9⟩:=fI (P:=P) (V:=V) (t:=t) (av:=(vs.drop off).take n) (v:=.agg (((vs.drop off).take n).take n)) hcell (seg:=(rs.drop off).take n) (rest:=(rs.drop off).drop n++tail) (by rw [drop1 (by omega),<-List.append_assoc,List.take_append_drop]) hrep (by
   unfold eJ;rw [e1,e2];simp only;rw [if_pos (by rw [List.length_take,List.length_drop];omega)])
  rw [List.take_take,Nat.min_self]at g9;exact⟨v',g8,g9⟩
 ·rename_i e2 e1;split at hk
  case h_2=>cases hk
  rename_i v1 hv;cases hc1:v1.within []with
  | false=>rw [hc1]at hk;cases hk
  | true=>
  rw [hc1]at hk;simp only [cond_true,sI']at hk;subst hk;have hlt:off<vs.length:=(List.getElem?_eq_some_iff.1 hv).1;have hri:=aI.at c5 (i:=off) (a:=v1) (v:=rs[off]'(by omega)) hv (gE' (by omega))
  have hrep:Rep V v1 (rs[off]'(by omega)):=aKB (pl:=[]) (fun i hi=>by cases hi) _ _ hc1 hri
  obtain⟨v',g8,g9⟩:=fI (P:=P) (V:=V) (t:=t) (av:=[v1]) (v:=v1) hcell (seg:=[rs[off]'(by omega)]) (rest:=rs.drop (off+1)++tail) (by
   rw [drop1 (by omega),List.drop_eq_getElem_cons (by omega)];rfl) ⟨_,[],rfl,hrep,rfl⟩ (by unfold eJ;rw [e1];rfl)
  exact⟨v',g8,g9⟩
 ·cases hk
end Go.Sh
namespace Go.Sh
open Go
variable [Con] {A:Type} {P:Program}
structure wT (A:Type) where
 X:Type
 hd:Nat->X->AVal
 en:X->aG A
variable {E:wT A}
def iZ(E:wT A):Nat->List E.X->List AVal
 | _,[]=>[]
 | k,x::r=>E.hd k x::iZ E (k+1) r
def DG(E:wT A)(ws:List E.X):aC A:=ws.map fun x=>some (E.en x)
def fD(E:wT A)(ws:List E.X):aC A:=some (.cells (iZ E 1 ws))::DG E ws
def FY(E:wT A)(ws:List E.X)(i:Nat):AVal:=match ws[i]? with
 | some x=>E.hd 1 x
 | none=>.O
def gT(E:wT A)(ws:List E.X)(i:Nat):aC A:=some (.cells ((iZ E 2 ws).set i (FY E ws i)))::none::(DG E ws).set i none
theorem fX: ∀(ws:List E.X) (k j:Nat),(iZ E k ws)[j]? =(ws[j]?).map (E.hd (k+j))
 | [],_,_=>by simp [iZ]
 | x::r,k,0=>by simp [iZ]
 | x::r,k,j+1=>by simp only [iZ,List.getElem?_cons_succ];rw [fX r (k+1) j];rw [show k+1+j=k+(j+1)from by omega]
theorem fY(k:Nat)(ws:List E.X):(iZ E k ws).length =ws.length:=by
 induction ws generalizing k with
 | nil=>rfl
 | cons o r ih=>simp [iZ,ih]
theorem cW(ws:List E.X)(j:Nat):aL (fD E ws) (j+1)=(ws[j]?).map E.en:=by
 simp only [fD,aL,List.getD_cons_succ,DG];rw [gD',List.getElem?_map];cases ws[j]? <;>rfl
theorem eY(ws:List E.X)(i j:Nat):aL (gT E ws i) (j+2)=if i=j then none else(ws[j]?).map E.en:=by
 simp only [gT,aL,List.getD_cons_succ,DG];rw [gD',List.getElem?_set];split
 ·split<;>rfl
 ·rw [List.getElem?_map];cases ws[j]? <;>rfl
variable {tb:A->Nat×aC A}
def EnAt(tb:A->Nat×aC A)(N:Nat)(e:aG A)(x:Nat×Nat)(q:PHeap):Prop:= ∀(V:Val) (l:Nat),V l=some x->aG.interp (obN tb N) V l e q
theorem pG{I:Itp A}{V:Val}{l:Nat}{e:aG A}{p:PHeap}(h:aG.interp I V l e p): ∃x,V l=some x:=by
 cases e with
 | cells vs=>obtain⟨b,k,h,_⟩:=h;exact⟨_,h⟩
 | ints c xs=>
   rcases h with⟨_,_,b,h⟩ | ⟨b,k,h,_⟩
   ·exact⟨_,h⟩
   ·exact⟨_,h⟩
 | abs t ps=>obtain⟨b,k,h,_⟩:=h;exact⟨_,h⟩
 | tab ks rows=>
   rcases h with⟨_,_,b,h⟩ | ⟨b,k,h,_⟩
   ·exact⟨_,h⟩
   ·exact⟨_,h⟩
 | imap kk vc m=>obtain⟨b,k,h,_⟩:=h;exact⟨_,h⟩
 | iter lm kk vc m left cur=>obtain⟨b,k,h,_⟩:=h;exact⟨_,h⟩
structure RowS (tb:A->Nat×aC A) (E:wT A) where
 row:List E.X->A
 hole:List E.X->Nat->A
 isRow:A->Option (List E.X)
 isHole:A->Option (List E.X×Nat)
 rd:aG A->Option E.X
 isRow_eq: ∀t r,isRow t=some r->t=row r
 isHole_eq: ∀t r i,isHole t=some (r,i)->t=hole r i
 rd_eq: ∀e x,rd e=some x->e=E.en x
 tbRow: ∀r,tb (row r)=(0,fD E r)
 tbHole: ∀r i,tb (hole r i)=(1,gT E r i)
 hdRep: ∀(V V':Val) (k k':Nat) (x:E.X) (v:Value),V k=V' k'->Rep V (E.hd k x) v->Rep V' (E.hd k' x) v
 enLoc: ∀(N:Nat) (V V':Val) (l l':Nat) (x:E.X) (p:PHeap),V l=V' l'->aG.interp (obN tb N) V l (E.en x) p->aG.interp (obN tb N) V' l' (E.en x) p
theorem RowS.lend(R:RowS tb E){ws:List E.X}{i:Nat}{t:E.X}{r:Nat×Nat}{p:PHeap}{N:Nat}(h:obN tb (N+1) (R.row ws) r [] p)(hw:ws[i]? =some t):
 ∃x q p',EnAt tb N (E.en t) x q/\obN tb (N+1) (R.hole ws i) r [x] p'/\q.disj p'/\(∀b o,q b=some o->p b=some o)/\(∀b o,p' b=some o->p b=some o)/\
  ∃cs T v,p r.1=some (.cells cs T)/\cs.toList[i]? =some v/\ ∀(V:Val) (l:Nat),V l=some x->Rep V (E.hd l t) v:=by
 obtain⟨V,gs,g1,g2,g3,⟨g4,g5,g6⟩,g7⟩:=h;have htb:=R.tbHole ws i;rw [R.tbRow]at g2 g3 g4 g5;dsimp only at g2 g3 g4 g5;have hi:aL (fD E ws) (i+1)=some (E.en t):=by rw [cW,hw];rfl
 have hq:=g4 _ _ hi;obtain⟨x,hx⟩:=pG hq;have hc:=g4 0 _ (show aL (fD E ws) 0=some (.cells (iZ E 1 ws))from rfl)
 obtain⟨b,k,c1,cs,T,c2,c3,rs,tail,c4,c5⟩:=hc;have hbk:r=(b,k):=by have c1':V 0=some (b,k):=c1;rw [g1]at c1';simpa using c1'
 have hlen:=aI.length c5
 have hil:i<rs.length:=by
  rw [hlen,fY];exact(List.getElem?_eq_some_iff.1 hw).1
 have hri:=aI.at c5 (i:=i) (a:=E.hd (1+i) t) (v:=rs[i]) (by rw [fX,hw];rfl) (gE' hil)
 have hri2: ∀(V2:Val) (l:Nat),V2 l=some x->Rep V2 (E.hd l t) rs[i]:=fun V2 l h2=>R.hdRep V V2 (1+i) l t _ (by rw [Nat.add_comm,h2];exact hx) hri
 let V':Val:=fun m=>match m with
  | 0=>V 0
  | 1=>some x
  | j+2=>V (j+1)
 let gs':Nat->PHeap:=fun m=>match m with
  | 0=>gs 0
  | 1=>.emp
  | j+2=>if i=j then .emp else gs (j+1)
 have hsub: ∀j b o,gs j b=some o->p b=some o:=by
  intro j b o hh;rw [g7];exact aKl g6 hh
 have gs'_sub: ∀m b o,gs' m b=some o-> ∃j,j≠i+1/\gs j b=some o:=by
  intro m b o hh
  match m,hh with
  | 0,hh=>exact⟨0,by omega,hh⟩
  | 1,hh=>cases hh
  | j+2,hh=>
    have hh':(if i=j then PHeap.emp else gs (j+1)) b=some o:=hh
    split at hh'
    ·cases hh'
    ·exact⟨j+1,by omega,hh'⟩
 have gdis: ∀l m,l≠m->(gs' l).disj (gs' m):=by
  intro l m hlm b;cases h1:gs' l b with
  | none=>exact .inl rfl
  | some o=>
    right;cases h2:gs' m b with
    | none=>rfl
    | some o2=>
      exfalso
      have key: ∀l m,l≠m-> ∀o o2,gs' l b=some o->gs' m b=some o2->False:=by
       intro l m hlm o o2 h1 h2
       match l,m,h1,h2 with
       | 0,0,_,_=>exact hlm rfl
       | 1,_,h1,_=>cases h1
       | _,1,_,h2=>cases h2
       | 0,j+2,h1,h2=>
         have h2':(if i=j then PHeap.emp else gs (j+1)) b=some o2:=h2
         split at h2'
         ·cases h2'
         ·rcases g6 0 (j+1) (by omega) b with d | d
          ·have h1':gs 0 b=some o:=h1;rw [d]at h1';cases h1'
          ·rw [d]at h2';cases h2'
       | j+2,0,h1,h2=>
         have h1':(if i=j then PHeap.emp else gs (j+1)) b=some o:=h1
         split at h1'
         ·cases h1'
         ·rcases g6 0 (j+1) (by omega) b with d | d
          ·have h2':gs 0 b=some o2:=h2;rw [d]at h2';cases h2'
          ·rw [d]at h1';cases h1'
       | j+2,j2+2,h1,h2=>
         have h1':(if i=j then PHeap.emp else gs (j+1)) b=some o:=h1
         have h2':(if i=j2 then PHeap.emp else gs (j2+1)) b=some o2:=h2
         split at h1'
         ·cases h1'
         ·split at h2'
          ·cases h2'
          ·rcases g6 (j+1) (j2+1) (by omega) b with d | d
           ·rw [d]at h1';cases h1'
           ·rw [d]at h2';cases h2'
      exact key l m hlm o o2 h1 h2
 have hcell:aL (gT E ws i) 0=some (.cells ((iZ E 2 ws).set i (FY E ws i))):=rfl;refine⟨x,gs (i+1),aKe gs',fun V2 l h2=>R.enLoc N V V2 (i+1) l t _ (hx.trans h2.symm) hq,⟨V',gs',g1,?_,?_,⟨?_,?_,gdis⟩,rfl⟩,?_,hsub _,?_,cs,T,rs[i],?_,?_,hri2⟩
 ·intro j hj;rw [htb]at hj;have:j=0:=by dsimp only at hj;omega
  subst this;rfl
 ·rw [htb];rfl
 ·intro l e he;rw [htb]at he
  match l,he with
  | 0,he=>
    have he':aL (gT E ws i) 0=some e:=he;rw [hcell]at he';simp only [sI']at he';subst he';refine⟨b,k,c1,cs,T,c2,c3,rs,tail,c4,?_⟩;refine aKD (by rw [List.length_set,fY,hlen,fY]) ?_
    intro j a v ha hv;rw [List.getElem?_set]at ha;split at ha
    ·rename_i hij;subst hij;split at ha
     ·simp only [sI']at ha;subst ha;rw [gE' hil]at hv;simp only [sI']at hv;subst hv;unfold FY;rw [hw];exact hri2 V' 1 rfl
     ·cases ha
    ·rw [fX]at ha;cases hwj:ws[j]? with
     | none=>rw [hwj]at ha;cases ha
     | some o=>
       rw [hwj]at ha;simp only [Option.map_some,sI']at ha;have hr:=aI.at c5 (i:=j) (a:=E.hd (1+j) o) (v:=v) (by rw [fX,hwj];rfl) hv
       subst ha;exact R.hdRep V V' (1+j) (2+j) o v (by rw [Nat.add_comm 1 j,Nat.add_comm 2 j]) hr
  | 1,he=>cases he
  | j+2,he=>
    have he':aL (gT E ws i) (j+2)=some e:=he;rw [eY]at he';split at he'
    ·cases he'
    ·rename_i hij;have hj2:aL (fD E ws) (j+1)=some e:=by rw [cW];exact he'
     have hin:=g4 _ _ hj2;show aG.interp (obN tb N) V' (j+2) e (if i=j then PHeap.emp else gs (j+1))
     rw [if_neg hij];cases hwj:ws[j]? with
     | none=>rw [hwj]at he';cases he'
     | some s=>
       rw [hwj]at he';simp only [Option.map_some,sI']at he';subst he';exact R.enLoc N V V' (j+1) (j+2) s _ rfl hin
 ·intro l he;rw [htb]at he
  match l,he with
  | 0,he=>cases he
  | 1,he=>rfl
  | j+2,he=>
    have he':aL (gT E ws i) (j+2)=none:=he;rw [eY]at he';show(if i=j then PHeap.emp else gs (j+1))=_
    split at he'
    ·rename_i hij;rw [if_pos hij]
    ·rename_i hij;rw [if_neg hij];refine g5 _ ?_;show aL (fD E ws) (j+1)=none;rw [cW];exact he'
 ·intro b';cases h1:gs (i+1) b' with
  | none=>exact .inl rfl
  | some o=>
    right;refine aKE fun m=>?_;cases h2:gs' m b' with
    | none=>rfl
    | some o2=>
      exfalso;obtain⟨j,hj,h3⟩:=gs'_sub m b' o2 h2;rcases g6 j (i+1) hj b' with d | d
      ·rw [d]at h3;cases h3
      ·rw [d]at h1;cases h1
 ·intro b' o hh;obtain⟨m,hm⟩:=aKm hh;obtain⟨j,_,h3⟩:=gs'_sub m b' o hm;exact hsub j b' o h3
 ·refine hsub 0 r.1 _ ?_;rw [c2,hbk];simp [PHeap.one]
 ·rw [c4,List.getElem?_append_left hil,gE' hil]
theorem RowS.back(R:RowS tb E){ws:List E.X}{i:Nat}{t0 t:E.X}{r x:Nat×Nat}{p' q:PHeap}{N:Nat}(hp:obN tb (N+1) (R.hole ws i) r [x] p')(hq:EnAt tb N (E.en t) x q)(hd:q.disj p')(hi:i<ws.length)(h0:ws[i]? =some t0)(hh: ∀l,E.hd l t=E.hd l t0):
 ∃p,obN tb (N+1) (R.row (ws.set i t)) r [] p/\(∀b o,p b=some o->q b=some o\/p' b=some o):=by
 obtain⟨V,gs,g1,g2,g3,⟨g4,g5,g6⟩,g7⟩:=hp;have htb:=R.tbRow (ws.set i t);rw [R.tbHole]at g2 g3 g4 g5;dsimp only at g2 g3 g4 g5;have hx:V 1=some x:=by have:=g2 0 (by omega);simpa using this
 have hc:=g4 0 _ (show aL (gT E ws i) 0=some (.cells ((iZ E 2 ws).set i (FY E ws i)))from rfl)
 obtain⟨b,k,c1,cs,T,c2,c3,rs,tail,c4,c5⟩:=hc;have hlen:=aI.length c5;rw [List.length_set,fY]at hlen
 let V':Val:=fun m=>match m with
  | 0=>V 0
  | j+1=>if i=j then some x else V (j+2)
 let gs':Nat->PHeap:=fun m=>match m with
  | 0=>gs 0
  | j+1=>if i=j then q else gs (j+2)
 have hsub: ∀j b o,gs j b=some o->p' b=some o:=by
  intro j b o hh;rw [g7];exact aKl g6 hh
 have hqd: ∀j b o o2,gs j b=some o->q b=some o2->False:=by
  intro j b o o2 h1 h2;have:=hsub j b o h1;rcases hd b with d | d
  ·rw [d]at h2;cases h2
  ·rw [d]at this;cases this
 have key: ∀l m b,l≠m-> ∀o o2,gs' l b=some o->gs' m b=some o2->False:=by
  intro l m b hlm o o2 h1 h2
  match l,m,h1,h2 with
  | 0,0,_,_=>exact hlm rfl
  | 0,j+1,h1,h2=>
    have h2':(if i=j then q else gs (j+2)) b=some o2:=h2
    split at h2'
    ·exact hqd 0 b o o2 h1 h2'
    ·rcases g6 0 (j+2) (by omega) b with d | d
     ·have h1':gs 0 b=some o:=h1;rw [d]at h1';cases h1'
     ·rw [d]at h2';cases h2'
  | j+1,0,h1,h2=>
    have h1':(if i=j then q else gs (j+2)) b=some o:=h1
    split at h1'
    ·exact hqd 0 b o2 o h2 h1'
    ·rcases g6 0 (j+2) (by omega) b with d | d
     ·have h2':gs 0 b=some o2:=h2;rw [d]at h2';cases h2'
     ·rw [d]at h1';cases h1'
  | j+1,j2+1,h1,h2=>
    have h1':(if i=j then q else gs (j+2)) b=some o:=h1
    have h2':(if i=j2 then q else gs (j2+2)) b=some o2:=h2
    split at h1'
    ·split at h2'
     ·omega
     ·exact hqd _ b o2 o h2' h1'
    ·split at h2'
     ·exact hqd _ b o o2 h1' h2'
     ·rcases g6 (j+2) (j2+2) (by omega) b with d | d
      ·rw [d]at h1';cases h1'
      ·rw [d]at h2';cases h2'
 have gdis: ∀l m,l≠m->(gs' l).disj (gs' m):=by
  intro l m hlm b;cases h1:gs' l b with
  | none=>exact .inl rfl
  | some o=>
    right;cases h2:gs' m b with
    | none=>rfl
    | some o2=>exact(key l m b hlm o o2 h1 h2).elim
 refine⟨aKe gs',⟨V',gs',g1,?_,?_,⟨?_,?_,gdis⟩,rfl⟩,?_⟩
 ·intro j hj;rw [htb]at hj;dsimp only at hj;omega
 ·rw [htb];rfl
 ·intro l e he;rw [htb]at he
  match l,he with
  | 0,he=>
    have he':some (aG.cells (iZ E 1 (ws.set i t)))=some e:=he;simp only [sI']at he';subst he';refine⟨b,k,c1,cs,T,c2,c3,rs,tail,c4,?_⟩;refine aKD (by rw [fY,List.length_set,hlen]) ?_
    intro j a v ha hv;rw [fX,List.getElem?_set]at ha;split at ha
    ·rename_i hij;subst hij;simp only [Option.map_some,sI']at ha;subst ha;have hr:=aI.at c5 (i:=i) (a:=FY E ws i) (v:=v) (by rw [List.getElem?_set,if_pos rfl,if_pos (by rw [fY];exact hi)]) hv
     unfold FY at hr;rw [h0]at hr;have hr:Rep V (E.hd 1 t0) v:=hr;rw [hh];refine R.hdRep V V' 1 (1+i) t0 v ?_ hr;show V 1=V' (1+i);rw [Nat.add_comm];show V 1=(if i=i then some x else _)
     rw [if_pos rfl,hx]
    ·rename_i hij;cases hwj:ws[j]? with
     | none=>rw [hwj]at ha;cases ha
     | some o=>
       rw [hwj]at ha;simp only [Option.map_some,sI']at ha;have hr:=aI.at c5 (i:=j) (a:=E.hd (2+j) o) (v:=v) (by rw [List.getElem?_set,if_neg hij,fX,hwj];rfl) hv
       subst ha;refine R.hdRep V V' (2+j) (1+j) o v ?_ hr;show V (2+j)=V' (1+j);rw [Nat.add_comm 1 j];show V (2+j)=(if i=j then some x else V (j+2))
       rw [if_neg hij,Nat.add_comm]
  | j+1,he=>
    have he':aL (fD E (ws.set i t)) (j+1)=some e:=he;rw [cW,List.getElem?_set]at he';show aG.interp (obN tb N) V' (j+1) e (if i=j then q else gs (j+2))
    split at he'
    ·rename_i hij;subst hij;simp only [Option.map_some,sI']at he';subst he';rw [if_pos rfl];exact hq V' (i+1) (by show(if i=i then some x else _)=_;rw [if_pos rfl])
    ·rename_i hij;rw [if_neg hij];have hj2:aL (gT E ws i) (j+2)=some e:=by rw [eY,if_neg hij];exact he'
     have hin:=g4 _ _ hj2;cases hwj:ws[j]? with
     | none=>rw [hwj]at he';cases he'
     | some s=>
       rw [hwj]at he';simp only [Option.map_some,sI']at he';subst he';refine R.enLoc N V V' (j+2) (j+1) s _ ?_ hin;show V (j+2)=(if i=j then some x else V (j+2))
       rw [if_neg hij]
 ·intro l he;rw [htb]at he
  match l,he with
  | 0,he=>cases he
  | j+1,he=>
    have he':aL (fD E (ws.set i t)) (j+1)=none:=he;rw [cW,List.getElem?_set]at he';show(if i=j then q else gs (j+2))=_
    split at he'
    ·rename_i hij;subst hij;cases he'
    ·rename_i hij;rw [if_neg hij];refine g5 _ ?_;show aL (gT E ws i) (j+2)=none;rw [eY,if_neg hij];exact he'
 ·intro b' o hh;obtain⟨m,hm⟩:=aKm hh
  match m,hm with
  | 0,hm=>exact .inr (hsub 0 b' o hm)
  | j+1,hm=>
    have hm':(if i=j then q else gs (j+2)) b'=some o:=hm
    split at hm'
    ·exact .inl hm'
    ·exact .inr (hsub _ b' o hm')
theorem Inv.lendS1(R:RowS tb E){V:Val}{h:aC A}{hR:PHeap}{w:World}{l i:Nat}{ws:List E.X}{t:E.X}(hi:Inv (obI tb) V (toF h) hR w)(hn:V h.length=none)(hl:aL h l=some (.abs (R.row ws) []))(hw:ws[i]? =some t):
 ∃V' x b k cs T v,V.le V'/\V'=V.add h.length x/\Inv (obI tb) V' (toF (h.set l (some (.abs (R.hole ws i) [h.length]))++ [some (E.en t)])) hR w/\V' h.length=some x/\V l=some (b,k)/\w.heap[b]? =some (.cells cs T)/\cs.toList[i]? =some v/\(∀(V:Val) (l:Nat),V l=some x->Rep V (E.hd l t) v):=by
 have hll:=cB hl;obtain⟨hs,h1,h2,h3,h4,h5,h6⟩:=hi;obtain⟨b,k,hV,bs,hlo,N,hob⟩:=h1 l _ hl;have hbs:bs=[]:=hlo;subst hbs;cases N with
 | zero=>exact hob.elim
 | succ N=>
 obtain⟨x,q,p',o1,o2,o3,o4,o5,cs,T,v,o6,o7,o8⟩:=R.lend hob hw;have hle:=aKh (x:=x) hn
 let hs':Nat->PHeap:=fun m=>if m=l then p' else if m=h.length then q else hs m
 have get1: ∀m,m<h.length->m≠l->aL (h.set l (some (.abs (R.hole ws i) [h.length]))++ [some (E.en t)]) m=aL h m:=by
  intro m hm hml;rw [cE (by simpa using hm)]
  simp only [aL,gD'];rw [List.getElem?_set_ne (fun e=>hml e.symm)]
 have get2:aL (h.set l (some (.abs (R.hole ws i) [h.length]))++ [some (E.en t)]) l=some (.abs (R.hole ws i) [h.length]):=by
  rw [cE (by simpa using hll)]
  simp only [aL,gD'];rw [List.getElem?_set_self hll];rfl
 have get3:aL (h.set l (some (.abs (R.hole ws i) [h.length]))++ [some (E.en t)]) h.length=some (E.en t):=by
  simp only [aL,gD'];rw [List.getElem?_append_right (by simp)];simp
 have get4: ∀m,h.length<m->aL (h.set l (some (.abs (R.hole ws i) [h.length]))++ [some (E.en t)]) m=none:=fun m hm=>cA (by simp;omega)
 have hsl: ∀b o,p' b=some o->hs l b=some o:=o5;have hsq: ∀b o,q b=some o->hs l b=some o:=o4;have hsn: ∀m,h.length<=m->hs m=.emp :=fun m hm=>h2 m (cA hm);refine⟨V.add h.length x,x,b,k,cs,T,v,hle,rfl,⟨hs',?_,?_,?_,?_,?_,h6⟩,aKa _ _ _,hV,?_,o7,o8⟩
 ·intro m e he;have he':aL (h.set l (some (.abs (R.hole ws i) [h.length]))++ [some (E.en t)]) m=some e:=he
  by_cases hml:m=l
  ·subst hml;rw [get2]at he';simp only [sI']at he';subst he';show aG.interp _ _ _ _ (if m=m then p' else _)
   rw [if_pos rfl];exact⟨b,k,hle _ _ hV,[x],⟨x,[],aKa _ _ _,rfl,rfl⟩,N+1,o2⟩
  ·by_cases hmn:m=h.length
   ·subst hmn;rw [get3]at he';simp only [sI']at he';subst he';show aG.interp _ _ _ _ (if h.length=l then p' else if h.length=h.length then q else _)
    rw [if_neg hml,if_pos rfl];exact aKo (fun t r bs p h=>⟨N,h⟩) (o1 _ _ (aKa _ _ _))
   ·by_cases hlt:m<h.length
    ·rw [get1 m hlt hml]at he';show aG.interp _ _ _ _ (if m=l then p' else if m=h.length then q else hs m)
     rw [if_neg hml,if_neg hmn];exact aKk hle (h1 m e he')
    ·rw [get4 m (by omega)]at he';cases he'
 ·intro m he;have he':aL (h.set l (some (.abs (R.hole ws i) [h.length]))++ [some (E.en t)]) m=none:=he;show(if m=l then p' else if m=h.length then q else hs m)=_
  by_cases hml:m=l
  ·subst hml;rw [get2]at he';cases he'
  ·by_cases hmn:m=h.length
   ·subst hmn;rw [get3]at he';cases he'
   ·rw [if_neg hml,if_neg hmn]
    by_cases hlt:m<h.length
    ·rw [get1 m hlt hml]at he';exact h2 m he'
    ·exact hsn m (by omega)
 ·intro m m' hmm b';show(if m=l then p' else if m=h.length then q else hs m) b'=none\/(if m'=l then p' else if m'=h.length then q else hs m') b'=none
  have part: ∀m,m≠l->m≠h.length->(p' b'=none/\q b'=none)\/hs m b'=none:=by
   intro m hml hmn;rcases h3 l m (fun e=>hml e.symm) b' with d | d
   ·left;constructor
    ·cases hp:p' b' with
     | none=>rfl
     | some o=>rw [hsl b' o hp]at d;cases d
    ·cases hp:q b' with
     | none=>rfl
     | some o=>rw [hsq b' o hp]at d;cases d
   ·exact .inr d
  by_cases a1:m=l
  ·rw [if_pos a1]
   by_cases a2:m'=l
   ·exact(hmm (a1.trans a2.symm)).elim
   ·rw [if_neg a2]
    by_cases a3:m'=h.length
    ·rw [if_pos a3];exact(o3 b').symm
    ·rw [if_neg a3];rcases part m' a2 a3 with d | d
     ·exact .inl d.1
     ·exact .inr d
  ·rw [if_neg a1]
   by_cases a0:m=h.length
   ·rw [if_pos a0]
    by_cases a2:m'=l
    ·rw [if_pos a2];exact o3 b'
    ·rw [if_neg a2]
     by_cases a3:m'=h.length
     ·exact(hmm (a0.trans a3.symm)).elim
     ·rw [if_neg a3];rcases part m' a2 a3 with d | d
      ·exact .inl d.2
      ·exact .inr d
   ·rw [if_neg a0]
    by_cases a2:m'=l
    ·rw [if_pos a2];rcases part m a1 a0 with d | d
     ·exact .inr d.1
     ·exact .inl d
    ·rw [if_neg a2]
     by_cases a3:m'=h.length
     ·rw [if_pos a3];rcases part m a1 a0 with d | d
      ·exact .inr d.2
      ·exact .inl d
     ·rw [if_neg a3];exact h3 m m' hmm b'
 ·intro m b';show(if m=l then p' else if m=h.length then q else hs m) b'=none\/hR b'=none
  split
  ·rcases h4 l b' with d | d
   ·cases hp:p' b' with
    | none=>exact .inl rfl
    | some o=>rw [hsl b' o hp]at d;cases d
   ·exact .inr d
  ·split
   ·rcases h4 l b' with d | d
    ·cases hp:q b' with
     | none=>exact .inl rfl
     | some o=>rw [hsq b' o hp]at d;cases d
    ·exact .inr d
   ·exact h4 m b'
 ·intro m b' o hh;have hh':(if m=l then p' else if m=h.length then q else hs m) b'=some o:=hh
  split at hh'
  ·exact h5 l b' o (hsl b' o hh')
  ·split at hh'
   ·exact h5 l b' o (hsq b' o hh')
   ·exact h5 m b' o hh'
 ·exact h5 l b _ o6
theorem Inv.lendS(R:RowS tb E){V:Val}{h:aC A}{hR:PHeap}{w:World}{l i:Nat}{ws:List E.X}{t:E.X}(hi:Inv (obI tb) V (toF h) hR w)(hf:bU V h.length)(hl:aL h l=some (.abs (R.row ws) []))(hw:ws[i]? =some t):
 ∃V' x b k cs T v,V.le V'/\bU V' (h.length+1)/\Inv (obI tb) V' (toF (h.set l (some (.abs (R.hole ws i) [h.length]))++ [some (E.en t)])) hR w/\V' h.length=some x/\V l=some (b,k)/\w.heap[b]? =some (.cells cs T)/\cs.toList[i]? =some v/\(∀(V:Val) (l:Nat),V l=some x->Rep V (E.hd l t) v):=by
 obtain⟨V',x,b,k,cs,T,v,h1,rfl,h3⟩:=hi.lendS1 R (hf _ (Nat.le_refl _)) hl hw;refine⟨_,x,b,k,cs,T,v,h1,?_,h3⟩;intro m hm;rw [aKC _ _ (by omega)]
 exact hf m (by omega)
theorem l6{V:Val}{l:Nat}{e:aG A}{p:PHeap}(h:aG.interp (obI tb) V l e p): ∃n,aG.interp (obN tb n) V l e p:=by
 cases e with
 | cells vs=>exact⟨0,h⟩
 | ints c xs=>exact⟨0,h⟩
 | abs t ps=>obtain⟨b,k,h1,bs,h2,n,h3⟩:=h;exact⟨n,b,k,h1,bs,h2,h3⟩
 | tab ks rows=>exact⟨0,h⟩
 | imap kk vc m=>exact⟨0,h⟩
 | iter lm kk vc m left cur=>exact⟨0,h⟩
theorem Inv.backS(R:RowS tb E){V:Val}{h:aC A}{hR:PHeap}{w:World}{l i k:Nat}{ws:List E.X}{t0 t:E.X}(h0:ws[i]? =some t0)(hh: ∀l,E.hd l t=E.hd l t0)(hi:Inv (obI tb) V (toF h) hR w)(hl:aL h l=some (.abs (R.hole ws i) [k]))(hk:aL h k=some (E.en t))(hkl:k≠l):
 Inv (obI tb) V (toF ((h.set l (some (.abs (R.row (ws.set i t)) []))).set k none)) hR w:=by
 have hll:=cB hl;have hkk:=cB hk;obtain⟨hs,h1,h2,h3,h4,h5,h6⟩:=hi;obtain⟨b,kk,hV,bs,hlo,N,hob⟩:=h1 l _ hl;obtain⟨x,r,hx,rfl,hr⟩:=hlo;have hr':r=[]:=hr;subst hr';have hlt:i<ws.length:=(List.getElem?_eq_some_iff.1 h0).1;obtain⟨N2,hob2⟩:=l6 (h1 k _ hk);have hxk:V k=some x:=hx;cases N with
 | zero=>exact hob.elim
 | succ N=>
 have q1:EnAt tb (max N N2) (E.en t) x (hs k):=fun V2 l2 e2=>R.enLoc _ V V2 k l2 t _ (hxk.trans e2.symm) (aKo (fun t r bs p h=>nI tb (Nat.le_max_right N N2) h) hob2);have q2:=nI tb (show N+1<=max N N2+1 by omega) hob
 obtain⟨p,p1,p2⟩:=R.back q2 q1 (h3 k l hkl) hlt h0 hh
 let hs':Nat->PHeap:=fun m=>if m=l then p else if m=k then .emp else hs m
 have get1: ∀m,m≠l->m≠k->aL ((h.set l (some (.abs (R.row (ws.set i t)) []))).set k none) m=aL h m:=by
  intro m hml hmk;simp only [aL,gD'];rw [List.getElem?_set_ne (fun e=>hmk e.symm),List.getElem?_set_ne (fun e=>hml e.symm)]
 have get2:aL ((h.set l (some (.abs (R.row (ws.set i t)) []))).set k none) l=some (.abs (R.row (ws.set i t)) []):=by
  simp only [aL,gD'];rw [List.getElem?_set_ne hkl,List.getElem?_set_self hll];rfl
 have get3:aL ((h.set l (some (.abs (R.row (ws.set i t)) []))).set k none) k=none:=by
  simp only [aL,gD'];rw [List.getElem?_set_self (by simpa using hkk)];rfl
 refine⟨hs',?_,?_,?_,?_,?_,h6⟩
 ·intro m e he;have he':aL ((h.set l (some (.abs (R.row (ws.set i t)) []))).set k none) m=some e:=he;show aG.interp _ _ _ _ (if m=l then p else if m=k then .emp else hs m)
  by_cases hml:m=l
  ·subst hml;rw [get2]at he';simp only [sI']at he';subst he';rw [if_pos rfl];exact⟨b,kk,hV,[],rfl,_,p1⟩
  ·by_cases hmk:m=k
   ·subst hmk;rw [get3]at he';cases he'
   ·rw [if_neg hml,if_neg hmk];rw [get1 m hml hmk]at he';exact h1 m e he'
 ·intro m he;have he':aL ((h.set l (some (.abs (R.row (ws.set i t)) []))).set k none) m=none:=he;show(if m=l then p else if m=k then .emp else hs m)=_
  by_cases hml:m=l
  ·subst hml;rw [get2]at he';cases he'
  ·rw [if_neg hml]
   by_cases hmk:m=k
   ·rw [if_pos hmk]
   ·rw [if_neg hmk];rw [get1 m hml hmk]at he';exact h2 m he'
 ·intro m m' hmm b';show(if m=l then p else if m=k then .emp else hs m) b'=none\/(if m'=l then p else if m'=k then .emp else hs m') b'=none
  have part: ∀m,m≠l->m≠k->p b'=none\/hs m b'=none:=by
   intro m hml hmk;cases hp:p b' with
   | none=>exact .inl rfl
   | some o=>
     right;rcases p2 b' o hp with d | d
     ·rcases h3 k m (fun e=>hmk e.symm) b' with f | f
      ·rw [f]at d;cases d
      ·exact f
     ·rcases h3 l m (fun e=>hml e.symm) b' with f | f
      ·rw [f]at d;cases d
      ·exact f
  by_cases a1:m=l
  ·rw [if_pos a1]
   by_cases a2:m'=l
   ·exact(hmm (a1.trans a2.symm)).elim
   ·rw [if_neg a2]
    by_cases a3:m'=k
    ·rw [if_pos a3];exact .inr rfl
    ·rw [if_neg a3];exact part m' a2 a3
  ·rw [if_neg a1]
   by_cases a0:m=k
   ·rw [if_pos a0];exact .inl rfl
   ·rw [if_neg a0]
    by_cases a2:m'=l
    ·rw [if_pos a2];exact(part m a1 a0).symm
    ·rw [if_neg a2]
     by_cases a3:m'=k
     ·rw [if_pos a3];exact .inr rfl
     ·rw [if_neg a3];exact h3 m m' hmm b'
 ·intro m b';show(if m=l then p else if m=k then .emp else hs m) b'=none\/hR b'=none
  split
  ·cases hp:p b' with
   | none=>exact .inl rfl
   | some o=>
     right;rcases p2 b' o hp with d | d
     ·rcases h4 k b' with f | f
      ·rw [f]at d;cases d
      ·exact f
     ·rcases h4 l b' with f | f
      ·rw [f]at d;cases d
      ·exact f
  ·split
   ·exact .inl rfl
   ·exact h4 m b'
 ·intro m b' o hh;have hh':(if m=l then p else if m=k then .emp else hs m) b'=some o:=hh
  split at hh'
  ·rcases p2 b' o hh' with d | d
   ·exact h5 k b' o d
   ·exact h5 l b' o d
  ·split at hh'
   ·cases hh'
   ·exact h5 m b' o hh'
end Go.Sh
namespace Go.Sh
open Go
variable [Con] {A:Type} {P:Program} {E:wT A} {tb:A->Nat×aC A}
theorem RowS.snoc(R:RowS tb E){ws:List E.X}{y:E.X}{r:Nat×Nat}{p:PHeap}{N:Nat}(h:obN tb (N+1) (R.row ws) r [] p):
 ∃cs T rs tail,p r.1=some (.cells cs T)/\cs.size=r.2/\cs.toList=rs++tail/\rs.length=ws.length/\
  ∀(x:Nat×Nat) (q:PHeap) (b' k':Nat) (cs':Array Value) (T':TypeId) (v:Value) (tail':List Value),EnAt tb N (E.en y) x q->q.disj p->(∀(V:Val) (l:Nat),V l=some x->Rep V (E.hd l y) v)->
   cs'.toList=(rs++ [v])++tail'->cs'.size=k'->(b'=r.1\/p b'=none)->q b'=none->
   ∃p',obN tb (N+1) (R.row (ws++ [y])) (b',k') [] p'/\ ∀c o,p' c=some o->(c=b'/\o=.cells cs' T')\/(c≠r.1/\p c=some o)\/q c=some o:=by
 obtain⟨V,gs,g1,g2,g3,⟨g4,g5,g6⟩,g7⟩:=h;rw [R.tbRow]at g2 g3 g4 g5;dsimp only at g2 g3 g4 g5;have hc:=g4 0 _ (show aL (fD E ws) 0=some (.cells (iZ E 1 ws))from rfl)
 obtain⟨b,k,c1,cs,T,c2,c3,rs,tail,c4,c5⟩:=hc;have hbk:r=(b,k):=by have c1':V 0=some (b,k):=c1;rw [g1]at c1';simpa using c1'
 subst hbk;have hlen:=aI.length c5;rw [fY]at hlen
 have hsub: ∀j b o,gs j b=some o->p b=some o:=by
  intro j b o hh;rw [g7];exact aKl g6 hh
 refine⟨cs,T,rs,tail,?_,c3,c4,hlen,?_⟩
 ·refine hsub 0 b _ ?_;rw [c2];simp [PHeap.one]
 intro x q b' k' cs' T' v tail' hx hqd hv hcs hk hb' hqb;have htb:=R.tbRow (ws++ [y])
 let V':Val:=fun m=>match m with
  | 0=>some (b',k')
  | j+1=>if j<ws.length then V (j+1)else if j=ws.length then some x else none
 let gs':Nat->PHeap:=fun m=>match m with
  | 0=>.one b' (.cells cs' T')
  | j+1=>if j<ws.length then gs (j+1)else if j=ws.length then q else .emp
 have hV1: ∀j,j<ws.length->V' (j+1)=V (j+1):=fun j hj=>if_pos hj
 have hV2:V' (ws.length+1)=some x:=by
  show(if ws.length<ws.length then _ else if ws.length=ws.length then some x else none)=_
  rw [if_neg (Nat.lt_irrefl _),if_pos rfl]
 have char: ∀m c o,gs' m c=some o->(m=0/\c=b'/\o=.cells cs' T')\/(∃j,m=j+1/\j<ws.length/\gs (j+1) c=some o)\/(m=ws.length+1/\q c=some o):=by
  intro m c o hh
  match m,hh with
  | 0,hh=>
    left;have hh:PHeap.one b' (.cells cs' T') c=some o:=hh;unfold PHeap.one at hh;split at hh
    ·rename_i e;cases hh;exact⟨rfl,e,rfl⟩
    ·cases hh
  | j+1,hh=>
    right;have hh2:(if j<ws.length then gs (j+1)else if j=ws.length then q else PHeap.emp) c=some o:=hh
    clear hh;split at hh2
    ·rename_i hj;exact .inl ⟨j,rfl,hj,hh2⟩
    ·split at hh2
     ·rename_i hj;exact .inr ⟨by rw [hj],hh2⟩
     ·cases hh2
 have ne0: ∀j c o,gs (j+1) c=some o->c≠b:=by
  intro j c o hh e;subst e;rcases g6 0 (j+1) (by omega) c with d | d
  ·rw [c2]at d;simp [PHeap.one]at d
  ·rw [d]at hh;cases hh
 have nb: ∀j o,gs (j+1) b'=some o->False:=by
  intro j o hh;rcases hb' with e | e
  ·exact ne0 j b' o hh e
  ·rw [hsub _ _ _ hh]at e;cases e
 have nq: ∀j c o o2,gs (j+1) c=some o->q c=some o2->False:=by
  intro j c o o2 h1 h2;rcases hqd c with d | d
  ·rw [d]at h2;cases h2
  ·rw [hsub _ _ _ h1]at d;cases d
 have gdis: ∀l m,l≠m->(gs' l).disj (gs' m):=by
  intro l m hlm c;cases h1:gs' l c with
  | none=>exact .inl rfl
  | some o=>
    right;cases h2:gs' m c with
    | none=>rfl
    | some o2=>
      exfalso;rcases char l c o h1 with⟨a1,a2,_⟩ | ⟨j,a1,a2,a3⟩ | ⟨a1,a2⟩
      ·rcases char m c o2 h2 with⟨e1,_⟩ | ⟨j2,e1,e2,e3⟩ | ⟨e1,e2⟩
       ·omega
       ·subst a2;exact nb _ _ e3
       ·rw [a2,hqb]at e2;cases e2
      ·rcases char m c o2 h2 with⟨e1,e2,_⟩ | ⟨j2,e1,e2,e3⟩ | ⟨e1,e2⟩
       ·subst e2;exact nb _ _ a3
       ·rcases g6 (j+1) (j2+1) (by omega) c with d | d
        ·rw [d]at a3;cases a3
        ·rw [d]at e3;cases e3
       ·exact nq _ _ _ _ a3 e2
      ·rcases char m c o2 h2 with⟨e1,e2,_⟩ | ⟨j2,e1,e2,e3⟩ | ⟨e1,e2⟩
       ·rw [e2,hqb]at a2;cases a2
       ·exact nq _ _ _ _ e3 a2
       ·omega
 have hget1: ∀j,aL (fD E (ws++ [y])) (j+1)=if j<ws.length then(ws[j]?).map E.en else if j=ws.length then some (E.en y)else none:=by
  intro j;rw [cW];split
  ·rename_i hj;rw [List.getElem?_append_left hj]
  ·rename_i hj;split
   ·rename_i e;subst e;rw [List.getElem?_append_right (Nat.le_refl _),Nat.sub_self];rfl
   ·rename_i e;rw [List.getElem?_eq_none (by rw [List.length_append];show ws.length+1<=j;omega)];rfl
 refine⟨aKe gs',⟨V',gs',rfl,?_,?_,⟨?_,?_,gdis⟩,rfl⟩,?_⟩
 ·intro j hj;rw [htb]at hj;dsimp only at hj;omega
 ·rw [htb];rfl
 ·intro l e he;rw [htb]at he
  match l,he with
  | 0,he=>
    have he':some (aG.cells (iZ E 1 (ws++ [y])))=some e:=he;simp only [sI']at he';subst he';refine⟨b',k',rfl,cs',T',rfl,hk,rs++ [v],tail',hcs,?_⟩;refine aKD (by rw [fY,List.length_append,List.length_append,hlen];rfl) ?_
    intro j a v2 ha hv2;rw [fX]at ha
    by_cases hj:j<ws.length
    ·rw [List.getElem?_append_left hj]at ha;rw [List.getElem?_append_left (by omega)]at hv2
     cases hwj:ws[j]? with
     | none=>rw [hwj]at ha;cases ha
     | some o=>
       rw [hwj]at ha;simp only [Option.map_some,sI']at ha;subst ha;have hr:=aI.at c5 (i:=j) (a:=E.hd (1+j) o) (v:=v2) (by rw [fX,hwj];rfl) hv2
       refine R.hdRep V V' (1+j) (1+j) o v2 ?_ hr;rw [Nat.add_comm 1 j,hV1 j hj]
    ·have hjl:j<ws.length+1:=by
      rcases Nat.lt_or_ge j (ws.length+1)with g | g
      ·exact g
      ·rw [List.getElem?_eq_none (by rw [List.length_append];exact g)]at ha;cases ha
     have hjw:j=ws.length:=by omega
     subst hjw;rw [List.getElem?_append_right (Nat.le_refl _),Nat.sub_self]at ha;rw [List.getElem?_append_right (by omega),hlen,Nat.sub_self]at hv2
     have ha:some (E.hd (1+ws.length) y)=some a:=ha;have hv2:some v=some v2:=hv2;cases ha;cases hv2;exact hv V' _ (by rw [Nat.add_comm];exact hV2)
  | j+1,he=>
    have he':aL (fD E (ws++ [y])) (j+1)=some e:=he;rw [hget1]at he';show aG.interp (obN tb N) V' (j+1) e (if j<ws.length then gs (j+1)else if j=ws.length then q else PHeap.emp)
    split at he'
    ·rename_i hj;rw [if_pos hj];have hj2:aL (fD E ws) (j+1)=some e:=by rw [cW];exact he'
     have hin:=g4 _ _ hj2;cases hwj:ws[j]? with
     | none=>rw [hwj]at he';cases he'
     | some s=>
       rw [hwj]at he';simp only [Option.map_some,sI']at he';subst he';exact R.enLoc N V V' (j+1) (j+1) s _ (hV1 j hj).symm hin
    ·rename_i hj;split at he'
     ·rename_i e2;subst e2;simp only [sI']at he';subst he';rw [if_neg hj,if_pos rfl];exact hx V' _ hV2
     ·cases he'
 ·intro l he;rw [htb]at he
  match l,he with
  | 0,he=>cases he
  | j+1,he=>
    have he':aL (fD E (ws++ [y])) (j+1)=none:=he;rw [hget1]at he';show(if j<ws.length then gs (j+1)else if j=ws.length then q else PHeap.emp)=_
    split at he'
    ·rename_i hj;rw [gE' hj]at he';cases he'
    ·rename_i hj;split at he'
     ·cases he'
     ·rename_i e2;rw [if_neg hj,if_neg e2]
 ·intro c o hh;obtain⟨m,hm⟩:=aKm hh;rcases char m c o hm with⟨_,a2,a3⟩ | ⟨j,_,_,a3⟩ | ⟨_,a2⟩
  ·exact .inl ⟨a2,a3⟩
  ·exact .inr (.inl ⟨ne0 j c o a3,hsub _ _ _ a3⟩)
  ·exact .inr (.inr a2)
end Go.Sh
namespace Go.Sh
open Go
variable [Con] {A:Type} {P:Program} {E:wT A} {tb:A->Nat×aC A}
theorem Inv.snocS(R:RowS tb E){V:Val}{h:aC A}{hR:PHeap}{w:World}{l q:Nat}{ws:List E.X}{y:E.X}(hi:Inv (obI tb) V (toF h) hR w)(hn:V h.length=none)
 (hl:aL h l=some (.abs (R.row ws) [])) (hq:aL h q=some (E.en y)) (hql:q≠l):
 ∃b k cs T rs tail,V l=some (b,k)/\w.heap[b]? =some (.cells cs T)/\cs.size=k/\cs.toList=rs++tail/\rs.length=ws.length/\
  ∀(v:Value) (w':World) (b' k':Nat) (cs':Array Value) (T':TypeId) (tail':List Value),Rep V (E.hd q y) v->
   cs'.toList=(rs++ [v])++tail'->cs'.size=k'->w'.heap[b']? =some (.cells cs' T')->(b'=b\/w.heap[b']? =none)->(∀c o,c≠b'->w.heap[c]? =some o->w'.heap[c]? =some o)->
   Inv (obI tb) (V.add h.length (b',k')) ((((toF h).put l none).put q none).put h.length (some (.abs (R.row (ws++ [y])) []))) hR w':=by
 have hll:=cB hl;have hqq:=cB hq;obtain⟨hs,h1,h2,h3,h4,h5,h6⟩:=hi;obtain⟨b,k,hV,bs,hlo,N,hob⟩:=h1 l _ hl;have hbs:bs=[]:=hlo;subst hbs;have hinq:=h1 q _ hq;obtain⟨N2,hinq2⟩:=l6 hinq;obtain⟨x,hx⟩:=pG hinq2;cases N with
 | zero=>exact hob.elim
 | succ N=>
 have hob2:=nI tb (show N+1<=max N N2+1 by omega) hob
 have hen:EnAt tb (max N N2) (E.en y) x (hs q):=fun V2 l2 e2=>R.enLoc _ V V2 q l2 y _ (hx.trans e2.symm) (aKo (fun t r bs p h=>nI tb (Nat.le_max_right N N2) h) hinq2);obtain⟨cs,T,rs,tail,a1,a2,a3,a4,a5⟩:=R.snoc (y:=y) hob2;refine⟨b,k,cs,T,rs,tail,hV,h5 l b _ a1,a2,a3,a4,?_⟩;intro v w' b' k' cs' T' tail' hv e1 e2 e3 e4 e5
 have out: ∀m,m≠l->hs m b'=none:=by
  intro m hm;rcases e4 with e | e
  ·subst e;rcases h3 l m (fun e=>hm e.symm) b' with d | d
   ·have a1':hs l b'=some (.cells cs T):=a1;rw [d]at a1';cases a1'
   ·exact d
  ·cases hh:hs m b' with
   | none=>rfl
   | some o=>have:=h5 m b' o hh;rw [e]at this;cases this
 have outR:hR b'=none:=by
  rcases e4 with e | e
  ·subst e;rcases h4 l b' with d | d
   ·have a1':hs l b'=some (.cells cs T):=a1;rw [d]at a1';cases a1'
   ·exact d
  ·cases hh:hR b' with
   | none=>rfl
   | some o=>have:=h6.1 b' o hh;rw [e]at this;cases this
 have hbp:b'=b\/hs l b'=none:=by
  rcases e4 with e | e
  ·exact .inl e
  ·right;cases hh:hs l b' with
   | none=>rfl
   | some o=>have:=h5 l b' o hh;rw [e]at this;cases this
 obtain⟨p',p1,p2⟩:=a5 x (hs q) b' k' cs' T' v tail' hen (h3 q l hql)
  (fun V2 l2 e=>R.hdRep V V2 q l2 y v (hx.trans e.symm) hv) e1 e2 hbp (out q hql)
 have hle:=aKh (x:=(b',k')) hn
 let hs':Nat->PHeap:=fun m=>if m=h.length then p' else if m=l then .emp else if m=q then .emp else hs m
 have hsO: ∀m,m≠h.length->m≠l->m≠q->hs' m=hs m:=by
  intro m m1 m2 m3;show(if m=h.length then p' else if m=l then .emp else if m=q then .emp else hs m)=_
  rw [if_neg m1,if_neg m2,if_neg m3]
 have hsN:hs' h.length=p':=if_pos rfl
 have hsE: ∀m,m≠h.length->(m=l\/m=q)->hs' m=.emp :=by
  intro m m1 m2;show(if m=h.length then p' else if m=l then .emp else if m=q then .emp else hs m)=_
  rw [if_neg m1];rcases m2 with m2 | m2
  ·rw [if_pos m2]
  ·by_cases m3:m=l
   ·rw [if_pos m3]
   ·rw [if_neg m3,if_pos m2]
 have part: ∀m,m≠h.length->(hs' m).disj p':=by
  intro m m1 c
  by_cases m2:m=l\/m=q
  ·rw [hsE m m1 m2];exact .inl rfl
  ·have m3:m≠l:=fun e=>m2 (.inl e);have m4:m≠q:=fun e=>m2 (.inr e);rw [hsO m m1 m3 m4];cases hp:p' c with
   | none=>exact .inr rfl
   | some o=>
     left;rcases p2 c o hp with⟨d,_⟩ | ⟨_,d⟩ | d
     ·rw [d];exact out m m3
     ·rcases h3 l m (fun e=>m3 e.symm) c with f | f
      ·rw [f]at d;cases d
      ·exact f
     ·rcases h3 q m (fun e=>m4 e.symm) c with f | f
      ·rw [f]at d;cases d
      ·exact f
 refine⟨hs',?_,?_,?_,?_,?_,?_,h6.2⟩
 ·intro m e he
  by_cases m1:m=h.length
  ·subst m1;simp only [bH.put,if_pos,sI']at he;subst he;rw [hsN];exact⟨b',k',aKa _ _ _,[],rfl,_,p1⟩
  ·by_cases m2:m=q
   ·subst m2;simp [bH.put,m1]at he
   ·by_cases m3:m=l
    ·subst m3;simp [bH.put,m1]at he
    ·simp only [bH.put,m1,m2,m3,if_false]at he;rw [hsO m m1 m3 m2];exact aKk hle (h1 m e he)
 ·intro m he
  by_cases m1:m=h.length
  ·subst m1;simp [bH.put]at he
  ·by_cases m2:m=l\/m=q
   ·exact hsE m m1 m2
   ·have m3:m≠l:=fun e=>m2 (.inl e);have m4:m≠q:=fun e=>m2 (.inr e);simp only [bH.put,m1,m3,m4,if_false]at he;rw [hsO m m1 m3 m4];exact h2 m he
 ·intro m m' hmm
  by_cases m1:m=h.length
  ·have m2:m'≠h.length:=fun e=>hmm (m1.trans e.symm);rw [m1,hsN];exact(part m' m2).symm
  ·by_cases m2:m'=h.length
   ·rw [m2,hsN];exact part m m1
   ·by_cases m3:m=l\/m=q
    ·rw [hsE m m1 m3];exact fun c=>.inl rfl
    ·by_cases m4:m'=l\/m'=q
     ·rw [hsE m' m2 m4];exact fun c=>.inr rfl
     ·rw [hsO m m1 (fun e=>m3 (.inl e)) (fun e=>m3 (.inr e)),hsO m' m2 (fun e=>m4 (.inl e)) (fun e=>m4 (.inr e))];exact h3 m m' hmm
 ·intro m c
  by_cases m1:m=h.length
  ·rw [m1,hsN];cases hp:p' c with
   | none=>exact .inl rfl
   | some o=>
     right;rcases p2 c o hp with⟨d,_⟩ | ⟨_,d⟩ | d
     ·rw [d];exact outR
     ·rcases h4 l c with f | f
      ·rw [f]at d;cases d
      ·exact f
     ·rcases h4 q c with f | f
      ·rw [f]at d;cases d
      ·exact f
  ·by_cases m2:m=l\/m=q
   ·rw [hsE m m1 m2];exact .inl rfl
   ·rw [hsO m m1 (fun e=>m2 (.inl e)) (fun e=>m2 (.inr e))];exact h4 m c
 ·intro m c o hh
  by_cases m1:m=h.length
  ·rw [m1,hsN]at hh;rcases p2 c o hh with⟨d,d2⟩ | ⟨d0,d⟩ | d
   ·rw [d,d2];exact e3
   ·refine e5 c o ?_ (h5 l c o d);intro ec;rcases hbp with f | f
    ·exact d0 (ec.trans f)
    ·rw [<-ec]at f;rw [f]at d;cases d
   ·refine e5 c o ?_ (h5 q c o d);intro ec;have:=out q hql;rw [<-ec]at this;rw [this]at d;cases d
  ·by_cases m2:m=l\/m=q
   ·rw [hsE m m1 m2]at hh;cases hh
   ·have m3:m≠l:=fun e=>m2 (.inl e);rw [hsO m m1 m3 (fun e=>m2 (.inr e))]at hh;refine e5 c o ?_ (h5 m c o hh);intro ec;have:=out m m3;rw [<-ec]at this;rw [this]at hh;cases hh
 ·intro c o hh;refine e5 c o ?_ (h6.1 c o hh);intro ec;rw [ec,outR]at hh;cases hh
end Go.Sh
