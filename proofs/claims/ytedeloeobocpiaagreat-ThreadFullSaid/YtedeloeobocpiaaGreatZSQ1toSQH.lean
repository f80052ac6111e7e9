import Derived.Test.YtedeloeobocpiaaGreatZFC1toSQ0
set_option linter.all false
set_option maxHeartbeats 8000000
namespace Go.Sh
open Go Go.Proofs
variable [Con]
structure Nd where
 a:Int
 k:Int
 m:Bool
def ch(n:Int)(xs:List Int):Int→List Nd→Prop
 | a,[]=>nxW (aB xs a)=0
 | a,b::L=>nxW (aB xs a)=b.a∧(1≤b.a∧b.a≤n)∧kyW (aB xs b.a)=b.k∧mkW (aB xs b.a)=b.m∧clW' (aB xs b.a)=0∧ch n xs b.a L
theorem jG{n:Int}{xs ys:List Int} : ∀ {L:List Nd} {a:Int},ch n xs a L→(∀b,b∈a::L.map Nd.a→aB ys b=aB xs b)→ch n ys a L
 | [],a,h,e=>by
   have h:nxW (aB xs a)=0:=h
   show nxW (aB ys a)=0
   rw [e a (List.mem_cons_self ..)];exact h
 | b::L,a,h,e=>by
   obtain⟨h1,h2,h3,h4,h5,h6⟩:=h
   have eb:=e b.a (by simp)
   refine⟨by rw [e a (by simp)];exact h1,h2,by rw [eb];exact h3,by rw [eb];exact h4,by rw [eb];exact h5,jG h6 (fun c hc=>e c ?_)⟩
   rw [List.map_cons]
   exact List.mem_cons_of_mem _ hc
def sc(k:Int):List Nd→List Nd×List Nd×List Nd
 | []=>([],[],[])
 | b::L=>bif b.m then((sc k L).1,b::(sc k L).2.1,(sc k L).2.2)else(if k≤b.k then([],[],b::L)else(b::(sc k L).1,(sc k L).2.1,(sc k L).2.2))
def hdN:List Nd→Int
 | []=>0
 | b::_=>b.a
def hdWd(xs:List Int):List Nd→Int
 | []=>0
 | b::_=>aB xs b.a
theorem FL{n:Int}{xs:List Int} : ∀ {L:List Nd} {a:Int},ch n xs a L→ ∀b∈L,1≤b.a∧b.a≤n
 | b::L,a,h,c,hc=>by
   rcases List.mem_cons.1 hc with e | e
   ·rw [e];exact h.2.1
   ·exact FL h.2.2.2.2.2 c e
theorem NX{n:Int}{xs:List Int} : ∀ {L:List Nd} {a:Int},ch n xs a L→nxW (aB xs a)=hdN L
 | [],a,h=>h
 | b::L,a,h=>h.1
theorem XF{n:Int}{xs:List Int}{a:Int}{L:List Nd}(h:ch n xs a L):ieq (hdN L) 0=L.isEmpty:=by
 cases L with
 | nil=>rfl
 | cons b L=>
   have:=h.2.1.1
   show ieq b.a 0=false
   rw [bN,beq_eq_false_iff_ne];omega
structure FC (t n p:Int) (L:List Nd) (x:FNS) (s:MS):Prop where
 ht:1≤t∧t≤1000
 hn:1≤n∧n≤1000
 len:(s.xs.length:Int)=2*n+5*t+6
 me:0≤x.me∧x.me<t
 hp:1≤p∧p≤n+4
 mp:mkW (aB s.xs p)=false
 cp:clW' (aB s.xs p)=0
 ch:ch n s.xs p L
 nd:(p::L.map Nd.a).Nodup
 mv:0≤x.moved∧x.moved+L.length≤n
structure JH (n p:Int) (L:List Nd) (x:FNS) (s:MS) (z:FNS) (s':MS) (j:Nat):Prop where
 ch:ch n s'.xs p ((sc x.key L).1++(sc x.key L).2.2)
 pred:z.pred=((sc x.key L).1.map Nd.a).getLastD p
 pw:z.pw=aB s'.xs z.pred
 curr:z.curr=hdN (sc x.key L).2.2
 cw:z.cw=hdWd s'.xs (sc x.key L).2.2
 ul:z.ul=x.ul++(sc x.key L).2.1.map Nd.a
 tries:z.tries=x.tries
 ab:z.ab=x.ab
 me:z.me=x.me
 same: ∀a,a≠2*n+5+2*x.me→a≠2*n+5+2*x.me+1→a∉p::(sc x.key L).1.map Nd.a→aB s'.xs a=aB s.xs a
 p3:kyW (aB s'.xs p)=kyW (aB s.xs p)∧mkW (aB s'.xs p)=mkW (aB s.xs p)∧clW' (aB s'.xs p)=clW' (aB s.xs p)
 t:s'.t=s.t
 n:s'.n=s.n
 c:s'.c=s.c+j
 len:s'.xs.length=s.xs.length
 okw:okW s.xs→okW s'.xs
theorem nG{t n:Int}{x:FNS}{s:MS}{d:Bool}{x':FNS}{s':MS}(h:fnF t n x s=⟨d,x',s'⟩):A9 t n (x,s)=(d,(x',s')):=by
 unfold A9;rw [h]
theorem PV(s:MS)(a:Int):(s.loadd a).xs =s.xs:=rfl
theorem mU{s:MS}{a v w:Int}(h:aT s.xs a v=true):(s.cased a v w).xs =aK s.xs a w:=by
 unfold MS.cased MS.did;rw [h];rfl
theorem kF{k:Int}{b:Nd}{L:List Nd}(hm:b.m=false)(hk:k≤b.k):sc k (b::L)=([],[],b::L):=by
 show(bif b.m then _ else _)=_;rw [hm];exact if_pos hk
theorem iY{k:Int}{b:Nd}{L:List Nd}(hm:b.m=false)(hk:b.k<k):sc k (b::L)=(b::(sc k L).1,(sc k L).2.1,(sc k L).2.2):=by
 show(bif b.m then _ else _)=_;rw [hm];exact if_neg (by omega)
theorem kE{k:Int}{b:Nd}{L:List Nd}(hm:b.m=true):sc k (b::L)=((sc k L).1,b::(sc k L).2.1,(sc k L).2.2):=by
 show(bif b.m then _ else _)=_;rw [hm];rfl
theorem AS(k:Int): ∀L:List Nd,((sc k L).1++(sc k L).2.2).Sublist L
 | []=>List.Sublist.slnil
 | b::L=>by
   cases hm:b.m with
   | true=>rw [kE hm];exact List.Sublist.cons _ (AS k L)
   | false=>
     by_cases hk:k≤b.k
     ·rw [kF hm hk];exact List.Sublist.refl _
     ·rw [iY hm (by omega)];exact List.Sublist.cons₂ _ (AS k L)
theorem JH.nil{n p:Int}{x:FNS}{s:MS}(h2:x.pred=p)(h3:x.pw=aB s.xs p)(h4:x.curr=0)(h5:x.cw=0)(hz:nxW (aB s.xs p)=0):JH n p [] x s x s 0 where
 ch:=hz
 pred:=h2
 pw:=by rw [h2];exact h3
 curr:=h4
 cw:=h5
 ul:=by simp [sc]
 tries:=rfl
 ab:=rfl
 me:=rfl
 same:=fun _ _ _ _=>rfl
 p3:=⟨rfl,rfl,rfl⟩
 t:=rfl
 n:=rfl
 c:=by simp
 len:=rfl
 okw:=id
theorem JH.pre{n p:Int}{L:List Nd}{x x1:FNS}{s s1:MS}{z:FNS}{s':MS}{j:Nat}(h:JH n p L x1 s1 z s' j)(hx:s1.xs=s.xs)(hc:s1.c=s.c+1)(ht:s1.t=s.t)(hn:s1.n=s.n)
 (k:x1.key=x.key) (u:x1.ul=x.ul) (tr:x1.tries=x.tries) (ab:x1.ab=x.ab) (me:x1.me=x.me):JH n p L x s z s' (j+1) where
 ch:=by have:=h.ch;rw [k]at this;exact this
 pred:=by have:=h.pred;rw [k]at this;exact this
 pw:=h.pw
 curr:=by have:=h.curr;rw [k]at this;exact this
 cw:=by have:=h.cw;rw [k]at this;exact this
 ul:=by have:=h.ul;rw [k,u]at this;exact this
 tries:=h.tries.trans tr
 ab:=h.ab.trans ab
 me:=h.me.trans me
 same:=by have:=h.same;rw [k,me,hx]at this;exact this
 p3:=by have:=h.p3;rw [hx]at this;exact this
 t:=h.t.trans ht
 n:=h.n.trans hn
 c:=by rw [h.c,hc];omega
 len:=by rw [h.len,hx]
 okw:=by rw [←hx];exact h.okw
def GS(t n:Int)(L:List Nd):Prop:= ∀(p:Int) (x:FNS) (s:MS),x.at'=1→x.pred=p→x.pw=aB s.xs p→x.curr=hdN L→x.cw=0→L≠ []→FC t n p L x s→
    ∃j z s',(∀lim,End (A9 t n) j ({x with limit:=lim},s) ({z with limit:=lim},s'))∧JH n p L x s z s' j∧j≤5*L.length
def VS(t n:Int)(L:List Nd):Prop:= ∀(p:Int) (x:FNS) (s:MS),x.at'=0→x.pred=p→FC t n p L x s→
    ∃j z s',(∀lim,End (A9 t n) j ({x with limit:=lim},s) ({z with limit:=lim},s'))∧JH n p L x s z s' j∧j≤5*L.length+1
theorem aFc{t n:Int}{L:List Nd}(hg:GS t n L):VS t n L:=by
 intro p x s h1 h2 hc
 subst h2
 have hv: ∀lim,A9 t n ({x with limit:=lim},s)=(L.isEmpty,({x with pw:=aB s.xs x.pred,curr:=hdN L,cw:=0,at':=1,cl:=bE,limit:=lim},s.loadd x.pred)):=by
  intro lim
  have:=nG (OZ (t:=t) (n:=n) (x:= {x with limit:=lim}) (s:=s) h1 hc.mp)
  rw [this]
  have e:=NX hc.ch
  simp only [e,XF hc.ch]
 cases L with
 | nil=>exact⟨1,{x with pw:=aB s.xs x.pred,curr:=0,cw:=0,at':=1,cl:=bE},s.loadd x.pred,fun lim=>End.one (hv lim),(JH.nil (x:= {x with pw:=aB s.xs x.pred,curr:=0,cw:=0,at':=1,cl:=bE}) (s:=s.loadd x.pred) rfl rfl rfl rfl hc.ch).pre rfl rfl rfl rfl rfl rfl rfl rfl rfl,by simp⟩
 | cons b L=>
   obtain⟨j,z,s',e,f,hl⟩:=hg x.pred {x with pw:=aB s.xs x.pred,curr:=hdN (b::L),cw:=0,at':=1,cl:=bE} (s.loadd x.pred) rfl rfl rfl rfl rfl (by simp) ⟨hc.ht,hc.hn,hc.len,hc.me,hc.hp,hc.mp,hc.cp,hc.ch,hc.nd,hc.mv⟩
   exact⟨j+1,z,s',fun lim=>End.cons (hv lim) (e lim),f.pre rfl rfl rfl rfl rfl rfl rfl rfl rfl,by omega⟩
theorem jP{L M:List Nd}(h:L.Sublist M){a:Int}(ha:a∈L.map Nd.a):a∈M.map Nd.a:=(h.map Nd.a).subset ha
theorem uR(k:Int)(L:List Nd):(sc k L).1.Sublist L:=(List.sublist_append_left _ _).trans (AS k L)
theorem Z6{t n:Int} : ∀L:List Nd,GS t n L:=by
 intro L
 induction L with
 | nil=>intro p x s _ _ _ _ _ h;exact absurd rfl h
 | cons b L ih=>
   intro p x s h1 h2 h3 h4 h0 _ hc
   subst h2
   obtain⟨ht,hn,len,me,hp,mp,cp,hch,nd,mv⟩:=hc
   obtain⟨c1,c2,c3,c4,c5,c6⟩:=hch
   have h4:x.curr=b.a:=h4
   have hb:b.a≠x.pred:=by
    intro e;rw [List.map_cons,List.nodup_cons]at nd;exact nd.1 (by rw [e];exact List.mem_cons_self ..)
   have nd':(b.a::L.map Nd.a).Nodup :=by rw [List.map_cons,List.nodup_cons]at nd;exact nd.2
   have hpL:x.pred∉L.map Nd.a:=by
    intro e;rw [List.map_cons,List.nodup_cons]at nd;exact nd.1 (List.mem_cons_of_mem _ e)
   have hbL:b.a∉L.map Nd.a:=(List.nodup_cons.1 nd').1
   have hLr:=FL c6
   have hLs: ∀a,a∈L.map Nd.a→1≤a∧a≤n:=by
    intro a ha
    obtain⟨c,hc,rfl⟩:=List.mem_map.1 ha
    exact hLr c hc
   have mv2:x.moved+1≤n:=by have:=mv.2;simp only [List.length_cons]at this;omega
   let q1:=2*n+5+2*x.me+1
   have hq1:q1=2*n+5+2*x.me+1:=rfl
   let s1:=s.stored q1 (WU x.curr)
   have e1: ∀lim,A9 t n ({x with limit:=lim},s)=(false,({x with at':=2,cl:=bE,limit:=lim},s1)):=fun lim=>nG (OX (x:= {x with limit:=lim}) h1)
   have x1: ∀a,a≠q1→aB s1.xs a=aB s.xs a:=fun a ha=>cI ha
   have e2: ∀lim,A9 t n ({x with at':=2,cl:=bE,limit:=lim},s1)=(false,({x with at':=3,cl:=bE,limit:=lim},s1.loadd x.pred)):=fun lim=>
    nG (OW (x:= {x with at':=2,cl:=bE,limit:=lim}) rfl ((x1 x.pred (by omega)).trans h3.symm))
   let s2:=s1.loadd x.pred
   have x2: ∀a,a≠q1→aB s2.xs a=aB s.xs a:=x1
   have hcw:aB s2.xs x.curr=aB s.xs b.a:=by rw [h4];exact x2 _ (by omega)
   let s3:=s2.loadd x.curr
   have x3: ∀a,a≠q1→aB s3.xs a=aB s.xs a:=x1
   have l3:s3.xs.length=s.xs.length:=b9 _ _ _
   have hw:0≤WU x.curr∧WU x.curr≤18446744073709551615:=rV _
   have w3:okW s.xs→okW s3.xs:=fun h=>eB h hw
   have start: ∀ {k:Nat} {z:FNS×MS} (lim:Int),End (A9 t n) k ({x with at':=3,cl:=bE,limit:=lim},s2) z→End (A9 t n) (k+3 - 1) ({x with limit:=lim},s) z:=by
    intro k z lim h
    have:=End.cons (e1 lim) (End.cons (e2 lim) h)
    exact this
   cases hm:b.m with
   | false=>
     have hm':mkW (aB s2.xs x.curr)=false:=by rw [hcw,c4];exact hm
     by_cases hk:x.key≤b.k
     ·
      have e3: ∀lim,A9 t n ({x with at':=3,cl:=bE,limit:=lim},s2)=(true,({x with at':=3,cl:=bE,limit:=lim,cw:=aB s2.xs x.curr},s3)):=fun lim=>
       nG (OY (x:= {x with at':=3,cl:=bE,limit:=lim}) rfl hm' (by show x.key≤kyW (aB s2.xs x.curr);rw [hcw,c3];exact hk))
      refine⟨3,{x with at':=3,cl:=bE,cw:=aB s2.xs x.curr},s3,fun lim=>start lim (End.one (e3 lim)),?_,by simp only [List.length_cons];omega⟩
      have es:sc x.key (b::L)=([],[],b::L):=kF hm hk
      refine {ch:=?_,pred:=by simp only [es];rfl,pw:=?_,curr:=by simp only [es];exact h4,cw:=?_,ul:=by simp only [es];simp,tries:=rfl,ab:=rfl,me:=rfl,same:=?_,p3:=?_,t:=rfl,n:=rfl,c:=?_,len:=l3,okw:=w3}
      ·simp only [es]
       refine jG (xs:=s.xs) ⟨c1,c2,c3,c4,c5,c6⟩ (fun a ha=>x3 a ?_)
       have ha:a∈x.pred::b.a::L.map Nd.a:=ha
       rcases List.mem_cons.1 ha with e | e
       ·omega
       ·rcases List.mem_cons.1 e with e | e
        ·omega
        ·have:=hLs a e;omega
      ·exact h3.trans (x3 _ (by omega)).symm
      ·simp only [es]
       show aB s2.xs x.curr=aB s3.xs b.a
       rw [h4];rfl
      ·intro a _ ha _;exact x3 a ha
      ·rw [x3 _ (by omega)];exact⟨rfl,rfl,rfl⟩
      ·show s.c+1+1+1=s.c+((3:Nat):Int);omega
     ·
      have hk2:b.k<x.key:=by omega
      have e3: ∀lim,A9 t n ({x with at':=3,cl:=bE,limit:=lim},s2)=(false,({x with at':=6,cl:=bE,limit:=lim,cw:=aB s2.xs x.curr},s3)):=fun lim=>
       nG (T7 (x:= {x with at':=3,cl:=bE,limit:=lim}) rfl hm' (by show kyW (aB s2.xs x.curr)<x.key;rw [hcw,c3];exact hk2))
      let q0:=2*n+5+2*x.me+0
      have hq0:q0=2*n+5+2*x.me:=by show 2*n+5+2*x.me+0=_;omega
      let s4:=s3.stored q0 (WU x.curr)
      have e4: ∀lim,A9 t n ({x with at':=6,cl:=bE,limit:=lim,cw:=aB s2.xs x.curr},s3)=(false,({x with at':=0,cl:=bE,limit:=lim,cw:=aB s2.xs x.curr,pred:=x.curr,moved:=x.moved+1},s4)):=fun lim=>
       nG (T9 (x:= {x with at':=6,cl:=bE,limit:=lim,cw:=aB s2.xs x.curr}) rfl hn.2 ⟨mv.1,mv2⟩)
      have x4: ∀a,a≠q1→a≠q0→aB s4.xs a=aB s.xs a:=fun a h1 h0=>(cI h0).trans (x3 a h1)
      have l4:s4.xs.length=s.xs.length:=(b9 _ _ _).trans l3
      have fc:FC t n b.a L {x with at':=0,cl:=bE,cw:=aB s2.xs x.curr,pred:=x.curr,moved:=x.moved+1} s4:=by
       refine⟨ht,hn,by rw [l4];exact len,me,by omega,?_,?_,?_,nd',?_⟩
       ·rw [x4 _ (by omega) (by omega),c4];exact hm
       ·rw [x4 _ (by omega) (by omega)];exact c5
       ·refine jG c6 (fun a ha=>x4 a ?_ ?_)
        all_goals
         rcases List.mem_cons.1 ha with e | e
         ·omega
         ·have:=hLs a e;omega
       ·have:=mv.2
        simp only [List.length_cons]at this
        exact⟨by show 0≤x.moved+1;omega,by show x.moved+1+L.length≤n;omega⟩
      obtain⟨j,z,s',e,f,hl⟩:=aFc ih b.a {x with at':=0,cl:=bE,cw:=aB s2.xs x.curr,pred:=x.curr,moved:=x.moved+1} s4 rfl h4 fc
      have es:sc x.key (b::L)=(b::(sc x.key L).1,(sc x.key L).2.1,(sc x.key L).2.2):=iY hm hk2
      have hA: ∀a,a∈(sc x.key L).1.map Nd.a→a∈L.map Nd.a:=fun a=>jP (uR _ _)
      have hpz:aB s'.xs x.pred=aB s.xs x.pred:=by
       rw [f.same x.pred (by show x.pred≠2*n+5+2*x.me;omega) (by show x.pred≠2*n+5+2*x.me+1;omega) ?_,x4 _ (by omega) (by omega)]
       intro hh
       rcases List.mem_cons.1 hh with e | e
       ·exact hb e.symm
       ·exact hpL (hA _ e)
      refine⟨j+4,z,s',fun lim=>?_,?_,by simp only [List.length_cons];omega⟩
      ·have:=start lim (End.cons (e3 lim) (End.cons (e4 lim) (e lim)))
       exact this
      ·refine {ch:=?_,pred:=?_,pw:=f.pw,curr:=by simp only [es];exact f.curr,cw:=by simp only [es];exact f.cw,ul:=by simp only [es];exact f.ul,tries:=f.tries,ab:=f.ab,me:=f.me,same:=?_,p3:=by rw [hpz];exact⟨rfl,rfl,rfl⟩,t:=f.t,n:=f.n,c:=?_,len:=f.len.trans l4,okw:=fun h=>f.okw (eB (w3 h) hw) }
       ·simp only [es]
        refine⟨by rw [hpz];exact c1,c2,?_,?_,?_,f.ch⟩
        ·rw [f.p3.1,x4 _ (by omega) (by omega)];exact c3
        ·rw [f.p3.2.1,x4 _ (by omega) (by omega)];exact c4
        ·rw [f.p3.2.2,x4 _ (by omega) (by omega)];exact c5
       ·simp only [es,List.map_cons]
        rw [f.pred,List.getLastD_cons]
       ·intro a h0 h1 ha
        simp only [es,List.map_cons]at ha
        rw [f.same a h0 h1 (fun hh=>ha (List.mem_cons_of_mem _ hh)),x4 a h1 (by omega)]
       ·rw [f.c];show s.c+1+1+1+1+(j:Int)=s.c+((j+4:Nat):Int);omega
   | true=>
     have hm':mkW (aB s2.xs x.curr)=true:=by rw [hcw,c4];exact hm
     have e3: ∀lim,A9 t n ({x with at':=3,cl:=bE,limit:=lim},s2)=(false,({x with at':=5,cl:=bE,limit:=lim,cw:=aB s2.xs x.curr},s3)):=fun lim=>
      nG (T8 (x:= {x with at':=3,cl:=bE,limit:=lim}) rfl hm' (by show clW' (aB s2.xs x.curr)=0;rw [hcw];exact c5) (by show clW' x.pw=0;rw [h3];exact cp))
     have hpw3:aB s3.xs x.pred=x.pw:=(x3 _ (by omega)).trans h3.symm
     have hin:0≤x.pred∧x.pred<s3.xs.length:=by rw [l3];omega
     let w:=lnkW x.pw (aB s2.xs x.curr)
     let s4:=s3.cased x.pred x.pw w
     have hcas:=i6 hin hpw3
     have s4x:s4.xs=aK s3.xs x.pred w:=mU hcas
     have hnx:nxW (aB s2.xs x.curr)=hdN L:=by rw [hcw];exact NX c6
     have e4: ∀lim,A9 t n ({x with at':=5,cl:=bE,limit:=lim,cw:=aB s2.xs x.curr},s3)=(L.isEmpty,({x with pw:=w,curr:=hdN L,cw:=0,ul:=x.ul++ [x.curr],at':=1,moved:=x.moved+1,cl:=bE,limit:=lim},s4)):=by
      intro lim
      have:=nG (K4 (t:=t) (x:= {x with at':=5,cl:=bE,limit:=lim,cw:=aB s2.xs x.curr}) (s:=s3) rfl hn.2 ⟨mv.1,mv2⟩ hin hpw3 (by show mkW x.pw=false;rw [h3];exact mp))
      rw [this]
      simp only [hnx,XF c6]
      rfl
     have x4p:aB s4.xs x.pred=w:=by rw [s4x,dP hin]
     have x4: ∀a,a≠q1→a≠x.pred→aB s4.xs a=aB s.xs a:=fun a h1 h0=>by rw [s4x,cI h0];exact x3 a h1
     have l4:s4.xs.length=s.xs.length:=by rw [s4x,b9];exact l3
     have hwf:=GN x.pw (aB s2.xs x.curr)
     have wk:kyW w=kyW (aB s.xs x.pred):=(vB hwf).trans (by rw [h3])
     have wn:nxW w=nxW (aB s2.xs x.curr):=tG hwf
     have wm:mkW w=mkW (aB s.xs x.pred):=(oY hwf).trans (by rw [h3])
     have wc:clW' w=clW' (aB s.xs x.pred):=(p9 hwf).trans (by rw [h3])
     have w4:okW s.xs→okW s4.xs:=fun h=>by rw [s4x];exact eB (w3 h) (mF hwf)
     have hch4:ch n s4.xs x.pred L:=by
      cases L with
      | nil=>show nxW (aB s4.xs x.pred)=0;rw [x4p,wn];exact hnx
      | cons b2 L2=>
        obtain⟨d1,d2,d3,d4,d5,d6⟩:=c6
        have hb2:b2.a≠x.pred:=by intro e;exact hpL (by rw [←e];simp)
        refine⟨by rw [x4p,wn];exact hnx,d2,?_,?_,?_,jG d6 (fun a ha=>x4 a ?_ ?_)⟩
        ·rw [x4 _ (by omega) hb2];exact d3
        ·rw [x4 _ (by omega) hb2];exact d4
        ·rw [x4 _ (by omega) hb2];exact d5
        ·have:=hLs a (by rw [List.map_cons];exact ha);omega
        ·intro e;rw [e]at ha;exact hpL (by rw [List.map_cons];exact ha)
     have es:sc x.key (b::L)=((sc x.key L).1,b::(sc x.key L).2.1,(sc x.key L).2.2):=kE hm
     let x4':FNS:= {x with pw:=w,curr:=hdN L,cw:=0,ul:=x.ul++ [x.curr],at':=1,moved:=x.moved+1,cl:=bE}
     have rest: ∃j z s',(∀lim,End (A9 t n) (j+1) ({x with at':=5,cl:=bE,limit:=lim,cw:=aB s2.xs x.curr},s3) ({z with limit:=lim},s'))∧JH n x.pred L x4' s4 z s' j∧j≤5*L.length:=by
      cases L with
      | nil=>exact⟨0,x4',s4,fun lim=>End.one (e4 lim),JH.nil rfl x4p.symm rfl rfl hch4,by simp⟩
      | cons b2 L2=>
        obtain⟨j,z,s',e,f,hl⟩:=ih x.pred x4' s4 rfl rfl x4p.symm rfl rfl (by simp) ⟨ht,hn,by rw [l4];exact len,me,hp,by rw [x4p,wm];exact mp,by rw [x4p,wc];exact cp,hch4,List.nodup_cons.2 ⟨hpL,(List.nodup_cons.1 nd').2⟩,⟨by show 0≤x.moved+1;omega,by have:=mv.2;simp only [List.length_cons]at this⊢;show x.moved+1+((L2.length+1:Nat):Int)≤n;omega⟩⟩
        exact⟨j,z,s',fun lim=>End.cons (e4 lim) (e lim),f,hl⟩
     obtain⟨j,z,s',e,f,hl⟩:=rest
     refine⟨j+4,z,s',fun lim=>?_,?_,by simp only [List.length_cons];omega⟩
     ·have:=start lim (End.cons (e3 lim) (e lim))
      exact this
     ·refine {ch:=by simp only [es];exact f.ch,pred:=by simp only [es];exact f.pred,pw:=f.pw,curr:=by simp only [es];exact f.curr,cw:=by simp only [es];exact f.cw,ul:=?_,tries:=f.tries,ab:=f.ab,me:=f.me,same:=?_,p3:=?_,t:=f.t,n:=f.n,c:=?_,len:=f.len.trans l4,okw:=fun h=>f.okw (w4 h) }
      ·simp only [es]
       rw [f.ul]
       show x.ul++ [x.curr]++_=_
       rw [h4,List.append_assoc];rfl
      ·intro a h0 h1 ha
       simp only [es]at ha
       rw [f.same a h0 h1 ha,x4 a h1 (fun e=>ha (by rw [e];exact List.mem_cons_self ..))]
      ·have:=f.p3
       rw [x4p]at this
       exact⟨this.1.trans wk,this.2.1.trans wm,this.2.2.trans wc⟩
      ·rw [f.c];show s.c+1+1+1+1+(j:Int)=s.c+((j+4:Nat):Int);omega
theorem OT{t n:Int}(L:List Nd):VS t n L:=aFc (Z6 L)
inductive Pa where
 | now (b:Bool)
 | link
 | mark (v:Int)
 | pop (v:Int)
def fndB(ky:Int):List Nd→Bool
 | []=>false
 | b::_=>ieq b.k ky
def paOf(sh kd ky:Int)(B:List Nd):Pa:=
 if kd=4 then .link else if kd=1 then(bif fndB ky B then .now false else .link)else if kd=2 then(bif fndB ky B then .mark 0 else .now false)else if kd=3 then .now (fndB ky B)else
 match B with
 | []=>.now false
 | b::_=>if sh=4 then .pop b.k else .mark b.k
def Pa.ok:Pa→Bool
 | .now b=>b
 | _=>true
def Pa.val:Pa→Int
 | .mark v=>v
 | .pop v=>v
 | _=>0
def Pa.new(ky sp:Int)(B:List Nd):Pa→List Nd
 | .now _=>B
 | .link =>⟨sp,ky,false⟩::B
 | .mark _=>(match B with | []=>[] | b::B'=>⟨b.a,b.k,true⟩::B')
 | .pop _=>B.tail
def Pa.sp(sp:Int):Pa→Int
 | .link =>0
 | _=>sp
def Pa.pops(B:List Nd):Pa→List Int
 | .pop _=>[hdN B]
 | _=>[]
def Pa.plan(pred pw curr cw sp:Int):Pa→PLN
 | .now b=>⟨true,0,b,0,0,0,0,false,0⟩
 | .link =>⟨false,0,true,0,pred,pw,sp,mkW pw,0⟩
 | .mark v=>⟨false,0,true,v,curr,cw,nxW cw,true,0⟩
 | .pop v=>⟨false,0,true,v,pred,pw,nxW cw,mkW pw,curr⟩
theorem aAe{ky cw:Int}{B:List Nd}(h: ∀b B',B=b::B'→b.a≠0∧kyW cw=b.k):fU ky (hdN B) cw=fndB ky B:=by
 cases B with
 | nil=>rfl
 | cons b B'=>
   obtain⟨h1,h2⟩:=h b B' rfl
   show(bif ieq b.a 0 then _ else ieq (aA cw 0 10) ky)=ieq b.k ky
   have h2:aA cw 0 10=b.k:=h2
   rw [h2]
   have:ieq b.a 0=false:=by rw [bN,beq_eq_false_iff_ne];exact h1
   rw [this];rfl
theorem VN{sh kd ky pred pw cw sp:Int}{B:List Nd}(hr:aZ sh kd ky=true)(h: ∀b B',B=b::B'→b.a≠0∧kyW cw=b.k):aJ sh kd ky pred pw (hdN B) cw sp=(paOf sh kd ky B).plan pred pw (hdN B) cw sp:=by
 have hk:=eD.1 hr
 have he:=aAe (ky:=ky) h
 have n4: ∀a b:Int,a≠b→ieq a b=false:=fun a b h=>by rw [bN,beq_eq_false_iff_ne];exact h
 have kk:kd=1∨kd=2∨kd=3∨kd=4∨kd=5:=by omega
 unfold aJ yJ paOf
 simp only [Tr.val,hr,Bool.not_true,cond_false,he]
 rcases kk with e | e | e | e | e<;>subst e
 ·simp only [n4 1 4 (by decide),bZ,n4 1 2 (by decide),n4 1 5 (by decide),n4 1 3 (by decide),cond_false,cond_true]
  cases fndB ky B<;>rfl
 ·simp only [n4 2 4 (by decide),bZ,n4 2 1 (by decide),n4 2 5 (by decide),n4 2 3 (by decide),cond_false,cond_true]
  cases fndB ky B<;>rfl
 ·simp only [n4 3 4 (by decide),bZ,n4 3 1 (by decide),n4 3 5 (by decide),n4 3 2 (by decide),cond_false,cond_true]
  rfl
 ·simp only [bZ,cond_true]
  rfl
 ·simp only [n4 5 4 (by decide),bZ,n4 5 1 (by decide),n4 5 3 (by decide),n4 5 2 (by decide),cond_false,cond_true]
  cases B with
  | nil=>rfl
  | cons b B'=>
    obtain⟨h1,h2⟩:=h b B' rfl
    have h2:aA cw 0 10=b.k:=h2
    have h3:ieq (hdN (b::B')) 0=false:=n4 _ _ h1
    simp only [h3,h2,nV,bZ,Bool.true_and,cond_false]
    by_cases hs:sh=4
    ·subst hs;rfl
    ·rw [n4 sh 4 hs]
     show _=Pa.plan _ _ _ _ _ (if (5:Int)=4 then _ else _)
     simp only [if_neg hs]
     rfl
theorem AF{sh kd ky:Int}{B:List Nd}(h:paOf sh kd ky B=.link):bI kd=true:=by
 unfold paOf at h
 by_cases e4:kd=4
 ·subst e4;rfl
 ·rw [if_neg e4]at h
  by_cases e1:kd=1
  ·subst e1;rfl
  ·exfalso
   rw [if_neg e1]at h
   split at h
   ·cases hb:fndB ky B<;>rw [hb]at h<;>cases h
   ·split at h
    ·cases h
    ·split at h
     ·cases h
     ·split at h<;>cases h
theorem v8{sh kd ky:Int}{B:List Nd}(h:bI kd=true):paOf sh kd ky B=.link ∨ ∃b,paOf sh kd ky B=.now b:=by
 unfold bI at h
 unfold paOf
 by_cases e4:kd=4
 ·rw [if_pos e4];exact .inl rfl
 ·by_cases e1:kd=1
  ·rw [if_neg e4,if_pos e1]
   cases fndB ky B
   ·exact .inl rfl
   ·exact .inr ⟨_,rfl⟩
  ·exfalso
   simp only [bN,Bool.or_eq_true,beq_iff_eq]at h
   omega
theorem AG{sh kd ky v:Int}{B:List Nd}(h:paOf sh kd ky B=.mark v): ∃b B',B=b::B':=by
 cases B with
 | cons b B'=>exact⟨b,B',rfl⟩
 | nil=>
   exfalso
   unfold paOf at h
   simp only [show fndB ky []=false from rfl,cond_false]at h
   repeat' split at h
   all_goals cases h
theorem P5{sh kd ky v:Int}{B:List Nd}(h:paOf sh kd ky B=.pop v): ∃b B',B=b::B':=by
 cases B with
 | cons b B'=>exact⟨b,B',rfl⟩
 | nil=>
   exfalso
   unfold paOf at h
   simp only [show fndB ky []=false from rfl,cond_false]at h
   repeat' split at h
   all_goals cases h
theorem uE{n:Int}{xs ys:List Int} : ∀ {L:List Nd} {a a':Int},ch n xs a L→nxW (aB ys a')=nxW (aB xs a)→(∀c,c∈L.map Nd.a→aB ys c=aB xs c)→ch n ys a' L
 | [],a,a',h,e,_=>e.trans h
 | b::L,a,a',h,e,f=>by
   obtain⟨h1,h2,h3,h4,h5,h6⟩:=h
   have eb:=f b.a (by simp)
   exact⟨e.trans h1,h2,by rw [eb];exact h3,by rw [eb];exact h4,by rw [eb];exact h5,uE h6 (by rw [eb]) (fun c hc=>f c (by rw [List.map_cons];exact List.mem_cons_of_mem _ hc))⟩
theorem BU{n:Int}{xs:List Int}{B:List Nd} : ∀ {A:List Nd} {p:Int},ch n xs p (A++B)→ch n xs ((A.map Nd.a).getLastD p) B
 | [],p,h=>h
 | b::A,p,h=>by
   rw [List.map_cons,List.getLastD_cons]
   exact BU h.2.2.2.2.2
theorem vS(p:Int): ∀A:List Int,A.getLastD p∈p::A
 | []=>List.mem_cons_self ..
 | b::A=>by
   rw [List.getLastD_cons]
   exact List.mem_cons_of_mem _ (vS b A)
theorem uF{n:Int}{xs ys:List Int}{B B':List Nd} : ∀ {A:List Nd} {p:Int},ch n xs p (A++B)→(p::A.map Nd.a).Nodup →
 (∀c,c∈p::A.map Nd.a→c≠(A.map Nd.a).getLastD p→aB ys c=aB xs c)→
 (kyW (aB ys ((A.map Nd.a).getLastD p))=kyW (aB xs ((A.map Nd.a).getLastD p))∧mkW (aB ys ((A.map Nd.a).getLastD p))=mkW (aB xs ((A.map Nd.a).getLastD p))∧clW' (aB ys ((A.map Nd.a).getLastD p))=clW' (aB xs ((A.map Nd.a).getLastD p)))→
 ch n ys ((A.map Nd.a).getLastD p) B'→ch n ys p (A++B')
 | [],p,h,_,_,_,hb=>hb
 | b::A,p,h,nd,e,l3,hb=>by
   rw [List.map_cons,List.getLastD_cons]at e l3 hb
   obtain⟨h1,h2,h3,h4,h5,h6⟩:=h
   have nd':(b.a::A.map Nd.a).Nodup :=by rw [List.map_cons]at nd;exact(List.nodup_cons.1 nd).2
   have hp:p≠(A.map Nd.a).getLastD b.a:=by
    intro e;rw [List.map_cons]at nd
    exact(List.nodup_cons.1 nd).1 (by have:=vS b.a (A.map Nd.a);rw [←e]at this;exact this)
   have hb3:kyW (aB ys b.a)=kyW (aB xs b.a)∧mkW (aB ys b.a)=mkW (aB xs b.a)∧clW' (aB ys b.a)=clW' (aB xs b.a):=by
    by_cases hl:b.a=(A.map Nd.a).getLastD b.a
    ·rw [←hl]at l3;exact l3
    ·rw [e b.a (List.mem_cons_of_mem _ (List.mem_cons_self ..)) hl];exact⟨rfl,rfl,rfl⟩
   refine⟨by rw [e p (List.mem_cons_self ..) hp];exact h1,h2,hb3.1.trans h3,hb3.2.1.trans h4,hb3.2.2.trans h5,uF h6 nd' (fun c hc hl=>e c (List.mem_cons_of_mem _ hc) hl) l3 hb⟩
theorem HT{n:Int}{xs:List Int}{B:List Nd} : ∀ {A:List Nd} {p:Int},ch n xs p (A++B)→clW' (aB xs p)=0→mkW (aB xs p)=false→(∀b∈A,b.m=false)→clW' (aB xs ((A.map Nd.a).getLastD p))=0∧mkW (aB xs ((A.map Nd.a).getLastD p))=false
 | [],p,_,c,m,_=>⟨c,m⟩
 | b::A,p,h,_,_,hm=>by
   rw [List.map_cons,List.getLastD_cons]
   obtain⟨h1,h2,h3,h4,h5,h6⟩:=h
   exact HT h6 h5 (h4.trans (hm b (List.mem_cons_self ..))) (fun c hc=>hm c (List.mem_cons_of_mem _ hc))
theorem yP(k:Int): ∀L:List Nd,∀b∈(sc k L).1,b.m=false
 | [],b,h=>by cases h
 | c::L,b,h=>by
   cases hm:c.m with
   | true=>rw [kE hm]at h;exact yP k L b h
   | false=>
     by_cases hk:k≤c.k
     ·rw [kF hm hk]at h;cases h
     ·rw [iY hm (by omega)]at h
      rcases List.mem_cons.1 h with e | e
      ·rw [e];exact hm
      ·exact yP k L b e
theorem I9(k:Int): ∀L:List Nd,∀b B,(sc k L).2.2=b::B→b.m=false∧k≤b.k
 | [],b,B,h=>by cases h
 | c::L,b,B,h=>by
   cases hm:c.m with
   | true=>rw [kE hm]at h;exact I9 k L b B h
   | false=>
     by_cases hk:k≤c.k
     ·rw [kF hm hk]at h
      simp only [lI']at h
      obtain⟨rfl,_⟩:=h
      exact⟨hm,hk⟩
     ·rw [iY hm (by omega)]at h;exact I9 k L b B h
def aCU(ky nx f:Int):Int:=a7 ky nx false 0 (aQ (vrW f))
theorem VU{t n:Int}{x:PRS}{st:STS}{s:MS}(h:x.loaded=false):prF t n x st s=⟨false,{x with found:=aB s.xs st.sp,loaded:=true},st,s.loadd st.sp⟩:=by
 unfold prF XQ MH
 simp only [Tr.val,h,Bool.not_false,cond_true]
 rfl
theorem QM{t n:Int}{x:PRS}{st:STS}{s:MS}(h:x.loaded=true)(hk:0≤x.key∧x.key<1024)(hn:0≤x.nxt∧x.nxt<512):prF t n x st s=⟨true,x,st,s.stored st.sp (aCU x.key x.nxt x.found)⟩:=by
 unfold prF XQ MH
 have h1:aG x.1 10=true:=eH.2 hk
 have h2:aG x.2 9=true:=eH.2 hn
 have h3:aG 0 5=true:=by decide
 simp only [Tr.val,h,h1,h2,h3,sE,Bool.not_true,cond_true,cond_false]
 rfl
theorem aA4{k n f:Int}(hk:0≤k∧k<1024)(hn:0≤n∧n<512):okF k n 0 (aQ (vrW f)):=⟨hk,hn,⟨by decide,by decide⟩,rE _⟩
def SI(old nx:Int)(m:Bool):Int:=a7 (kyW old) nx m 0 (aQ (vrW old))
theorem FM(old:Int){nx:Int}(hn:0≤nx∧nx<512):okF (kyW old) nx 0 (aQ (vrW old)):=by
 refine⟨?_,hn,⟨by decide,by decide⟩,rE _⟩
 have:=l9 (x:=old) (a:=0) (w:=10);simpa using this
theorem wF{code:Int}{okk:Bool}{val addr old nx:Int}{m:Bool}{pops:Int}(hn:0≤nx∧nx<512):dA false code okk val addr old nx m pops=SI old nx m:=by
 unfold dA sT
 have h2:aG nx 9=true:=eH.2 hn
 have h3:aG 0 5=true:=by decide
 simp only [Tr.val,h2,h3,IJ,sE,cond_true,cond_false]
 rfl
theorem wB{code:Int}{okk:Bool}{val addr old nx:Int}{m:Bool}{pops:Int}(h:clW' old=0):kU false code okk val addr old nx m pops=false:=by
 unfold kU sS
 have h:aA old 20 5=0:=h
 simp only [Tr.val,h,bZ,Bool.not_false,Bool.not_true,cond_true]
theorem rG(x:Int):0≤nxW x∧nxW x<512:=by
 have:=l9 (x:=x) (a:=10) (w:=9);simpa using this
def ftG(t n:Int)(p:FTS×STS×MS):Bool×(FTS×STS×MS):=((ftF t n p.1 p.2.1 p.2.2).d,((ftF t n p.1 p.2.1 p.2.2).x,(ftF t n p.1 p.2.1 p.2.2).st,(ftF t n p.1 p.2.1 p.2.2).s))
theorem sF{t n:Int}{x:FTS}{st:STS}{s:MS}{d:Bool}{x':FTS}{st':STS}{s':MS}(h:ftF t n x st s=⟨d,x',st',s'⟩):ftG t n (x,st,s)=(d,(x',st',s')):=by
 unfold ftG;rw [h]
structure XD (x:FTS) (st:STS):Prop where
 r:aZ x.sh x.kd x.ky=true
 l:bI x.kd=true→st.sp≠0
theorem UL{t n:Int}{x:FTS}{st:STS}{s:MS}{fn:FNS}{s':MS}(h0:x.at'=0)(hm:XD x st)(hf:fnF t n x.fn s=⟨false,fn,s'⟩):ftF t n x st s=⟨false,{x with fn:=fn,at':=0,cl:=bE,pr:=cT},st,s'⟩:=by
 unfold ftF O2
 rw [h0]
 show(qQ t n x st s).val =_
 unfold qQ
 have hr:aZ x.6 x.7 x.8=true:=hm.r
 have hf:fnF t n x.12 s=⟨false,fn,s'⟩:=hf
 cases hl:bI x.7 with
 | false=>simp only [Tr.val,hr,hl,hf,Bool.not_true,cond_false]
 | true=>
   have h2:ieq st.2 0=false:=by rw [bN,beq_eq_false_iff_ne];exact hm.l hl
   simp only [Tr.val,hr,hl,h2,hf,Bool.not_true,cond_true,cond_false]
theorem K9{t n:Int}{x:FTS}{st:STS}{s:MS}{fn:FNS}{s':MS}{p:PLN}(h0:x.at'=0)(hm:XD x st)(hf:fnF t n x.fn s=⟨true,fn,s'⟩)(ht:x.tries=0)(hft:fn.tries=0)(hmo:0≤x.most)
 (hp:aJ x.sh x.kd x.ky fn.pred fn.pw fn.curr fn.cw st.sp=p) (hc:kU p.now p.code p.okk p.val p.addr p.old p.nxt p.mark p.pops=false):
 ftF t n x st s=bif p.now then⟨true,{x with code:=p.code,okk:=p.okk,val:=p.val,failed:=false,tries:=0,at':=0,p:=p,fn:=aO,cl:=bE,pr:=cT},⟨st.me,st.sp,st.R++fn.ul⟩,s'⟩
  else bif bI x.kd then⟨false,{x with failed:=false,tries:=0,at':=2,p:=p,fn:=aO,cl:=bE,pr:=⟨x.ky,fn.curr,0,false⟩ },⟨st.me,st.sp,st.R++fn.ul⟩,s'⟩
  else⟨false,{x with failed:=false,tries:=0,at':=3,p:=p,fn:=aO,cl:=bE,pr:=cT},⟨st.me,st.sp,st.R++fn.ul⟩,s'⟩:=by
 unfold ftF O2
 rw [h0]
 show(qQ t n x st s).val =_
 unfold qQ
 have hr:aZ x.6 x.7 x.8=true:=hm.r
 have hf:fnF t n x.12 s=⟨true,fn,s'⟩:=hf
 have ht:x.5=0:=ht
 have hft:fn.5=0:=hft
 have hw:W (0+0)=0:=by decide
 have hl:ilt x.9 0=false:=by rw [bP];exact decide_eq_false (by have:0≤x.9:=hmo;omega)
 have hp:aJ x.6 x.7 x.8 fn.1 fn.2 fn.3 fn.4 st.2=p:=hp
 have hc:kU p.1 p.2 p.3 p.4 p.5 p.6 p.7 p.8 p.9=false:=hc
 cases hlk:bI x.7 with
 | false=>
   simp only [Tr.val,hr,hlk,hf,ht,hft,hw,hl,hp,hc,Bool.not_true,cond_true,cond_false]
   try (cases p.now<;>rfl)
 | true=>
   have h2:ieq st.2 0=false:=by rw [bN,beq_eq_false_iff_ne];exact hm.l hlk
   simp only [Tr.val,hr,hlk,h2,hf,ht,hft,hw,hl,hp,hc,Bool.not_true,cond_true,cond_false]
   try (cases p.now<;>rfl)
theorem UN{t n:Int}{x:FTS}{st:STS}{s:MS}{y:PRS}{s':MS}(h0:x.at'=2)(hf:prF t n x.pr st s=⟨false,y,st,s'⟩):ftF t n x st s=⟨false,{x with at':=2,fn:=aO,cl:=bE,pr:=y},st,s'⟩:=by
 unfold ftF O2
 rw [h0]
 show(qR t n x st s).val =_
 unfold qR
 have hf:prF t n x.14 st s=⟨false,y,st,s'⟩:=hf
 simp only [Tr.val,hf,cond_false]
theorem O3{t n:Int}{x:FTS}{st:STS}{s:MS}{y:PRS}{s':MS}(h0:x.at'=2)(hf:prF t n x.pr st s=⟨true,y,st,s'⟩):ftF t n x st s=⟨false,{x with at':=3,fn:=aO,cl:=bE,pr:=cT},st,s'⟩:=by
 unfold ftF O2
 rw [h0]
 show(qR t n x st s).val =_
 unfold qR
 have hf:prF t n x.14 st s=⟨true,y,st,s'⟩:=hf
 simp only [Tr.val,hf,cond_true]
theorem sG{t n:Int}{x:FTS}{st:STS}{s:MS}{w:Int}(h0:x.at'=3)(hc:aT s.xs x.p.addr x.p.old=true)(hw:dA x.p.now x.p.code x.p.okk x.p.val x.p.addr x.p.old x.p.nxt x.p.mark x.p.pops=w):
 ftF t n x st s=⟨true,{x with code:=x.p.code,okk:=x.p.okk,val:=x.p.val,at':=3,fn:=aO,cl:=bE,pr:=cT},⟨st.me,bif bI x.kd then 0 else st.sp,bif ieq x.p.pops 0 then st.R else st.R++ [x.p.pops]⟩,s.cased x.p.addr x.p.old w⟩:=by
 unfold ftF O2
 rw [h0]
 show(vO t n x st s).val =_
 unfold vO
 have hc':aT s.3 (FTS.p x).5 (FTS.p x).6=true:=hc
 have hw:dA (FTS.p x).1 (FTS.p x).2 (FTS.p x).3 (FTS.p x).4 (FTS.p x).5 (FTS.p x).6 (FTS.p x).7 (FTS.p x).8 (FTS.p x).9=w:=hw
 have hi:bK s.3 (FTS.p x).5=true:=by
  unfold aT at hc'
  exact(Bool.and_eq_true_iff.1 hc').1
 simp only [Tr.val,hc',hw,hi,Bool.not_true,cond_true,cond_false]
 unfold MS.cased MS.did
 simp only [hc,show bK s.xs x.p.addr=true from hi,cond_true]
 cases hlk:bI x.7<;>cases hpp:ieq (FTS.p x).9 0<;>simp only [hlk,hpp,Bool.not_true,Bool.not_false,cond_true,cond_false]<;>rfl
theorem uL{t n:Int}{a:FNS×MS}{d:Bool}{b:FNS×MS}(h:A9 t n a=(d,b)):fnF t n a.1 a.2=⟨d,b.1,b.2⟩:=by
 unfold A9 at h
 rw [pI']at h
 obtain⟨rfl,rfl⟩:=h
 rfl
theorem L8{code:Int}{okk:Bool}{val addr old nx:Int}{m:Bool}{pops:Int} :kU true code okk val addr old nx m pops=false:=rfl
structure LC (t n me p:Int) (L:List Nd) (xs:List Int):Prop where
 ht:1≤t∧t≤1000
 hn:1≤n∧n≤500
 len:(xs.length:Int)=2*n+5*t+6
 me:0≤me∧me<t
 hp:1≤p∧p≤n+4
 mp:mkW (aB xs p)=false
 cp:clW' (aB xs p)=0
 ch:ch n xs p L
 nd:(p::L.map Nd.a).Nodup
 ln:(L.length:Int)≤n
theorem LC.fc{t n me p:Int}{L:List Nd}{s:MS}(h:LC t n me p L s.xs)(hd key lim:Int):FC t n p L (lH t n me hd key lim) s:=
 ⟨h.ht,⟨h.hn.1,by have:=h.hn.2;omega⟩,h.len,h.me,h.hp,h.mp,h.cp,h.ch,h.nd,⟨Int.le_refl 0,by show(0:Int)+L.length≤n;have:=h.ln;omega⟩⟩
structure FtA (n me p:Int) (L:List Nd) (k ky sp:Int) (a:Pa) (s s':MS) (j:Nat):Prop where
 ch:ch n s'.xs p ((sc k L).1++a.new ky sp (sc k L).2.2)
 mp:mkW (aB s'.xs p)=false
 cp:clW' (aB s'.xs p)=0
 same: ∀b,b≠2*n+5+2*me→b≠2*n+5+2*me+1→b∉p::L.map Nd.a→b≠sp→aB s'.xs b=aB s.xs b
 t:s'.t=s.t
 n:s'.n=s.n
 c:s'.c=s.c+j
 len:s'.xs.length=s.xs.length
 okw:okW s.xs→okW s'.xs
 lim:j≤5*L.length+4
theorem z6{t n:Int}{j j':Nat}{a b:FTS×STS×MS}{z:FTS}{st' st2:STS}{s':MS}{ok:Bool}{v:Int}(hj:j=j'+1)(h:Go1 (ftG t n) j' a b)(e:ftG t n b=(true,(z,st',s')))(hs:st'=st2)
 (hz:z.code=0∧z.okk=ok∧z.val=v∧z.failed=false∧z.tries=0): ∃z:FTS,End (ftG t n) j a (z,st2,s')∧z.code=0∧z.okk=ok∧z.val=v∧z.failed=false∧z.tries=0:=by
 subst hs
 exact⟨z,⟨j',b,hj,h,e⟩,hz⟩
theorem FY{t n:Int}{sh kd ky:Int}{st:STS}{s:MS}{L:List Nd}(hr:aZ sh kd ky=true)(h:LC t n st.me (n+1+bY sh ky) L s.xs)
 (hl:bI kd=true→1≤st.sp∧st.sp≤n∧st.sp∉L.map Nd.a):
 ∃j s',FtA n st.me (n+1+bY sh ky) L (bV sh kd ky) ky st.sp (paOf sh kd ky (sc (bV sh kd ky) L).2.2) s s' j∧
  ∀most,0≤most→ ∃z:FTS,End (ftG t n) j ((ftNF t n sh kd ky most st).1,st,s) (z,⟨st.me,(paOf sh kd ky (sc (bV sh kd ky) L).2.2).sp st.sp,st.R++(sc (bV sh kd ky) L).2.1.map Nd.a++(paOf sh kd ky (sc (bV sh kd ky) L).2.2).pops (sc (bV sh kd ky) L).2.2⟩,s')∧
   z.code=0∧z.okk=(paOf sh kd ky (sc (bV sh kd ky) L).2.2).ok ∧z.val=(paOf sh kd ky (sc (bV sh kd ky) L).2.2).val ∧z.failed=false∧z.tries=0:=by
 have hrng:=eD.1 hr
 generalize hp:n+1+bY sh ky=p at h⊢
 generalize hk:bV sh kd ky=key at⊢
 obtain⟨j,z,s1,e,f,hj⟩:=OT (t:=t) (n:=n) L p (lH t n st.me (bY sh ky) key 0) s rfl hp (h.fc _ _ _)
 have fch:ch n s1.xs p ((sc key L).1++(sc key L).2.2):=f.ch
 have fpr:z.pred=((sc key L).1.map Nd.a).getLastD p:=f.pred
 have fcu:z.curr=hdN (sc key L).2.2:=f.curr
 have fcw:z.cw=hdWd s1.xs (sc key L).2.2:=f.cw
 have ful:z.ul=(sc key L).2.1.map Nd.a:=by have:=f.ul;exact this.trans (List.nil_append _)
 have fsame: ∀a,a≠2*n+5+2*st.me→a≠2*n+5+2*st.me+1→a∉p::(sc key L).1.map Nd.a→aB s1.xs a=aB s.xs a:=f.same
 have fpw:=f.pw
 have hA:=yP key L
 have hsub:=AS key L
 have hAL: ∀a,a∈(sc key L).1.map Nd.a→a∈L.map Nd.a:=fun a=>jP (uR key L)
 have hBL: ∀a,a∈(sc key L).2.2.map Nd.a→a∈L.map Nd.a:=fun a=>jP ((List.sublist_append_right _ _).trans hsub)
 have hnd:(p::((sc key L).1++(sc key L).2.2).map Nd.a).Nodup :=by
  refine List.Sublist.nodup ?_ h.nd
  exact List.Sublist.cons₂ _ (hsub.map _)
 have hmp1:mkW (aB s1.xs p)=false:=f.p3.2.1.trans h.mp
 have hcp1:clW' (aB s1.xs p)=0:=f.p3.2.2.trans h.cp
 generalize hA0:(sc key L).1=A at*
 generalize (sc key L).2.1=U at*
 generalize hB:(sc key L).2.2=B at*
 have hsp:=BU fch
 have hlast:=HT fch hcp1 hmp1 hA
 rw [←fpr]at hsp hlast
 have hbb: ∀b B',B=b::B'→(b.a≠0∧kyW z.cw=b.k)∧1≤b.a∧b.a≤n∧z.cw=aB s1.xs b.a∧clW' z.cw=0∧ch n s1.xs b.a B'∧nxW (aB s1.xs z.pred)=b.a:=by
  rintro b B' rfl
  obtain⟨h1,h2,h3,h4,h5,h6⟩:=hsp
  have e1:z.cw=aB s1.xs b.a:=fcw
  rw [←e1]at h3 h5
  exact⟨⟨by omega,h3⟩,h2.1,h2.2,e1,h5,h6,h1⟩
 have hplan:=VN (pred:=z.pred) (pw:=z.pw) (sp:=st.sp) hr (fun b B' h=>(hbb b B' h).1)
 have hnA:(p::A.map Nd.a).Nodup :=by
  refine List.Sublist.nodup ?_ hnd
  refine List.Sublist.cons₂ _ ?_
  rw [List.map_append]
  exact List.sublist_append_left _ _
 have hnB: ∀a,a∈p::A.map Nd.a→a∉B.map Nd.a:=by
  intro a ha hb
  rw [List.map_append,←List.cons_append]at hnd
  exact(List.nodup_append.1 hnd).2.2 a ha a hb rfl
 have hpm:z.pred∈p::A.map Nd.a:=by rw [fpr];exact vS _ _
 have hpL:z.pred∈p::L.map Nd.a:=by
  rcases List.mem_cons.1 hpm with q | q
  ·rw [q];exact List.mem_cons_self ..
  ·exact List.mem_cons_of_mem _ (hAL _ q)
 have hprg:1≤z.pred∧z.pred≤n+4:=by
  rcases List.mem_cons.1 hpL with q | q
  ·rw [q];exact h.hp
  ·obtain⟨c,hc,q⟩:=List.mem_map.1 q
   have:=FL h.ch c hc
   omega
 have hlen1:(s1.xs.length:Int)=2*n+5*t+6:=by rw [f.len];exact h.len
 have hin:0≤z.pred∧z.pred<s1.xs.length:=by have:=h.ht;omega
 have htn:=h.hn
 have hme:=h.me
 have walk: ∀most,0≤most→ ∃(j':Nat) (b:FNS×MS),j=j'+1∧Go1 (ftG t n) j' ((ftNF t n sh kd ky most st).1,st,s) ({ (ftNF t n sh kd ky most st).1 with fn:=b.1,at':=0,cl:=bE,pr:=cT},st,b.2)∧fnF t n b.1 b.2=⟨true,{z with limit:=W (most - 0) },s1⟩:=by
  intro most hmo
  obtain⟨j',b,h1,h2,h3⟩:=e (W (most - 0))
  refine⟨j',b,h1,?_,uL h3⟩
  have:=aE8 (G:=ftG t n) (fun q:FNS×MS=>(({ (ftNF t n sh kd ky most st).1 with fn:=q.1,at':=0,cl:=bE,pr:=cT} :FTS),st,q.2)) ?_ h2
  ·have e0:((ftNF t n sh kd ky most st).1:FTS)= { (ftNF t n sh kd ky most st).1 with fn:= {lH t n st.me (bY sh ky) key 0 with limit:=W (most - 0) },at':=0,cl:=bE,pr:=cT} :=by
    subst hk;rfl
   rw [e0]
   exact this
  ·intro a c hac
   exact sF (UL (x:= { (ftNF t n sh kd ky most st).1 with fn:=a.1,at':=0,cl:=bE,pr:=cT}) rfl ⟨hr,fun hlk=>by have:=hl hlk;omega⟩ (uL hac))
 obtain⟨P,hP⟩: ∃P:PLN,P=(paOf sh kd ky B).plan z.pred z.pw (hdN B) z.cw st.sp:=⟨_,rfl⟩
 rw [←hP]at hplan
 have sought: ∀most,0≤most→ ∀b:FNS×MS,fnF t n b.1 b.2=⟨true,{z with limit:=W (most - 0) },s1⟩→kU P.now P.code P.okk P.val P.addr P.old P.nxt P.mark P.pops=false→
  ftG t n (({ (ftNF t n sh kd ky most st).1 with fn:=b.1,at':=0,cl:=bE,pr:=cT} :FTS),st,b.2)=
   bif P.now then(true,(({ (ftNF t n sh kd ky most st).1 with code:=P.code,okk:=P.okk,val:=P.val,failed:=false,tries:=0,at':=0,p:=P,fn:=aO,cl:=bE,pr:=cT} :FTS),(⟨st.me,st.sp,st.R++U.map Nd.a⟩:STS),s1))
   else bif bI kd then(false,(({ (ftNF t n sh kd ky most st).1 with failed:=false,tries:=0,at':=2,p:=P,fn:=aO,cl:=bE,pr:=⟨ky,hdN B,0,false⟩ } :FTS),(⟨st.me,st.sp,st.R++U.map Nd.a⟩:STS),s1))
   else(false,(({ (ftNF t n sh kd ky most st).1 with failed:=false,tries:=0,at':=3,p:=P,fn:=aO,cl:=bE,pr:=cT} :FTS),(⟨st.me,st.sp,st.R++U.map Nd.a⟩:STS),s1)):=by
  intro most hmo b hb hc
  have:=K9 (x:= { (ftNF t n sh kd ky most st).1 with fn:=b.1,at':=0,cl:=bE,pr:=cT}) (st:=st) (p:=P) rfl ⟨hr,fun hlk=>by have:=hl hlk;omega⟩ hb rfl f.tries hmo (by show aJ sh kd ky z.pred z.pw z.curr z.cw st.sp=P;rw [fcu];exact hplan) hc
  unfold ftG
  rw [this]
  dsimp only
  rw [ful,fcu]
  have hkd:(ftNF t n sh kd ky most st).fst.kd =kd:=rfl
  rw [hkd]
  cases P.now
  ·cases bI kd<;>rfl
  ·rfl
 have hmemB: ∀b B',B=b::B'→b.a∈L.map Nd.a:=by
  rintro b B' rfl;exact hBL _ (by simp)
 generalize hact:paOf sh kd ky B=act at hP⊢
 cases act with
 | now bb=>
   subst hP
   refine⟨j,s1,?_,fun most hmo=>?_⟩
   ·refine {ch:=by rw [hA0,hB];exact fch,mp:=hmp1,cp:=hcp1,same:=fun b h0 h1 h2 _=>fsame b h0 h1 (fun hh=>h2 ?_),t:=f.t,n:=f.n,c:=f.c,len:=f.len,okw:=f.okw,lim:=by omega}
    rcases List.mem_cons.1 hh with q | q
    ·rw [q];exact List.mem_cons_self ..
    ·exact List.mem_cons_of_mem _ (hAL _ q)
   ·obtain⟨j',b,h1,h2,h3⟩:=walk most hmo
    have h4:=sought most hmo b h3 L8
    have h4:ftG t n _=(true,(_,_,s1)):=h4
    exact z6 h1 h2 h4 (by simp only [Pa.pops,List.append_nil];rfl) ⟨rfl,rfl,rfl,rfl,rfl⟩
 | link=>
   subst hP
   have hlk:=AF hact
   obtain⟨g1,g2,g3⟩:=hl hlk
   have hspn:z.pred≠st.sp:=by
    intro q
    rcases List.mem_cons.1 hpL with r | r
    ·have:=h.hp;have:=cS sh ky;omega
    ·rw [q]at r;exact g3 r
   have hcr:0≤hdN B∧hdN B<512:=by
    cases hBB:B with
    | nil=>exact⟨Int.le_refl 0,by show(0:Int)<512;decide⟩
    | cons b B'=>have:=hbb b B' hBB;show 0≤b.a∧b.a<512;omega
   have hky:0≤ky∧ky<1024:=by omega
   have hspi:0≤st.sp∧st.sp<s1.xs.length:=by have:=h.ht;omega
   let s2:=s1.loadd st.sp
   let nw:=aCU ky (hdN B) (aB s1.xs st.sp)
   let s3:=s2.stored st.sp nw
   let w:=SI z.pw st.sp (mkW z.pw)
   let s4:=s3.cased z.pred z.pw w
   have x3: ∀a,a≠st.sp→aB s3.xs a=aB s1.xs a:=fun a ha=>cI ha
   have x3s:aB s3.xs st.sp=nw:=dP hspi
   have l3:s3.xs.length=s1.xs.length:=b9 _ _ _
   have hin3:0≤z.pred∧z.pred<s3.xs.length:=by rw [l3];exact hin
   have hcas:=i6 hin3 ((x3 _ hspn).trans fpw.symm)
   have s4x:s4.xs=aK s3.xs z.pred w:=mU hcas
   have x4: ∀a,a≠z.pred→aB s4.xs a=aB s3.xs a:=fun a ha=>by rw [s4x,cI ha]
   have x4p:aB s4.xs z.pred=w:=by rw [s4x,dP hin3]
   have l4:s4.xs.length=s1.xs.length:=by rw [s4x,b9];exact l3
   have hnok:=aA4 (f:=aB s1.xs st.sp) hky hcr
   have hwok:=FM z.pw (nx:=st.sp) ⟨by omega,by omega⟩
   have hspA:st.sp∉p::A.map Nd.a:=by
    intro q
    rcases List.mem_cons.1 q with r | r
    ·have:=h.hp;have:=cS sh ky;omega
    ·exact g3 (hAL _ r)
   have hspB:st.sp∉B.map Nd.a:=fun q=>g3 (hBL _ q)
   have hpB:z.pred∉B.map Nd.a:=hnB _ hpm
   refine⟨j+3,s4,?_,fun most hmo=>?_⟩
   ·refine {ch:=?_,mp:=?_,cp:=?_,same:=fun b h0 h1 h2 h3=>?_,t:=f.t,n:=f.n,c:=?_,len:=l4.trans f.len,okw:=fun q=>?_,lim:=by omega}
    ·rw [hA0,hB]
     refine uF fch hnA ?_ ?_ ?_
     ·intro c hc hcl
      rw [←fpr]at hcl
      rw [x4 c hcl,x3 c (fun q=>hspA (by rw [←q];exact hc))]
     ·rw [←fpr,x4p,←fpw]
      exact⟨vB hwok,oY hwok,(p9 hwok).trans (by rw [fpw];exact hlast.1.symm)⟩
     ·rw [←fpr]
      refine⟨by rw [x4p];exact tG hwok,⟨g1,g2⟩,?_,?_,?_,?_⟩
      ·rw [x4 _ (Ne.symm hspn),x3s];exact vB hnok
      ·rw [x4 _ (Ne.symm hspn),x3s];exact oY hnok
      ·rw [x4 _ (Ne.symm hspn),x3s];exact p9 hnok
      ·refine uE hsp ?_ (fun c hc=>?_)
       ·rw [x4 _ (Ne.symm hspn),x3s]
        exact(tG hnok).trans (NX hsp).symm
       ·rw [x4 c (fun q=>hpB (by rw [←q];exact hc)),x3 c (fun q=>hspB (by rw [←q];exact hc))]
    ·by_cases q:p=z.pred
     ·rw [q,x4p,←hlast.2,←fpw];exact oY hwok
     ·rw [x4 p q,x3 p (fun r=>hspA (by rw [←r];exact List.mem_cons_self ..))];exact hmp1
    ·by_cases q:p=z.pred
     ·rw [q,x4p];exact p9 hwok
     ·rw [x4 p q,x3 p (fun r=>hspA (by rw [←r];exact List.mem_cons_self ..))];exact hcp1
    ·rw [x4 b (fun q=>h2 (by rw [q];exact hpL)),x3 b h3]
     refine fsame b h0 h1 (fun hh=>h2 ?_)
     rcases List.mem_cons.1 hh with q | q
     ·rw [q];exact List.mem_cons_self ..
     ·exact List.mem_cons_of_mem _ (hAL _ q)
    ·show s1.c+1+1+1=s.c+((j+3:Nat):Int);rw [f.c];omega
    ·rw [s4x];exact eB (eB (f.okw q) (mF hnok)) (mF hwok)
   ·obtain⟨j',b,h1,h2,h3⟩:=walk most hmo
    have h4:=sought most hmo b h3 (wB (by show clW' z.pw=0;rw [fpw];exact hlast.1))
    rw [hlk]at h4
    have h4:ftG t n _=(false,(_,_,s1)):=h4
    have h5:=sF (UN (t:=t) (n:=n) (x:= { (ftNF t n sh kd ky most st).1 with failed:=false,tries:=0,at':=2,p:=Pa.plan z.pred z.pw (hdN B) z.cw st.sp .link,fn:=aO,cl:=bE,pr:=⟨ky,hdN B,0,false⟩ }) (st:=⟨st.me,st.sp,st.R++U.map Nd.a⟩) (s:=s1) rfl (VU rfl))
    have h6:=sF (O3 (t:=t) (n:=n) (x:= { (ftNF t n sh kd ky most st).1 with failed:=false,tries:=0,at':=2,p:=Pa.plan z.pred z.pw (hdN B) z.cw st.sp .link,fn:=aO,cl:=bE,pr:=⟨ky,hdN B,aB s1.xs st.sp,true⟩ }) (st:=⟨st.me,st.sp,st.R++U.map Nd.a⟩) (s:=s2) rfl (QM rfl hky hcr))
    have h7:=sF (sG (t:=t) (n:=n) (x:= { (ftNF t n sh kd ky most st).1 with failed:=false,tries:=0,at':=3,p:=Pa.plan z.pred z.pw (hdN B) z.cw st.sp .link,fn:=aO,cl:=bE,pr:=cT}) (st:=⟨st.me,st.sp,st.R++U.map Nd.a⟩) (s:=s3) rfl hcas (wF (m:=mkW z.pw) (by show 0≤st.sp∧st.sp<512;omega)))
    have e1:bI ((ftNF t n sh kd ky most st).1).kd =true:=hlk
    exact z6 (by omega) (h2.trans (Go1.cons h4 (Go1.cons h5 (Go1.one h6)))) h7 (by simp only [e1,Pa.pops,List.append_nil,cond_true];rfl) ⟨rfl,rfl,rfl,rfl,rfl⟩
 | mark v=>
   subst hP
   have hlk:bI kd=false:=by
    cases hq:bI kd with
    | false=>rfl
    | true=>rcases v8 (sh:=sh) (ky:=ky) (B:=B) hq with q | ⟨_,q⟩<;>rw [hact]at q<;>cases q
   obtain⟨b,B',hBB⟩:=AG hact
   obtain⟨⟨hb0,hbk⟩,hb1,hb2,hbw,hbc,hch2,hnx⟩:=hbb b B' hBB
   have hcu:hdN B=b.a:=by rw [hBB];rfl
   have hbm:mkW (aB s1.xs b.a)=false:=by
    have:=(I9 key L b B' (by rw [hB];exact hBB)).1
    rw [hBB]at hsp
    exact hsp.2.2.2.1.trans this
   have hbi:0≤b.a∧b.a<s1.xs.length:=by have:=h.ht;omega
   let w:=SI z.cw (nxW z.cw) true
   let s4:=s1.cased b.a z.cw w
   have hcas:aT s1.xs (hdN B) z.cw=true:=by rw [hcu];exact i6 hbi hbw.symm
   have s4x:s4.xs=aK s1.xs b.a w:=mU (by rw [←hcu];exact hcas)
   have x4: ∀a,a≠b.a→aB s4.xs a=aB s1.xs a:=fun a ha=>by rw [s4x,cI ha]
   have x4p:aB s4.xs b.a=w:=by rw [s4x,dP hbi]
   have l4:s4.xs.length=s1.xs.length:=by rw [s4x,b9]
   have hwok:=FM z.cw (nx:=nxW z.cw) (rG _)
   have hbA:b.a∉p::A.map Nd.a:=fun q=>hnB _ q (by rw [hBB];simp)
   have hbB:b.a∉B'.map Nd.a:=by
    have:=hnd
    rw [hBB,List.map_append,←List.cons_append]at this
    exact(List.nodup_cons.1 (List.nodup_append.1 this).2.1).1
   refine⟨j+1,s4,?_,fun most hmo=>?_⟩
   ·refine {ch:=?_,mp:=?_,cp:=?_,same:=fun c h0 h1 h2 h3=>?_,t:=f.t,n:=f.n,c:=?_,len:=l4.trans f.len,okw:=fun q=>?_,lim:=by omega}
    ·rw [hA0,hB,hBB]
     refine uF fch hnA ?_ ?_ ?_
     ·intro c hc _
      exact x4 c (fun q=>hbA (by rw [←q];exact hc))
     ·rw [←fpr,x4 z.pred (fun q=>hbA (by rw [←q];exact hpm))]
      exact⟨rfl,rfl,rfl⟩
     ·rw [←fpr]
      refine⟨?_,⟨hb1,hb2⟩,?_,?_,?_,?_⟩
      ·rw [x4 z.pred (fun q=>hbA (by rw [←q];exact hpm))];exact hnx
      ·rw [x4p];exact(vB hwok).trans hbk
      ·rw [x4p];exact oY hwok
      ·rw [x4p];exact p9 hwok
      ·refine uE hch2 ?_ (fun c hc=>x4 c (fun q=>hbB (by rw [←q];exact hc)))
       rw [x4p,←hbw];exact tG hwok
    ·rw [x4 p (fun q=>hbA (by rw [←q];exact List.mem_cons_self ..))];exact hmp1
    ·rw [x4 p (fun q=>hbA (by rw [←q];exact List.mem_cons_self ..))];exact hcp1
    ·rw [x4 c (fun q=>h2 (List.mem_cons_of_mem _ (by rw [q];exact hmemB b B' hBB)))]
     refine fsame c h0 h1 (fun hh=>h2 ?_)
     rcases List.mem_cons.1 hh with q | q
     ·rw [q];exact List.mem_cons_self ..
     ·exact List.mem_cons_of_mem _ (hAL _ q)
    ·show s1.c+1=s.c+((j+1:Nat):Int);rw [f.c];omega
    ·rw [s4x];exact eB (f.okw q) (mF hwok)
   ·obtain⟨j',b2,h1,h2,h3⟩:=walk most hmo
    have h4:=sought most hmo b2 h3 (wB (by show clW' z.cw=0;exact hbc))
    rw [hlk]at h4
    have h4:ftG t n _=(false,(_,_,s1)):=h4
    have h7:=sF (sG (t:=t) (n:=n) (x:= { (ftNF t n sh kd ky most st).1 with failed:=false,tries:=0,at':=3,p:=Pa.plan z.pred z.pw (hdN B) z.cw st.sp (.mark v),fn:=aO,cl:=bE,pr:=cT}) (st:=⟨st.me,st.sp,st.R++U.map Nd.a⟩) (s:=s1) rfl hcas (wF (m:=true) (rG _)))
    have e1:bI ((ftNF t n sh kd ky most st).1).kd =false:=hlk
    have e3:s1.cased (hdN B) z.cw w=s4:=by rw [hcu]
    have h7:ftG t n _=(true,(_,_,s1.cased (hdN B) z.cw w)):=h7
    rw [e3]at h7
    exact z6 (by omega) (h2.trans (Go1.one h4)) h7 (by simp only [e1,Pa.pops,List.append_nil,cond_false];rfl) ⟨rfl,rfl,rfl,rfl,rfl⟩
 | pop v=>
   subst hP
   have hlk:bI kd=false:=by
    cases hq:bI kd with
    | false=>rfl
    | true=>rcases v8 (sh:=sh) (ky:=ky) (B:=B) hq with q | ⟨_,q⟩<;>rw [hact]at q<;>cases q
   obtain⟨b,B',hBB⟩:=P5 hact
   obtain⟨⟨hb0,hbk⟩,hb1,hb2,hbw,hbc,hch2,hnx⟩:=hbb b B' hBB
   have hcu:hdN B=b.a:=by rw [hBB];rfl
   let w:=SI z.pw (nxW z.cw) (mkW z.pw)
   let s4:=s1.cased z.pred z.pw w
   have hcas:=i6 hin fpw.symm
   have s4x:s4.xs=aK s1.xs z.pred w:=mU hcas
   have x4: ∀a,a≠z.pred→aB s4.xs a=aB s1.xs a:=fun a ha=>by rw [s4x,cI ha]
   have x4p:aB s4.xs z.pred=w:=by rw [s4x,dP hin]
   have l4:s4.xs.length=s1.xs.length:=by rw [s4x,b9]
   have hwok:=FM z.pw (nx:=nxW z.cw) (rG _)
   have hpB:z.pred∉B.map Nd.a:=hnB _ hpm
   refine⟨j+1,s4,?_,fun most hmo=>?_⟩
   ·refine {ch:=?_,mp:=?_,cp:=?_,same:=fun c h0 h1 h2 h3=>?_,t:=f.t,n:=f.n,c:=?_,len:=l4.trans f.len,okw:=fun q=>?_,lim:=by omega}
    ·rw [hA0,hB,hBB]
     refine uF fch hnA ?_ ?_ ?_
     ·intro c hc hcl
      rw [←fpr]at hcl
      exact x4 c hcl
     ·rw [←fpr,x4p,←fpw]
      exact⟨vB hwok,oY hwok,(p9 hwok).trans (by rw [fpw];exact hlast.1.symm)⟩
     ·rw [←fpr]
      refine uE hch2 ?_ (fun c hc=>x4 c (fun q=>hpB (by rw [hBB,←q];exact List.mem_cons_of_mem _ hc)))
      rw [x4p,←hbw];exact tG hwok
    ·by_cases q:p=z.pred
     ·rw [q,x4p,←hlast.2,←fpw];exact oY hwok
     ·rw [x4 p q];exact hmp1
    ·by_cases q:p=z.pred
     ·rw [q,x4p];exact p9 hwok
     ·rw [x4 p q];exact hcp1
    ·rw [x4 c (fun q=>h2 (by rw [q];exact hpL))]
     refine fsame c h0 h1 (fun hh=>h2 ?_)
     rcases List.mem_cons.1 hh with q | q
     ·rw [q];exact List.mem_cons_self ..
     ·exact List.mem_cons_of_mem _ (hAL _ q)
    ·show s1.c+1=s.c+((j+1:Nat):Int);rw [f.c];omega
    ·rw [s4x];exact eB (f.okw q) (mF hwok)
   ·obtain⟨j',b2,h1,h2,h3⟩:=walk most hmo
    have h4:=sought most hmo b2 h3 (wB (by show clW' z.pw=0;rw [fpw];exact hlast.1))
    rw [hlk]at h4
    have h4:ftG t n _=(false,(_,_,s1)):=h4
    have h7:=sF (sG (t:=t) (n:=n) (x:= { (ftNF t n sh kd ky most st).1 with failed:=false,tries:=0,at':=3,p:=Pa.plan z.pred z.pw (hdN B) z.cw st.sp (.pop v),fn:=aO,cl:=bE,pr:=cT}) (st:=⟨st.me,st.sp,st.R++U.map Nd.a⟩) (s:=s1) rfl hcas (wF (m:=mkW z.pw) (rG _)))
    have e1:bI ((ftNF t n sh kd ky most st).1).kd =false:=hlk
    have e2:ieq (Pa.plan z.pred z.pw (hdN B) z.cw st.sp (.pop v)).pops 0=false:=by
     rw [bN,beq_eq_false_iff_ne];show hdN B≠0;rw [hcu];exact hb0
    refine z6 (by omega) (h2.trans (Go1.one h4)) h7 (by simp only [e1,e2,Pa.pops,cond_false];rfl) ⟨rfl,rfl,rfl,rfl,rfl⟩
theorem End.congr{σ:Type}{F:σ→Bool×σ}{j:Nat}{a a' z:σ}(h:F a=F a')(g:End F j a' z):End F j a z:=by
 obtain⟨i,b,rfl,h1,h2⟩:=g
 cases h1 with
 | nil=>exact⟨0,a,rfl,Go1.nil _,h.trans h2⟩
 | cons q t=>exact⟨_,b,rfl,Go1.cons (h.trans q) t,h2⟩
theorem Go1.congr{σ:Type}{F:σ→Bool×σ}{j:Nat}{a a' z:σ}(h:F a=F a')(g:Go1 F (j+1) a' z):Go1 F (j+1) a z:=by
 cases g with
 | cons q t=>exact Go1.cons (h.trans q) t
def w8(t n:Int)(p:ENS×STS×MS):Bool×(ENS×STS×MS):=((enF t n p.1 p.2.1 p.2.2).d,((enF t n p.1 p.2.1 p.2.2).e,(enF t n p.1 p.2.1 p.2.2).st,(enF t n p.1 p.2.1 p.2.2).s))
theorem kL{t n:Int}{x:ENS}{st:STS}{s:MS}{d:Bool}{x':ENS}{st':STS}{s':MS}(h:enF t n x st s=⟨d,x',st',s'⟩):w8 t n (x,st,s)=(d,(x',st',s')):=by
 unfold w8;rw [h]
def cW(n:Int)(xs:List Int)(b:Int):Bool:=oddB (aB xs (n+4+b))
theorem jQ{y:Int}(h:0≤y):oddB y=true↔y%2=1:=by
 unfold oddB
 rw [Int.tmod_eq_emod_of_nonneg h,bN]
 simp only [Bool.not_eq_true',beq_eq_false_iff_ne]
 omega
def itN(n a:Int):Nat→Int
 | 0=>a
 | i+1=>itN n (cO n a) i
theorem rF{n a:Int}(h:1≤a∧a≤n):cO n a=if a<n then a+1 else 1:=by
 unfold cO
 rw [Int.tmod_eq_emod_of_nonneg (by omega)]
 by_cases e:a<n
 ·rw [if_pos e,Int.emod_eq_of_lt (by omega) e]
 ·have:a=n:=by omega
  rw [if_neg e,this,Int.emod_self];rfl
theorem z8{n:Int} : ∀(i:Nat) (a:Int),1≤a∧a≤n→1≤itN n a i∧itN n a i≤n
 | 0,a,h=>h
 | i+1,a,h=>z8 i _ (by rw [rF h];split<;>omega)
theorem GA{n:Int} : ∀(i:Nat) (a:Int),1≤a∧a≤n→(i:Int)<n→itN n a i=if a+i≤n then a+i else a+i - n
 | 0,a,h,_=>by
   show a=_
   rw [if_pos (by simp;omega)];simp
 | i+1,a,h,hi=>by
   show itN n (cO n a) i=_
   rw [GA i _ (by rw [rF h];split<;>omega) (by omega),rF h]
   by_cases e:a<n
   ·simp only [if_pos e]
    split<;>split<;>omega
   ·simp only [if_neg e]
    split<;>split<;>omega
theorem VA{n a b:Int}(h:1≤a∧a≤n)(hb:1≤b∧b≤n): ∃i:Nat,(i:Int)<n∧itN n a i=b:=by
 by_cases e:a≤b
 ·refine⟨(b - a).toNat,by omega,?_⟩
  rw [GA _ _ h (by omega)]
  split<;>omega
 ·refine⟨(b+n - a).toNat,by omega,?_⟩
  rw [GA _ _ h (by omega)]
  split<;>omega
theorem IB{t n:Int}{e:ENS}{st:STS}{s:MS}{a left f:Int}(h:e.ph=1)(hx:e.x=⟨0,a,left,f,false⟩)(ho:cW n s.xs a=true)(hl:1<left):
 enF t n e st s=⟨false,{e with ph:=1,x:=⟨0,cO n a,left - 1,aB s.xs (n+4+a),false⟩ },st,s.loadd (n+4+a)⟩:=by
 have ho:oddB (aB s.xs (n+4+a))=true:=ho
 have hz:ile (left - 1) 0=false:=by rw [cD];exact decide_eq_false (by omega)
 unfold enF
 simp only [h,hx,jH,ho,zO,hz]
theorem ZP{t n:Int}{e:ENS}{st:STS}{s:MS}{a f:Int}(h:e.ph=1)(hx:e.x=⟨0,a,1,f,false⟩)(ho:cW n s.xs a=true):
 enF t n e st s=⟨e.dn||ieq (st.R.length:Int) 0,{e with ph:=2,sh:=e.dn||ieq (st.R.length:Int) 0,x:=⟨0,cO n a,0,aB s.xs (n+4+a),false⟩ },{st with sp:=0},s.loadd (n+4+a)⟩:=by
 have ho:oddB (aB s.xs (n+4+a))=true:=ho
 have hz:ile (1 - 1) 0=true:=by decide
 unfold enF
 simp only [h,hx,jH,ho,zO,hz]
 rfl
theorem TP{t n:Int}{e:ENS}{st:STS}{s:MS}{a left f:Int}(h:e.ph=1)(hx:e.x=⟨0,a,left,f,false⟩)(ho:cW n s.xs a=false):
 enF t n e st s=⟨false,{e with ph:=1,x:=⟨0,a,left,aB s.xs (n+4+a),true⟩ },st,s.loadd (n+4+a)⟩:=by
 have ho:oddB (aB s.xs (n+4+a))=false:=ho
 unfold enF
 simp only [h,hx,jH,ho]
theorem ZQ{t n:Int}{e:ENS}{st:STS}{s:MS}{a left f:Int}(h:e.ph=1)(hx:e.x=⟨0,a,left,f,true⟩)(hc:aT s.xs (n+4+a) f=true):
 enF t n e st s=⟨true,{e with ph:=1,x:=⟨a,a,left,f,true⟩ },{st with sp:=a},s.cased (n+4+a) f (WU (f+1))⟩:=by
 unfold enF
 simp only [h,hx,jH,hc]
theorem vF{t n:Int}{e:ENS}{st:STS}{s:MS}(h:e.ph=0)(hz:st.sp=0):enF t n e st s=enF t n {e with ph:=1,x:=⟨0,at0 t n st.me,n,0,false⟩ } st s:=by
 unfold enF
 have:ieq st.sp 0=true:=by rw [hz];exact bZ 0
 simp only [h,this,jH,zO]
structure MC (t n:Int) (s:MS):Prop where
 ht:1≤t∧t≤1000
 hn:1≤n∧n≤500
 len:(s.xs.length:Int)=2*n+5*t+6
 okw:okW s.xs
theorem yS{t n:Int} : ∀(i:Nat) (a left f:Int) (e:ENS) (st:STS) (s:MS),e.ph=1→e.x=⟨0,a,left,f,false⟩→1≤a∧a≤n→(i:Int)<left→MC t n s→
 (∀k,k<i→cW n s.xs (itN n a k)=true)→cW n s.xs (itN n a i)=false→
 ∃z s',End (w8 t n) (i+2) (e,st,s) (z,{st with sp:=itN n a i},s')∧z.sh=e.sh∧z.dn=e.dn∧s'.xs=aK s.xs (n+4+itN n a i) (aB s.xs (n+4+itN n a i)+1)∧s'.c=s.c+(i+2:Nat)∧s'.t=s.t∧s'.n=s.n
 | 0,a,left,f,e,st,s,h1,h2,ha,hl,mc,_,hf=>by
   have hin:0≤n+4+a∧n+4+a<s.xs.length:=by have:=mc.ht;have:=mc.len;omega
   have hcas:=i6 (xs:=(s.loadd (n+4+a)).xs) (x:=aB s.xs (n+4+a)) hin rfl
   have hw:=jR mc.okw (n+4+a)
   have hev:aB s.xs (n+4+a)%2≠1:=by
    intro q
    have:cW n s.xs a=true:=(jQ hw.1).2 q
    rw [show itN n a 0=a from rfl,this]at hf;cases hf
   have e1:=kL (TP (t:=t) (st:=st) h1 h2 hf)
   have e2:=kL (ZQ (t:=t) (n:=n) (e:= {e with ph:=1,x:=⟨0,a,left,aB s.xs (n+4+a),true⟩ }) (st:=st) (s:=s.loadd (n+4+a)) rfl rfl hcas)
   refine⟨_,_,End.cons e1 (End.one e2),rfl,rfl,?_,?_,rfl,rfl⟩
   ·have hwu:WU (aB s.xs (n+4+a)+1)=aB s.xs (n+4+a)+1:=jC (by omega)
    rw [mU hcas,hwu];rfl
   ·show s.c+1+1=s.c+((0+2:Nat):Int);omega
 | i+1,a,left,f,e,st,s,h1,h2,ha,hl,mc,ho,hf=>by
   have e1:=kL (IB (t:=t) (st:=st) h1 h2 (ho 0 (by omega)) (by omega))
   have hn:=rF ha
   obtain⟨z,s',g1,g2,g3,g4,g5,g6,g7⟩:=yS i (cO n a) (left - 1) (aB s.xs (n+4+a)) {e with ph:=1,x:=⟨0,cO n a,left - 1,aB s.xs (n+4+a),false⟩ } st (s.loadd (n+4+a)) rfl rfl (by rw [hn];split<;>omega) (by omega) ⟨mc.ht,mc.hn,mc.len,mc.okw⟩ (fun k hk=>ho (k+1) (by omega)) hf
   exact⟨z,s',End.cons e1 g1,g2,g3,g4,by rw [g5];show s.c+1+_=_;omega,g6,g7⟩
theorem yT{t n:Int} : ∀(m:Nat) (a f:Int) (e:ENS) (st:STS) (s:MS),e.ph=1→e.x=⟨0,a,((m+1:Nat):Int),f,false⟩→1≤a∧a≤n→
 (∀k,k≤m→cW n s.xs (itN n a k)=true)→
 ∃b x s',Go1 (w8 t n) m (e,st,s) b∧w8 t n b=(e.dn||ieq (st.R.length:Int) 0,({e with ph:=2,sh:=e.dn||ieq (st.R.length:Int) 0,x:=x},{st with sp:=0},s'))∧s'.xs=s.xs∧s'.c=s.c+(m+1:Nat)∧s'.t=s.t∧s'.n=s.n
 | 0,a,f,e,st,s,h1,h2,ha,ho=>⟨_,_,_,Go1.nil _,kL (ZP (st:=st) h1 h2 (ho 0 (by omega))),rfl,rfl,rfl,rfl⟩
 | m+1,a,f,e,st,s,h1,h2,ha,ho=>by
   have hn:=rF ha
   have e1:=kL (IB (t:=t) (st:=st) h1 h2 (ho 0 (by omega)) (by omega))
   obtain⟨b,x,s',g1,g2,g3,g4,g5,g6⟩:=yT (t:=t) m (cO n a) (aB s.xs (n+4+a)) {e with ph:=1,x:=⟨0,cO n a,((m+1+1:Nat):Int) - 1,aB s.xs (n+4+a),false⟩ } st (s.loadd (n+4+a)) rfl (by have q:(((m+1+1:Nat):Int) - 1)=((m+1:Nat):Int):=(by omega);rw [q]) (by rw [hn];split<;>omega) (fun k hk=>ho (k+1) (by omega))
   exact⟨b,x,s',Go1.cons e1 g1,g2,g3,by rw [g4];show s.c+1+_=_;omega,g5,g6⟩
def eV(n:Int)(R:List Int)(xs:List Int):List Int:=R.foldl (fun xs r=>aK xs (n+4+r) (WU (aB xs (n+4+r)+1))) xs
theorem sI(n:Int): ∀(R xs:List Int),(eV n R xs).length =xs.length
 | [],xs=>rfl
 | r::R,xs=>(sI n R _).trans (b9 _ _ _)
theorem sJ(n:Int): ∀(R xs:List Int),okW xs→okW (eV n R xs)
 | [],xs,h=>h
 | r::R,xs,h=>sJ n R _ (eB h (rV _))
theorem gK{n a:Int} : ∀(R xs:List Int),(∀r∈R,a≠n+4+r)→aB (eV n R xs) a=aB xs a
 | [],xs,h=>rfl
 | r::R,xs,h=>(gK R _ (fun q hq=>h q (List.mem_cons_of_mem _ hq))).trans (cI (h r (List.mem_cons_self ..)))
theorem vP{n r:Int} : ∀(R xs:List Int),R.Nodup→r∈R→(∀q∈R,0≤n+4+q∧n+4+q<xs.length)→aB (eV n R xs) (n+4+r)=WU (aB xs (n+4+r)+1)
 | q::R,xs,hn,hr,hb=>by
   have hn:=List.nodup_cons.1 hn
   show aB (eV n R (aK xs (n+4+q) (WU (aB xs (n+4+q)+1)))) (n+4+r)=_
   rcases List.mem_cons.1 hr with e | e
   ·subst e
    rw [gK R _ (fun q hq e=>hn.1 (by rw [show r=q from(by omega)];exact hq)),dP (hb r (List.mem_cons_self ..))]
   ·rw [vP R _ hn.2 e (fun q hq=>by rw [b9];exact hb q (List.mem_cons_of_mem _ hq)),cI]
    intro e2
    have:r=q:=by omega
    subst this;exact hn.1 e
def SZ(t n:Int)(xs:List Int):Prop:= ∀i:Int,0≤i→i<2*t→aB xs (2*n+5+i)=0
def mOk(m:List (Int×Int)):Prop:= ∀r,1≤r∧r≤1000→mhas m r=false
theorem IZ:mOk []:=fun r _=>rfl
theorem lM{t n i:Int}{m:List (Int×Int)}{s:MS}(h:mOk m)(hz:SZ t n s.xs)(hi:0≤i∧i<2*t):mOk (aV m n i s):=by
 intro r hr
 have e:aB s.xs (bJ n i)=0:=by
  have:=hz i hi.1 hi.2
  rw [←this];unfold bJ;congr 1;omega
 unfold aV
 rw [e,LY,h r hr,Bool.or_false]
 exact decide_eq_false (by show¬r=0;omega)
theorem x7{m:List (Int×Int)}{R:List Int}(h:mOk m)(hR: ∀r∈R,1≤r∧r≤1000):cK m R=[]∧aW m R=R:=by
 refine⟨List.filter_eq_nil_iff.2 (fun r hr=>by rw [h r (hR r hr)];decide),List.filter_eq_self.2 (fun r hr=>by rw [h r (hR r hr)];rfl)⟩
theorem uM{R:List Int}{j:Nat}(h:j<R.length):List.getD R (j+Int.toNat 0*1) 0=R[j]:=by
 have:j+Int.toNat 0*1=j:=by simp
 rw [this,gD',gE' h];rfl
theorem IX{R:List Int}(h:R≠ []):ieq (R.length:Int) 0=false:=by
 rw [bN,beq_eq_false_iff_ne]
 have:R.length≠0:=fun e=>h (List.length_eq_zero_iff.1 e)
 omega
theorem uH{R:List Int}{j:Nat}(h:j<R.length):R.drop j=R[j]::R.drop (j+1):=List.drop_eq_getElem_cons h
theorem H9{t n:Int}{R:List Int}(hR:R≠ []): ∀(l j:Nat) (e:ENS) (st:STS) (s:MS),e.ph=4→e.y.gs=R→e.y.fs=R→e.y.ks=[]→e.y.j=j→e.y.l=l+1→j+l+1=R.length→
 ∃z s',Go1 (w8 t n) (l+1) (e,st,s) (z,{st with R:=[] },s')∧z.ph=0∧z.sh=false∧z.dn=true∧s'.xs=eV n (R.drop j) s.xs∧s'.c=s.c+(l+1:Nat)∧s'.t=s.t∧s'.n=s.n
 | 0,j,e,st,s,h1,h2,h3,h4,h5,h6,hl=>by
   have hj:j<R.length:=by omega
   have e1:enF t n e st s=⟨false,{e with ph:=0,sh:=false,dn:=true},{st with R:=[] },s.added (n+4+R[j]) 1⟩:=by
    unfold enF
    have q:ieq ((e.y.l - 1:Nat):Int) 0=true:=by rw [h6];decide
    simp only [h1,q,h3,IX hR,h4,bW,h2,h5,uM hj]
   refine⟨_,_,Go1.one (kL e1),rfl,rfl,rfl,?_,by show s.c+1=_;omega,rfl,rfl⟩
   rw [uH hj,show R.drop (j+1)=[]from List.drop_eq_nil_of_le (by omega)]
   rfl
 | l+1,j,e,st,s,h1,h2,h3,h4,h5,h6,hl=>by
   have hj:j<R.length:=by omega
   have e1:enF t n e st s=⟨false,{e with y:= {e.y with j:=e.y.j+1,l:=e.y.l - 1} },st,s.added (n+4+R[j]) 1⟩:=by
    unfold enF
    have q:ieq ((e.y.l - 1:Nat):Int) 0=false:=by rw [h6,bN,beq_eq_false_iff_ne];omega
    simp only [h1,q,bW,h2,h5,uM hj]
   obtain⟨z,s',g1,g2,g3,g4,g5,g6,g7,g8⟩:=H9 hR l (j+1) {e with y:= {e.y with j:=e.y.j+1,l:=e.y.l - 1} } st (s.added (n+4+R[j]) 1) h1 h2 h3 h4 (by show e.y.j+1=_;omega) (by show e.y.l - 1=_;omega) (by omega)
   refine⟨z,s',Go1.cons (kL e1) g1,g2,g3,g4,?_,by rw [g6];show s.c+1+_=_;omega,g7,g8⟩
   rw [g5,uH hj]
   rfl
theorem IA{t n:Int}{R:List Int}(hR:R≠ [])(hr: ∀r∈R,1≤r∧r≤1000): ∀(k:Nat) (i:Int) (e:ENS) (st:STS) (s:MS),e.ph=3→e.y.N=R→e.y.i=i→mOk e.y.m→1≤i→i+k+1=2*t→SZ t n s.xs→
 ∃z s',Go1 (w8 t n) (k+1+R.length) (e,st,s) (z,{st with R:=[] },s')∧z.ph=0∧z.sh=false∧z.dn=true∧s'.xs=eV n R s.xs∧s'.c=s.c+(k+1+R.length:Nat)∧s'.t=s.t∧s'.n=s.n
 | 0,i,e,st,s,h1,h2,h3,h4,hi,hk,hz=>by
   have hm:=lM h4 hz (i:=e.y.i) (by rw [h3];omega)
   obtain⟨k1,k2⟩:=x7 hm (R:=e.y.N) (by rw [h2];exact hr)
   have e1:enF t n e st s=⟨false,{e with ph:=4,y:=⟨0,e.y.N,aV e.y.m n e.y.i s,e.y.i+1,[],R,R,0,R.length⟩ },st,s.loadd (bJ n e.y.i)⟩:=by
    unfold enF
    have q:ieq (e.y.i+1) (2*t)=true:=by rw [bN,beq_iff_eq,h3];omega
    have q2:ieq (e.y.N.length:Int) 0=false:=by rw [h2];exact IX hR
    simp only [h1,q,k1,k2,q2]
    simp only [h2]
   have hl:R.length≠0:=fun e=>hR (List.length_eq_zero_iff.1 e)
   obtain⟨z,s',g1,g2,g3,g4,g5,g6,g7,g8⟩:=H9 (t:=t) (n:=n) hR (R.length - 1) 0 {e with ph:=4,y:=⟨0,e.y.N,aV e.y.m n e.y.i s,e.y.i+1,[],R,R,0,R.length⟩ } st (s.loadd (bJ n e.y.i)) rfl rfl rfl rfl rfl (by show R.length=_;omega) (by omega)
   have hl2:R.length - 1+1=R.length:=by omega
   rw [hl2]at g1 g6
   refine⟨z,s',?_,g2,g3,g4,g5,by rw [g6];show s.c+1+_=_;omega,g7,g8⟩
   have:=(Go1.one (kL e1)).trans g1
   rw [Nat.add_comm]at this
   simpa using this
 | k+1,i,e,st,s,h1,h2,h3,h4,hi,hk,hz=>by
   have hm:=lM h4 hz (i:=e.y.i) (by rw [h3];omega)
   have e1:enF t n e st s=⟨false,{e with y:= {e.y with m:=aV e.y.m n e.y.i s,i:=e.y.i+1} },st,s.loadd (bJ n e.y.i)⟩:=by
    unfold enF
    have q:ieq (e.y.i+1) (2*t)=false:=by rw [bN,beq_eq_false_iff_ne,h3];omega
    simp only [h1,q]
   obtain⟨z,s',g1,g2,g3,g4,g5,g6,g7,g8⟩:=IA hR hr k (i+1) {e with y:= {e.y with m:=aV e.y.m n e.y.i s,i:=e.y.i+1} } st (s.loadd (bJ n e.y.i)) h1 h2 (by show e.y.i+1=_;rw [h3]) hm (by omega) (by omega) hz
   refine⟨z,s',?_,g2,g3,g4,g5,by rw [g6];show s.c+1+_=_;omega,g7,g8⟩
   have:=Go1.cons (kL e1) g1
   have h9:k+1+R.length+1=k+1+1+R.length:=by omega
   rw [h9]at this
   exact this
theorem NQ{t n me:Int}(hn:1≤n):1≤at0 t n me∧at0 t n me≤n:=HR hn
theorem aCQ{P:Nat→Prop} [DecidablePred P]: ∀k,P k→ ∃i,i≤k∧P i∧ ∀j,j<i→ ¬P j
 | 0,h=>⟨0,Nat.le_refl _,h,fun j hj=>absurd hj (by omega)⟩
 | k+1,h=>by
   by_cases q: ∃i,i≤k∧P i
   ·obtain⟨i,hi,hp⟩:=q
    have: ∀m i,i≤m→P i→ ∃j,j≤i∧P j∧ ∀l,l<j→ ¬P l:=by
     intro m
     induction m with
     | zero=>intro i hi hp;exact⟨i,Nat.le_refl _,hp,fun l hl=>absurd hl (by omega)⟩
     | succ m ih=>
       intro i hi hp
       by_cases r: ∃l,l<i∧P l
       ·obtain⟨l,hl,hp⟩:=r
        obtain⟨j,h1,h2,h3⟩:=ih l (by omega) hp
        exact⟨j,by omega,h2,h3⟩
       ·exact⟨i,Nat.le_refl _,hp,fun l hl hp=>r ⟨l,hl,hp⟩⟩
    obtain⟨j,h1,h2,h3⟩:=this i i (Nat.le_refl _) hp
    exact⟨j,by omega,h2,h3⟩
   ·exact⟨k+1,Nat.le_refl _,h,fun j hj hp=>q ⟨j,by omega,hp⟩⟩
theorem CC{t n:Int}{e:ENS}{st:STS}{s:MS}(h:e.ph=0)(hz:st.sp=0)(mc:MC t n s){b0:Int}(hb:1≤b0∧b0≤n)(hf:cW n s.xs b0=false):
 ∃j b z s',End (w8 t n) j (e,st,s) (z,{st with sp:=b},s')∧(1≤b∧b≤n)∧cW n s.xs b=false∧z.sh=e.sh∧s'.xs=aK s.xs (n+4+b) (aB s.xs (n+4+b)+1)∧s'.c=s.c+j∧s'.t=s.t∧s'.n=s.n∧(j:Int)≤n+1:=by
 have ha:=NQ (t:=t) (me:=st.me) mc.hn.1
 obtain⟨k,hk,hkb⟩:=VA ha hb
 obtain⟨i,hi,hfi,ho⟩:=aCQ (P:=fun i=>cW n s.xs (itN n (at0 t n st.me) i)=false) k (by show _=_;rw [hkb];exact hf)
 obtain⟨z,s',g1,g2,g3,g4,g5,g6,g7⟩:=yS (t:=t) (n:=n) i (at0 t n st.me) n 0 {e with ph:=1,x:=⟨0,at0 t n st.me,n,0,false⟩ } st s rfl rfl ha (by omega) mc (fun j hj=>by
  have:=ho j hj
  cases q:cW n s.xs (itN n (at0 t n st.me) j)with
  | true=>rfl
  | false=>exact absurd q this) hfi
 refine⟨i+2,_,z,s',End.congr ?_ g1,z8 _ _ ha,hfi,g2,g4,g5,g6,g7,by omega⟩
 unfold w8
 simp only [vF h hz]
theorem CD{t n:Int}{e:ENS}{st:STS}{s:MS}(h:e.ph=0)(hz:st.sp=0)(hn:1≤n)(ho: ∀b,1≤b∧b≤n→cW n s.xs b=true):
 ∃(j:Nat) (b:ENS×STS×MS) (x:AL) (s':MS),(j:Int)+1=n∧Go1 (w8 t n) j ({e with ph:=1,x:=⟨0,at0 t n st.me,n,0,false⟩ },st,s) b∧w8 t n b=(e.dn||ieq (st.R.length:Int) 0,({e with ph:=2,sh:=e.dn||ieq (st.R.length:Int) 0,x:=x},{st with sp:=0},s'))∧s'.xs=s.xs∧s'.c=s.c+(j+1:Nat)∧s'.t=s.t∧s'.n=s.n:=by
 have ha:=NQ (t:=t) (me:=st.me) hn
 have hn2:(((n - 1).toNat +1:Nat):Int)=n:=by omega
 obtain⟨b,x,s',g1,g2,g3,g4,g5,g6⟩:=yT (t:=t) (n:=n) (n - 1).toNat (at0 t n st.me) 0 {e with ph:=1,x:=⟨0,at0 t n st.me,n,0,false⟩ } st s rfl (by rw [hn2]) ha (fun k _=>ho _ (z8 k _ ha))
 exact⟨_,b,x,s',by omega,g1,g2,g3,g4,g5,g6⟩
theorem KC{t n:Int}{e:ENS}{st:STS}{s:MS}(h:e.ph=0)(hz:st.sp=0)(hn:1≤n)(ho: ∀b,1≤b∧b≤n→cW n s.xs b=true)(hR:st.R=[]):
 ∃j z s',End (w8 t n) j (e,st,s) (z,st,s')∧z.sh=true∧s'.xs=s.xs∧s'.c=s.c+j∧s'.t=s.t∧s'.n=s.n∧(j:Int)=n:=by
 obtain⟨j,b,x,s',hj,g1,g2,g3,g4,g5,g6⟩:=CD (t:=t) h hz hn ho
 have hd:(e.dn||ieq (st.R.length:Int) 0)=true:=by rw [hR];cases e.dn<;>rfl
 rw [hd,show({st with sp:=0} :STS)=st by rw [←hz]]at g2
 refine⟨j+1,_,s',End.congr (a':=({e with ph:=1,x:=⟨0,at0 t n st.me,n,0,false⟩ },st,s)) ?_ ⟨j,b,rfl,g1,g2⟩,rfl,g3,g4,g5,g6,by omega⟩
 unfold w8
 simp only [vF h hz]
theorem KD{t n:Int}{e:ENS}{st:STS}{s:MS}(h:e.ph=0)(hd:e.dn=false)(hz:st.sp=0)(mc:MC t n s)(ho: ∀b,1≤b∧b≤n→cW n s.xs b=true)(hR:st.R≠ [])(hr: ∀r∈st.R,1≤r∧r≤n)(hnd:st.R.Nodup)(sz:SZ t n s.xs):
 ∃j b z s',End (w8 t n) j (e,st,s) (z,⟨st.me,b,[]⟩,s')∧(1≤b∧b≤n)∧b∈st.R∧cW n (eV n st.R s.xs) b=false∧z.sh=false∧s'.xs=aK (eV n st.R s.xs) (n+4+b) (aB (eV n st.R s.xs) (n+4+b)+1)∧s'.c=s.c+j∧s'.t=s.t∧s'.n=s.n∧(j:Int)≤2*n+1+2*t+st.R.length:=by
 obtain⟨j,b,x,s1,hj,g1,g2,g3,g4,g5,g6⟩:=CD (t:=t) h hz mc.hn.1 ho
 have hdd:(e.dn||ieq (st.R.length:Int) 0)=false:=by rw [hd,IX hR];rfl
 rw [hdd,show({st with sp:=0} :STS)=st by rw [←hz]]at g2
 have hr2: ∀r∈st.R,1≤r∧r≤1000:=fun r q=>by have:=hr r q;have:=mc.hn;omega
 have sz1:SZ t n s1.xs:=by rw [g3];exact sz
 have e2:enF t n {e with ph:=2,sh:=false,x:=x} st s1=⟨false,{e with ph:=3,sh:=false,x:=x,y:= {e.y with N:=st.R,m:=aV [] n 0 s1,i:=1} },st,s1.loadd (bJ n 0)⟩:=rfl
 have ht:=mc.ht
 obtain⟨z2,s2,k1,k2,k3,k4,k5,k6,k7,k8⟩:=IA (t:=t) (n:=n) hR hr2 (2*t - 2).toNat 1 {e with ph:=3,sh:=false,x:=x,y:= {e.y with N:=st.R,m:=aV [] n 0 s1,i:=1} } st (s1.loadd (bJ n 0)) rfl rfl rfl (lM IZ sz1 ⟨Int.le_refl 0,by omega⟩) (Int.le_refl 1) (by omega) sz1
 have k5:s2.xs=eV n st.R s.xs:=k5.trans (by rw [PV,g3])
 obtain⟨r0,R0,hrr⟩:=List.exists_cons_of_ne_nil hR
 have hr0:r0∈st.R:=by rw [hrr];exact List.mem_cons_self ..
 have hin: ∀q∈st.R,0≤n+4+q∧n+4+q<s.xs.length:=fun q hq=>by have:=hr q hq;have:=mc.len;omega
 have hev: ∀q∈st.R,cW n (eV n st.R s.xs) q=false:=by
  intro q hq
  have h1:=vP st.R s.xs hnd hq hin
  have h2:=ho q (hr q hq)
  have h3:=jR mc.okw (n+4+q)
  have h4:aB s.xs (n+4+q)%2=1:=(jQ h3.1).1 h2
  have h5:WU (aB s.xs (n+4+q)+1)%2=0:=by
   have h6:WU (aB s.xs (n+4+q)+1)=(aB s.xs (n+4+q)+1)%18446744073709551616:=by
    generalize aB s.xs (n+4+q)=y at h3 h4
    by_cases q0:y+1≤18446744073709551615
    ·have q2:WU (y+1)=y+1:=jC ⟨by omega,q0⟩
     rw [q2];omega
    ·have q3:y+1=18446744073709551616:=by omega
     rw [q3];decide
   omega
  have h8:=rV (aB s.xs (n+4+q)+1)
  cases q9:cW n (eV n st.R s.xs) q with
  | false=>rfl
  | true=>
    have q9:oddB (aB (eV n st.R s.xs) (n+4+q))=true:=q9
    rw [h1,jQ h8.1]at q9;omega
 have mc2:MC t n s2:=⟨mc.ht,mc.hn,by rw [k5,sI];exact mc.len,by rw [k5];exact sJ _ _ _ mc.okw⟩
 obtain⟨j3,b3,z3,s3,f1,f2,f3,f4,f5,f6,f7,f8,f9⟩:=CC (t:=t) (n:=n) (e:=z2) (st:= {st with R:=[] }) (s:=s2) k2 hz mc2 (hr r0 hr0) (by rw [k5];exact hev r0 hr0)
 rw [k5]at f3 f5
 have hbR:b3∈st.R:=by
  cases q:decide (b3∈st.R)with
  | true=>exact of_decide_eq_true q
  | false=>
    have q:=of_decide_eq_false q
    have h1:aB (eV n st.R s.xs) (n+4+b3)=aB s.xs (n+4+b3):=gK _ _ (fun r hr e=>q (by rw [show b3=r from(by omega)];exact hr))
    have h2:=ho b3 f2
    have f3:oddB (aB (eV n st.R s.xs) (n+4+b3))=false:=f3
    rw [h1]at f3
    have h2:oddB (aB s.xs (n+4+b3))=true:=h2
    rw [h2]at f3;cases f3
 have all:=(g1.trans (Go1.cons g2 (Go1.cons (kL e2) k1)))
 refine⟨_,b3,z3,s3,End.congr ?_ (aET all f1),f2,hbR,f3,f4.trans k3,f5,?_,f7.trans (k7.trans g5),f8.trans (k8.trans g6),?_⟩
 ·unfold w8
  simp only [vF h hz]
 ·rw [f6,k6]
  show s1.c+1+_+_=_
  rw [g4];omega
 ·omega
def XX(t n:Int)(p:SWS×STS×MS):Bool×(SWS×STS×MS):=((swF t n p.1 p.2.1 p.2.2).d,((swF t n p.1 p.2.1 p.2.2).e,(swF t n p.1 p.2.1 p.2.2).st,(swF t n p.1 p.2.1 p.2.2).s))
theorem wN{t n:Int}{x:SWS}{st:STS}{s:MS}{d:Bool}{x':SWS}{st':STS}{s':MS}(h:swF t n x st s=⟨d,x',st',s'⟩):XX t n (x,st,s)=(d,(x',st',s')):=by
 unfold XX;rw [h]
theorem JD{t n:Int}{R:List Int}(hR:R≠ []): ∀(l j:Nat) (y:SWS) (st:STS) (s:MS),y.ph=2→y.gs=R→y.ks=[]→y.j=j→y.l=l+1→j+l+1=R.length→
 ∃z s',End (XX t n) (l+1) (y,st,s) (z,{st with R:=[] },s')∧s'.xs=eV n (R.drop j) s.xs∧s'.c=s.c+(l+1:Nat)∧s'.t=s.t∧s'.n=s.n
 | 0,j,y,st,s,h1,h2,h4,h5,h6,hl=>by
   have hj:j<R.length:=by omega
   have e1:swF t n y st s=⟨true,{y with ph:=3},{st with R:=[] },s.added (n+4+R[j]) 1⟩:=by
    unfold swF
    have q:ieq ((y.l - 1:Nat):Int) 0=true:=by rw [h6];decide
    simp only [h1,q,h4,bW,h2,h5,uM hj]
   refine⟨_,_,End.one (wN e1),?_,by show s.c+1=_;omega,rfl,rfl⟩
   rw [uH hj,show R.drop (j+1)=[]from List.drop_eq_nil_of_le (by omega)]
   rfl
 | l+1,j,y,st,s,h1,h2,h4,h5,h6,hl=>by
   have hj:j<R.length:=by omega
   have e1:swF t n y st s=⟨false,{y with j:=y.j+1,l:=y.l - 1},st,s.added (n+4+R[j]) 1⟩:=by
    unfold swF
    have q:ieq ((y.l - 1:Nat):Int) 0=false:=by rw [h6,bN,beq_eq_false_iff_ne];omega
    simp only [h1,q,bW,h2,h5,uM hj]
   obtain⟨z,s',g1,g5,g6,g7,g8⟩:=JD hR l (j+1) {y with j:=y.j+1,l:=y.l - 1} st (s.added (n+4+R[j]) 1) h1 h2 h4 (by show y.j+1=_;omega) (by show y.l - 1=_;omega) (by omega)
   refine⟨z,s',End.cons (wN e1) g1,?_,by rw [g6];show s.c+1+_=_;omega,g7,g8⟩
   rw [g5,uH hj]
   rfl
theorem JE{t n:Int}{R:List Int}(hR:R≠ [])(hr: ∀r∈R,1≤r∧r≤1000): ∀(k:Nat) (i:Int) (y:SWS) (st:STS) (s:MS),y.ph=1→y.N=R→y.i=i→mOk y.m→1≤i→i+k+1=2*t→SZ t n s.xs→
 ∃z s',End (XX t n) (k+1+R.length) (y,st,s) (z,{st with R:=[] },s')∧s'.xs=eV n R s.xs∧s'.c=s.c+(k+1+R.length:Nat)∧s'.t=s.t∧s'.n=s.n
 | 0,i,y,st,s,h1,h2,h3,h4,hi,hk,hz=>by
   have hm:=lM h4 hz (i:=y.i) (by rw [h3];omega)
   obtain⟨k1,k2⟩:=x7 hm (R:=y.N) (by rw [h2];exact hr)
   have e1:swF t n y st s=⟨false,⟨2,y.N,aV y.m n y.i s,y.i+1,[],R,R,0,R.length⟩,st,s.loadd (bJ n y.i)⟩:=by
    unfold swF
    have q:ieq (y.i+1) (2*t)=true:=by rw [bN,beq_iff_eq,h3];omega
    have q2:ieq (y.N.length:Int) 0=false:=by rw [h2];exact IX hR
    simp only [h1,q,k1,k2,q2]
    simp only [h2]
   have hl:R.length≠0:=fun e=>hR (List.length_eq_zero_iff.1 e)
   obtain⟨z,s',g1,g5,g6,g7,g8⟩:=JD (t:=t) (n:=n) hR (R.length - 1) 0 ⟨2,y.N,aV y.m n y.i s,y.i+1,[],R,R,0,R.length⟩ st (s.loadd (bJ n y.i)) rfl rfl rfl rfl (by show R.length=_;omega) (by omega)
   have hl2:R.length - 1+1=R.length:=by omega
   rw [hl2]at g1 g6
   refine⟨z,s',?_,g5,by rw [g6];show s.c+1+_=_;omega,g7,g8⟩
   have:=End.cons (wN e1) g1
   rw [Nat.add_comm]at this
   simpa using this
 | k+1,i,y,st,s,h1,h2,h3,h4,hi,hk,hz=>by
   have hm:=lM h4 hz (i:=y.i) (by rw [h3];omega)
   have e1:swF t n y st s=⟨false,{y with m:=aV y.m n y.i s,i:=y.i+1},st,s.loadd (bJ n y.i)⟩:=by
    unfold swF
    have q:ieq (y.i+1) (2*t)=false:=by rw [bN,beq_eq_false_iff_ne,h3];omega
    simp only [h1,q]
   obtain⟨z,s',g1,g5,g6,g7,g8⟩:=JE hR hr k (i+1) {y with m:=aV y.m n y.i s,i:=y.i+1} st (s.loadd (bJ n y.i)) h1 h2 (by show y.i+1=_;rw [h3]) hm (by omega) (by omega) hz
   refine⟨z,s',?_,g5,by rw [g6];show s.c+1+_=_;omega,g7,g8⟩
   have:=End.cons (wN e1) g1
   have h9:k+1+R.length+1=k+1+1+R.length:=by omega
   rw [h9]at this
   exact this
theorem aBw{t n:Int}{y:SWS}{st:STS}{s:MS}(h:y.ph=0)(ht:1≤t)(hn:n≤500)(hR:st.R≠ [])(hr: ∀r∈st.R,1≤r∧r≤n)(sz:SZ t n s.xs):
 ∃j z s',End (XX t n) j (y,st,s) (z,{st with R:=[] },s')∧s'.xs=eV n st.R s.xs∧s'.c=s.c+j∧s'.t=s.t∧s'.n=s.n∧(j:Int)=2*t+st.R.length:=by
 have hr2: ∀r∈st.R,1≤r∧r≤1000:=fun r q=>by have:=hr r q;omega
 have e2:swF t n y st s=⟨false,{y with ph:=1,N:=st.R,m:=aV [] n 0 s,i:=1},st,s.loadd (bJ n 0)⟩:=by
  unfold swF;simp only [h]
 obtain⟨z,s',g1,g2,g3,g4,g5⟩:=JE (t:=t) (n:=n) hR hr2 (2*t - 2).toNat 1 {y with ph:=1,N:=st.R,m:=aV [] n 0 s,i:=1} st (s.loadd (bJ n 0)) rfl rfl rfl (lM IZ sz ⟨Int.le_refl 0,by omega⟩) (Int.le_refl 1) (by omega) sz
 exact⟨_,z,s',End.cons (wN e2) g1,g2,by rw [g3];show s.c+1+_=_;omega,g4,g5,by omega⟩
def LA(t n:Int)(p:HDS×MS):Bool×(HDS×MS):=((hdF t n p.1 p.2).d,((hdF t n p.1 p.2).x,(hdF t n p.1 p.2).s))
abbrev B1(t n u:Int):Int:=2*n+5+2*t+3*u+2
theorem O8{t n:Int}{x:HDS}{s:MS}{d:Bool}{x':HDS}{s':MS}(h:hdF t n x s=⟨d,x',s'⟩):LA t n (x,s)=(d,(x',s')):=by
 unfold LA;rw [h]
def PZ(t n:Int)(xs:List Int):Prop:= ∀u:Int,0≤u→u<t→lQ (aA (aB xs (B1 t n u)) 49 3)=false
theorem XG{t n:Int}{x:HDS}{s:MS}(h:x.tk=false)(ha:0≤x.at'∧x.at'<t)(ht:t≤1000)(hz:PZ t n s.xs):hdF t n x s=⟨ile t (x.at'+1),{x with at':=x.at'+1,tk:=false},s.loadd (B1 t n x.at')⟩:=by
 unfold hdF hdT PA
 have hp:lQ (aA (aB s.3 (2*n+5+2*t+3*x.3+2)) 49 3)=false:=hz x.at' ha.1 ha.2
 have hw:W (x.3+1)=x.3+1:=cJ ⟨by have:0≤x.3:=ha.1;omega,by have:x.3<t:=ha.2;omega⟩
 simp only [Tr.val,h,hp,hw,Bool.not_false,cond_true]
 rfl
theorem x5{t n:Int} : ∀(k:Nat) (x:HDS) (s:MS),x.tk=false→0≤x.at'→x.at'+k+1=t→t≤1000→PZ t n s.xs→
 ∃z s',End (LA t n) (k+1) (x,s) (z,s')∧z.u=x.u∧s'.xs=s.xs∧s'.c=s.c+(k+1:Nat)∧s'.t=s.t∧s'.n=s.n
 | 0,x,s,h1,h2,h3,h4,h5=>by
   have e:=XG (n:=n) h1 ⟨h2,by omega⟩ h4 h5
   have q:ile t (x.at'+1)=true:=by rw [cD];exact decide_eq_true (by omega)
   rw [q]at e
   exact⟨_,_,End.one (O8 e),rfl,rfl,rfl,rfl,rfl⟩
 | k+1,x,s,h1,h2,h3,h4,h5=>by
   have e:=XG (n:=n) h1 ⟨h2,by omega⟩ h4 h5
   have q:ile t (x.at'+1)=false:=by rw [cD];exact decide_eq_false (by omega)
   rw [q]at e
   obtain⟨z,s',g1,g2,g3,g4,g5,g6⟩:=x5 k {x with at':=x.at'+1,tk:=false} (s.loadd (B1 t n x.at')) rfl (by show 0≤x.at'+1;omega) (by show x.at'+1+k+1=t;omega) h4 h5
   exact⟨z,s',End.cons (O8 e) g1,g2,g3,by rw [g4];show s.c+1+_=_;omega,g5,g6⟩
def drG(t n:Int)(p:DRS×MS):Bool×(DRS×MS):=((drF t n p.1 p.2).d,((drF t n p.1 p.2).x,(drF t n p.1 p.2).s))
theorem OH(t n me:Int)(s:MS): ∃z s1,End (drG t n) 2 (⟨me,0⟩,s) (z,(s.stored (2*n+5+2*me+0) 0).stored (2*n+5+2*me+1) 0)∧drF t n ⟨me,0⟩ s=⟨false,⟨me,1⟩,s1⟩:=by
 have e1:drF t n ⟨me,0⟩ s=⟨false,⟨me,1⟩,s.stored (2*n+5+2*me+0) 0⟩:=by
  unfold drF W8 KB
  have hw:W (0+1)=1:=by decide
  simp only [Tr.val,hw,show ile 2 1=false by decide]
  rfl
 have e2: ∀s,drF t n ⟨me,1⟩ s=⟨true,⟨me,2⟩,s.stored (2*n+5+2*me+1) 0⟩:=by
  intro s
  unfold drF W8 KB
  have hw:W (1+1)=2:=by decide
  simp only [Tr.val,hw,show ile 2 2=true by decide]
  rfl
 refine⟨_,_,End.cons (b:=(⟨me,1⟩,s.stored (2*n+5+2*me+0) 0)) (by unfold drG;rw [e1]) (End.one (by unfold drG;rw [e2])),e1⟩
def allN(LL:List (List Nd))(S:List STS):List Int:=LL.flatMap (fun L=>L.map Nd.a)++S.flatMap (fun st=>dE st.sp st.R)
theorem iU{α β:Type}(f:α→List β): ∀(l:List α) (i:Nat) (x:α),l[i]? =some x→(l.flatMap f).Perm (f x++(l.eraseIdx i).flatMap f)
 | [],i,x,h=>by simp at h
 | y::l,0,x,h=>by simp at h;subst h;exact List.Perm.refl _
 | y::l,i+1,x,h=>by
   have:=iU f l i x (by simpa using h)
   simp only [List.flatMap_cons,List.eraseIdx_cons_succ]
   refine(List.Perm.append_left (f y) this).trans ?_
   rw [←List.append_assoc,←List.append_assoc]
   exact List.Perm.append_right _ List.perm_append_comm
theorem nF{α β:Type}(f:α→List β): ∀(l:List α) (i:Nat) (x:α),i<l.length→((l.set i x).flatMap f).Perm (f x++(l.eraseIdx i).flatMap f)
 | [],i,x,h=>by simp at h
 | y::l,0,x,h=>by simp
 | y::l,i+1,x,h=>by
   have:=nF f l i x (by simpa using h)
   simp only [List.flatMap_cons,List.eraseIdx_cons_succ,List.set_cons_succ]
   refine(List.Perm.append_left (f y) this).trans ?_
   rw [←List.append_assoc,←List.append_assoc]
   exact List.Perm.append_right _ List.perm_append_comm
structure QL (t n:Int) (xs:List Int) (LL:List (List Nd)) (S:List STS):Prop where
 ht:1≤t∧t≤1000
 hn:1≤n∧n≤500
 len:(xs.length:Int)=2*n+5*t+6
 okw:okW xs
 four:LL.length=4
 hd: ∀(h:Nat) (L:List Nd),LL[h]? =some L→ch n xs (n+1+h) L∧mkW (aB xs (n+1+h))=false∧clW' (aB xs (n+1+h))=0
 nd:(allN LL S).Nodup
 rng: ∀b∈allN LL S,1≤b∧b≤n
 tk: ∀b,1≤b∧b≤n→(cW n xs b=true↔b∈allN LL S)
 me: ∀(i:Nat) (st:STS),S[i]? =some st→st.me=i∧(i:Int)<t
theorem QL.mc{t n:Int}{LL:List (List Nd)}{S:List STS}{s:MS}(h:QL t n s.xs LL S):MC t n s:=⟨h.ht,h.hn,h.len,h.okw⟩
theorem iL{α:Type}{l:List α}{i:Nat}{x:α}(h:l[i]? =some x):i<l.length:=by
 rw [List.getElem?_eq_some_iff]at h;exact h.1
theorem gW{t n:Int}{xs:List Int}{LL:List (List Nd)}{S:List STS}(q:QL t n xs LL S){h:Nat}{L:List Nd}(hL:LL[h]? =some L):(L.map Nd.a).Nodup ∧(∀b∈L.map Nd.a,1≤b∧b≤n)∧(∀b∈L.map Nd.a,b∈allN LL S):=by
 have p:=iU (fun L:List Nd=>L.map Nd.a) LL h L hL
 have m: ∀b∈L.map Nd.a,b∈allN LL S:=fun b hb=>List.mem_append_left _ (p.symm.subset (List.mem_append_left _ hb))
 have nd:(LL.flatMap fun L:List Nd=>L.map Nd.a).Nodup :=(List.nodup_append.1 q.nd).1
 exact⟨(List.nodup_append.1 (p.nodup_iff.1 nd)).1,fun b hb=>q.rng b (m b hb),m⟩
theorem fW{t n:Int}{xs:List Int}{LL:List (List Nd)}{S:List STS}(q:QL t n xs LL S){i:Nat}{st:STS}(hS:S[i]? =some st):(dE st.sp st.R).Nodup ∧(∀b∈dE st.sp st.R,1≤b∧b≤n)∧(∀b∈dE st.sp st.R,b∈allN LL S):=by
 have p:=iU (fun st:STS=>dE st.sp st.R) S i st hS
 have m: ∀b∈dE st.sp st.R,b∈allN LL S:=fun b hb=>List.mem_append_right _ (p.symm.subset (List.mem_append_left _ hb))
 have nd:(S.flatMap fun st:STS=>dE st.sp st.R).Nodup :=(List.nodup_append.1 q.nd).2.1
 exact⟨(List.nodup_append.1 (p.nodup_iff.1 nd)).1,fun b hb=>q.rng b (m b hb),m⟩
theorem sK{t n:Int}{xs:List Int}{LL:List (List Nd)}{S:List STS}(q:QL t n xs LL S){i h:Nat}{st:STS}{L:List Nd}(hS:S[i]? =some st)(hL:LL[h]? =some L): ∀b∈dE st.sp st.R,b∉L.map Nd.a:=by
 intro b hb hc
 have p:=iU (fun st:STS=>dE st.sp st.R) S i st hS
 have p2:=iU (fun L:List Nd=>L.map Nd.a) LL h L hL
 exact(List.nodup_append.1 q.nd).2.2 b (p2.symm.subset (List.mem_append_left _ hc)) b (p.symm.subset (List.mem_append_left _ hb)) rfl
theorem l0{sp:Int}{R:List Int}{r:Int}(h:r∈R):r∈dE sp R:=by
 unfold dE
 cases ieq sp 0 with
 | true=>exact h
 | false=>exact List.mem_cons_of_mem _ h
theorem p5{sp:Int}{R:List Int}(h:(dE sp R).Nodup):R.Nodup:=by
 unfold dE at h
 cases q:ieq sp 0 with
 | true=>rw [q]at h;exact h
 | false=>rw [q]at h;exact(List.nodup_cons.1 h).2
theorem PE(R:List Int):dE 0 R=R:=rfl
theorem mB{sp:Int}(h:sp≠0)(R:List Int):dE sp R=sp::R:=by
 unfold dE
 have:ieq sp 0=false:=by rw [bN,beq_eq_false_iff_ne];exact h
 rw [this];rfl
theorem QL.agree{t n:Int}{xs ys:List Int}{LL:List (List Nd)}{S S':List STS}(q:QL t n xs LL S)(len:ys.length=xs.length)(ok:okW ys)(e: ∀a,1≤a∧a≤n+4→aB ys a=aB xs a)
 (nd:(allN LL S').Nodup) (rng: ∀b∈allN LL S',1≤b∧b≤n) (tk: ∀b,1≤b∧b≤n→(cW n ys b=true↔b∈allN LL S')) (me: ∀(i:Nat) (st:STS),S'[i]? =some st→st.me=i∧(i:Int)<t):QL t n ys LL S' where
 ht:=q.ht
 hn:=q.hn
 len:=by rw [len];exact q.len
 okw:=ok
 four:=q.four
 hd:=by
  intro h L hL
  obtain⟨h1,h2,h3⟩:=q.hd h L hL
  have hh:h<4:=by have:=iL hL;rw [q.four]at this;exact this
  have hn:=q.hn
  have eh:=e (n+1+h) (by omega)
  refine⟨jG h1 (fun b hb=>e b ?_),by rw [eh];exact h2,by rw [eh];exact h3⟩
  rcases List.mem_cons.1 hb with r | r
  ·omega
  ·have:=(gW q hL).2.1 b r;omega
 nd:=nd
 rng:=rng
 tk:=tk
 me:=me
theorem oT{α:Type}{l:List α}{i j:Nat}{x y:α}(h:(l.set i x)[j]? =some y):(i=j∧x=y)∨(l[j]? =some y∧i≠j):=by
 rw [List.getElem?_set]at h
 by_cases e:i=j
 ·rw [if_pos e]at h
  split at h
  ·exact .inl ⟨e,by simpa using h⟩
  ·cases h
 ·rw [if_neg e]at h
  exact .inr ⟨h,e⟩
theorem GO{t:Int}{S:List STS}{i:Nat}{st st':STS}(h: ∀(j:Nat) (x:STS),S[j]? =some x→x.me=j∧(j:Int)<t)(hS:S[i]? =some st)(e:st'.me=st.me): ∀(j:Nat) (x:STS),(S.set i st')[j]? =some x→x.me=j∧(j:Int)<t:=by
 intro j x hx
 rcases oT hx with⟨rfl,rfl⟩ | ⟨h1,_⟩
 ·rw [e];exact h i st hS
 ·exact h j x h1
theorem IY{n a b:Int}(hn:1≤n)(ha:1≤a∧a≤n+4)(hb:1≤b):a≠n+4+b:=by omega
theorem LS{t n:Int}{xs:List Int}{b c v:Int}(hin:0≤n+4+b∧n+4+b<xs.length):cW n (aK xs (n+4+b) v) c=if c=b then oddB v else cW n xs c:=by
 unfold cW
 rw [wA hin]
 by_cases e:c=b
 ·rw [if_pos e,if_pos (by omega)]
 ·rw [if_neg e,if_neg (by omega)]
theorem QL.take{t n:Int}{xs:List Int}{LL:List (List Nd)}{S:List STS}(q:QL t n xs LL S){i:Nat}{st:STS}(hS:S[i]? =some st)(hz:st.sp=0){b:Int}(hb:1≤b∧b≤n)(hf:cW n xs b=false):
 QL t n (aK xs (n+4+b) (aB xs (n+4+b)+1)) LL (S.set i {st with sp:=b}):=by
 have hn:=q.hn
 have ht:=q.ht
 have hin:0≤n+4+b∧n+4+b<xs.length:=by have:=q.len;omega
 have hw:=jR q.okw (n+4+b)
 have hev: ¬aB xs (n+4+b)%2=1:=by
  intro h
  have:cW n xs b=true:=(jQ hw.1).2 h
  rw [this]at hf;cases hf
 have hb0:b∉allN LL S:=fun h=>by
  have:=(q.tk b hb).2 h
  rw [this]at hf;cases hf
 have p0:=iU (fun st:STS=>dE st.sp st.R) S i st hS
 have p1:=nF (fun st:STS=>dE st.sp st.R) S i {st with sp:=b} (iL hS)
 have pp:(allN LL (S.set i {st with sp:=b})).Perm (b::allN LL S):=by
  refine(List.Perm.append_left _ p1).trans ?_
  have h1:dE b st.R=b::dE st.sp st.R:=by rw [hz,PE,mB (by omega)]
  show(_++(dE b st.R++_)).Perm _
  rw [h1]
  refine List.Perm.trans ?_ (List.Perm.cons b (List.Perm.append_left _ p0.symm))
  rw [List.cons_append]
  exact List.perm_middle
 refine q.agree (b9 _ _ _) (eB q.okw (by omega)) (fun a ha=>cI (IY hn.1 ha hb.1)) (pp.nodup_iff.2 (List.nodup_cons.2 ⟨hb0,q.nd⟩)) (fun c hc=>?_) (fun c hc=>?_) (GO q.me hS rfl)
 ·rcases List.mem_cons.1 (pp.subset hc)with e | e
  ·rw [e];exact hb
  ·exact q.rng c e
 ·rw [LS (t:=t) hin]
  by_cases e:c=b
  ·rw [if_pos e,e]
   exact⟨fun _=>pp.symm.subset (List.mem_cons_self ..),fun _=>(jQ (by omega)).2 (by omega)⟩
  ·rw [if_neg e,q.tk c hc]
   exact⟨fun h=>pp.symm.subset (List.mem_cons_of_mem _ h),fun h=>(List.mem_cons.1 (pp.subset h)).resolve_left e⟩
theorem RZ{x:Int}(h:0≤x∧x≤18446744073709551615)(ho:x%2=1):WU (x+1)%2=0:=by
 by_cases q:x+1≤18446744073709551615
 ·have q2:WU (x+1)=x+1:=jC ⟨by omega,q⟩
  rw [q2];omega
 ·have q3:x+1=18446744073709551616:=by omega
  rw [q3];decide
theorem QL.give{t n:Int}{xs:List Int}{LL:List (List Nd)}{S:List STS}(q:QL t n xs LL S){i:Nat}{st:STS}(hS:S[i]? =some st):QL t n (eV n st.R xs) LL (S.set i {st with R:=[] }):=by
 have hn:=q.hn
 have ht:=q.ht
 obtain⟨h1,h2,h3⟩:=fW q hS
 have hR:=p5 h1
 have hr: ∀r∈st.R,1≤r∧r≤n:=fun r h=>h2 r (l0 h)
 have hin: ∀r∈st.R,0≤n+4+r∧n+4+r<xs.length:=fun r h=>by have:=hr r h;have:=q.len;omega
 have p0:=iU (fun st:STS=>dE st.sp st.R) S i st hS
 have p1:=nF (fun st:STS=>dE st.sp st.R) S i {st with R:=[] } (iL hS)
 have ph:(dE st.sp st.R).Perm (st.R++dE st.sp []):=by
  unfold dE
  cases ieq st.sp 0 with
  | true=>simp
  | false=>simpa using(List.perm_append_comm (l₁:=[st.sp]) (l₂:=st.R))
 have pp:(allN LL S).Perm (st.R++allN LL (S.set i {st with R:=[] })):=by
  unfold allN
  refine(List.Perm.append_left _ p0).trans ?_
  refine List.Perm.trans ?_ (List.Perm.append_left _ (List.Perm.append_left _ p1.symm))
  refine(List.Perm.append_left _ (List.Perm.append_right _ ph)).trans ?_
  exact List.perm_iff_count.2 (fun a=>by simp only [List.count_append];omega)
 have nd2:=pp.nodup_iff.1 q.nd
 have nd3:=List.nodup_append.1 nd2
 refine q.agree (sI _ _ _) (sJ _ _ _ q.okw) (fun a ha=>gK _ _ (fun r h=>IY hn.1 ha (hr r h).1)) nd3.2.1 (fun c hc=>q.rng c (pp.symm.subset (List.mem_append_right _ hc))) (fun c hc=>?_) (GO q.me hS rfl)
 by_cases e:c∈st.R
 ·have g:=vP st.R xs hR e hin
  have hw:=jR q.okw (n+4+c)
  have ho:aB xs (n+4+c)%2=1:=(jQ hw.1).1 ((q.tk c hc).2 (pp.symm.subset (List.mem_append_left _ e)))
  have hv:=RZ hw ho
  have hw2:=rV (aB xs (n+4+c)+1)
  constructor
  ·intro h
   exfalso
   have h:oddB (aB (eV n st.R xs) (n+4+c))=true:=h
   rw [g,jQ hw2.1]at h;omega
  ·intro h
   exact absurd rfl (nd3.2.2 c e c h)
 ·have g:aB (eV n st.R xs) (n+4+c)=aB xs (n+4+c):=gK _ _ (fun r h e2=>e (by rw [show c=r from(by omega)];exact h))
  have g2:cW n (eV n st.R xs) c=cW n xs c:=by unfold cW;rw [g]
  rw [g2,q.tk c hc]
  exact⟨fun h=>(List.mem_append.1 (pp.subset h)).resolve_left e,fun h=>pp.symm.subset (List.mem_append_right _ h)⟩
theorem QL.out{t n:Int}{xs ys:List Int}{LL:List (List Nd)}{S:List STS}(q:QL t n xs LL S)(len:ys.length=xs.length)(ok:okW ys)(e: ∀a,a≤2*n+4→aB ys a=aB xs a):QL t n ys LL S:=by
 refine q.agree len ok (fun a ha=>e a (by have:=q.hn;omega)) q.nd q.rng (fun b hb=>?_) q.me
 rw [←q.tk b hb]
 unfold cW
 rw [e _ (by omega)]
theorem AR(k:Int): ∀L:List Nd,L.Perm ((sc k L).1++(sc k L).2.1++(sc k L).2.2)
 | []=>List.Perm.refl _
 | b::L=>by
   have ih:=AR k L
   cases hm:b.m with
   | true=>
     rw [kE hm]
     refine(List.Perm.cons b ih).trans ?_
     simp only [List.append_assoc,List.cons_append]
     exact List.perm_middle.symm
   | false=>
     by_cases hk:k≤b.k
     ·rw [kF hm hk];exact List.Perm.refl _
     ·rw [iY hm (by omega)];exact List.Perm.cons b ih
theorem C2(sh ky:Int):(bY sh ky).toNat <4:=by have:=cS sh ky;omega
theorem vQ(sh ky:Int):(((bY sh ky).toNat :Nat):Int)=bY sh ky:=by have:=cS sh ky;omega
def bQ(LL:List (List Nd))(sh ky:Int):List Nd:=LL.getD (bY sh ky).toNat []
theorem QL.at{t n:Int}{xs:List Int}{LL:List (List Nd)}{S:List STS}(q:QL t n xs LL S)(sh ky:Int):LL[(bY sh ky).toNat]? =some (bQ LL sh ky):=by
 have h:(bY sh ky).toNat <LL.length:=by rw [q.four];exact C2 _ _
 unfold bQ
 rw [gD',gE' h];rfl
theorem vX: ∀(l m:List Int),l.Nodup→(∀a∈l,a∈m)→l.length≤m.length
 | [],m,_,_=>Nat.zero_le _
 | a::l,m,h,hs=>by
   have h:=List.nodup_cons.1 h
   have ha:=hs a (List.mem_cons_self ..)
   have:=vX l (m.erase a) h.2 (fun b hb=>(List.mem_erase_of_ne (by rintro rfl;exact h.1 hb)).2 (hs b (List.mem_cons_of_mem _ hb)))
   rw [List.length_erase_of_mem ha]at this
   have:0<m.length:=List.length_pos_of_mem ha
   simp only [List.length_cons]
   omega
theorem fA{l:List Int}{n:Int}(hn:0≤n)(h:l.Nodup)(hr: ∀b∈l,1≤b∧b≤n):(l.length:Int)≤n:=by
 have hs: ∀b∈l,b∈((List.range n.toNat).map fun i:Nat=>(i:Int)+1):=by
  intro b hb
  have:=hr b hb
  exact List.mem_map.2 ⟨(b - 1).toNat,List.mem_range.2 (by omega),by omega⟩
 have:=vX _ _ h hs
 rw [List.length_map,List.length_range]at this
 omega
theorem QL.lc{t n:Int}{xs:List Int}{LL:List (List Nd)}{S:List STS}(q:QL t n xs LL S)(sh ky:Int){i:Nat}{st:STS}(hS:S[i]? =some st):LC t n st.me (n+1+bY sh ky) (bQ LL sh ky) xs:=by
 have hL:=q.at sh ky
 obtain⟨h1,h2,h3⟩:=q.hd _ _ hL
 obtain⟨d1,d2,d3⟩:=gW q hL
 have hh:=cS sh ky
 have hm:=q.me i st hS
 have hn:=q.hn
 rw [vQ]at h1 h2 h3
 refine⟨q.ht,q.hn,q.len,by omega,by omega,h2,h3,h1,List.nodup_cons.2 ⟨fun h=>?_,d1⟩,?_⟩
 ·have:=d2 _ h;omega
 ·have:=fA (by omega) d1 d2
  rw [List.length_map]at this
  exact this
theorem QL.move{t n:Int}{xs ys:List Int}{LL:List (List Nd)}{S:List STS}(q:QL t n xs LL S){h i:Nat}{L L':List Nd}{st st':STS}(hL:LL[h]? =some L)(hS:S[i]? =some st)(hme:st'.me=st.me)
 (len:ys.length=xs.length) (ok:okW ys)
 (pp:(L'.map Nd.a++dE st'.sp st'.R).Perm (L.map Nd.a++dE st.sp st.R))
 (hch:ch n ys (n+1+h) L'∧mkW (aB ys (n+1+h))=false∧clW' (aB ys (n+1+h))=0)
 (same: ∀a,1≤a∧a≤2*n+4→a≠n+1+h→a∉L.map Nd.a→a≠st.sp→aB ys a=aB xs a):QL t n ys (LL.set h L') (S.set i st'):=by
 have hn:=q.hn
 have hh:h<4:=by have:=iL hL;rw [q.four]at this;exact this
 have p0:=iU (fun L:List Nd=>L.map Nd.a) LL h L hL
 have p1:=nF (fun L:List Nd=>L.map Nd.a) LL h L' (iL hL)
 have q0:=iU (fun st:STS=>dE st.sp st.R) S i st hS
 have q1:=nF (fun st:STS=>dE st.sp st.R) S i st' (iL hS)
 have pall:(allN (LL.set h L') (S.set i st')).Perm (allN LL S):=by
  unfold allN
  refine(List.Perm.append p1 q1).trans (List.Perm.trans ?_ (List.Perm.append p0 q0).symm)
  have pc:=List.perm_iff_count.1 pp
  refine List.perm_iff_count.2 (fun a=>?_)
  have:=pc a
  simp only [List.count_append]at this⊢
  omega
 have hdj:=sK q hS hL
 have spd: ∀b,b∈allN LL S→b=st.sp→b∉L.map Nd.a:=by
  intro b _ e
  by_cases z:st.sp=0
  ·intro hb;have:=(gW q hL).2.1 b hb;omega
  ·exact hdj b (by rw [e,mB z];exact List.mem_cons_self ..)
 refine {ht:=q.ht,hn:=q.hn,len:=by rw [len];exact q.len,okw:=ok,four:=by rw [List.length_set];exact q.four,hd:=?_,nd:=pall.nodup_iff.2 q.nd,rng:=fun b hb=>q.rng b (pall.subset hb),tk:=fun b hb=>?_,me:=GO q.me hS hme}
 ·intro g M hM
  rcases oT hM with⟨rfl,rfl⟩ | ⟨hM,hne⟩
  ·exact hch
  ·obtain⟨k1,k2,k3⟩:=q.hd g M hM
   have hg:g<4:=by have:=iL hM;rw [q.four]at this;exact this
   have hsp: ∀b∈M.map Nd.a,b≠st.sp:=by
    intro b hb e
    by_cases z:st.sp=0
    ·have:=(gW q hM).2.1 b hb;omega
    ·exact sK q hS hM b (by rw [e,mB z];exact List.mem_cons_self ..) hb
   have hLM: ∀b∈M.map Nd.a,b∉L.map Nd.a:=by
    intro b hb hc
    have r0:=p0.nodup_iff.1 (List.nodup_append.1 q.nd).1
    refine(List.nodup_append.1 r0).2.2 b hc b ?_ rfl
    have hMe:M∈LL.eraseIdx h:=by
     refine List.mem_iff_getElem?.2 ?_
     rcases Nat.lt_or_ge g h with hl | hl
     ·exact⟨g,by rw [List.getElem?_eraseIdx_of_lt hl];exact hM⟩
     ·exact⟨g - 1,by rw [List.getElem?_eraseIdx_of_ge (by omega),show g - 1+1=g by omega];exact hM⟩
    exact List.mem_flatMap.2 ⟨M,hMe,hb⟩
   have sg: ∀a,a=n+1+g∨a∈M.map Nd.a→aB ys a=aB xs a:=by
    intro a ha
    rcases ha with e | e
    ·refine same a (by omega) (by omega) (fun hh=>?_) (fun e2=>?_)
     ·have:=(gW q hL).2.1 a hh;omega
     ·by_cases z:st.sp=0
      ·omega
      ·have:=(fW q hS).2.1 st.sp (by rw [mB z];exact List.mem_cons_self ..);omega
    ·have:=(gW q hM).2.1 a e
     exact same a (by omega) (by omega) (hLM a e) (hsp a e)
   refine⟨jG k1 (fun b hb=>sg b (by rcases List.mem_cons.1 hb with r | r;exact .inl r;exact .inr r)),?_,?_⟩
   ·rw [sg _ (.inl rfl)];exact k2
   ·rw [sg _ (.inl rfl)];exact k3
 ·have e:aB ys (n+4+b)=aB xs (n+4+b):=by
   refine same _ (by omega) (by omega) (fun hh=>?_) (fun e2=>?_)
   ·have:=(gW q hL).2.1 _ hh;omega
   ·by_cases z:st.sp=0
    ·omega
    ·have:=(fW q hS).2.1 st.sp (by rw [mB z];exact List.mem_cons_self ..);omega
  have e2:cW n ys b=cW n xs b:=by unfold cW;rw [e]
  rw [e2,q.tk b hb]
  exact⟨fun h=>pall.symm.subset h,fun h=>pall.subset h⟩
theorem nK(sp:Int)(R X:List Int):dE sp (R++X)=dE sp R++X:=by
 unfold dE
 cases ieq sp 0<;>rfl
def jK(sh kd ky sp:Int)(L:List Nd):List Nd:=(sc (bV sh kd ky) L).1++(paOf sh kd ky (sc (bV sh kd ky) L).2.2).new ky sp (sc (bV sh kd ky) L).2.2
def gF(sh kd ky:Int)(L:List Nd)(st:STS):STS:=⟨st.me,(paOf sh kd ky (sc (bV sh kd ky) L).2.2).sp st.sp,st.R++(sc (bV sh kd ky) L).2.1.map Nd.a++(paOf sh kd ky (sc (bV sh kd ky) L).2.2).pops (sc (bV sh kd ky) L).2.2⟩
theorem KQ{sh kd ky:Int}{L:List Nd}{st:STS}(hl:bI kd=true→st.sp≠0):((jK sh kd ky st.sp L).map Nd.a++dE (gF sh kd ky L st).sp (gF sh kd ky L st).R).Perm (L.map Nd.a++dE st.sp st.R):=by
 have pL:=(AR (bV sh kd ky) L).map Nd.a
 unfold jK gF
 generalize (sc (bV sh kd ky) L).1=A at*
 generalize (sc (bV sh kd ky) L).2.1=U at*
 generalize (sc (bV sh kd ky) L).2.2=B at*
 rw [List.map_append,List.map_append]at pL
 have pc:=List.perm_iff_count.1 pL
 refine List.perm_iff_count.2 (fun a=>?_)
 have pa:=pc a
 cases hact:paOf sh kd ky B with
 | now b=>
   simp only [Pa.new,Pa.sp,Pa.pops,List.append_nil,nK,List.map_append,List.count_append]at pa⊢
   omega
 | link=>
   have hz:=hl (AF hact)
   simp only [Pa.new,Pa.sp,Pa.pops,List.append_nil,nK,PE,mB hz,List.map_append,List.map_cons,List.count_append,List.count_cons]at pa⊢
   omega
 | mark v=>
   obtain⟨b,B',rfl⟩:=AG hact
   simp only [Pa.new,Pa.sp,Pa.pops,List.append_nil,nK,List.map_append,List.map_cons,List.count_append,List.count_cons]at pa⊢
   omega
 | pop v=>
   obtain⟨b,B',rfl⟩:=P5 hact
   simp only [Pa.new,Pa.sp,Pa.pops,List.tail_cons,hdN,nK,List.map_append,List.map_cons,List.count_append,List.count_cons,List.count_nil]at pa⊢
   omega
theorem QL.fast{t n:Int}{LL:List (List Nd)}{S:List STS}{s s':MS}{sh kd ky:Int}{i j:Nat}{st:STS}(q:QL t n s.xs LL S)(hS:S[i]? =some st)(hl:bI kd=true→st.sp≠0)
 (f:FtA n st.me (n+1+bY sh ky) (bQ LL sh ky) (bV sh kd ky) ky st.sp (paOf sh kd ky (sc (bV sh kd ky) (bQ LL sh ky)).2.2) s s' j):
 QL t n s'.xs (LL.set (bY sh ky).toNat (jK sh kd ky st.sp (bQ LL sh ky))) (S.set i (gF sh kd ky (bQ LL sh ky) st)):=by
 have hh:=vQ sh ky
 have hm:=q.me i st hS
 refine q.move (q.at sh ky) hS rfl f.len (f.okw q.okw) (KQ hl) ⟨?_,?_,?_⟩ (fun a ha h1 h2 h3=>f.same a (by omega) (by omega) (fun h=>?_) h3)
 ·rw [hh];exact f.ch
 ·rw [hh];exact f.mp
 ·rw [hh];exact f.cp
 ·rcases List.mem_cons.1 h with e | e
  ·omega
  ·exact h2 e
theorem QL.find{t n:Int}{LL:List (List Nd)}{S:List STS}{s s':MS}{x z:FNS}{h i j:Nat}{L:List Nd}{st:STS}(q:QL t n s.xs LL S)(hL:LL[h]? =some L)(hS:S[i]? =some st)(hme:x.me=st.me)
 (f:JH n (n+1+h) L x s z s' j):
 QL t n s'.xs (LL.set h ((sc x.key L).1++(sc x.key L).2.2)) (S.set i ⟨st.me,st.sp,st.R++(sc x.key L).2.1.map Nd.a⟩):=by
 have hm:=q.me i st hS
 obtain⟨k1,k2,k3⟩:=q.hd h L hL
 refine q.move hL hS rfl f.len (f.okw q.okw) ?_ ⟨f.ch,f.p3.2.1.trans k2,f.p3.2.2.trans k3⟩ (fun a ha h1 h2 h3=>f.same a (by rw [hme];omega) (by rw [hme];omega) (fun h=>?_))
 ·have pL:=(AR x.key L).map Nd.a
  rw [List.map_append,List.map_append]at pL
  have pc:=List.perm_iff_count.1 pL
  refine List.perm_iff_count.2 (fun a=>?_)
  have pa:=pc a
  simp only [nK,List.map_append,List.count_append]at pa⊢
  omega
 ·rcases List.mem_cons.1 h with e | e
  ·exact h1 e
  ·exact h2 (jP (uR _ _) e)
def uk(L:List Nd):List Int:=(L.filter (fun b=>!b.m)).map Nd.k
theorem kX(A B:List Nd):uk (A++B)=uk A++uk B:=by unfold uk;rw [List.filter_append,List.map_append]
theorem RK: ∀ {A:List Nd},(∀b∈A,b.m=false)→uk A=A.map Nd.k
 | [],_=>rfl
 | b::A,h=>by
   have hb:=h b (List.mem_cons_self ..)
   have ih:=RK (A:=A) (fun c hc=>h c (List.mem_cons_of_mem _ hc))
   unfold uk at ih⊢
   rw [List.filter_cons,hb]
   simp only [Bool.not_false,if_true,List.map_cons,ih]
theorem uC(b:Nd)(L:List Nd):uk (b::L)=if b.m then uk L else b.k::uk L:=by
 unfold uk
 cases hb:b.m<;>simp [List.filter_cons,hb]
def cX(k:Int)(x:Int):Bool:=decide (x<k)
theorem RJ(k:Int): ∀L:List Nd,(sc k L).1.map Nd.k=(uk L).takeWhile (cX k)∧uk (sc k L).2.2=(uk L).dropWhile (cX k)
 | []=>⟨rfl,rfl⟩
 | b::L=>by
   obtain⟨h1,h2⟩:=RJ k L
   cases hm:b.m with
   | true=>rw [kE hm,uC,hm];exact⟨h1,h2⟩
   | false=>
     rw [uC,hm]
     by_cases hk:k≤b.k
     ·have hb:cX k b.k=false:=decide_eq_false (by omega)
      rw [kF hm hk]
      simp only [Bool.false_eq_true,if_false,List.takeWhile_cons,List.dropWhile_cons,hb,uC,hm,List.map_nil]
      exact⟨trivial,trivial⟩
     ·have hb:cX k b.k=true:=decide_eq_true (by omega)
      rw [iY hm (by omega)]
      simp only [Bool.false_eq_true,if_false,List.takeWhile_cons,List.dropWhile_cons,hb,if_true,List.map_cons,h1,h2]
      exact⟨trivial,trivial⟩
def xS(sh kd ky:Int)(u:List Int):(Bool×Int)×List Int:=
 if kd=4 then((true,0),u.takeWhile (cX (bV sh kd ky))++ky::u.dropWhile (cX (bV sh kd ky)))
 else if kd=1 then(if (u.dropWhile (cX (bV sh kd ky))).head? =some ky then((false,0),u)else((true,0),u.takeWhile (cX (bV sh kd ky))++ky::u.dropWhile (cX (bV sh kd ky))))
 else if kd=2 then(if (u.dropWhile (cX (bV sh kd ky))).head? =some ky then((true,0),u.takeWhile (cX (bV sh kd ky))++(u.dropWhile (cX (bV sh kd ky))).tail)else((false,0),u))
 else if kd=3 then((decide ((u.dropWhile (cX (bV sh kd ky))).head? =some ky),0),u)
 else match u.dropWhile (cX (bV sh kd ky))with
  | []=>((false,0),u)
  | x::v=>((true,x),u.takeWhile (cX (bV sh kd ky))++v)
theorem KP(sh kd ky sp:Int)(L:List Nd):(paOf sh kd ky (sc (bV sh kd ky) L).2.2).ok =(xS sh kd ky (uk L)).1.1∧(paOf sh kd ky (sc (bV sh kd ky) L).2.2).val =(xS sh kd ky (uk L)).1.2∧uk (jK sh kd ky sp L)=(xS sh kd ky (uk L)).2:=by
 obtain⟨h1,h2⟩:=RJ (bV sh kd ky) L
 have hu:=yP (bV sh kd ky) L
 have hd:=I9 (bV sh kd ky) L
 have hall:uk L=(sc (bV sh kd ky) L).1.map Nd.k++uk (sc (bV sh kd ky) L).2.2:=by rw [h1,h2,List.takeWhile_append_dropWhile]
 unfold xS jK
 rw [←h1,←h2]
 generalize (sc (bV sh kd ky) L).1=A at*
 generalize (sc (bV sh kd ky) L).2.2=B at*
 have hA:=RK hu
 have hf:((uk B).head? =some ky)↔fndB ky B=true:=by
  cases B with
  | nil=>simp [uk,fndB]
  | cons b B'=>
    rw [uC,(hd b B' rfl).1]
    simp [fndB,bN]
 have hfd:decide ((uk B).head? =some ky)=fndB ky B:=by
  cases q:fndB ky B with
  | true=>exact decide_eq_true (hf.2 q)
  | false=>exact decide_eq_false (fun r=>by rw [hf.1 r]at q;cases q)
 have hhd:fndB ky B=true→ ∃b B',B=b::B'∧b.k=ky∧b.m=false:=by
  intro q
  cases B with
  | nil=>cases q
  | cons b B'=>exact⟨b,B',rfl,by simpa [fndB,bN]using q,(hd b B' rfl).1⟩
 unfold paOf
 by_cases e4:kd=4
 ·rw [if_pos e4,if_pos e4]
  refine⟨rfl,rfl,?_⟩
  rw [Pa.new,kX,hA,uC];rfl
 rw [if_neg e4,if_neg e4]
 by_cases e1:kd=1
 ·rw [if_pos e1,if_pos e1]
  cases q:fndB ky B with
  | true=>
    rw [if_pos (hf.2 q)]
    refine⟨rfl,rfl,?_⟩
    rw [cond_true,Pa.new,kX,hA,←hall]
  | false=>
    rw [if_neg (fun r=>by rw [hf.1 r]at q;cases q)]
    refine⟨rfl,rfl,?_⟩
    rw [cond_false,Pa.new,kX,hA,uC];rfl
 rw [if_neg e1,if_neg e1]
 by_cases e2:kd=2
 ·rw [if_pos e2,if_pos e2]
  cases q:fndB ky B with
  | true=>
    obtain⟨b,B',rfl,hk,hm⟩:=hhd q
    rw [if_pos (hf.2 q)]
    refine⟨rfl,rfl,?_⟩
    rw [cond_true,Pa.new,kX,hA,uC,uC,hm];rfl
  | false=>
    rw [if_neg (fun r=>by rw [hf.1 r]at q;cases q)]
    refine⟨rfl,rfl,?_⟩
    rw [cond_false,Pa.new,kX,hA,←hall]
 rw [if_neg e2,if_neg e2]
 by_cases e3:kd=3
 ·rw [if_pos e3,if_pos e3]
  refine⟨hfd.symm,rfl,?_⟩
  rw [Pa.new,kX,hA,←hall]
 rw [if_neg e3,if_neg e3]
 cases B with
 | nil=>
   refine⟨rfl,rfl,?_⟩
   show uk (A++ [])=uk L
   rw [kX,hA,←hall]
 | cons b B'=>
   have hm:=(hd b B' rfl).1
   have hu2:uk (b::B')=b.k::uk B':=by rw [uC,hm];rfl
   rw [hu2]
   by_cases e5:sh=4
   ·simp only [if_pos e5]
    refine⟨rfl,rfl,?_⟩
    rw [Pa.new,kX,hA];rfl
   ·simp only [if_neg e5]
    refine⟨rfl,rfl,?_⟩
    rw [Pa.new,kX,hA,uC];rfl
theorem qX{f:Nat→Int}{n:Nat}(h:f n=4):bG f (n+1)=bG f n+1:=by
 show(bif ieq (f n) 4 then _ else _)=_;rw [h,bZ];rfl
theorem oQ{f:Nat→Int}{n:Nat}(h:f n=5):bG f (n+1)=if 0<bG f n then bG f n - 1 else 0:=by
 show(bif ieq (f n) 4 then _ else bif ilt 0 (bG f n)then _ else _)=_
 rw [h,dO (show(5:Int)≠4 by decide),cond_false,bP]
 have:=jN f n
 by_cases e:0<bG f n
 ·rw [decide_eq_true e,if_pos e];rfl
 ·rw [decide_eq_false e,if_neg e,cond_false];omega
theorem DZ{f g:Nat→Int}{n:Nat}(h:f n=4):cM f g (n+1)=cM f g n++ [g n]:=by
 show(bif ieq (f n) 4 then _ else _)=_;rw [h,bZ];rfl
theorem yM{f g:Nat→Int}{n:Nat}(h:f n=5):cM f g (n+1)=cM f g n:=by
 show(bif ieq (f n) 4 then _ else _)=_;rw [h,dO (show(5:Int)≠4 by decide)];rfl
def vT(f:Nat→Int)(n:Nat):Prop:= ∀j,j<n→f j=4∨f j=5
theorem AB{f g:Nat→Int} : ∀n,vT f n→bG f n≤(cM f g n).length
 | 0,_=>Int.le_refl 0
 | n+1,h=>by
   have ih:=AB (g:=g) n (fun j hj=>h j (by omega))
   rcases h n (by omega)with e | e
   ·rw [qX e,DZ e,List.length_append];simp;omega
   ·rw [oQ e,yM e];split<;>omega
theorem DL{f g:Nat→Int}{n:Nat}(h:vT f n)(e:f n=4):lL f g (n+1)=lL f g n++ [g n]:=by
 have hl:=AB (g:=g) n h
 have h0:=jN f n
 unfold lL
 rw [qX e,DZ e,List.length_append]
 have:((((cM f g n).length + [g n].length :Nat):Int) - (bG f n+1)).toNat =(((cM f g n).length :Int) - bG f n).toNat :=by simp;omega
 rw [this,List.drop_append_of_le_length (by omega)]
theorem x8{f g:Nat→Int}{n:Nat}(h:vT f n)(e:f n=5):lL f g (n+1)=(lL f g n).tail :=by
 have hl:=AB (g:=g) n h
 have h0:=jN f n
 unfold lL
 rw [oQ e,yM e,List.tail_drop]
 by_cases q:0<bG f n
 ·rw [if_pos q];congr 1;omega
 ·rw [if_neg q]
  have:bG f n=0:=by omega
  rw [this,List.drop_eq_nil_of_le (by omega),List.drop_eq_nil_of_le (by omega)]
theorem kT(f g:Nat→Int): ∀n,eC f g n 0=[]
 | 0=>rfl
 | n+1=>rfl
theorem sQ(f g:Nat→Int)(i:Nat){need:Int}(h:0<need):eC f g (i+1) need=if f i=4∧bG f i=need - 1 then g i::eC f g i (need - 1)else eC f g i need:=by
 show(bif ilt 0 need then(bif ieq (f i) 4&&ieq (bG f i) (need - 1)then _ else _)else _)=_
 rw [bP,decide_eq_true h,cond_true]
 by_cases e:f i=4∧bG f i=need - 1
 ·rw [if_pos e,e.1,e.2,bZ,bZ];rfl
 ·rw [if_neg e]
  have:(ieq (f i) 4&&ieq (bG f i) (need - 1))=false:=by
   cases q:(ieq (f i) 4&&ieq (bG f i) (need - 1))with
   | false=>rfl
   | true=>
     simp only [Bool.and_eq_true,bN,beq_iff_eq]at q
     exact absurd q e
  rw [this];rfl
theorem sR{f g:Nat→Int} : ∀n,vT f n→ ∀need,0<need→need≤bG f n→ ∃x,eC f g n need=x::eC f g n (need - 1)
 | 0,_,need,h1,h2=>by
   have:bG f 0=0:=rfl
   omega
 | n+1,h,need,h1,h2=>by
   have hn:=fun j (hj:j<n)=>h j (by omega)
   have h0:=jN f n
   rw [sQ f g n h1]
   rcases h n (by omega)with e | e
   ·rw [qX e]at h2
    by_cases q:bG f n=need - 1
    ·rw [if_pos ⟨e,q⟩]
     refine⟨g n,?_⟩
     by_cases z:need=1
     ·rw [z];rw [show(1:Int) - 1=0 by decide,kT,kT]
     ·rw [sQ f g n (need:=need - 1) (by omega),if_neg (fun r=>by omega)]
    ·rw [if_neg (fun r=>q r.2)]
     obtain⟨x,hx⟩:=sR n hn need h1 (by omega)
     refine⟨x,?_⟩
     rw [hx]
     by_cases z:need=1
     ·rw [z];rw [show(1:Int) - 1=0 by decide,kT,kT]
     ·rw [sQ f g n (need:=need - 1) (by omega),if_neg (fun r=>by omega)]
   ·rw [oQ e]at h2
    have h3:need≤bG f n:=by split at h2<;>omega
    rw [if_neg (fun r=>by rw [e]at r;exact absurd r.1 (by decide))]
    obtain⟨x,hx⟩:=sR n hn need h1 h3
    refine⟨x,?_⟩
    rw [hx]
    by_cases z:need=1
    ·rw [z];rw [show(1:Int) - 1=0 by decide,kT,kT]
    ·rw [sQ f g n (need:=need - 1) (by omega),if_neg (fun r=>by rw [e]at r;exact absurd r.1 (by decide))]
theorem DT{f g:Nat→Int}{n:Nat}(e:f n=4):jS f g (n+1)=g n::jS f g n:=by
 have h0:=jN f n
 unfold jS
 rw [qX e,sQ f g n (by omega),if_pos ⟨e,by omega⟩]
 congr 2;omega
theorem yH{f g:Nat→Int}{n:Nat}(h:vT f n)(e:f n=5):jS f g (n+1)=(jS f g n).tail :=by
 have h0:=jN f n
 unfold jS
 rw [oQ e]
 by_cases q:0<bG f n
 ·rw [if_pos q]
  obtain⟨x,hx⟩:=sR (g:=g) n h (bG f n) q (Int.le_refl _)
  rw [hx,List.tail_cons]
  by_cases z:bG f n=1
  ·rw [z];rw [show(1:Int) - 1=0 by decide,kT,kT]
  ·rw [sQ f g n (need:=bG f n - 1) (by omega),if_neg (fun r=>by rw [e]at r;exact absurd r.1 (by decide))]
 ·rw [if_neg q,show bG f n=0 by omega,kT,kT];rfl
def Srt(u:List Int):Prop:=u.Pairwise (· < ·)
theorem rO{k:Int} : ∀ {u:List Int},Srt u→ ∀x∈u.dropWhile (cX k),k≤x
 | [],_,x,h=>by cases h
 | y::u,hs,x,h=>by
   have hs':=List.pairwise_cons.1 hs
   rw [List.dropWhile_cons]at h
   by_cases q:y<k
   ·rw [show cX k y=true from decide_eq_true q]at h
    exact rO hs'.2 x h
   ·rw [show cX k y=false from decide_eq_false q]at h
    simp only [Bool.false_eq_true,if_false]at h
    rcases List.mem_cons.1 h with e | e
    ·omega
    ·have:=hs'.1 x e;omega
theorem rQ{k:Int} : ∀ {u:List Int},∀x∈u.takeWhile (cX k),x<k
 | [],x,h=>by cases h
 | y::u,x,h=>by
   rw [List.takeWhile_cons]at h
   cases q:cX k y with
   | true=>
     rw [q]at h
     simp only [if_true]at h
     rcases List.mem_cons.1 h with e | e
     ·rw [e];exact of_decide_eq_true q
     ·exact rQ x e
   | false=>rw [q]at h;cases h
theorem gN{k x:Int}(u:List Int):x∈u↔x∈u.takeWhile (cX k)∨x∈u.dropWhile (cX k):=by
 rw [←List.mem_append,List.takeWhile_append_dropWhile]
theorem EA{k:Int}{u:List Int}(h:Srt u):(u.dropWhile (cX k)).head? =some k↔k∈u:=by
 constructor
 ·intro q
  rw [gN (k:=k)]
  right
  cases hd:u.dropWhile (cX k)with
  | nil=>rw [hd]at q;cases q
  | cons y v=>
    rw [hd]at q
    simp only [List.head?_cons,sI']at q
    rw [q];exact List.mem_cons_self ..
 ·intro q
  rcases(gN (k:=k) u).1 q with e | e
  ·have:=rQ k e;omega
  ·have hs:Srt (u.dropWhile (cX k)):=h.sublist (List.dropWhile_sublist _)
   have hge:=rO (k:=k) h
   cases hd:u.dropWhile (cX k)with
   | nil=>rw [hd]at e;cases e
   | cons y v=>
     rw [hd]at e hs hge
     have hy:=hge y (List.mem_cons_self ..)
     rcases List.mem_cons.1 e with r | r
     ·rw [r];rfl
     ·have:=(List.pairwise_cons.1 hs).1 k r;omega
theorem WC{k:Int}{u:List Int}(h:Srt u)(hk:k∉u):Srt (u.takeWhile (cX k)++k::u.dropWhile (cX k)):=by
 have hs:Srt (u.dropWhile (cX k)):=h.sublist (List.dropWhile_sublist _)
 have ht:Srt (u.takeWhile (cX k)):=h.sublist (List.takeWhile_sublist _)
 refine List.pairwise_append.2 ⟨ht,List.pairwise_cons.2 ⟨fun x hx=>?_,hs⟩,fun a ha b hb=>?_⟩
 ·have:=rO h x hx
  have:x≠k:=by rintro rfl;exact hk ((gN (k:=x) u).2 (.inr hx))
  omega
 ·have h1:=rQ a ha
  rcases List.mem_cons.1 hb with e | e
  ·omega
  ·have:=rO h b e;omega
theorem WB{k:Int}{u:List Int}(h:Srt u)(hk:k∈u):Srt (u.takeWhile (cX k)++(u.dropWhile (cX k)).tail)∧ ∀x,x∈u.takeWhile (cX k)++(u.dropWhile (cX k)).tail ↔x∈u∧x≠k:=by
 have hh:=(EA h).2 hk
 have hs:Srt (u.dropWhile (cX k)):=h.sublist (List.dropWhile_sublist _)
 have ht:Srt (u.takeWhile (cX k)):=h.sublist (List.takeWhile_sublist _)
 have hm:=fun x=>gN (k:=k) (x:=x) u
 cases hd:u.dropWhile (cX k)with
 | nil=>rw [hd]at hh;cases hh
 | cons y v=>
   rw [hd]at hh hs
   simp only [List.head?_cons,sI']at hh
   subst hh
   obtain⟨hs1,hs2⟩:=List.pairwise_cons.1 hs
   rw [List.tail_cons]
   constructor
   ·refine List.pairwise_append.2 ⟨ht,hs2,fun a ha b hb=>?_⟩
    have:=rQ a ha;have:=hs1 b hb;omega
   ·intro x
    rw [hm x,hd,List.mem_append,List.mem_cons]
    constructor
    ·rintro(q | q)
     ·exact⟨.inl q,by have:=rQ x q;omega⟩
     ·exact⟨.inr (.inr q),by have:=hs1 x q;omega⟩
    ·rintro⟨q | q | q,hne⟩
     ·exact .inl q
     ·exact absurd q hne
     ·exact .inr q
structure RpS (sh:Int) (LL:List (List Nd)) (f g:Nat→Int) (m:Nat):Prop where
 srt: ∀(h:Nat) (L:List Nd),LL[h]? =some L→Srt (uk L)
 rng: ∀(h:Nat) (L:List Nd),LL[h]? =some L→ ∀k∈uk L,(0≤k∧k≤999)∧(bY sh k).toNat =h
 mem: ∀(h:Nat) (L:List Nd),LL[h]? =some L→ ∀k,0≤k→k≤999→(bY sh k).toNat =h→(k∈uk L↔inF f g k m=true)
structure RpL (sh:Int) (LL:List (List Nd)) (f g:Nat→Int) (m:Nat):Prop where
 eq:uk (LL.getD 0 [])=bH sh f g m
 rng: ∀k∈bH sh f g m,0≤k∧k≤999
 els: ∀(h:Nat) (L:List Nd),LL[h]? =some L→h≠0→L=[]
def Rp(sh:Int)(LL:List (List Nd))(f g:Nat→Int)(m:Nat):Prop:=((sh=1∨sh=2)∧RpS sh LL f g m)∨((sh=3∨sh=4)∧RpL sh LL f g m)
def tV(sh:Int)(f g:Nat→Int)(m:Nat):Prop:= ∀j,j<m→aZ sh (f j) (g j)=true
theorem PI(f g:Nat→Int)(k:Int)(m:Nat):inF f g k (m+1)=bif ieq (g m) k&&ieq (f m) 1 then true else bif ieq (g m) k&&ieq (f m) 2 then false else inF f g k m:=rfl
theorem LU{LL:List (List Nd)}{sh ky:Int}{L:List Nd}(h:LL[(bY sh ky).toNat]? =some L):bQ LL sh ky=L:=by
 unfold bQ
 rw [gD',h];rfl
theorem aB2{LL:List (List Nd)}(h4:LL.length=4)(sh ky:Int):LL[(bY sh ky).toNat]? =some (bQ LL sh ky):=by
 have h:(bY sh ky).toNat <LL.length:=by rw [h4];exact C2 _ _
 unfold bQ
 rw [gD',gE' h];rfl
theorem PN{sh kd ky:Int}(h:aZ sh kd ky=true)(hs:sh=1∨sh=2):(kd=1∨kd=2∨kd=3)∧0≤ky∧ky≤999:=by
 have:=eD.1 h;omega
theorem oO{sh kd ky:Int}(h:aZ sh kd ky=true)(hs:sh=3∨sh=4):(kd=4∨kd=5)∧0≤ky∧ky≤999:=by
 have:=eD.1 h;omega
theorem VB{sh kd ky:Int}(hs:sh=1∨sh=2):bV sh kd ky=ky:=by
 unfold bV
 rcases hs with e | e
 ·rw [e,dO (show(1:Int)≠2 by decide),bZ];rfl
 ·rw [e,bZ];rfl
theorem RpS.step{sh:Int}{LL:List (List Nd)}{f g:Nat→Int}{m:Nat}(hs:sh=1∨sh=2)(h4:LL.length=4)(r:RpS sh LL f g m)(hr:aZ sh (f m) (g m)=true):
 (xS sh (f m) (g m) (uk (bQ LL sh (g m)))).1=AO sh f g m (f m) (g m)∧ ∀L',uk L'=(xS sh (f m) (g m) (uk (bQ LL sh (g m)))).2→RpS sh (LL.set (bY sh (g m)).toNat L') f g (m+1):=by
 obtain⟨hk,hy⟩:=PN hr hs
 have hat:=aB2 h4 sh (g m)
 have hsrt:=r.srt _ _ hat
 have hmem:=r.mem _ _ hat (g m) hy.1 hy.2 rfl
 have hhd:=EA (k:=g m) hsrt
 generalize hu:uk (bQ LL sh (g m))=u at*
 have hin: ∀k,k≠g m→inF f g k (m+1)=inF f g k m:=by
  intro k hk
  rw [PI,dO (show g m≠k from fun e=>hk e.symm)];rfl
 have hrng:=r.rng _ _ hat
 rw [hu]at hrng
 have build: ∀u':List Int,Srt u'→(∀k∈u',k=g m∨k∈u)→(g m∈u'↔inF f g (g m) (m+1)=true)→(∀k,k≠g m→(k∈u'↔k∈u))→ ∀L',uk L'=u'→RpS sh (LL.set (bY sh (g m)).toNat L') f g (m+1):=by
  intro u' b1 b2 b3 b4 L' hL'
  refine⟨?_,?_,?_⟩
  ·intro h M hM
   rcases oT hM with⟨rfl,rfl⟩ | ⟨hM,hne⟩
   ·rw [hL'];exact b1
   ·exact r.srt h M hM
  ·intro h M hM k hk
   rcases oT hM with⟨rfl,rfl⟩ | ⟨hM,hne⟩
   ·rw [hL']at hk
    rcases b2 k hk with e | e
    ·rw [e];exact⟨hy,rfl⟩
    ·exact hrng k e
   ·exact r.rng h M hM k hk
  ·intro h M hM k k0 k9 hh
   rcases oT hM with⟨rfl,rfl⟩ | ⟨hM,hne⟩
   ·rw [hL']
    by_cases e:k=g m
    ·rw [e];exact b3
    ·rw [b4 k e,hin k e]
     have:=r.mem _ _ hat k k0 k9 hh
     rw [hu]at this;exact this
   ·have hne2:k≠g m:=by rintro rfl;exact hne hh
    rw [hin k hne2]
    exact r.mem h M hM k k0 k9 hh
 have e12:(2:Int)≠1:=by decide
 unfold xS AO
 rw [VB hs]
 rcases hk with e | e | e
 ·
  have i1:inF f g (g m) (m+1)=true:=by rw [PI,e,bZ,bZ];rfl
  simp only [e,if_neg (show¬(1:Int)=4 by decide),if_true,bZ,cond_true]
  by_cases q:g m∈u
  ·rw [if_pos (hhd.2 q),hmem.1 q]
   exact⟨rfl,build u hsrt (fun k h=>.inr h) ⟨fun _=>i1,fun _=>q⟩ (fun k _=>Iff.rfl)⟩
  ·rw [if_neg (fun h=>q (hhd.1 h))]
   have q2:inF f g (g m) m=false:=by
    cases z:inF f g (g m) m with
    | false=>rfl
    | true=>exact absurd (hmem.2 z) q
   rw [q2]
   refine⟨rfl,build _ (WC hsrt q) (fun k h=>?_) ⟨fun _=>i1,fun _=>by simp⟩ (fun k hk=>?_)⟩
   ·rcases List.mem_append.1 h with z | z
    ·exact .inr ((gN u).2 (.inl z))
    ·rcases List.mem_cons.1 z with z | z
     ·exact .inl z
     ·exact .inr ((gN u).2 (.inr z))
   ·rw [List.mem_append,List.mem_cons,gN (k:=g m) u]
    constructor
    ·rintro(z | z | z)
     ·exact .inl z
     ·exact absurd z hk
     ·exact .inr z
    ·rintro(z | z)
     ·exact .inl z
     ·exact .inr (.inr z)
 ·
  have i1:inF f g (g m) (m+1)=false:=by rw [PI,e,bZ,dO e12,bZ];rfl
  simp only [e,if_neg (show¬(2:Int)=4 by decide),if_neg (show¬(2:Int)=1 by decide),if_true,dO e12,bZ,cond_false,Bool.true_or,cond_true]
  by_cases q:g m∈u
  ·obtain⟨d1,d2⟩:=WB hsrt q
   rw [if_pos (hhd.2 q),hmem.1 q]
   refine⟨rfl,build _ d1 (fun k h=>.inr ((d2 k).1 h).1) ⟨fun h=>absurd rfl ((d2 _).1 h).2,fun h=>by rw [i1]at h;cases h⟩ (fun k hk=>⟨fun h=>((d2 k).1 h).1,fun h=>(d2 k).2 ⟨h,hk⟩⟩)⟩
  ·rw [if_neg (fun h=>q (hhd.1 h))]
   have q2:inF f g (g m) m=false:=by
    cases z:inF f g (g m) m with
    | false=>rfl
    | true=>exact absurd (hmem.2 z) q
   rw [q2]
   exact⟨rfl,build u hsrt (fun k h=>.inr h) ⟨fun h=>absurd h q,fun h=>by rw [i1]at h;cases h⟩ (fun k _=>Iff.rfl)⟩
 ·
  have i1:inF f g (g m) (m+1)=inF f g (g m) m:=by rw [PI,e,bZ,dO (show(3:Int)≠1 by decide),dO (show(3:Int)≠2 by decide)];rfl
  simp only [e,if_neg (show¬(3:Int)=4 by decide),if_neg (show¬(3:Int)=1 by decide),if_neg (show¬(3:Int)=2 by decide),if_true,dO (show(3:Int)≠1 by decide),dO (show(3:Int)≠2 by decide),bZ,cond_false,Bool.false_or,cond_true]
  refine⟨?_,build u hsrt (fun k h=>.inr h) (by rw [i1];exact hmem) (fun k _=>Iff.rfl)⟩
  by_cases q:g m∈u
  ·rw [decide_eq_true (hhd.2 q),hmem.1 q]
  ·rw [decide_eq_false (fun h=>q (hhd.1 h))]
   cases z:inF f g (g m) m with
   | false=>rfl
   | true=>exact absurd (hmem.2 z) q
theorem yG{p:Int→Bool} : ∀ {u:List Int},(∀x∈u,p x=true)→u.takeWhile p=u∧u.dropWhile p=[]
 | [],_=>⟨rfl,rfl⟩
 | x::u,h=>by
   have hx:=h x (List.mem_cons_self ..)
   obtain⟨h1,h2⟩:=yG (u:=u) (fun y hy=>h y (List.mem_cons_of_mem _ hy))
   rw [List.takeWhile_cons,List.dropWhile_cons,hx]
   exact⟨by simp only [if_true,h1],by simp only [if_true,h2]⟩
theorem RpL.step{sh:Int}{LL:List (List Nd)}{f g:Nat→Int}{m:Nat}(hs:sh=3∨sh=4)(h4:LL.length=4)(r:RpL sh LL f g m)(ho:tV sh f g m)(hr:aZ sh (f m) (g m)=true):
 (xS sh (f m) (g m) (uk (bQ LL sh (g m)))).1=AO sh f g m (f m) (g m)∧ ∀L',uk L'=(xS sh (f m) (g m) (uk (bQ LL sh (g m)))).2→RpL sh (LL.set (bY sh (g m)).toNat L') f g (m+1):=by
 obtain⟨hk,hy⟩:=oO hr hs
 have hb:vT f m:=fun j hj=>(oO (ho j hj) hs).1
 have hh:(bY sh (g m)).toNat =0:=by
  unfold bY
  rw [dO (show sh≠2 by omega)];rfl
 have hl:bQ LL sh (g m)=LL.getD 0 []:=by unfold bQ;rw [hh]
 rw [hl,hh,r.eq]
 have hrng:=r.rng
 have h0:0<LL.length:=by omega
 have build: ∀L',uk L'=bH sh f g (m+1)→(∀k∈bH sh f g (m+1),0≤k∧k≤999)→RpL sh (LL.set 0 L') f g (m+1):=by
  intro L' h1 h2
  refine⟨?_,h2,?_⟩
  ·rw [gD',List.getElem?_set_self h0];exact h1
  ·intro h M hM hne
   rcases oT hM with⟨rfl,rfl⟩ | ⟨hM,_⟩
   ·exact absurd rfl hne
   ·exact r.els h M hM hne
 have hall: ∀k∈bH sh f g m,cX 1024 k=true:=fun k hk=>decide_eq_true (by have:=hrng k hk;omega)
 have hnone: ∀k∈bH sh f g m,cX (-1) k=false:=fun k hk=>decide_eq_false (by have:=hrng k hk;omega)
 obtain⟨t1,t2⟩:=yG hall
 have t3:(bH sh f g m).takeWhile (cX (-1))=[]∧(bH sh f g m).dropWhile (cX (-1))=bH sh f g m:=by
  cases hq:bH sh f g m with
  | nil=>exact⟨rfl,rfl⟩
  | cons x v=>
    have:=hnone x (by rw [hq];exact List.mem_cons_self ..)
    rw [List.takeWhile_cons,List.dropWhile_cons,this];exact⟨rfl,rfl⟩
 unfold xS AO
 have n14: ∀(kd:Int),kd=4∨kd=5→ieq kd 1=false∧ieq kd 2=false∧ieq kd 3=false:=fun kd h=>⟨dO (by omega),dO (by omega),dO (by omega)⟩
 obtain⟨n1,n2,n3⟩:=n14 _ hk
 rw [n1,n2,n3]
 simp only [Bool.false_or,cond_false]
 rcases hk with e | e
 ·
  simp only [e,if_true,bZ,cond_true]
  rcases hs with rfl | rfl
  ·have hkey:bV 3 4 (g m)=1024:=rfl
   rw [hkey,t1,t2]
   refine⟨by trivial,fun L' h=>?_⟩
   have hi:bH 3 f g (m+1)=bH 3 f g m++ [g m]:=DL hb e
   refine build L' (by rw [h,hi]) (fun k hk=>?_)
   rw [hi]at hk
   rcases List.mem_append.1 hk with z | z
   ·exact hrng k z
   ·rw [List.mem_singleton.1 z];exact hy
  ·have hkey:bV 4 4 (g m)= -1:=rfl
   rw [hkey,t3.1,t3.2]
   refine⟨by trivial,fun L' h=>?_⟩
   have hi:bH 4 f g (m+1)=g m::bH 4 f g m:=DT e
   refine build L' (by rw [h,hi];rfl) (fun k hk=>?_)
   rw [hi]at hk
   rcases List.mem_cons.1 hk with z | z
   ·rw [z];exact hy
   ·exact hrng k z
 ·
  have hkey:bV sh 5 (g m)= -1:=by rcases hs with rfl | rfl<;>rfl
  have hi:bH sh f g (m+1)=(bH sh f g m).tail :=by
   rcases hs with rfl | rfl
   ·exact x8 hb e
   ·exact yH hb e
  simp only [e,if_neg (show¬(5:Int)=4 by decide),if_neg (show¬(5:Int)=1 by decide),if_neg (show¬(5:Int)=2 by decide),if_neg (show¬(5:Int)=3 by decide),dO (show(5:Int)≠4 by decide),cond_false,hkey,t3.1,t3.2]
  have hr2: ∀k∈bH sh f g (m+1),0≤k∧k≤999:=fun k hk=>by rw [hi]at hk;exact hrng k (List.mem_of_mem_tail hk)
  cases hq:bH sh f g m with
  | nil=>
    refine⟨rfl,fun L' h=>build L' ?_ hr2⟩
    rw [hi,hq];exact h
  | cons x v=>
    refine⟨rfl,fun L' h=>build L' ?_ hr2⟩
    rw [hi,hq];exact h
theorem Rp.step{sh:Int}{LL:List (List Nd)}{f g:Nat→Int}{m:Nat}(h4:LL.length=4)(r:Rp sh LL f g m)(ho:tV sh f g m)(hr:aZ sh (f m) (g m)=true):
 (xS sh (f m) (g m) (uk (bQ LL sh (g m)))).1=AO sh f g m (f m) (g m)∧ ∀L',uk L'=(xS sh (f m) (g m) (uk (bQ LL sh (g m)))).2→Rp sh (LL.set (bY sh (g m)).toNat L') f g (m+1):=by
 rcases r with⟨hs,r⟩ | ⟨hs,r⟩
 ·obtain⟨h1,h2⟩:=r.step hs h4 hr
  exact⟨h1,fun L' h=>.inl ⟨hs,h2 L' h⟩⟩
 ·obtain⟨h1,h2⟩:=r.step hs h4 ho hr
  exact⟨h1,fun L' h=>.inr ⟨hs,h2 L' h⟩⟩
theorem TK{t n:Int}{a:ENS×STS×MS}{d:Bool}{b:ENS×STS×MS}(h:w8 t n a=(d,b)):(enF t n a.1 a.2.1 a.2.2).d =d∧((enF t n a.1 a.2.1 a.2.2).e,(enF t n a.1 a.2.1 a.2.2).st,(enF t n a.1 a.2.1 a.2.2).s)=b:=by
 unfold w8 at h
 rw [pI']at h
 exact h
theorem UB{t n:Int}{a:FTS×STS×MS}{d:Bool}{b:FTS×STS×MS}(h:ftG t n a=(d,b)):(ftF t n a.1 a.2.1 a.2.2).d =d∧((ftF t n a.1 a.2.1 a.2.2).x,(ftF t n a.1 a.2.1 a.2.2).st,(ftF t n a.1 a.2.1 a.2.2).s)=b:=by
 unfold ftG at h
 rw [pI']at h
 exact h
theorem Act1.bnd{t n:Int}{s s':MS}(h:Act1 s s')(hb:kZ t n s)(hc:s.c+1≤900000):kZ t n s':=⟨hb.ht,hb.hn,by have:=hb.hc;rw [h.c];omega,h.w hb.hw⟩
theorem QL.stw{t n:Int}{xs:List Int}{LL:List (List Nd)}{S:List STS}(q:QL t n xs LL S){i:Nat}{st:STS}(hS:S[i]? =some st):stW 500 st:=by
 obtain⟨h1,h2,_⟩:=fW q hS
 have hm:=q.me i st hS
 have hn:=q.hn
 have ht:=q.ht
 refine⟨by omega,fun r hr=>by have:=h2 r (l0 hr);omega,?_⟩
 have:=fA (by omega) (p5 h1) (fun r hr=>h2 r (l0 hr))
 omega
theorem QL.bnd{t n:Int}{LL:List (List Nd)}{S:List STS}{s:MS}(q:QL t n s.xs LL S)(hc:0≤s.c∧s.c≤900000):kZ t n s:=⟨q.ht,⟨q.hn.1,by have:=q.hn;omega⟩,hc,q.okw⟩
theorem wJ{α:Type} : ∀ {l:List α} {i:Nat} {x:α},l[i]? =some x→l.set i x=l
 | [],i,x,h=>rfl
 | y::l,0,x,h=>by simp at h;rw [h];rfl
 | y::l,i+1,x,h=>by
   rw [List.set_cons_succ,wJ (l:=l) (by simpa using h)]
def dqJ(t n:Int)(p:DOS×STS×MS):Bool×(DOS×STS×MS):=((dqF t n p.1 p.2.1 p.2.2).d,((dqF t n p.1 p.2.1 p.2.2).x,(dqF t n p.1 p.2.1 p.2.2).st,(dqF t n p.1 p.2.1 p.2.2).s))
theorem kJ{t n:Int}{x:DOS}{st:STS}{s:MS}{d:Bool}{x':DOS}{st':STS}{s':MS}(h:dqF t n x st s=⟨d,x',st',s'⟩):dqJ t n (x,st,s)=(d,(x',st',s')):=by
 unfold dqJ;rw [h]
def doR(x:DOS):DOS:= {x with hd:=dZ,hp:=bU,en:=aU,ft:=bT,an:=dX,aw:=dY,fn:=aO,dr:=eR,sw:=bL}
theorem aCe{t n:Int}{x:DOS}{st:STS}{s:MS}{h:HDS}{s':MS}(h0:x.at'=0)(hr:aZ x.sh x.kd x.ky=true)(hf:hdF t n x.hd s=⟨false,h,s'⟩):dqF t n x st s=⟨false,{doR x with at':=0,hd:=h},st,s'⟩:=by
 unfold dqF A8
 rw [h0]
 show(qE t n x st s).val =_
 unfold qE
 have hr:aZ x.5 x.6 x.7=true:=hr
 have hf:hdF t n x.10 s=⟨false,h,s'⟩:=hf
 simp only [Tr.val,hr,hf,Bool.not_true,cond_true,cond_false]
 rfl
theorem aCf{t n:Int}{x:DOS}{st:STS}{s:MS}{h:HDS}{s':MS}(h0:x.at'=0)(hr:aZ x.sh x.kd x.ky=true)(hf:hdF t n x.hd s=⟨true,h,s'⟩)(hu:h.u<0):
 dqF t n x st s=bif bI x.kd&&ieq st.sp 0 then⟨false,{doR x with at':=2},st,s'⟩else⟨false,{doR x with at':=3,ft:=(ftNF t n x.sh x.kd x.ky x.limit st).1},(ftNF t n x.sh x.kd x.ky x.limit st).2,s'⟩:=by
 unfold dqF A8
 rw [h0]
 show(qE t n x st s).val =_
 unfold qE
 have hr:aZ x.5 x.6 x.7=true:=hr
 have hf:hdF t n x.10 s=⟨true,h,s'⟩:=hf
 have hu:ilt h.1 0=true:=by rw [bP];exact decide_eq_true hu
 simp only [Tr.val,hr,hf,hu,Bool.not_true,cond_true,cond_false]
 cases bI x.6<;>cases ieq st.2 0<;>rfl
theorem W5{t n:Int}{x:DOS}{st:STS}{s:MS}{e:ENS}{st':STS}{s':MS}(h0:x.at'=2)(hr:aZ x.sh x.kd x.ky=true)(hf:enF t n x.en st s=⟨false,e,st',s'⟩):dqF t n x st s=⟨false,{doR x with at':=2,en:=e},st',s'⟩:=by
 unfold dqF A8
 rw [h0]
 show(qF t n x st s).val =_
 unfold qF
 have hr:aZ x.5 x.6 x.7=true:=hr
 have hf:enF t n x.12 st s=⟨false,e,st',s'⟩:=hf
 simp only [Tr.val,hr,hf,Bool.not_true,cond_true,cond_false]
 rfl
theorem W6{t n:Int}{x:DOS}{st:STS}{s:MS}{e:ENS}{st':STS}{s':MS}(h0:x.at'=2)(hr:aZ x.sh x.kd x.ky=true)(hf:enF t n x.en st s=⟨true,e,st',s'⟩):
 dqF t n x st s=bif e.sh then⟨false,{doR x with code:=4,okk:=false,val:=0,at':=8,dr:=mN t n st'.me},st',s'⟩else⟨false,{doR x with at':=3,ft:=(ftNF t n x.sh x.kd x.ky x.limit st').1},(ftNF t n x.sh x.kd x.ky x.limit st').2,s'⟩:=by
 unfold dqF A8
 rw [h0]
 show(qF t n x st s).val =_
 unfold qF
 have hr:aZ x.5 x.6 x.7=true:=hr
 have hf:enF t n x.12 st s=⟨true,e,st',s'⟩:=hf
 simp only [Tr.val,hr,hf,Bool.not_true,cond_true,cond_false]
 cases e.sh<;>rfl
theorem aCj{t n:Int}{x:DOS}{st:STS}{s:MS}{f:FTS}{st':STS}{s':MS}(h0:x.at'=3)(hr:aZ x.sh x.kd x.ky=true)(hf:ftF t n x.ft st s=⟨false,f,st',s'⟩):dqF t n x st s=⟨false,{doR x with at':=3,ft:=f},st',s'⟩:=by
 unfold dqF A8
 rw [h0]
 show(qG t n x st s).val =_
 unfold qG
 have hr:aZ x.5 x.6 x.7=true:=hr
 have hf:ftF t n x.13 st s=⟨false,f,st',s'⟩:=hf
 simp only [Tr.val,hr,hf,Bool.not_true,cond_true,cond_false]
 rfl
theorem aCk{t n:Int}{x:DOS}{st:STS}{s:MS}{f:FTS}{st':STS}{s':MS}(h0:x.at'=3)(hr:aZ x.sh x.kd x.ky=true)(hf:ftF t n x.ft st s=⟨true,f,st',s'⟩)(hn:f.failed=false):
 dqF t n x st s=bif f.okk&&eL x.sh x.kd then⟨false,{doR x with code:=f.code,okk:=f.okk,val:=f.val,at':=7,fn:=lH t n st'.me (bY x.sh x.ky) (bV x.sh x.kd x.ky) x.limit},st',s'⟩else⟨false,{doR x with code:=f.code,okk:=f.okk,val:=f.val,at':=8,dr:=mN t n st'.me},st',s'⟩:=by
 unfold dqF A8
 rw [h0]
 show(qG t n x st s).val =_
 unfold qG
 have hr:aZ x.5 x.6 x.7=true:=hr
 have hf:ftF t n x.13 st s=⟨true,f,st',s'⟩:=hf
 have hn:f.4=false:=hn
 simp only [Tr.val,hr,hf,hn,Bool.not_true,Bool.not_false,cond_true,cond_false]
 cases hq:f.okk<;>cases eL x.sh x.kd<;>first | rfl | (simp only [hq];rfl)
theorem aCl{t n:Int}{x:DOS}{st:STS}{s:MS}{f:FNS}{s':MS}(h0:x.at'=7)(hr:aZ x.sh x.kd x.ky=true)(hf:fnF t n x.fn s=⟨false,f,s'⟩):dqF t n x st s=⟨false,{doR x with at':=7,fn:=f},st,s'⟩:=by
 unfold dqF A8
 rw [h0]
 show(qH t n x st s).val =_
 unfold qH
 have hr:aZ x.5 x.6 x.7=true:=hr
 have hf:fnF t n x.16 s=⟨false,f,s'⟩:=hf
 simp only [Tr.val,hr,hf,Bool.not_true,cond_true,cond_false]
 rfl
theorem aCm{t n:Int}{x:DOS}{st:STS}{s:MS}{f:FNS}{s':MS}(h0:x.at'=7)(hr:aZ x.sh x.kd x.ky=true)(hf:fnF t n x.fn s=⟨true,f,s'⟩):dqF t n x st s=⟨false,{doR x with at':=8,dr:=mN t n st.me},⟨st.me,st.sp,st.R++f.ul⟩,s'⟩:=by
 unfold dqF A8
 rw [h0]
 show(qH t n x st s).val =_
 unfold qH
 have hr:aZ x.5 x.6 x.7=true:=hr
 have hf:fnF t n x.16 s=⟨true,f,s'⟩:=hf
 simp only [Tr.val,hr,hf,Bool.not_true,cond_true,cond_false]
 rfl
theorem aCc{t n:Int}{x:DOS}{st:STS}{s:MS}{f:DRS}{s':MS}(h0:x.at'=8)(hr:aZ x.sh x.kd x.ky=true)(hf:drF t n x.dr s=⟨false,f,s'⟩):dqF t n x st s=⟨false,{doR x with at':=8,dr:=f},st,s'⟩:=by
 unfold dqF A8
 rw [h0]
 show(qI t n x st s).val =_
 unfold qI
 have hr:aZ x.5 x.6 x.7=true:=hr
 have hf:drF t n x.17 s=⟨false,f,s'⟩:=hf
 simp only [Tr.val,hr,hf,Bool.not_true,cond_true,cond_false]
 rfl
theorem aCd{t n:Int}{x:DOS}{st:STS}{s:MS}{f:DRS}{s':MS}(h0:x.at'=8)(hr:aZ x.sh x.kd x.ky=true)(hf:drF t n x.dr s=⟨true,f,s'⟩):dqF t n x st s=⟨!ile (4*t) (st.R.length:Int),{doR x with at':=9},st,s'⟩:=by
 unfold dqF A8
 rw [h0]
 show(qI t n x st s).val =_
 unfold qI
 have hr:aZ x.5 x.6 x.7=true:=hr
 have hf:drF t n x.17 s=⟨true,f,s'⟩:=hf
 simp only [Tr.val,hr,hf,Bool.not_true,cond_true,cond_false]
 rfl
theorem aCh{t n:Int}{x:DOS}{st:STS}{s:MS}{f:SWS}{st':STS}{s':MS}(h0:x.at'=9)(hr:aZ x.sh x.kd x.ky=true)(hf:swF t n x.sw st s=⟨false,f,st',s'⟩):dqF t n x st s=⟨false,{doR x with at':=9,sw:=f},st',s'⟩:=by
 unfold dqF A8
 rw [h0]
 show(qJ t n x st s).val =_
 unfold qJ
 have hr:aZ x.5 x.6 x.7=true:=hr
 have hf:swF t n x.18 st s=⟨false,f,st',s'⟩:=hf
 simp only [Tr.val,hr,hf,Bool.not_true,cond_true,cond_false]
 rfl
theorem aCi{t n:Int}{x:DOS}{st:STS}{s:MS}{f:SWS}{st':STS}{s':MS}(h0:x.at'=9)(hr:aZ x.sh x.kd x.ky=true)(hf:swF t n x.sw st s=⟨true,f,st',s'⟩):dqF t n x st s=⟨true,{doR x with at':=9},st',s'⟩:=by
 unfold dqF A8
 rw [h0]
 show(qJ t n x st s).val =_
 unfold qJ
 have hr:aZ x.5 x.6 x.7=true:=hr
 have hf:swF t n x.18 st s=⟨true,f,st',s'⟩:=hf
 simp only [Tr.val,hr,hf,Bool.not_true,cond_true,cond_false]
 rfl
theorem aES{σ τ:Type}{F:σ→Bool×σ}{G:τ→Bool×τ}(e:σ→τ)(he: ∀a b,F a=(false,b)→G (e a)=(false,e b)){j:Nat}{a z:σ}{y:τ}(h:End F j a z)(hz: ∀b,F b=(true,z)→G (e b)=(false,y)):Go1 G j (e a) y:=by
 obtain⟨i,b,rfl,h1,h2⟩:=h
 have:=(aE8 e he h1).trans (Go1.one (hz b h2))
 rw [Nat.add_comm]at this
 exact this
theorem End.outo{σ τ:Type}{F:σ→Bool×σ}{G:τ→Bool×τ}(e:σ→τ)(he: ∀a b,F a=(false,b)→G (e a)=(false,e b)){j:Nat}{a z:σ}{y:τ}(h:End F j a z)(hz: ∀b,F b=(true,z)→G (e b)=(true,y)):End G j (e a) y:=by
 obtain⟨i,b,rfl,h1,h2⟩:=h
 exact⟨i,e b,rfl,aE8 e he h1,hz b h2⟩
theorem H6{t n:Int}{a:DRS×MS}{d:Bool}{b:DRS×MS}(h:drG t n a=(d,b)):drF t n a.1 a.2=⟨d,b.1,b.2⟩:=by
 unfold drG at h
 rw [pI']at h
 obtain⟨rfl,rfl⟩:=h
 rfl
theorem IM{t n:Int}{a:HDS×MS}{d:Bool}{b:HDS×MS}(h:LA t n a=(d,b)):hdF t n a.1 a.2=⟨d,b.1,b.2⟩:=by
 unfold LA at h
 rw [pI']at h
 obtain⟨rfl,rfl⟩:=h
 rfl
theorem JC{t n:Int}{a:SWS×STS×MS}{d:Bool}{b:SWS×STS×MS}(h:XX t n a=(d,b)):swF t n a.1 a.2.1 a.2.2=⟨d,b.1,b.2.1,b.2.2⟩:=by
 unfold XX at h
 rw [pI']at h
 obtain⟨rfl,rfl⟩:=h
 rfl
theorem qK{t n:Int}{a:ENS×STS×MS}{d:Bool}{b:ENS×STS×MS}(h:w8 t n a=(d,b)):enF t n a.1 a.2.1 a.2.2=⟨d,b.1,b.2.1,b.2.2⟩:=by
 obtain⟨h1,h2⟩:=TK h
 subst h1 h2
 rfl
theorem CZ{t n:Int}{a:FTS×STS×MS}{d:Bool}{b:FTS×STS×MS}(h:ftG t n a=(d,b)):ftF t n a.1 a.2.1 a.2.2=⟨d,b.1,b.2.1,b.2.2⟩:=by
 obtain⟨h1,h2⟩:=UB h
 subst h1 h2
 rfl
def UpF(n me:Int)(s s':MS):Prop:= ∀a,2*n+5≤a→a≠2*n+5+2*me→a≠2*n+5+2*me+1→aB s'.xs a=aB s.xs a
theorem UpF.trans{n me:Int}{a b c:MS}(h:UpF n me a b)(g:UpF n me b c):UpF n me a c:=fun x h1 h2 h3=>(g x h1 h2 h3).trans (h x h1 h2 h3)
structure aBV (X z:DOS):Prop where
 code:z.code=X.code
 okk:z.okk=X.okk
 val:z.val=X.val
 slow:z.slow=X.slow
theorem zJ{t n:Int}{LL:List (List Nd)}{S:List STS}{s:MS}{i:Nat}{st:STS}(q:QL t n s.xs LL S)(hS:S[i]? =some st)(sz: ∀k:Int,0≤k→k<2*t→k≠2*st.me→k≠2*st.me+1→aB s.xs (2*n+5+k)=0):
 ∃j st' s',(∀X:DOS,X.at'=8→aZ X.sh X.kd X.ky=true→X.dr=⟨st.me,0⟩→ ∃z,End (dqJ t n) j (X,st,s) (z,st',s')∧aBV X z)∧QL t n s'.xs LL (S.set i st')∧SZ t n s'.xs∧UpF n st.me s s'∧s'.c=s.c+j∧s'.t=s.t∧s'.n=s.n∧(j:Int)≤2+2*t+n∧st'.sp=st.sp∧(st'=st∧(st.R.length:Int)<4*t∨st'= {st with R:=[] } ∧4*t≤(st.R.length:Int)):=by
 have hm:=q.me i st hS
 have hn:=q.hn
 have ht:=q.ht
 obtain⟨zd,s1,hdrop,hd1⟩:=OH t n st.me s
 let s2:=(s.stored (2*n+5+2*st.me+0) 0).stored (2*n+5+2*st.me+1) 0
 have x2: ∀a,a≠2*n+5+2*st.me→a≠2*n+5+2*st.me+1→aB s2.xs a=aB s.xs a:=by
  intro a h0 h1
  show aB (aK (aK s.xs (2*n+5+2*st.me+0) 0) (2*n+5+2*st.me+1) 0) a=_
  rw [cI h1,cI (by omega)]
 have hin0:0≤2*n+5+2*st.me+0∧2*n+5+2*st.me+0<s.xs.length:=by have:=q.len;omega
 have hin1:0≤2*n+5+2*st.me+1∧2*n+5+2*st.me+1<(aK s.xs (2*n+5+2*st.me+0) 0).length :=by rw [b9];have:=q.len;omega
 have xs1:aB s2.xs (2*n+5+2*st.me+1)=0:=dP hin1
 have xs0:aB s2.xs (2*n+5+2*st.me)=0:=by
  show aB (aK (aK s.xs (2*n+5+2*st.me+0) 0) (2*n+5+2*st.me+1) 0) _=0
  rw [cI (by omega),show 2*n+5+2*st.me+0=2*n+5+2*st.me by omega]
  exact dP (by omega)
 have sz2:SZ t n s2.xs:=by
  intro k h0 h1
  by_cases e0:k=2*st.me
  ·rw [e0];exact xs0
  ·by_cases e1:k=2*st.me+1
   ·rw [e1,show 2*n+5+(2*st.me+1)=2*n+5+2*st.me+1 by omega];exact xs1
   ·rw [x2 _ (by omega) (by omega)];exact sz k h0 h1 e0 e1
 have len2:s2.xs.length=s.xs.length:=(b9 _ _ _).trans (b9 _ _ _)
 have ok2:okW s2.xs:=eB (eB q.okw ⟨by decide,by decide⟩) ⟨by decide,by decide⟩
 have q2:QL t n s2.xs LL S:=q.out len2 ok2 (fun a ha=>x2 a (by omega) (by omega))
 have hRn:(st.R.length:Int)≤n:=by
  have:=fA (by omega) (p5 (fW q hS).1) (fun r hr=>(fW q hS).2.1 r (l0 hr))
  exact this
 have drops: ∀X:DOS,X.at'=8→aZ X.sh X.kd X.ky=true→X.dr=⟨st.me,0⟩→ ∀d,(!ile (4*t) (st.R.length:Int))=d→ ∃b,Go1 (dqJ t n) 1 (X,st,s) b∧dqJ t n b=(d,({doR X with at':=9},st,s2)):=by
  intro X h8 hr hdr d hd
  obtain⟨i',b,hj,g1,g2⟩:=hdrop
  have hi:i'=1:=by omega
  subst hi
  cases g1 with
  | cons e g=>
    cases g
    have e1:=H6 e
    have e2:=H6 g2
    refine⟨({doR X with at':=8,dr:=b.1},st,b.2),Go1.one (kJ (aCc h8 hr (by rw [hdr];exact e1))),?_⟩
    rw [←hd]
    exact kJ (aCd (x:= {doR X with at':=8,dr:=b.1}) rfl hr e2)
 by_cases hfull:(st.R.length:Int)<4*t
 ·have hd:(!ile (4*t) (st.R.length:Int))=true:=by rw [cD,decide_eq_false (by omega)];rfl
  refine⟨2,st,s2,fun X h8 hr hdr=>?_,by rw [wJ hS];exact q2,sz2,fun a h0 h1 h2=>x2 a h1 h2,by show s.c+1+1=_;omega,rfl,rfl,by omega,rfl,.inl ⟨rfl,hfull⟩⟩
  obtain⟨b,g1,g2⟩:=drops X h8 hr hdr true hd
  exact⟨_,⟨1,b,rfl,g1,g2⟩,rfl,rfl,rfl,rfl⟩
 ·have hd:(!ile (4*t) (st.R.length:Int))=false:=by rw [cD,decide_eq_true (by omega)];rfl
  have hR:st.R≠ []:=by intro e;rw [e]at hfull;simp at hfull;omega
  obtain⟨j,zw,s3,g1,g2,g3,g4,g5,g6⟩:=aBw (t:=t) (n:=n) (y:=bL) (st:=st) (s:=s2) rfl ht.1 hn.2 hR (fun r hr=>(fW q hS).2.1 r (l0 hr)) sz2
  have q3:=q2.give hS
  have up3: ∀a,2*n+5≤a→aB s3.xs a=aB s2.xs a:=by
   intro a ha
   rw [g2]
   refine gK _ _ (fun r hr e=>?_)
   have:=(fW q hS).2.1 r (l0 hr);omega
  refine⟨j+2,{st with R:=[] },s3,fun X h8 hr hdr=>?_,by rw [g2];exact q3,?_,fun a h0 h1 h2=>(up3 a h0).trans (x2 a h1 h2),by rw [g3];show s.c+1+1+_=_;omega,g4,g5,by omega,rfl,.inr ⟨rfl,by omega⟩⟩
  ·obtain⟨b,k1,k2⟩:=drops X h8 hr hdr false hd
   have hsw:End (dqJ t n) j ({doR X with at':=9,sw:=bL},st,s2) ({doR X with at':=9},{st with R:=[] },s3):=by
    refine End.outo (F:=XX t n) (G:=dqJ t n) (fun p:SWS×STS×MS=>(({doR X with at':=9,sw:=p.1} :DOS),p.2.1,p.2.2)) (fun a c h=>kJ (aCh (x:= {doR X with at':=9,sw:=a.1}) rfl hr (JC h))) g1 (fun c h=>kJ (aCi (x:= {doR X with at':=9,sw:=c.1}) rfl hr (JC h)))
   exact⟨_,aET (k1.trans (Go1.one k2)) hsw,rfl,rfl,rfl,rfl⟩
  ·intro k h0 h1
   rw [up3 _ (by omega)];exact sz2 k h0 h1
theorem wI(k:Int): ∀L:List Nd,∀b∈(sc k L).1,b.k<k
 | [],b,h=>by cases h
 | c::L,b,h=>by
   cases hm:c.m with
   | true=>rw [kE hm]at h;exact wI k L b h
   | false=>
     by_cases hk:k≤c.k
     ·rw [kF hm hk]at h;cases h
     ·rw [iY hm (by omega)]at h
      rcases List.mem_cons.1 h with e | e
      ·rw [e];omega
      ·exact wI k L b e
theorem Q0(k:Int): ∀(A R:List Nd),(∀a∈A,a.m=false∧a.k<k)→sc k (A++R)=(A++(sc k R).1,(sc k R).2.1,(sc k R).2.2)
 | [],R,_=>rfl
 | a::A,R,h=>by
   obtain⟨h1,h2⟩:=h a (List.mem_cons_self ..)
   have ih:=Q0 k A R (fun b hb=>h b (List.mem_cons_of_mem _ hb))
   rw [List.cons_append,iY h1 h2,ih]
   rfl
theorem AQ(k:Int): ∀L:List Nd,(∀b∈L,b.m=false)→(sc k L).2.1=[]∧(sc k L).1++(sc k L).2.2=L
 | [],_=>⟨rfl,rfl⟩
 | c::L,h=>by
   have hm:=h c (List.mem_cons_self ..)
   obtain⟨h1,h2⟩:=AQ k L (fun b hb=>h b (List.mem_cons_of_mem _ hb))
   by_cases hk:k≤c.k
   ·rw [kF hm hk];exact⟨rfl,rfl⟩
   ·rw [iY hm (by omega)]
    exact⟨h1,by rw [List.cons_append,h2]⟩
theorem WS(k:Int)(L:List Nd):uk ((sc k L).1++(sc k L).2.2)=uk L:=by
 obtain⟨h1,h2⟩:=RJ k L
 rw [kX,RK (yP k L),h1,h2,List.takeWhile_append_dropWhile]
def UM(LL:List (List Nd)):Prop:= ∀L∈LL,∀b∈L,b.m=false
theorem UM.set{LL:List (List Nd)}(h:UM LL){i:Nat}{L:List Nd}(hL: ∀b∈L,b.m=false):UM (LL.set i L):=by
 intro M hM
 rcases List.mem_or_eq_of_mem_set hM with e | e
 ·exact h M e
 ·rw [e];exact hL
theorem UM.at{LL:List (List Nd)}(h:UM LL){i:Nat}{L:List Nd}(hL:LL[i]? =some L): ∀b∈L,b.m=false:=h L (List.mem_of_getElem? hL)
theorem DS{sh kd ky:Int}{B:List Nd}(hr:aZ sh kd ky=true):((paOf sh kd ky B).ok &&eL sh kd)=true↔ ∃v,paOf sh kd ky B=.mark v:=by
 have hk:=eD.1 hr
 have mb:eL sh kd=true↔kd=2∨kd=5∧sh=3:=by unfold eL;simp [bN]
 constructor
 ·intro h
  rw [Bool.and_eq_true,mb]at h
  obtain⟨h1,h2⟩:=h
  unfold paOf at h1⊢
  rcases h2 with e | ⟨e,e3⟩
  ·rw [if_neg (show¬kd=4 by omega),if_neg (show¬kd=1 by omega),if_pos e]at h1⊢
   cases q:fndB ky B with
   | true=>exact⟨0,rfl⟩
   | false=>rw [q]at h1;cases h1
  ·rw [if_neg (show¬kd=4 by omega),if_neg (show¬kd=1 by omega),if_neg (show¬kd=2 by omega),if_neg (show¬kd=3 by omega)]at h1⊢
   cases B with
   | nil=>cases h1
   | cons b B'=>exact⟨b.k,if_neg (show¬sh=4 by omega)⟩
 ·rintro⟨v,hv⟩
  rw [hv,Bool.and_eq_true,mb]
  refine⟨rfl,?_⟩
  unfold paOf at hv
  by_cases e4:kd=4
  ·rw [if_pos e4]at hv;cases hv
  ·rw [if_neg e4]at hv
   by_cases e1:kd=1
   ·rw [if_pos e1]at hv
    cases q:fndB ky B<;>rw [q]at hv<;>cases hv
   ·rw [if_neg e1]at hv
    by_cases e2:kd=2
    ·exact .inl e2
    ·rw [if_neg e2]at hv
     by_cases e3:kd=3
     ·rw [if_pos e3]at hv;cases hv
     ·rw [if_neg e3]at hv
      right
      cases B with
      | nil=>cases hv
      | cons b B'=>
        by_cases e5:sh=4
        ·simp only [if_pos e5]at hv;cases hv
        ·omega
theorem FtA.up{n me p k ky sp:Int}{L:List Nd}{a:Pa}{s s':MS}{j:Nat}(f:FtA n me p L k ky sp a s s' j)(hn:1≤n)(hp:p≤n+4)(hL: ∀b∈L.map Nd.a,b≤n)(hsp:sp≤n):UpF n me s s':=by
 intro x h0 h1 h2
 refine f.same x h1 h2 (fun h=>?_) (by omega)
 rcases List.mem_cons.1 h with e | e
 ·omega
 ·have:=hL x e;omega
theorem JH.up{n p:Int}{L:List Nd}{x z:FNS}{s s':MS}{j:Nat}(f:JH n p L x s z s' j)(hn:1≤n)(hp:p≤n+4)(hL: ∀b∈L.map Nd.a,b≤n):UpF n x.me s s':=by
 intro y h0 h1 h2
 refine f.same y h1 h2 (fun h=>?_)
 rcases List.mem_cons.1 h with e | e
 ·omega
 ·have:=hL y (jP (uR _ _) e);omega
theorem aC9{t n:Int}{xs:List Int}{LL:List (List Nd)}{S:List STS}(q:QL t n xs LL S){i:Nat}{st:STS}(hS:S[i]? =some st):st.sp≤n:=by
 have hn:=q.hn
 by_cases z:st.sp=0
 ·omega
 ·exact((fW q hS).2.1 st.sp (by rw [mB z];exact List.mem_cons_self ..)).2
theorem YZ{t n:Int}{sh kd ky:Int}{LL:List (List Nd)}{S:List STS}{s:MS}{i:Nat}{st:STS}(q:QL t n s.xs LL S)(hS:S[i]? =some st)(hr:aZ sh kd ky=true)(um:UM LL)(hl:bI kd=true→st.sp≠0)
 (sz: ∀k:Int,0≤k→k<2*t→k≠2*st.me→k≠2*st.me+1→aB s.xs (2*n+5+k)=0):
 ∃j L' st' s',(∀Y:DOS,Y.sh=sh→Y.kd=kd→Y.ky=ky→0≤Y.limit→ ∃z,End (dqJ t n) j ({doR Y with at':=3,ft:=(ftNF t n sh kd ky Y.limit st).1},st,s) (z,st',s')∧z.code=0∧(z.okk,z.val)=(xS sh kd ky (uk (bQ LL sh ky))).1∧z.slow=Y.slow)∧
  QL t n s'.xs (LL.set (bY sh ky).toNat L') (S.set i st')∧(∀b∈L',b.m=false)∧uk L'=(xS sh kd ky (uk (bQ LL sh ky))).2∧SZ t n s'.xs∧UpF n st.me s s'∧s'.c=s.c+j∧s'.t=s.t∧s'.n=s.n∧(j:Int)≤11*n+2*t+20∧
  st'.sp=(bif bI kd&&(xS sh kd ky (uk (bQ LL sh ky))).1.1 then 0 else st.sp):=by
 have hn:=q.hn
 have lc:=q.lc sh ky hS
 have hL:=q.at sh ky
 have hh:=vQ sh ky
 have hLn:=gW q hL
 have hum:=um.at hL
 obtain⟨j1,s1,fa,hz⟩:=FY (t:=t) (sh:=sh) (kd:=kd) (ky:=ky) (st:=st) (s:=s) hr lc (fun hk=>by
  have h0:=hl hk
  have hm:st.sp∈dE st.sp st.R:=by rw [mB h0];exact List.mem_cons_self ..
  have:=(fW q hS).2.1 _ hm
  exact⟨this.1,this.2,sK q hS hL _ hm⟩)
 obtain⟨k1,k2,k3⟩:=KP sh kd ky st.sp (bQ LL sh ky)
 have q1:=q.fast (sh:=sh) (kd:=kd) (ky:=ky) hS hl fa
 have up1:=fa.up hn.1 lc.hp.2 (fun b hb=>(hLn.2.1 b hb).2) (aC9 q hS)
 have hlim:=fa.lim
 have hlen:=lc.ln
 obtain⟨u0,u1⟩:=AQ (bV sh kd ky) _ hum
 have hlA:=wI (bV sh kd ky) (bQ LL sh ky)
 have huA:=yP (bV sh kd ky) (bQ LL sh ky)
 have hsp:(gF sh kd ky (bQ LL sh ky) st).sp =(bif bI kd&&(xS sh kd ky (uk (bQ LL sh ky))).1.1 then 0 else st.sp):=by
  rw [←k1]
  show(paOf sh kd ky (sc (bV sh kd ky) (bQ LL sh ky)).2.2).sp st.sp=_
  cases hlk:bI kd with
  | true=>
    rcases v8 (sh:=sh) (ky:=ky) (B:=(sc (bV sh kd ky) (bQ LL sh ky)).2.2) hlk with e | ⟨b,e⟩
    ·rw [e];rfl
    ·rw [e]
     cases b with
     | false=>rfl
     | true=>
       exfalso
       unfold paOf at e
       unfold bI at hlk
       simp only [bN,Bool.or_eq_true,beq_iff_eq]at hlk
       rcases hlk with e1 | e4
       ·rw [if_neg (show¬kd=4 by omega),if_pos e1]at e
        cases q:fndB ky (sc (bV sh kd ky) (bQ LL sh ky)).2.2<;>rw [q]at e<;>cases e
       ·rw [if_pos e4]at e;cases e
  | false=>
    rw [Bool.false_and,cond_false]
    cases hp:paOf sh kd ky (sc (bV sh kd ky) (bQ LL sh ky)).2.2 with
    | link=>have:=AF hp;rw [hlk]at this;cases this
    | _=>rfl
 have hwalk: ∀Y:DOS,Y.sh=sh→Y.kd=kd→Y.ky=ky→0≤Y.limit→ ∀y,(∀f:FTS,f.code=0→f.okk=(paOf sh kd ky (sc (bV sh kd ky) (bQ LL sh ky)).2.2).ok →f.val=(paOf sh kd ky (sc (bV sh kd ky) (bQ LL sh ky)).2.2).val →f.failed=false→(bif f.okk&&eL sh kd then(({doR Y with code:=f.code,okk:=f.okk,val:=f.val,at':=7,fn:=lH t n st.me (bY sh ky) (bV sh kd ky) Y.limit} :DOS),gF sh kd ky (bQ LL sh ky) st,s1)else(({doR Y with code:=f.code,okk:=f.okk,val:=f.val,at':=8,dr:=mN t n st.me} :DOS),gF sh kd ky (bQ LL sh ky) st,s1))=y)→
  Go1 (dqJ t n) j1 ({doR Y with at':=3,ft:=(ftNF t n sh kd ky Y.limit st).1},st,s) y:=by
  intro Y y1 y2 y3 hlm y hy
  subst y1
  subst y2
  subst y3
  obtain⟨z,hend,z1,z2,z3,z4,z5⟩:=hz Y.limit hlm
  have hrY:aZ Y.sh Y.kd Y.ky=true:=hr
  refine aES (F:=ftG t n) (fun p:FTS×STS×MS=>(({doR Y with at':=3,ft:=p.1} :DOS),p.2.1,p.2.2)) (fun a b hab=>kJ (aCj (x:= {doR Y with at':=3,ft:=a.1}) rfl hrY (CZ hab))) hend (fun b hb=>?_)
  have e:=aCk (x:= {doR Y with at':=3,ft:=b.1}) rfl hrY (CZ hb) z4
  have hy:=hy z z1 z2 z3 z4
  unfold dqJ
  rw [e]
  rw [←hy]
  show((bif z.okk&&eL Y.sh Y.kd then _ else _:DqO).d,(bif z.okk&&eL Y.sh Y.kd then _ else _:DqO).x,(bif z.okk&&eL Y.sh Y.kd then _ else _:DqO).st,(bif z.okk&&eL Y.sh Y.kd then _ else _:DqO).s)=_
  cases (z.okk&&eL Y.sh Y.kd)<;>rfl
 have hS1:(S.set i (gF sh kd ky (bQ LL sh ky) st))[i]? =some (gF sh kd ky (bQ LL sh ky) st):=List.getElem?_set_self (iL hS)
 have hL1:(LL.set (bY sh ky).toNat (jK sh kd ky st.sp (bQ LL sh ky)))[(bY sh ky).toNat]? =some (jK sh kd ky st.sp (bQ LL sh ky)):=List.getElem?_set_self (iL hL)
 by_cases hmark: ∃v,paOf sh kd ky (sc (bV sh kd ky) (bQ LL sh ky)).2.2=.mark v
 ·
  have hmk:=(DS (ky:=ky) (B:=(sc (bV sh kd ky) (bQ LL sh ky)).2.2) hr).2 hmark
  obtain⟨v,hv⟩:=hmark
  have lc1:=q1.lc sh ky hS1
  rw [LU hL1]at lc1
  obtain⟨j2,zf,s2,e2,f2,hj2⟩:=OT (t:=t) (n:=n) (jK sh kd ky st.sp (bQ LL sh ky)) (n+1+bY sh ky) (lH t n st.me (bY sh ky) (bV sh kd ky) 0) s1 rfl rfl (lc1.fc _ _ _)
  have hL1':=hL1
  have q2:=q1.find (x:=lH t n st.me (bY sh ky) (bV sh kd ky) 0) hL1 hS1 rfl (by rw [hh];exact f2)
  rw [List.set_set,List.set_set]at q2
  have ful:zf.ul=(sc (bV sh kd ky) (jK sh kd ky st.sp (bQ LL sh ky))).2.1.map Nd.a:=by have:=f2.ul;exact this.trans (List.nil_append _)
  have up2:UpF n st.me s1 s2:=f2.up hn.1 lc.hp.2 (fun b hb=>((gW q1 hL1).2.1 b hb).2)
  have hS2:(S.set i ⟨(gF sh kd ky (bQ LL sh ky) st).me,(gF sh kd ky (bQ LL sh ky) st).sp,(gF sh kd ky (bQ LL sh ky) st).R ++(sc (bV sh kd ky) (jK sh kd ky st.sp (bQ LL sh ky))).2.1.map Nd.a⟩)[i]? =some _:=List.getElem?_set_self (iL hS)
  have sz2: ∀k:Int,0≤k→k<2*t→k≠2*st.me→k≠2*st.me+1→aB s2.xs (2*n+5+k)=0:=by
   intro k h0 h1 h2 h3
   rw [up2 _ (by omega) (by omega) (by omega),up1 _ (by omega) (by omega) (by omega)]
   exact sz k h0 h1 h2 h3
  obtain⟨j3,st3,s3,w,q3,sz3,up3,c3,t3,n3,b3,sp3,_⟩:=zJ q2 hS2 sz2
  rw [List.set_set]at q3
  have hl1:=lc1.ln
  refine⟨j3+(j2+j1),_,st3,s3,fun Y y1 y2 y3 hlm=>?_,q3,?_,(WS _ _).trans k3,sz3,(up1.trans up2).trans up3,?_,t3.trans (f2.t.trans fa.t),n3.trans (f2.n.trans fa.n),by omega,sp3.trans hsp⟩
  ·obtain⟨f0,f01,f02,f03,f04⟩: ∃f:FTS,f.code=0∧f.okk=(paOf sh kd ky (sc (bV sh kd ky) (bQ LL sh ky)).2.2).ok ∧f.val=(paOf sh kd ky (sc (bV sh kd ky) (bQ LL sh ky)).2.2).val ∧f.failed=false:=by
    obtain⟨z,_,z1,z2,z3,z4,z5⟩:=hz Y.limit hlm
    exact⟨z,z1,z2,z3,z4⟩
   have g1:=hwalk Y y1 y2 y3 hlm (({doR Y with code:=0,okk:=(paOf sh kd ky (sc (bV sh kd ky) (bQ LL sh ky)).2.2).ok,val:=(paOf sh kd ky (sc (bV sh kd ky) (bQ LL sh ky)).2.2).val,at':=7,fn:=lH t n st.me (bY sh ky) (bV sh kd ky) Y.limit} :DOS),gF sh kd ky (bQ LL sh ky) st,s1) (by
    intro f a1 a2 a3 a4
    rw [a1,a2,a3,hmk];rfl)
   have hrY:aZ Y.sh Y.kd Y.ky=true:=by rw [y1,y2,y3];exact hr
   let X7:DOS:= {doR Y with code:=0,okk:=(paOf sh kd ky (sc (bV sh kd ky) (bQ LL sh ky)).2.2).ok,val:=(paOf sh kd ky (sc (bV sh kd ky) (bQ LL sh ky)).2.2).val,at':=7}
   have g2:Go1 (dqJ t n) j2 (({doR X7 with at':=7,fn:= {lH t n st.me (bY sh ky) (bV sh kd ky) 0 with limit:=Y.limit} } :DOS),gF sh kd ky (bQ LL sh ky) st,s1) ({doR X7 with at':=8,dr:=mN t n st.me},⟨st.me,(gF sh kd ky (bQ LL sh ky) st).sp,(gF sh kd ky (bQ LL sh ky) st).R ++zf.ul⟩,s2):=
    aES (F:=A9 t n) (fun p:FNS×MS=>(({doR X7 with at':=7,fn:=p.1} :DOS),gF sh kd ky (bQ LL sh ky) st,p.2)) (fun a b hab=>kJ (aCl (x:= {doR X7 with at':=7,fn:=a.1}) rfl hrY (uL hab))) (e2 Y.limit) (fun b hb=>kJ (aCm (x:= {doR X7 with at':=7,fn:=b.1}) (f:= {zf with limit:=Y.limit}) rfl hrY (uL hb)))
   rw [ful]at g2
   obtain⟨z,w1,w2⟩:=w {doR X7 with at':=8,dr:=mN t n st.me} rfl hrY rfl
   refine⟨z,aET (g1.trans g2) w1,w2.code,?_,w2.slow⟩
   rw [w2.okk,w2.val]
   show((paOf sh kd ky (sc (bV sh kd ky) (bQ LL sh ky)).2.2).ok,(paOf sh kd ky (sc (bV sh kd ky) (bQ LL sh ky)).2.2).val)=_
   rw [k1,k2]
  ·
   show∀b∈(sc (bV sh kd ky) (jK sh kd ky st.sp (bQ LL sh ky))).1++(sc (bV sh kd ky) (jK sh kd ky st.sp (bQ LL sh ky))).2.2,b.m=false
   obtain⟨b0,B',hB⟩:=AG hv
   have hfl:jK sh kd ky st.sp (bQ LL sh ky)=(sc (bV sh kd ky) (bQ LL sh ky)).1++⟨b0.a,b0.k,true⟩::B':=by
    unfold jK;rw [hv,hB];rfl
   have hB': ∀b∈B',b.m=false:=by
    intro b hb
    refine hum b ?_
    rw [←u1,hB]
    exact List.mem_append_right _ (List.mem_cons_of_mem _ hb)
   rw [hfl,Q0 _ _ _ (fun a ha=>⟨huA a ha,hlA a ha⟩),kE rfl]
   obtain⟨v0,v1⟩:=AQ (bV sh kd ky) B' hB'
   intro b hb
   rw [List.append_assoc,v1]at hb
   rcases List.mem_append.1 hb with e | e
   ·exact huA b e
   ·exact hB' b e
  ·rw [c3,f2.c,fa.c];omega
 ·have hmk:((paOf sh kd ky (sc (bV sh kd ky) (bQ LL sh ky)).2.2).ok &&eL sh kd)=false:=by
   cases z:((paOf sh kd ky (sc (bV sh kd ky) (bQ LL sh ky)).2.2).ok &&eL sh kd)with
   | false=>rfl
   | true=>exact absurd ((DS hr).1 z) hmark
  have sz1: ∀k:Int,0≤k→k<2*t→k≠2*st.me→k≠2*st.me+1→aB s1.xs (2*n+5+k)=0:=by
   intro k h0 h1 h2 h3
   rw [up1 _ (by omega) (by omega) (by omega)]
   exact sz k h0 h1 h2 h3
  obtain⟨j3,st3,s3,w,q3,sz3,up3,c3,t3,n3,b3,sp3,_⟩:=zJ q1 hS1 sz1
  rw [List.set_set]at q3
  refine⟨j3+j1,_,st3,s3,fun Y y1 y2 y3 hlm=>?_,q3,?_,k3,sz3,up1.trans up3,?_,t3.trans fa.t,n3.trans fa.n,by omega,sp3.trans hsp⟩
  ·have g1:=hwalk Y y1 y2 y3 hlm (({doR Y with code:=0,okk:=(paOf sh kd ky (sc (bV sh kd ky) (bQ LL sh ky)).2.2).ok,val:=(paOf sh kd ky (sc (bV sh kd ky) (bQ LL sh ky)).2.2).val,at':=8,dr:=mN t n st.me} :DOS),gF sh kd ky (bQ LL sh ky) st,s1) (by
    intro f a1 a2 a3 a4
    rw [a1,a2,a3,hmk];rfl)
   have hrY:aZ Y.sh Y.kd Y.ky=true:=by rw [y1,y2,y3];exact hr
   obtain⟨z,w1,w2⟩:=w {doR Y with code:=0,okk:=(paOf sh kd ky (sc (bV sh kd ky) (bQ LL sh ky)).2.2).ok,val:=(paOf sh kd ky (sc (bV sh kd ky) (bQ LL sh ky)).2.2).val,at':=8,dr:=mN t n st.me} rfl hrY rfl
   refine⟨z,aET g1 w1,w2.code,?_,w2.slow⟩
   rw [w2.okk,w2.val]
   show((paOf sh kd ky (sc (bV sh kd ky) (bQ LL sh ky)).2.2).ok,(paOf sh kd ky (sc (bV sh kd ky) (bQ LL sh ky)).2.2).val)=_
   rw [k1,k2]
  ·
   unfold jK
   intro b hb
   rcases List.mem_append.1 hb with e | e
   ·exact huA b e
   ·have hBs: ∀b∈(sc (bV sh kd ky) (bQ LL sh ky)).2.2,b.m=false:=fun b hb=>hum b (by rw [←u1];exact List.mem_append_right _ hb)
    cases hp:paOf sh kd ky (sc (bV sh kd ky) (bQ LL sh ky)).2.2 with
    | now bb=>rw [hp]at e;exact hBs b e
    | link=>
      rw [hp]at e
      rcases List.mem_cons.1 e with e | e
      ·rw [e]
      ·exact hBs b e
    | mark v=>exact absurd ⟨v,hp⟩ hmark
    | pop v=>rw [hp]at e;exact hBs b (List.mem_of_mem_tail e)
  ·rw [c3,fa.c];omega
end Go.Sh
