import Derived.Test.YtedeloeobocpiaaGreatZFR3toSQ0
set_option linter.all false
set_option maxHeartbeats 8000000
namespace Go.Sh
open Go Go.Proofs
variable [Con]
structure Nd where
 a:Int
 k:Int
 m:Bool
def ch(n:Int)(xs:List Int):Int→List Nd→Prop
 | a,[]=>nxW (aB xs a)=0
 | a,b::L=>nxW (aB xs a)=b.a∧(1≤b.a∧b.a≤n)∧kyW (aB xs b.a)=b.k∧mkW (aB xs b.a)=b.m∧clW' (aB xs b.a)=0∧ch n xs b.a L
theorem jQ{n:Int}{xs ys:List Int} : ∀ {L:List Nd} {a:Int},ch n xs a L→(∀b,b∈a::L.map Nd.a→aB ys b=aB xs b)→ch n ys a L
 | [],a,h,e=>by
   have h:nxW (aB xs a)=0:=h
   show nxW (aB ys a)=0
   rw [e a (List.mem_cons_self ..)];exact h
 | b::L,a,h,e=>by
   obtain⟨h1,h2,h3,h4,h5,h6⟩:=h
   have eb:=e b.a (by simp)
   refine⟨by rw [e a (by simp)];exact h1,h2,by rw [eb];exact h3,by rw [eb];exact h4,by rw [eb];exact h5,jQ h6 (fun c hc=>e c ?_)⟩
   rw [List.map_cons]
   exact List.mem_cons_of_mem _ hc
def sc(k:Int):List Nd→List Nd×List Nd×List Nd
 | []=>([],[],[])
 | b::L=>bif b.m then((sc k L).1,b::(sc k L).2.1,(sc k L).2.2)else(if k≤b.k then([],[],b::L)else(b::(sc k L).1,(sc k L).2.1,(sc k L).2.2))
def hdN:List Nd→Int
 | []=>0
 | b::_=>b.a
def hdWd(xs:List Int):List Nd→Int
 | []=>0
 | b::_=>aB xs b.a
theorem zB{n:Int}{xs:List Int} : ∀ {L:List Nd} {a:Int},ch n xs a L→ ∀b∈L,1≤b.a∧b.a≤n
 | b::L,a,h,c,hc=>by
   rcases List.mem_cons.1 hc with e | e
   ·rw [e];exact h.2.1
   ·exact zB h.2.2.2.2.2 c e
theorem LI{n:Int}{xs:List Int} : ∀ {L:List Nd} {a:Int},ch n xs a L→nxW (aB xs a)=hdN L
 | [],a,h=>h
 | b::L,a,h=>h.1
theorem TL{n:Int}{xs:List Int}{a:Int}{L:List Nd}(h:ch n xs a L):ieq (hdN L) 0=L.isEmpty:=by
 cases L with
 | nil=>rfl
 | cons b L=>
   have:=h.2.1.1
   show ieq b.a 0=false
   rw [b9,beq_eq_false_iff_ne];omega
structure FC (t n p:Int) (L:List Nd) (x:FNS) (s:MS):Prop where
 ht:1≤t∧t≤1000
 hn:1≤n∧n≤1000
 len:(s.xs.length:Int)=2*n+5*t+6
 me:0≤x.me∧x.me<t
 hp:1≤p∧p≤n+4
 mp:mkW (aB s.xs p)=false
 cp:clW' (aB s.xs p)=0
 ch:ch n s.xs p L
 nd:(p::L.map Nd.a).Nodup
 mv:0≤x.moved∧x.moved+L.length≤n
structure KR (n p:Int) (L:List Nd) (x:FNS) (s:MS) (z:FNS) (s':MS) (j:Nat):Prop where
 ch:ch n s'.xs p ((sc x.key L).1++(sc x.key L).2.2)
 pred:z.pred=((sc x.key L).1.map Nd.a).getLastD p
 pw:z.pw=aB s'.xs z.pred
 curr:z.curr=hdN (sc x.key L).2.2
 cw:z.cw=hdWd s'.xs (sc x.key L).2.2
 ul:z.ul=x.ul++(sc x.key L).2.1.map Nd.a
 tries:z.tries=x.tries
 ab:z.ab=x.ab
 me:z.me=x.me
 same: ∀a,a≠2*n+5+2*x.me→a≠2*n+5+2*x.me+1→a∉p::(sc x.key L).1.map Nd.a→aB s'.xs a=aB s.xs a
 p3:kyW (aB s'.xs p)=kyW (aB s.xs p)∧mkW (aB s'.xs p)=mkW (aB s.xs p)∧clW' (aB s'.xs p)=clW' (aB s.xs p)
 t:s'.t=s.t
 n:s'.n=s.n
 c:s'.c=s.c+j
 len:s'.xs.length=s.xs.length
 okw:okW s.xs→okW s'.xs
theorem nA{t n:Int}{x:FNS}{s:MS}{d:Bool}{x':FNS}{s':MS}(h:fnF t n x s=⟨d,x',s'⟩):AU t n (x,s)=(d,(x',s')):=by
 unfold AU;rw [h]
theorem iH{s:MS}{a v w:Int}(h:aS s.xs a v=true):(s.cased a v w).xs =aJ s.xs a w:=by
 unfold MS.cased MS.did;rw [h];rfl
theorem oQ{k:Int}{b:Nd}{L:List Nd}(hm:b.m=false)(hk:k≤b.k):sc k (b::L)=([],[],b::L):=by
 show(bif b.m then _ else _)=_;rw [hm];exact if_pos hk
theorem oO{k:Int}{b:Nd}{L:List Nd}(hm:b.m=false)(hk:b.k<k):sc k (b::L)=(b::(sc k L).1,(sc k L).2.1,(sc k L).2.2):=by
 show(bif b.m then _ else _)=_;rw [hm];exact if_neg (by omega)
theorem oP{k:Int}{b:Nd}{L:List Nd}(hm:b.m=true):sc k (b::L)=((sc k L).1,b::(sc k L).2.1,(sc k L).2.2):=by
 show(bif b.m then _ else _)=_;rw [hm];rfl
theorem AG(k:Int): ∀L:List Nd,((sc k L).1++(sc k L).2.2).Sublist L
 | []=>List.Sublist.slnil
 | b::L=>by
   cases hm:b.m with
   | true=>rw [oP hm];exact List.Sublist.cons _ (AG k L)
   | false=>
     by_cases hk:k≤b.k
     ·rw [oQ hm hk];exact List.Sublist.refl _
     ·rw [oO hm (by omega)];exact List.Sublist.cons₂ _ (AG k L)
theorem KR.nil{n p:Int}{x:FNS}{s:MS}(h2:x.pred=p)(h3:x.pw=aB s.xs p)(h4:x.curr=0)(h5:x.cw=0)(hz:nxW (aB s.xs p)=0):KR n p [] x s x s 0 where
 ch:=hz
 pred:=h2
 pw:=by rw [h2];exact h3
 curr:=h4
 cw:=h5
 ul:=by simp [sc]
 tries:=rfl
 ab:=rfl
 me:=rfl
 same:=fun _ _ _ _=>rfl
 p3:=⟨rfl,rfl,rfl⟩
 t:=rfl
 n:=rfl
 c:=by simp
 len:=rfl
 okw:=id
theorem KR.pre{n p:Int}{L:List Nd}{x x1:FNS}{s s1:MS}{z:FNS}{s':MS}{j:Nat}(h:KR n p L x1 s1 z s' j)(hx:s1.xs=s.xs)(hc:s1.c=s.c+1)(ht:s1.t=s.t)(hn:s1.n=s.n)
 (k:x1.key=x.key) (u:x1.ul=x.ul) (tr:x1.tries=x.tries) (ab:x1.ab=x.ab) (me:x1.me=x.me):KR n p L x s z s' (j+1) where
 ch:=by have:=h.ch;rw [k]at this;exact this
 pred:=by have:=h.pred;rw [k]at this;exact this
 pw:=h.pw
 curr:=by have:=h.curr;rw [k]at this;exact this
 cw:=by have:=h.cw;rw [k]at this;exact this
 ul:=by have:=h.ul;rw [k,u]at this;exact this
 tries:=h.tries.trans tr
 ab:=h.ab.trans ab
 me:=h.me.trans me
 same:=by have:=h.same;rw [k,me,hx]at this;exact this
 p3:=by have:=h.p3;rw [hx]at this;exact this
 t:=h.t.trans ht
 n:=h.n.trans hn
 c:=by rw [h.c,hc];omega
 len:=by rw [h.len,hx]
 okw:=by rw [←hx];exact h.okw
def GS(t n:Int)(L:List Nd):Prop:= ∀(p:Int) (x:FNS) (s:MS),x.at'=1→x.pred=p→x.pw=aB s.xs p→x.curr=hdN L→x.cw=0→L≠ []→FC t n p L x s→
    ∃j z s',(∀lim,End (AU t n) j ({x with limit:=lim},s) ({z with limit:=lim},s'))∧KR n p L x s z s' j∧j≤5*L.length
def VS(t n:Int)(L:List Nd):Prop:= ∀(p:Int) (x:FNS) (s:MS),x.at'=0→x.pred=p→FC t n p L x s→
    ∃j z s',(∀lim,End (AU t n) j ({x with limit:=lim},s) ({z with limit:=lim},s'))∧KR n p L x s z s' j∧j≤5*L.length+1
theorem aCm{t n:Int}{L:List Nd}(hg:GS t n L):VS t n L:=by
 intro p x s h1 h2 hc
 subst h2
 have hv: ∀lim,AU t n ({x with limit:=lim},s)=(L.isEmpty,({x with pw:=aB s.xs x.pred,curr:=hdN L,cw:=0,at':=1,cl:=bU,limit:=lim},s.loadd x.pred)):=by
  intro lim
  have:=nA (MX (t:=t) (n:=n) (x:= {x with limit:=lim}) (s:=s) h1 hc.mp)
  rw [this]
  have e:=LI hc.ch
  simp only [e,TL hc.ch]
 cases L with
 | nil=>exact⟨1,{x with pw:=aB s.xs x.pred,curr:=0,cw:=0,at':=1,cl:=bU},s.loadd x.pred,fun lim=>End.one (hv lim),(KR.nil (x:= {x with pw:=aB s.xs x.pred,curr:=0,cw:=0,at':=1,cl:=bU}) (s:=s.loadd x.pred) rfl rfl rfl rfl hc.ch).pre rfl rfl rfl rfl rfl rfl rfl rfl rfl,by simp⟩
 | cons b L=>
   obtain⟨j,z,s',e,f,hl⟩:=hg x.pred {x with pw:=aB s.xs x.pred,curr:=hdN (b::L),cw:=0,at':=1,cl:=bU} (s.loadd x.pred) rfl rfl rfl rfl rfl (by simp) ⟨hc.ht,hc.hn,hc.len,hc.me,hc.hp,hc.mp,hc.cp,hc.ch,hc.nd,hc.mv⟩
   exact⟨j+1,z,s',fun lim=>End.cons (hv lim) (e lim),f.pre rfl rfl rfl rfl rfl rfl rfl rfl rfl,by omega⟩
theorem mD{L M:List Nd}(h:L.Sublist M){a:Int}(ha:a∈L.map Nd.a):a∈M.map Nd.a:=(h.map Nd.a).subset ha
theorem AE(k:Int)(L:List Nd):(sc k L).1.Sublist L:=(List.sublist_append_left _ _).trans (AG k L)
theorem VL{t n:Int} : ∀L:List Nd,GS t n L:=by
 intro L
 induction L with
 | nil=>intro p x s _ _ _ _ _ h;exact absurd rfl h
 | cons b L ih=>
   intro p x s h1 h2 h3 h4 h0 _ hc
   subst h2
   obtain⟨ht,hn,len,me,hp,mp,cp,hch,nd,mv⟩:=hc
   obtain⟨c1,c2,c3,c4,c5,c6⟩:=hch
   have h4:x.curr=b.a:=h4
   have hb:b.a≠x.pred:=by
    intro e;rw [List.map_cons,List.nodup_cons]at nd;exact nd.1 (by rw [e];exact List.mem_cons_self ..)
   have nd':(b.a::L.map Nd.a).Nodup :=by rw [List.map_cons,List.nodup_cons]at nd;exact nd.2
   have hpL:x.pred∉L.map Nd.a:=by
    intro e;rw [List.map_cons,List.nodup_cons]at nd;exact nd.1 (List.mem_cons_of_mem _ e)
   have hbL:b.a∉L.map Nd.a:=(List.nodup_cons.1 nd').1
   have hLr:=zB c6
   have hLs: ∀a,a∈L.map Nd.a→1≤a∧a≤n:=by
    intro a ha
    obtain⟨c,hc,rfl⟩:=List.mem_map.1 ha
    exact hLr c hc
   have mv2:x.moved+1≤n:=by have:=mv.2;simp only [List.length_cons]at this;omega
   let q1:=2*n+5+2*x.me+1
   have hq1:q1=2*n+5+2*x.me+1:=rfl
   let s1:=s.stored q1 (WU x.curr)
   have e1: ∀lim,AU t n ({x with limit:=lim},s)=(false,({x with at':=2,cl:=bU,limit:=lim},s1)):=fun lim=>nA (MU (x:= {x with limit:=lim}) h1)
   have x1: ∀a,a≠q1→aB s1.xs a=aB s.xs a:=fun a ha=>bG ha
   have e2: ∀lim,AU t n ({x with at':=2,cl:=bU,limit:=lim},s1)=(false,({x with at':=3,cl:=bU,limit:=lim},s1.loadd x.pred)):=fun lim=>
    nA (MT (x:= {x with at':=2,cl:=bU,limit:=lim}) rfl ((x1 x.pred (by omega)).trans h3.symm))
   let s2:=s1.loadd x.pred
   have x2: ∀a,a≠q1→aB s2.xs a=aB s.xs a:=x1
   have hcw:aB s2.xs x.curr=aB s.xs b.a:=by rw [h4];exact x2 _ (by omega)
   let s3:=s2.loadd x.curr
   have x3: ∀a,a≠q1→aB s3.xs a=aB s.xs a:=x1
   have l3:s3.xs.length=s.xs.length:=bO _ _ _
   have hw:0≤WU x.curr∧WU x.curr≤18446744073709551615:=DF _
   have w3:okW s.xs→okW s3.xs:=fun h=>dQ h hw
   have start: ∀ {k:Nat} {z:FNS×MS} (lim:Int),End (AU t n) k ({x with at':=3,cl:=bU,limit:=lim},s2) z→End (AU t n) (k+3 - 1) ({x with limit:=lim},s) z:=by
    intro k z lim h
    have:=End.cons (e1 lim) (End.cons (e2 lim) h)
    exact this
   cases hm:b.m with
   | false=>
     have hm':mkW (aB s2.xs x.curr)=false:=by rw [hcw,c4];exact hm
     by_cases hk:x.key≤b.k
     ·
      have e3: ∀lim,AU t n ({x with at':=3,cl:=bU,limit:=lim},s2)=(true,({x with at':=3,cl:=bU,limit:=lim,cw:=aB s2.xs x.curr},s3)):=fun lim=>
       nA (MV (x:= {x with at':=3,cl:=bU,limit:=lim}) rfl hm' (by show x.key≤kyW (aB s2.xs x.curr);rw [hcw,c3];exact hk))
      refine⟨3,{x with at':=3,cl:=bU,cw:=aB s2.xs x.curr},s3,fun lim=>start lim (End.one (e3 lim)),?_,by simp only [List.length_cons];omega⟩
      have es:sc x.key (b::L)=([],[],b::L):=oQ hm hk
      refine {ch:=?_,pred:=by simp only [es];rfl,pw:=?_,curr:=by simp only [es];exact h4,cw:=?_,ul:=by simp only [es];simp,tries:=rfl,ab:=rfl,me:=rfl,same:=?_,p3:=?_,t:=rfl,n:=rfl,c:=?_,len:=l3,okw:=w3}
      ·simp only [es]
       refine jQ (xs:=s.xs) ⟨c1,c2,c3,c4,c5,c6⟩ (fun a ha=>x3 a ?_)
       have ha:a∈x.pred::b.a::L.map Nd.a:=ha
       rcases List.mem_cons.1 ha with e | e
       ·omega
       ·rcases List.mem_cons.1 e with e | e
        ·omega
        ·have:=hLs a e;omega
      ·exact h3.trans (x3 _ (by omega)).symm
      ·simp only [es]
       show aB s2.xs x.curr=aB s3.xs b.a
       rw [h4];rfl
      ·intro a _ ha _;exact x3 a ha
      ·rw [x3 _ (by omega)];exact⟨rfl,rfl,rfl⟩
      ·show s.c+1+1+1=s.c+((3:Nat):Int);omega
     ·
      have hk2:b.k<x.key:=by omega
      have e3: ∀lim,AU t n ({x with at':=3,cl:=bU,limit:=lim},s2)=(false,({x with at':=6,cl:=bU,limit:=lim,cw:=aB s2.xs x.curr},s3)):=fun lim=>
       nA (Q5 (x:= {x with at':=3,cl:=bU,limit:=lim}) rfl hm' (by show kyW (aB s2.xs x.curr)<x.key;rw [hcw,c3];exact hk2))
      let q0:=2*n+5+2*x.me+0
      have hq0:q0=2*n+5+2*x.me:=by show 2*n+5+2*x.me+0=_;omega
      let s4:=s3.stored q0 (WU x.curr)
      have e4: ∀lim,AU t n ({x with at':=6,cl:=bU,limit:=lim,cw:=aB s2.xs x.curr},s3)=(false,({x with at':=0,cl:=bU,limit:=lim,cw:=aB s2.xs x.curr,pred:=x.curr,moved:=x.moved+1},s4)):=fun lim=>
       nA (Q7 (x:= {x with at':=6,cl:=bU,limit:=lim,cw:=aB s2.xs x.curr}) rfl hn.2 ⟨mv.1,mv2⟩)
      have x4: ∀a,a≠q1→a≠q0→aB s4.xs a=aB s.xs a:=fun a h1 h0=>(bG h0).trans (x3 a h1)
      have l4:s4.xs.length=s.xs.length:=(bO _ _ _).trans l3
      have fc:FC t n b.a L {x with at':=0,cl:=bU,cw:=aB s2.xs x.curr,pred:=x.curr,moved:=x.moved+1} s4:=by
       refine⟨ht,hn,by rw [l4];exact len,me,by omega,?_,?_,?_,nd',?_⟩
       ·rw [x4 _ (by omega) (by omega),c4];exact hm
       ·rw [x4 _ (by omega) (by omega)];exact c5
       ·refine jQ c6 (fun a ha=>x4 a ?_ ?_)
        all_goals
         rcases List.mem_cons.1 ha with e | e
         ·omega
         ·have:=hLs a e;omega
       ·have:=mv.2
        simp only [List.length_cons]at this
        exact⟨by show 0≤x.moved+1;omega,by show x.moved+1+L.length≤n;omega⟩
      obtain⟨j,z,s',e,f,hl⟩:=aCm ih b.a {x with at':=0,cl:=bU,cw:=aB s2.xs x.curr,pred:=x.curr,moved:=x.moved+1} s4 rfl h4 fc
      have es:sc x.key (b::L)=(b::(sc x.key L).1,(sc x.key L).2.1,(sc x.key L).2.2):=oO hm hk2
      have hA: ∀a,a∈(sc x.key L).1.map Nd.a→a∈L.map Nd.a:=fun a=>mD (AE _ _)
      have hpz:aB s'.xs x.pred=aB s.xs x.pred:=by
       rw [f.same x.pred (by show x.pred≠2*n+5+2*x.me;omega) (by show x.pred≠2*n+5+2*x.me+1;omega) ?_,x4 _ (by omega) (by omega)]
       intro hh
       rcases List.mem_cons.1 hh with e | e
       ·exact hb e.symm
       ·exact hpL (hA _ e)
      refine⟨j+4,z,s',fun lim=>?_,?_,by simp only [List.length_cons];omega⟩
      ·have:=start lim (End.cons (e3 lim) (End.cons (e4 lim) (e lim)))
       exact this
      ·refine {ch:=?_,pred:=?_,pw:=f.pw,curr:=by simp only [es];exact f.curr,cw:=by simp only [es];exact f.cw,ul:=by simp only [es];exact f.ul,tries:=f.tries,ab:=f.ab,me:=f.me,same:=?_,p3:=by rw [hpz];exact⟨rfl,rfl,rfl⟩,t:=f.t,n:=f.n,c:=?_,len:=f.len.trans l4,okw:=fun h=>f.okw (dQ (w3 h) hw) }
       ·simp only [es]
        refine⟨by rw [hpz];exact c1,c2,?_,?_,?_,f.ch⟩
        ·rw [f.p3.1,x4 _ (by omega) (by omega)];exact c3
        ·rw [f.p3.2.1,x4 _ (by omega) (by omega)];exact c4
        ·rw [f.p3.2.2,x4 _ (by omega) (by omega)];exact c5
       ·simp only [es,List.map_cons]
        rw [f.pred,List.getLastD_cons]
       ·intro a h0 h1 ha
        simp only [es,List.map_cons]at ha
        rw [f.same a h0 h1 (fun hh=>ha (List.mem_cons_of_mem _ hh)),x4 a h1 (by omega)]
       ·rw [f.c];show s.c+1+1+1+1+(j:Int)=s.c+((j+4:Nat):Int);omega
   | true=>
     have hm':mkW (aB s2.xs x.curr)=true:=by rw [hcw,c4];exact hm
     have e3: ∀lim,AU t n ({x with at':=3,cl:=bU,limit:=lim},s2)=(false,({x with at':=5,cl:=bU,limit:=lim,cw:=aB s2.xs x.curr},s3)):=fun lim=>
      nA (Q6 (x:= {x with at':=3,cl:=bU,limit:=lim}) rfl hm' (by show clW' (aB s2.xs x.curr)=0;rw [hcw];exact c5) (by show clW' x.pw=0;rw [h3];exact cp))
     have hpw3:aB s3.xs x.pred=x.pw:=(x3 _ (by omega)).trans h3.symm
     have hin:0≤x.pred∧x.pred<s3.xs.length:=by rw [l3];omega
     let w:=lnkW x.pw (aB s2.xs x.curr)
     let s4:=s3.cased x.pred x.pw w
     have hcas:=eU hin hpw3
     have s4x:s4.xs=aJ s3.xs x.pred w:=iH hcas
     have hnx:nxW (aB s2.xs x.curr)=hdN L:=by rw [hcw];exact LI c6
     have e4: ∀lim,AU t n ({x with at':=5,cl:=bU,limit:=lim,cw:=aB s2.xs x.curr},s3)=(L.isEmpty,({x with pw:=w,curr:=hdN L,cw:=0,ul:=x.ul++ [x.curr],at':=1,moved:=x.moved+1,cl:=bU,limit:=lim},s4)):=by
      intro lim
      have:=nA (I8 (t:=t) (x:= {x with at':=5,cl:=bU,limit:=lim,cw:=aB s2.xs x.curr}) (s:=s3) rfl hn.2 ⟨mv.1,mv2⟩ hin hpw3 (by show mkW x.pw=false;rw [h3];exact mp))
      rw [this]
      simp only [hnx,TL c6]
      rfl
     have x4p:aB s4.xs x.pred=w:=by rw [s4x,dC hin]
     have x4: ∀a,a≠q1→a≠x.pred→aB s4.xs a=aB s.xs a:=fun a h1 h0=>by rw [s4x,bG h0];exact x3 a h1
     have l4:s4.xs.length=s.xs.length:=by rw [s4x,bO];exact l3
     have hwf:=FF x.pw (aB s2.xs x.curr)
     have wk:kyW w=kyW (aB s.xs x.pred):=(s9 hwf).trans (by rw [h3])
     have wn:nxW w=nxW (aB s2.xs x.curr):=qA hwf
     have wm:mkW w=mkW (aB s.xs x.pred):=(mZ hwf).trans (by rw [h3])
     have wc:clW' w=clW' (aB s.xs x.pred):=(mY hwf).trans (by rw [h3])
     have w4:okW s.xs→okW s4.xs:=fun h=>by rw [s4x];exact dQ (w3 h) (iC hwf)
     have hch4:ch n s4.xs x.pred L:=by
      cases L with
      | nil=>show nxW (aB s4.xs x.pred)=0;rw [x4p,wn];exact hnx
      | cons b2 L2=>
        obtain⟨d1,d2,d3,d4,d5,d6⟩:=c6
        have hb2:b2.a≠x.pred:=by intro e;exact hpL (by rw [←e];simp)
        refine⟨by rw [x4p,wn];exact hnx,d2,?_,?_,?_,jQ d6 (fun a ha=>x4 a ?_ ?_)⟩
        ·rw [x4 _ (by omega) hb2];exact d3
        ·rw [x4 _ (by omega) hb2];exact d4
        ·rw [x4 _ (by omega) hb2];exact d5
        ·have:=hLs a (by rw [List.map_cons];exact ha);omega
        ·intro e;rw [e]at ha;exact hpL (by rw [List.map_cons];exact ha)
     have es:sc x.key (b::L)=((sc x.key L).1,b::(sc x.key L).2.1,(sc x.key L).2.2):=oP hm
     let x4':FNS:= {x with pw:=w,curr:=hdN L,cw:=0,ul:=x.ul++ [x.curr],at':=1,moved:=x.moved+1,cl:=bU}
     have rest: ∃j z s',(∀lim,End (AU t n) (j+1) ({x with at':=5,cl:=bU,limit:=lim,cw:=aB s2.xs x.curr},s3) ({z with limit:=lim},s'))∧KR n x.pred L x4' s4 z s' j∧j≤5*L.length:=by
      cases L with
      | nil=>exact⟨0,x4',s4,fun lim=>End.one (e4 lim),KR.nil rfl x4p.symm rfl rfl hch4,by simp⟩
      | cons b2 L2=>
        obtain⟨j,z,s',e,f,hl⟩:=ih x.pred x4' s4 rfl rfl x4p.symm rfl rfl (by simp) ⟨ht,hn,by rw [l4];exact len,me,hp,by rw [x4p,wm];exact mp,by rw [x4p,wc];exact cp,hch4,List.nodup_cons.2 ⟨hpL,(List.nodup_cons.1 nd').2⟩,⟨by show 0≤x.moved+1;omega,by have:=mv.2;simp only [List.length_cons]at this⊢;show x.moved+1+((L2.length+1:Nat):Int)≤n;omega⟩⟩
        exact⟨j,z,s',fun lim=>End.cons (e4 lim) (e lim),f,hl⟩
     obtain⟨j,z,s',e,f,hl⟩:=rest
     refine⟨j+4,z,s',fun lim=>?_,?_,by simp only [List.length_cons];omega⟩
     ·have:=start lim (End.cons (e3 lim) (e lim))
      exact this
     ·refine {ch:=by simp only [es];exact f.ch,pred:=by simp only [es];exact f.pred,pw:=f.pw,curr:=by simp only [es];exact f.curr,cw:=by simp only [es];exact f.cw,ul:=?_,tries:=f.tries,ab:=f.ab,me:=f.me,same:=?_,p3:=?_,t:=f.t,n:=f.n,c:=?_,len:=f.len.trans l4,okw:=fun h=>f.okw (w4 h) }
      ·simp only [es]
       rw [f.ul]
       show x.ul++ [x.curr]++_=_
       rw [h4,List.append_assoc];rfl
      ·intro a h0 h1 ha
       simp only [es]at ha
       rw [f.same a h0 h1 ha,x4 a h1 (fun e=>ha (by rw [e];exact List.mem_cons_self ..))]
      ·have:=f.p3
       rw [x4p]at this
       exact⟨this.1.trans wk,this.2.1.trans wm,this.2.2.trans wc⟩
      ·rw [f.c];show s.c+1+1+1+1+(j:Int)=s.c+((j+4:Nat):Int);omega
theorem VM{t n:Int}(L:List Nd):VS t n L:=aCm (VL L)
inductive Pa where
 | now (b:Bool)
 | link
 | mark (v:Int)
 | pop (v:Int)
def fndB(ky:Int):List Nd→Bool
 | []=>false
 | b::_=>ieq b.k ky
def paOf(sh kd ky:Int)(B:List Nd):Pa:=
 if kd=4 then .link else if kd=1 then(bif fndB ky B then .now false else .link)else if kd=2 then(bif fndB ky B then .mark 0 else .now false)else if kd=3 then .now (fndB ky B)else
 match B with
 | []=>.now false
 | b::_=>if sh=4 then .pop b.k else .mark b.k
def Pa.ok:Pa→Bool
 | .now b=>b
 | _=>true
def Pa.val:Pa→Int
 | .mark v=>v
 | .pop v=>v
 | _=>0
def Pa.new(ky sp:Int)(B:List Nd):Pa→List Nd
 | .now _=>B
 | .link =>⟨sp,ky,false⟩::B
 | .mark _=>(match B with | []=>[] | b::B'=>⟨b.a,b.k,true⟩::B')
 | .pop _=>B.tail
def Pa.sp(sp:Int):Pa→Int
 | .link =>0
 | _=>sp
def Pa.pops(B:List Nd):Pa→List Int
 | .pop _=>[hdN B]
 | _=>[]
def Pa.plan(pred pw curr cw sp:Int):Pa→PLN
 | .now b=>⟨true,0,b,0,0,0,0,false,0⟩
 | .link =>⟨false,0,true,0,pred,pw,sp,mkW pw,0⟩
 | .mark v=>⟨false,0,true,v,curr,cw,nxW cw,true,0⟩
 | .pop v=>⟨false,0,true,v,pred,pw,nxW cw,mkW pw,curr⟩
theorem VZ{ky cw:Int}{B:List Nd}(h: ∀b B',B=b::B'→b.a≠0∧kyW cw=b.k):gD ky (hdN B) cw=fndB ky B:=by
 cases B with
 | nil=>rfl
 | cons b B'=>
   obtain⟨h1,h2⟩:=h b B' rfl
   show(bif ieq b.a 0 then _ else ieq (aA cw 0 10) ky)=ieq b.k ky
   have h2:aA cw 0 10=b.k:=h2
   rw [h2]
   have:ieq b.a 0=false:=by rw [b9,beq_eq_false_iff_ne];exact h1
   rw [this];rfl
theorem R6{sh kd ky pred pw cw sp:Int}{B:List Nd}(hr:bX sh kd ky=true)(h: ∀b B',B=b::B'→b.a≠0∧kyW cw=b.k):bN sh kd ky pred pw (hdN B) cw sp=(paOf sh kd ky B).plan pred pw (hdN B) cw sp:=by
 have hk:=eN.1 hr
 have he:=VZ (ky:=ky) h
 have n4: ∀a b:Int,a≠b→ieq a b=false:=fun a b h=>by rw [b9,beq_eq_false_iff_ne];exact h
 have kk:kd=1∨kd=2∨kd=3∨kd=4∨kd=5:=by omega
 unfold bN yJ paOf
 simp only [Tr.val,hr,Bool.not_true,cond_false,he]
 rcases kk with e | e | e | e | e<;>subst e
 ·simp only [n4 1 4 (by decide),bH,n4 1 2 (by decide),n4 1 5 (by decide),n4 1 3 (by decide),cond_false,cond_true]
  cases fndB ky B<;>rfl
 ·simp only [n4 2 4 (by decide),bH,n4 2 1 (by decide),n4 2 5 (by decide),n4 2 3 (by decide),cond_false,cond_true]
  cases fndB ky B<;>rfl
 ·simp only [n4 3 4 (by decide),bH,n4 3 1 (by decide),n4 3 5 (by decide),n4 3 2 (by decide),cond_false,cond_true]
  rfl
 ·simp only [bH,cond_true]
  rfl
 ·simp only [n4 5 4 (by decide),bH,n4 5 1 (by decide),n4 5 3 (by decide),n4 5 2 (by decide),cond_false,cond_true]
  cases B with
  | nil=>rfl
  | cons b B'=>
    obtain⟨h1,h2⟩:=h b B' rfl
    have h2:aA cw 0 10=b.k:=h2
    have h3:ieq (hdN (b::B')) 0=false:=n4 _ _ h1
    simp only [h3,h2,dD,bH,Bool.true_and,cond_false]
    by_cases hs:sh=4
    ·subst hs;rfl
    ·rw [n4 sh 4 hs]
     show _=Pa.plan _ _ _ _ _ (if (5:Int)=4 then _ else _)
     simp only [if_neg hs]
     rfl
theorem HK{sh kd ky:Int}{B:List Nd}(h:paOf sh kd ky B=.link):bM kd=true:=by
 unfold paOf at h
 by_cases e4:kd=4
 ·subst e4;rfl
 ·rw [if_neg e4]at h
  by_cases e1:kd=1
  ·subst e1;rfl
  ·exfalso
   rw [if_neg e1]at h
   split at h
   ·cases hb:fndB ky B<;>rw [hb]at h<;>cases h
   ·split at h
    ·cases h
    ·split at h
     ·cases h
     ·split at h<;>cases h
theorem CL{sh kd ky:Int}{B:List Nd}(h:bM kd=true):paOf sh kd ky B=.link ∨ ∃b,paOf sh kd ky B=.now b:=by
 unfold bM at h
 unfold paOf
 by_cases e4:kd=4
 ·rw [if_pos e4];exact .inl rfl
 ·by_cases e1:kd=1
  ·rw [if_neg e4,if_pos e1]
   cases fndB ky B
   ·exact .inl rfl
   ·exact .inr ⟨_,rfl⟩
  ·exfalso
   simp only [b9,Bool.or_eq_true,beq_iff_eq]at h
   omega
theorem HL{sh kd ky v:Int}{B:List Nd}(h:paOf sh kd ky B=.mark v): ∃b B',B=b::B':=by
 cases B with
 | cons b B'=>exact⟨b,B',rfl⟩
 | nil=>
   exfalso
   unfold paOf at h
   simp only [show fndB ky []=false from rfl,cond_false]at h
   repeat' split at h
   all_goals cases h
theorem N1{sh kd ky v:Int}{B:List Nd}(h:paOf sh kd ky B=.pop v): ∃b B',B=b::B':=by
 cases B with
 | cons b B'=>exact⟨b,B',rfl⟩
 | nil=>
   exfalso
   unfold paOf at h
   simp only [show fndB ky []=false from rfl,cond_false]at h
   repeat' split at h
   all_goals cases h
theorem tW{n:Int}{xs ys:List Int} : ∀ {L:List Nd} {a a':Int},ch n xs a L→nxW (aB ys a')=nxW (aB xs a)→(∀c,c∈L.map Nd.a→aB ys c=aB xs c)→ch n ys a' L
 | [],a,a',h,e,_=>e.trans h
 | b::L,a,a',h,e,f=>by
   obtain⟨h1,h2,h3,h4,h5,h6⟩:=h
   have eb:=f b.a (by simp)
   exact⟨e.trans h1,h2,by rw [eb];exact h3,by rw [eb];exact h4,by rw [eb];exact h5,tW h6 (by rw [eb]) (fun c hc=>f c (by rw [List.map_cons];exact List.mem_cons_of_mem _ hc))⟩
theorem BD{n:Int}{xs:List Int}{B:List Nd} : ∀ {A:List Nd} {p:Int},ch n xs p (A++B)→ch n xs ((A.map Nd.a).getLastD p) B
 | [],p,h=>h
 | b::A,p,h=>by
   rw [List.map_cons,List.getLastD_cons]
   exact BD h.2.2.2.2.2
theorem vS(p:Int): ∀A:List Int,A.getLastD p∈p::A
 | []=>List.mem_cons_self ..
 | b::A=>by
   rw [List.getLastD_cons]
   exact List.mem_cons_of_mem _ (vS b A)
theorem tX{n:Int}{xs ys:List Int}{B B':List Nd} : ∀ {A:List Nd} {p:Int},ch n xs p (A++B)→(p::A.map Nd.a).Nodup →
 (∀c,c∈p::A.map Nd.a→c≠(A.map Nd.a).getLastD p→aB ys c=aB xs c)→
 (kyW (aB ys ((A.map Nd.a).getLastD p))=kyW (aB xs ((A.map Nd.a).getLastD p))∧mkW (aB ys ((A.map Nd.a).getLastD p))=mkW (aB xs ((A.map Nd.a).getLastD p))∧clW' (aB ys ((A.map Nd.a).getLastD p))=clW' (aB xs ((A.map Nd.a).getLastD p)))→
 ch n ys ((A.map Nd.a).getLastD p) B'→ch n ys p (A++B')
 | [],p,h,_,_,_,hb=>hb
 | b::A,p,h,nd,e,l3,hb=>by
   rw [List.map_cons,List.getLastD_cons]at e l3 hb
   obtain⟨h1,h2,h3,h4,h5,h6⟩:=h
   have nd':(b.a::A.map Nd.a).Nodup :=by rw [List.map_cons]at nd;exact(List.nodup_cons.1 nd).2
   have hp:p≠(A.map Nd.a).getLastD b.a:=by
    intro e;rw [List.map_cons]at nd
    exact(List.nodup_cons.1 nd).1 (by have:=vS b.a (A.map Nd.a);rw [←e]at this;exact this)
   have hb3:kyW (aB ys b.a)=kyW (aB xs b.a)∧mkW (aB ys b.a)=mkW (aB xs b.a)∧clW' (aB ys b.a)=clW' (aB xs b.a):=by
    by_cases hl:b.a=(A.map Nd.a).getLastD b.a
    ·rw [←hl]at l3;exact l3
    ·rw [e b.a (List.mem_cons_of_mem _ (List.mem_cons_self ..)) hl];exact⟨rfl,rfl,rfl⟩
   refine⟨by rw [e p (List.mem_cons_self ..) hp];exact h1,h2,hb3.1.trans h3,hb3.2.1.trans h4,hb3.2.2.trans h5,tX h6 nd' (fun c hc hl=>e c (List.mem_cons_of_mem _ hc) hl) l3 hb⟩
theorem GL{n:Int}{xs:List Int}{B:List Nd} : ∀ {A:List Nd} {p:Int},ch n xs p (A++B)→clW' (aB xs p)=0→mkW (aB xs p)=false→(∀b∈A,b.m=false)→clW' (aB xs ((A.map Nd.a).getLastD p))=0∧mkW (aB xs ((A.map Nd.a).getLastD p))=false
 | [],p,_,c,m,_=>⟨c,m⟩
 | b::A,p,h,_,_,hm=>by
   rw [List.map_cons,List.getLastD_cons]
   obtain⟨h1,h2,h3,h4,h5,h6⟩:=h
   exact GL h6 h5 (h4.trans (hm b (List.mem_cons_self ..))) (fun c hc=>hm c (List.mem_cons_of_mem _ hc))
theorem HV(k:Int): ∀L:List Nd,∀b∈(sc k L).1,b.m=false
 | [],b,h=>by cases h
 | c::L,b,h=>by
   cases hm:c.m with
   | true=>rw [oP hm]at h;exact HV k L b h
   | false=>
     by_cases hk:k≤c.k
     ·rw [oQ hm hk]at h;cases h
     ·rw [oO hm (by omega)]at h
      rcases List.mem_cons.1 h with e | e
      ·rw [e];exact hm
      ·exact HV k L b e
theorem HU(k:Int): ∀L:List Nd,∀b B,(sc k L).2.2=b::B→b.m=false∧k≤b.k
 | [],b,B,h=>by cases h
 | c::L,b,B,h=>by
   cases hm:c.m with
   | true=>rw [oP hm]at h;exact HU k L b B h
   | false=>
     by_cases hk:k≤c.k
     ·rw [oQ hm hk]at h
      simp only [lI']at h
      obtain⟨rfl,_⟩:=h
      exact⟨hm,hk⟩
     ·rw [oO hm (by omega)]at h;exact HU k L b B h
def R2(ky nx f:Int):Int:=aT ky nx false 0 (aO (vrW f))
theorem SE{t n:Int}{x:PRS}{st:STS}{s:MS}(h:x.loaded=false):prF t n x st s=⟨false,{x with found:=aB s.xs st.sp,loaded:=true},st,s.loadd st.sp⟩:=by
 unfold prF TV KA
 simp only [Tr.val,h,Bool.not_false,cond_true]
 rfl
theorem OK{t n:Int}{x:PRS}{st:STS}{s:MS}(h:x.loaded=true)(hk:0≤x.key∧x.key<1024)(hn:0≤x.nxt∧x.nxt<512):prF t n x st s=⟨true,x,st,s.stored st.sp (R2 x.key x.nxt x.found)⟩:=by
 unfold prF TV KA
 have h1:aH x.1 10=true:=cL.2 hk
 have h2:aH x.2 9=true:=cL.2 hn
 have h3:aH 0 5=true:=by decide
 simp only [Tr.val,h,h1,h2,h3,sE,Bool.not_true,cond_true,cond_false]
 rfl
theorem W3{k n f:Int}(hk:0≤k∧k<1024)(hn:0≤n∧n<512):okF k n 0 (aO (vrW f)):=⟨hk,hn,⟨by decide,by decide⟩,qY _⟩
def chgW(old nx:Int)(m:Bool):Int:=aT (kyW old) nx m 0 (aO (vrW old))
theorem zC(old:Int){nx:Int}(hn:0≤nx∧nx<512):okF (kyW old) nx 0 (aO (vrW old)):=by
 refine⟨?_,hn,⟨by decide,by decide⟩,qY _⟩
 have:=fS (x:=old) (a:=0) (w:=10);simpa using this
theorem wE{code:Int}{okk:Bool}{val addr old nx:Int}{m:Bool}{pops:Int}(h:clW' old=0):nR false code okk val addr old nx m pops=false:=by
 unfold nR sP
 have h:aA old 20 5=0:=h
 simp only [Tr.val,h,bH,Bool.not_false,Bool.not_true,cond_true]
theorem rE(x:Int):0≤nxW x∧nxW x<512:=by
 have:=fS (x:=x) (a:=10) (w:=9);simpa using this
theorem G2{t n:Int}{a:FNS×MS}{d:Bool}{b:FNS×MS}(h:AU t n a=(d,b)):fnF t n a.1 a.2=⟨d,b.1,b.2⟩:=by
 unfold AU at h
 rw [pI']at h
 obtain⟨rfl,rfl⟩:=h
 rfl
theorem J3{code:Int}{okk:Bool}{val addr old nx:Int}{m:Bool}{pops:Int} :nR true code okk val addr old nx m pops=false:=rfl
structure LC (t n me p:Int) (L:List Nd) (xs:List Int):Prop where
 ht:1≤t∧t≤1000
 hn:1≤n∧n≤500
 len:(xs.length:Int)=2*n+5*t+6
 me:0≤me∧me<t
 hp:1≤p∧p≤n+4
 mp:mkW (aB xs p)=false
 cp:clW' (aB xs p)=0
 ch:ch n xs p L
 nd:(p::L.map Nd.a).Nodup
 ln:(L.length:Int)≤n
theorem LC.fc{t n me p:Int}{L:List Nd}{s:MS}(h:LC t n me p L s.xs)(hd key lim:Int):FC t n p L (qI t n me hd key lim) s:=
 ⟨h.ht,⟨h.hn.1,by have:=h.hn.2;omega⟩,h.len,h.me,h.hp,h.mp,h.cp,h.ch,h.nd,⟨Int.le_refl 0,by show(0:Int)+L.length≤n;have:=h.ln;omega⟩⟩
structure FtA (n me p:Int) (L:List Nd) (k ky sp:Int) (a:Pa) (s s':MS) (j:Nat):Prop where
 ch:ch n s'.xs p ((sc k L).1++a.new ky sp (sc k L).2.2)
 mp:mkW (aB s'.xs p)=false
 cp:clW' (aB s'.xs p)=0
 same: ∀b,b≠2*n+5+2*me→b≠2*n+5+2*me+1→b∉p::L.map Nd.a→b≠sp→aB s'.xs b=aB s.xs b
 t:s'.t=s.t
 n:s'.n=s.n
 c:s'.c=s.c+j
 len:s'.xs.length=s.xs.length
 okw:okW s.xs→okW s'.xs
 lim:j≤5*L.length+4
structure PlA (t n sh kd ky key p:Int) (st:STS) (L:List Nd) (s:MS) (j jj:Nat) (z:FNS) (s1 s3 s':MS) (P:PLN):Prop where
 fin: ∀lim:Int,End (AU t n) j ({qI t n st.me (cJ sh ky) key 0 with limit:=lim},s) ({z with limit:=lim},s1)
 tr:z.tries=0
 ab:z.ab=false
 ul:z.ul=(sc key L).2.1.map Nd.a
 pl:bN sh kd ky z.pred z.pw z.curr z.cw st.sp=P
 pc:nR P.now P.code P.okk P.val P.addr P.old P.nxt P.mark P.pops=false
 code:P.code=0
 ok:P.okk=(paOf sh kd ky (sc key L).2.2).ok
 val:P.val=(paOf sh kd ky (sc key L).2.2).val
 vr:0≤P.val∧P.val<1024
 lim:j≤5*L.length+3
 c1:s1.c=s.c+j
 t1:s1.t=s.t
 n1:s1.n=s.n
 len1:s1.xs.length=s.xs.length
 hi1: ∀b,b≠2*n+5+2*st.me→b≠2*n+5+2*st.me+1→n+4<b→aB s1.xs b=aB s.xs b
 now:P.now=true→s'=s1∧(paOf sh kd ky (sc key L).2.2).pops (sc key L).2.2=[]∧(paOf sh kd ky (sc key L).2.2).sp st.sp=st.sp
 chg:P.now=false→P.okk=true∧(1≤P.addr∧P.addr≤n+4)∧(0≤P.nxt∧P.nxt<512)∧clW' P.old=0∧aB s3.xs P.addr=P.old∧s'=s3.cased P.addr P.old (chgW P.old P.nxt P.mark)∧aS s3.xs P.addr P.old=true∧s3.xs.length=s.xs.length∧s3.t=s.t∧s3.n=s.n∧(∀b,n+4<b→aB s3.xs b=aB s1.xs b)∧(okW s.xs→okW s3.xs)
 lk:P.now=false→bM kd=true→(0≤ky∧ky<1024)∧(0≤z.curr∧z.curr<512)∧s3=(s1.loadd st.sp).stored st.sp (R2 ky z.curr (aB s1.xs st.sp))∧(paOf sh kd ky (sc key L).2.2).sp st.sp=0
 nl:P.now=false→bM kd=false→s3=s1∧(paOf sh kd ky (sc key L).2.2).sp st.sp=st.sp
 pp:P.now=false→(paOf sh kd ky (sc key L).2.2).pops (sc key L).2.2=(bif dD sh kd then [nxW P.old]else [])∧(dD sh kd=true→nxW P.old≠0)
 fta:FtA n st.me p L key ky st.sp (paOf sh kd ky (sc key L).2.2) s s' jj
theorem wF{sh kd:Int}(h:kd≠5∨sh≠4):dD sh kd=false:=by
 unfold dD
 rcases h with h | h
 ·have:ieq kd 5=false:=by rw [b9,beq_eq_false_iff_ne];exact h
  rw [this];rfl
 ·have:ieq sh 4=false:=by rw [b9,beq_eq_false_iff_ne];exact h
  rw [this,Bool.and_false]
theorem R4{sh kd ky v:Int}{B:List Nd}(h:paOf sh kd ky B=.pop v):dD sh kd=true∨ ¬(kd=5):=by
 by_cases e:kd=5
 ·left
  subst e
  by_cases e4:sh=4
  ·subst e4;rfl
  ·exfalso
   unfold paOf at h
   simp only [show¬(5:Int)=4 by decide,show¬(5:Int)=1 by decide,show¬(5:Int)=2 by decide,show¬(5:Int)=3 by decide,if_false]at h
   cases B with
   | nil=>cases h
   | cons b B'=>simp only [if_neg e4]at h;cases h
 ·exact .inr e
theorem FM{sh kd ky v:Int}{B:List Nd}(h:paOf sh kd ky B=.mark v):dD sh kd=false:=by
 by_cases e:kd=5
 ·subst e
  by_cases e4:sh=4
  ·exfalso
   subst e4
   unfold paOf at h
   simp only [show¬(5:Int)=4 by decide,show¬(5:Int)=1 by decide,show¬(5:Int)=2 by decide,show¬(5:Int)=3 by decide,if_false]at h
   cases B with
   | nil=>cases h
   | cons b B'=>simp at h
  ·exact wF (.inr e4)
 ·exact wF (.inl e)
theorem JZ{sh kd ky:Int}{B:List Nd}(h: ∀b∈B,0≤b.k∧b.k<1024):0≤(paOf sh kd ky B).val ∧(paOf sh kd ky B).val <1024:=by
 have z: ∀a:Pa,a.val=0→0≤a.val∧a.val<1024:=fun a e=>by rw [e];decide
 unfold paOf
 split
 ·exact z _ rfl
 ·split
  ·cases fndB ky B<;>exact z _ rfl
  ·split
   ·cases fndB ky B<;>exact z _ rfl
   ·split
    ·exact z _ rfl
    ·cases B with
     | nil=>exact z _ rfl
     | cons b B'=>
       have:=h b (List.mem_cons_self ..)
       simp only
       split<;>exact this
theorem OG{sh kd:Int}(h:bM kd=true):dD sh kd=false:=by
 refine wF (.inl fun e=>?_)
 subst e;revert h;decide
theorem FN{sh kd ky v:Int}{B:List Nd}(hr:bX sh kd ky=true)(h:paOf sh kd ky B=.pop v):dD sh kd=true:=by
 rcases R4 h with e | e
 ·exact e
 ·exfalso
  have hk:=eN.1 hr
  unfold paOf at h
  by_cases e4:kd=4
  ·rw [if_pos e4]at h;cases h
  ·rw [if_neg e4]at h
   by_cases e1:kd=1
   ·rw [if_pos e1]at h;cases q:fndB ky B<;>rw [q]at h<;>cases h
   ·rw [if_neg e1]at h
    by_cases e2:kd=2
    ·rw [if_pos e2]at h;cases q:fndB ky B<;>rw [q]at h<;>cases h
    ·rw [if_neg e2]at h
     by_cases e3:kd=3
     ·rw [if_pos e3]at h;cases h
     ·omega
theorem GK{n:Int}{xs:List Int} : ∀ {B:List Nd} {a:Int},ch n xs a B→ ∀b∈B,0≤b.k∧b.k<1024
 | [],_,_,b,hb=>by cases hb
 | c::B,a,h,b,hb=>by
   obtain⟨h1,h2,h3,h4,h5,h6⟩:=h
   rcases List.mem_cons.1 hb with rfl | hb
   ·have hk:=fS (x:=aB xs b.a) (a:=0) (w:=10)
    have e:aA (aB xs b.a) 0 10=b.k:=h3
    rw [e]at hk
    simpa using hk
   ·exact GK h6 b hb
theorem FT{t n:Int}{sh kd ky:Int}{st:STS}{s:MS}{L:List Nd}(hr:bX sh kd ky=true)(h:LC t n st.me (n+1+cJ sh ky) L s.xs)
 (hl:bM kd=true→1≤st.sp∧st.sp≤n∧st.sp∉L.map Nd.a):
 ∃j jj z s1 s3 s' P,PlA t n sh kd ky (dG sh kd ky) (n+1+cJ sh ky) st L s j jj z s1 s3 s' P:=by
 have hrng:=eN.1 hr
 generalize hp:n+1+cJ sh ky=p at h⊢
 generalize hk:dG sh kd ky=key at⊢
 have hkd5:=hrng
 obtain⟨j,z,s1,e,f,hj⟩:=VM (t:=t) (n:=n) L p (qI t n st.me (cJ sh ky) key 0) s rfl hp (h.fc _ _ _)
 have fch:ch n s1.xs p ((sc key L).1++(sc key L).2.2):=f.ch
 have fpr:z.pred=((sc key L).1.map Nd.a).getLastD p:=f.pred
 have fcu:z.curr=hdN (sc key L).2.2:=f.curr
 have fcw:z.cw=hdWd s1.xs (sc key L).2.2:=f.cw
 have ful:z.ul=(sc key L).2.1.map Nd.a:=by have:=f.ul;exact this.trans (List.nil_append _)
 have fsame: ∀a,a≠2*n+5+2*st.me→a≠2*n+5+2*st.me+1→a∉p::(sc key L).1.map Nd.a→aB s1.xs a=aB s.xs a:=f.same
 have fpw:=f.pw
 have hA:=HV key L
 have hsub:=AG key L
 have hAL: ∀a,a∈(sc key L).1.map Nd.a→a∈L.map Nd.a:=fun a=>mD (AE key L)
 have hBL: ∀a,a∈(sc key L).2.2.map Nd.a→a∈L.map Nd.a:=fun a=>mD ((List.sublist_append_right _ _).trans hsub)
 have hnd:(p::((sc key L).1++(sc key L).2.2).map Nd.a).Nodup :=by
  refine List.Sublist.nodup ?_ h.nd
  exact List.Sublist.cons₂ _ (hsub.map _)
 have hmp1:mkW (aB s1.xs p)=false:=f.p3.2.1.trans h.mp
 have hcp1:clW' (aB s1.xs p)=0:=f.p3.2.2.trans h.cp
 generalize hA0:(sc key L).1=A at*
 generalize hU:(sc key L).2.1=U at*
 generalize hB:(sc key L).2.2=B at*
 have hsp:=BD fch
 have hlast:=GL fch hcp1 hmp1 hA
 rw [←fpr]at hsp hlast
 have hbb: ∀b B',B=b::B'→(b.a≠0∧kyW z.cw=b.k)∧1≤b.a∧b.a≤n∧z.cw=aB s1.xs b.a∧clW' z.cw=0∧ch n s1.xs b.a B'∧nxW (aB s1.xs z.pred)=b.a:=by
  rintro b B' rfl
  obtain⟨h1,h2,h3,h4,h5,h6⟩:=hsp
  have e1:z.cw=aB s1.xs b.a:=fcw
  rw [←e1]at h3 h5
  exact⟨⟨by omega,h3⟩,h2.1,h2.2,e1,h5,h6,h1⟩
 have hplan:=R6 (pred:=z.pred) (pw:=z.pw) (sp:=st.sp) hr (fun b B' h=>(hbb b B' h).1)
 have hnA:(p::A.map Nd.a).Nodup :=by
  refine List.Sublist.nodup ?_ hnd
  refine List.Sublist.cons₂ _ ?_
  rw [List.map_append]
  exact List.sublist_append_left _ _
 have hnB: ∀a,a∈p::A.map Nd.a→a∉B.map Nd.a:=by
  intro a ha hb
  rw [List.map_append,←List.cons_append]at hnd
  exact(List.nodup_append.1 hnd).2.2 a ha a hb rfl
 have hpm:z.pred∈p::A.map Nd.a:=by rw [fpr];exact vS _ _
 have hpL:z.pred∈p::L.map Nd.a:=by
  rcases List.mem_cons.1 hpm with q | q
  ·rw [q];exact List.mem_cons_self ..
  ·exact List.mem_cons_of_mem _ (hAL _ q)
 have hprg:1≤z.pred∧z.pred≤n+4:=by
  rcases List.mem_cons.1 hpL with q | q
  ·rw [q];exact h.hp
  ·obtain⟨c,hc,q⟩:=List.mem_map.1 q
   have:=zB h.ch c hc
   omega
 have hlen1:(s1.xs.length:Int)=2*n+5*t+6:=by rw [f.len];exact h.len
 have hin:0≤z.pred∧z.pred<s1.xs.length:=by have:=h.ht;omega
 have htn:=h.hn
 have hme:=h.me
 obtain⟨P,hP⟩: ∃P:PLN,P=(paOf sh kd ky B).plan z.pred z.pw (hdN B) z.cw st.sp:=⟨_,rfl⟩
 rw [←hP]at hplan
 have hmemB: ∀b B',B=b::B'→b.a∈L.map Nd.a:=by
  rintro b B' rfl;exact hBL _ (by simp)
 have hi1: ∀b,b≠2*n+5+2*st.me→b≠2*n+5+2*st.me+1→n+4<b→aB s1.xs b=aB s.xs b:=by
  intro b h0 h1 h2
  refine fsame b h0 h1 (fun hh=>?_)
  rcases List.mem_cons.1 hh with q | q
  ·have:=h.hp;omega
  ·obtain⟨c,hc,q2⟩:=List.mem_map.1 (hAL _ q)
   have:=zB h.ch c hc
   omega
 have hval:=JZ (sh:=sh) (kd:=kd) (ky:=ky) (B:=B) (GK hsp)
 generalize hact:paOf sh kd ky B=act at hP⊢
 cases act with
 | now bb=>
   subst hP
   refine⟨j,j,z,s1,s1,s1,Pa.plan z.pred z.pw (hdN B) z.cw st.sp (.now bb),{fin:=e,tr:=f.tries,ab:=f.ab,ul:=by rw [ful,hU],pl:=by rw [fcu];exact hplan,lim:=by omega,c1:=f.c,t1:=f.t,n1:=f.n,len1:=f.len,hi1:=hi1,pc:=J3,code:=rfl,ok:=(by rw [hB,hact];rfl),val:=(by rw [hB,hact];rfl),vr:=(by rw [hact]at hval;exact hval),now:=fun _=>by rw [hB,hact];exact⟨rfl,rfl,rfl⟩,chg:=fun q=>(by cases q),lk:=fun q=>(by cases q),nl:=fun q=>(by cases q),pp:=fun q=>(by cases q),fta:=?_ }⟩
   ·rw [hB,hact]
    refine {ch:=by rw [hA0,hB];exact fch,mp:=hmp1,cp:=hcp1,same:=fun b h0 h1 h2 _=>fsame b h0 h1 (fun hh=>h2 ?_),t:=f.t,n:=f.n,c:=f.c,len:=f.len,okw:=f.okw,lim:=by omega}
    rcases List.mem_cons.1 hh with q | q
    ·rw [q];exact List.mem_cons_self ..
    ·exact List.mem_cons_of_mem _ (hAL _ q)
 | link=>
   subst hP
   have hlk:=HK hact
   obtain⟨g1,g2,g3⟩:=hl hlk
   have hspn:z.pred≠st.sp:=by
    intro q
    rcases List.mem_cons.1 hpL with r | r
    ·have:=h.hp;have:=gE sh ky;omega
    ·rw [q]at r;exact g3 r
   have hcr:0≤hdN B∧hdN B<512:=by
    cases hBB:B with
    | nil=>exact⟨Int.le_refl 0,by show(0:Int)<512;decide⟩
    | cons b B'=>have:=hbb b B' hBB;show 0≤b.a∧b.a<512;omega
   have hky:0≤ky∧ky<1024:=by omega
   have hspi:0≤st.sp∧st.sp<s1.xs.length:=by have:=h.ht;omega
   let s2:=s1.loadd st.sp
   let nw:=R2 ky (hdN B) (aB s1.xs st.sp)
   let s3:=s2.stored st.sp nw
   let w:=chgW z.pw st.sp (mkW z.pw)
   let s4:=s3.cased z.pred z.pw w
   have x3: ∀a,a≠st.sp→aB s3.xs a=aB s1.xs a:=fun a ha=>bG ha
   have x3s:aB s3.xs st.sp=nw:=dC hspi
   have l3:s3.xs.length=s1.xs.length:=bO _ _ _
   have hin3:0≤z.pred∧z.pred<s3.xs.length:=by rw [l3];exact hin
   have hcas:=eU hin3 ((x3 _ hspn).trans fpw.symm)
   have s4x:s4.xs=aJ s3.xs z.pred w:=iH hcas
   have x4: ∀a,a≠z.pred→aB s4.xs a=aB s3.xs a:=fun a ha=>by rw [s4x,bG ha]
   have x4p:aB s4.xs z.pred=w:=by rw [s4x,dC hin3]
   have l4:s4.xs.length=s1.xs.length:=by rw [s4x,bO];exact l3
   have hnok:=W3 (f:=aB s1.xs st.sp) hky hcr
   have hwok:=zC z.pw (nx:=st.sp) ⟨by omega,by omega⟩
   have hspA:st.sp∉p::A.map Nd.a:=by
    intro q
    rcases List.mem_cons.1 q with r | r
    ·have:=h.hp;have:=gE sh ky;omega
    ·exact g3 (hAL _ r)
   have hspB:st.sp∉B.map Nd.a:=fun q=>g3 (hBL _ q)
   have hpB:z.pred∉B.map Nd.a:=hnB _ hpm
   refine⟨j,j+3,z,s1,s3,s4,Pa.plan z.pred z.pw (hdN B) z.cw st.sp .link,{fin:=e,tr:=f.tries,ab:=f.ab,ul:=by rw [ful,hU],pl:=by rw [fcu];exact hplan,lim:=by omega,c1:=f.c,t1:=f.t,n1:=f.n,len1:=f.len,hi1:=hi1,pc:=wE (by show clW' z.pw=0;rw [fpw];exact hlast.1),code:=rfl,ok:=(by rw [hB,hact];rfl),val:=(by rw [hB,hact];rfl),vr:=(by rw [hact]at hval;exact hval),now:=fun q=>(by cases q),chg:=fun _=>⟨rfl,hprg,(show 0≤st.sp∧st.sp<512 by omega),(show clW' z.pw=0 by rw [fpw];exact hlast.1),(x3 _ hspn).trans fpw.symm,rfl,hcas,l3.trans f.len,f.t,f.n,fun b hb=>x3 b (by omega),fun q=>dQ (f.okw q) (iC hnok)⟩,lk:=fun _ _=>⟨hky,by rw [fcu];exact hcr,by rw [fcu],by rw [hB,hact];rfl⟩,nl:=fun _ q=>(by rw [hlk]at q;cases q),pp:=fun _=>⟨by rw [hB,hact,OG hlk];rfl,fun q=>(by rw [OG hlk]at q;cases q)⟩,fta:=?_ }⟩
   ·rw [hB,hact]
    refine {ch:=?_,mp:=?_,cp:=?_,same:=fun b h0 h1 h2 h3=>?_,t:=f.t,n:=f.n,c:=?_,len:=l4.trans f.len,okw:=fun q=>?_,lim:=by omega}
    ·rw [hA0,hB]
     refine tX fch hnA ?_ ?_ ?_
     ·intro c hc hcl
      rw [←fpr]at hcl
      rw [x4 c hcl,x3 c (fun q=>hspA (by rw [←q];exact hc))]
     ·rw [←fpr,x4p,←fpw]
      exact⟨s9 hwok,mZ hwok,(mY hwok).trans (by rw [fpw];exact hlast.1.symm)⟩
     ·rw [←fpr]
      refine⟨by rw [x4p];exact qA hwok,⟨g1,g2⟩,?_,?_,?_,?_⟩
      ·rw [x4 _ (Ne.symm hspn),x3s];exact s9 hnok
      ·rw [x4 _ (Ne.symm hspn),x3s];exact mZ hnok
      ·rw [x4 _ (Ne.symm hspn),x3s];exact mY hnok
      ·refine tW hsp ?_ (fun c hc=>?_)
       ·rw [x4 _ (Ne.symm hspn),x3s]
        exact(qA hnok).trans (LI hsp).symm
       ·rw [x4 c (fun q=>hpB (by rw [←q];exact hc)),x3 c (fun q=>hspB (by rw [←q];exact hc))]
    ·by_cases q:p=z.pred
     ·rw [q,x4p,←hlast.2,←fpw];exact mZ hwok
     ·rw [x4 p q,x3 p (fun r=>hspA (by rw [←r];exact List.mem_cons_self ..))];exact hmp1
    ·by_cases q:p=z.pred
     ·rw [q,x4p];exact mY hwok
     ·rw [x4 p q,x3 p (fun r=>hspA (by rw [←r];exact List.mem_cons_self ..))];exact hcp1
    ·rw [x4 b (fun q=>h2 (by rw [q];exact hpL)),x3 b h3]
     refine fsame b h0 h1 (fun hh=>h2 ?_)
     rcases List.mem_cons.1 hh with q | q
     ·rw [q];exact List.mem_cons_self ..
     ·exact List.mem_cons_of_mem _ (hAL _ q)
    ·show s1.c+1+1+1=s.c+((j+3:Nat):Int);rw [f.c];omega
    ·rw [s4x];exact dQ (dQ (f.okw q) (iC hnok)) (iC hwok)
 | mark v=>
   subst hP
   have hlk:bM kd=false:=by
    cases hq:bM kd with
    | false=>rfl
    | true=>rcases CL (sh:=sh) (ky:=ky) (B:=B) hq with q | ⟨_,q⟩<;>rw [hact]at q<;>cases q
   obtain⟨b,B',hBB⟩:=HL hact
   obtain⟨⟨hb0,hbk⟩,hb1,hb2,hbw,hbc,hch2,hnx⟩:=hbb b B' hBB
   have hcu:hdN B=b.a:=by rw [hBB];rfl
   have hbm:mkW (aB s1.xs b.a)=false:=by
    have:=(HU key L b B' (by rw [hB];exact hBB)).1
    rw [hBB]at hsp
    exact hsp.2.2.2.1.trans this
   have hbi:0≤b.a∧b.a<s1.xs.length:=by have:=h.ht;omega
   let w:=chgW z.cw (nxW z.cw) true
   let s4:=s1.cased b.a z.cw w
   have hcas:aS s1.xs (hdN B) z.cw=true:=by rw [hcu];exact eU hbi hbw.symm
   have s4x:s4.xs=aJ s1.xs b.a w:=iH (by rw [←hcu];exact hcas)
   have x4: ∀a,a≠b.a→aB s4.xs a=aB s1.xs a:=fun a ha=>by rw [s4x,bG ha]
   have x4p:aB s4.xs b.a=w:=by rw [s4x,dC hbi]
   have l4:s4.xs.length=s1.xs.length:=by rw [s4x,bO]
   have hwok:=zC z.cw (nx:=nxW z.cw) (rE _)
   have hbA:b.a∉p::A.map Nd.a:=fun q=>hnB _ q (by rw [hBB];simp)
   have hbB:b.a∉B'.map Nd.a:=by
    have:=hnd
    rw [hBB,List.map_append,←List.cons_append]at this
    exact(List.nodup_cons.1 (List.nodup_append.1 this).2.1).1
   have hpo:=FM hact
   refine⟨j,j+1,z,s1,s1,s4,Pa.plan z.pred z.pw (hdN B) z.cw st.sp (.mark v),{fin:=e,tr:=f.tries,ab:=f.ab,ul:=by rw [ful,hU],pl:=by rw [fcu];exact hplan,lim:=by omega,c1:=f.c,t1:=f.t,n1:=f.n,len1:=f.len,hi1:=hi1,pc:=wE (by show clW' z.cw=0;exact hbc),code:=rfl,ok:=(by rw [hB,hact];rfl),val:=(by rw [hB,hact];rfl),vr:=(by rw [hact]at hval;exact hval),now:=fun q=>(by cases q),chg:=fun _=>⟨rfl,(show 1≤hdN B∧hdN B≤n+4 by rw [hcu];omega),rE _,hbc,(show aB s1.xs (hdN B)=z.cw by rw [hcu];exact hbw.symm),(show s4=s1.cased (hdN B) z.cw w by rw [hcu]),hcas,f.len,f.t,f.n,fun b hb=>rfl,f.okw⟩,lk:=fun _ q=>(by rw [hlk]at q;cases q),nl:=fun _ _=>⟨rfl,by rw [hB,hact];rfl⟩,pp:=fun _=>⟨by rw [hB,hact,hpo];rfl,fun q=>(by rw [hpo]at q;cases q)⟩,fta:=?_ }⟩
   ·rw [hB,hact]
    refine {ch:=?_,mp:=?_,cp:=?_,same:=fun c h0 h1 h2 h3=>?_,t:=f.t,n:=f.n,c:=?_,len:=l4.trans f.len,okw:=fun q=>?_,lim:=by omega}
    ·rw [hA0,hB,hBB]
     refine tX fch hnA ?_ ?_ ?_
     ·intro c hc _
      exact x4 c (fun q=>hbA (by rw [←q];exact hc))
     ·rw [←fpr,x4 z.pred (fun q=>hbA (by rw [←q];exact hpm))]
      exact⟨rfl,rfl,rfl⟩
     ·rw [←fpr]
      refine⟨?_,⟨hb1,hb2⟩,?_,?_,?_,?_⟩
      ·rw [x4 z.pred (fun q=>hbA (by rw [←q];exact hpm))];exact hnx
      ·rw [x4p];exact(s9 hwok).trans hbk
      ·rw [x4p];exact mZ hwok
      ·rw [x4p];exact mY hwok
      ·refine tW hch2 ?_ (fun c hc=>x4 c (fun q=>hbB (by rw [←q];exact hc)))
       rw [x4p,←hbw];exact qA hwok
    ·rw [x4 p (fun q=>hbA (by rw [←q];exact List.mem_cons_self ..))];exact hmp1
    ·rw [x4 p (fun q=>hbA (by rw [←q];exact List.mem_cons_self ..))];exact hcp1
    ·rw [x4 c (fun q=>h2 (List.mem_cons_of_mem _ (by rw [q];exact hmemB b B' hBB)))]
     refine fsame c h0 h1 (fun hh=>h2 ?_)
     rcases List.mem_cons.1 hh with q | q
     ·rw [q];exact List.mem_cons_self ..
     ·exact List.mem_cons_of_mem _ (hAL _ q)
    ·show s1.c+1=s.c+((j+1:Nat):Int);rw [f.c];omega
    ·rw [s4x];exact dQ (f.okw q) (iC hwok)
 | pop v=>
   subst hP
   have hlk:bM kd=false:=by
    cases hq:bM kd with
    | false=>rfl
    | true=>rcases CL (sh:=sh) (ky:=ky) (B:=B) hq with q | ⟨_,q⟩<;>rw [hact]at q<;>cases q
   obtain⟨b,B',hBB⟩:=N1 hact
   obtain⟨⟨hb0,hbk⟩,hb1,hb2,hbw,hbc,hch2,hnx⟩:=hbb b B' hBB
   have hcu:hdN B=b.a:=by rw [hBB];rfl
   let w:=chgW z.pw (nxW z.cw) (mkW z.pw)
   let s4:=s1.cased z.pred z.pw w
   have hcas:=eU hin fpw.symm
   have s4x:s4.xs=aJ s1.xs z.pred w:=iH hcas
   have x4: ∀a,a≠z.pred→aB s4.xs a=aB s1.xs a:=fun a ha=>by rw [s4x,bG ha]
   have x4p:aB s4.xs z.pred=w:=by rw [s4x,dC hin]
   have l4:s4.xs.length=s1.xs.length:=by rw [s4x,bO]
   have hwok:=zC z.pw (nx:=nxW z.cw) (rE _)
   have hpB:z.pred∉B.map Nd.a:=hnB _ hpm
   have hpo:dD sh kd=true:=FN hr hact
   refine⟨j,j+1,z,s1,s1,s4,Pa.plan z.pred z.pw (hdN B) z.cw st.sp (.pop v),{fin:=e,tr:=f.tries,ab:=f.ab,ul:=by rw [ful,hU],pl:=by rw [fcu];exact hplan,lim:=by omega,c1:=f.c,t1:=f.t,n1:=f.n,len1:=f.len,hi1:=hi1,pc:=wE (by show clW' z.pw=0;rw [fpw];exact hlast.1),code:=rfl,ok:=(by rw [hB,hact];rfl),val:=(by rw [hB,hact];rfl),vr:=(by rw [hact]at hval;exact hval),now:=fun q=>(by cases q),chg:=fun _=>⟨rfl,hprg,rE _,(show clW' z.pw=0 by rw [fpw];exact hlast.1),fpw.symm,rfl,hcas,f.len,f.t,f.n,fun b hb=>rfl,f.okw⟩,lk:=fun _ q=>(by rw [hlk]at q;cases q),nl:=fun _ _=>⟨rfl,by rw [hB,hact];rfl⟩,pp:=fun _=>⟨by rw [hB,hact,hpo];show [hdN B]=[nxW z.pw];rw [fpw,hnx,hcu],fun _=>by show nxW z.pw≠0;rw [fpw,hnx];exact hb0⟩,fta:=?_ }⟩
   ·rw [hB,hact]
    refine {ch:=?_,mp:=?_,cp:=?_,same:=fun c h0 h1 h2 h3=>?_,t:=f.t,n:=f.n,c:=?_,len:=l4.trans f.len,okw:=fun q=>?_,lim:=by omega}
    ·rw [hA0,hB,hBB]
     refine tX fch hnA ?_ ?_ ?_
     ·intro c hc hcl
      rw [←fpr]at hcl
      exact x4 c hcl
     ·rw [←fpr,x4p,←fpw]
      exact⟨s9 hwok,mZ hwok,(mY hwok).trans (by rw [fpw];exact hlast.1.symm)⟩
     ·rw [←fpr]
      refine tW hch2 ?_ (fun c hc=>x4 c (fun q=>hpB (by rw [hBB,←q];exact List.mem_cons_of_mem _ hc)))
      rw [x4p,←hbw];exact qA hwok
    ·by_cases q:p=z.pred
     ·rw [q,x4p,←hlast.2,←fpw];exact mZ hwok
     ·rw [x4 p q];exact hmp1
    ·by_cases q:p=z.pred
     ·rw [q,x4p];exact mY hwok
     ·rw [x4 p q];exact hcp1
    ·rw [x4 c (fun q=>h2 (by rw [q];exact hpL))]
     refine fsame c h0 h1 (fun hh=>h2 ?_)
     rcases List.mem_cons.1 hh with q | q
     ·rw [q];exact List.mem_cons_self ..
     ·exact List.mem_cons_of_mem _ (hAL _ q)
    ·show s1.c+1=s.c+((j+1:Nat):Int);rw [f.c];omega
    ·rw [s4x];exact dQ (f.okw q) (iC hwok)
theorem End.congr{σ:Type}{F:σ→Bool×σ}{j:Nat}{a a' z:σ}(h:F a=F a')(g:End F j a' z):End F j a z:=by
 obtain⟨i,b,rfl,h1,h2⟩:=g
 cases h1 with
 | nil=>exact⟨0,a,rfl,Go1.nil _,h.trans h2⟩
 | cons q t=>exact⟨_,b,rfl,Go1.cons (h.trans q) t,h2⟩
theorem Go1.congr{σ:Type}{F:σ→Bool×σ}{j:Nat}{a a' z:σ}(h:F a=F a')(g:Go1 F (j+1) a' z):Go1 F (j+1) a z:=by
 cases g with
 | cons q t=>exact Go1.cons (h.trans q) t
def C9(t n:Int)(p:ENS×STS×MS):Bool×(ENS×STS×MS):=((enF t n p.1 p.2.1 p.2.2).d,((enF t n p.1 p.2.1 p.2.2).e,(enF t n p.1 p.2.1 p.2.2).st,(enF t n p.1 p.2.1 p.2.2).s))
theorem u6{t n:Int}{x:ENS}{st:STS}{s:MS}{d:Bool}{x':ENS}{st':STS}{s':MS}(h:enF t n x st s=⟨d,x',st',s'⟩):C9 t n (x,st,s)=(d,(x',st',s')):=by
 unfold C9;rw [h]
def dO(n:Int)(xs:List Int)(b:Int):Bool:=oddB (aB xs (n+4+b))
theorem v7{y:Int}(h:0≤y):oddB y=true↔y%2=1:=by
 unfold oddB
 rw [Int.tmod_eq_emod_of_nonneg h,b9]
 simp only [Bool.not_eq_true',beq_eq_false_iff_ne]
 omega
def itN(n a:Int):Nat→Int
 | 0=>a
 | i+1=>itN n (cK n a) i
theorem qZ{n a:Int}(h:1≤a∧a≤n):cK n a=if a<n then a+1 else 1:=by
 unfold cK
 rw [Int.tmod_eq_emod_of_nonneg (by omega)]
 by_cases e:a<n
 ·rw [if_pos e,Int.emod_eq_of_lt (by omega) e]
 ·have:a=n:=by omega
  rw [if_neg e,this,Int.emod_self];rfl
theorem zX{n:Int} : ∀(i:Nat) (a:Int),1≤a∧a≤n→1≤itN n a i∧itN n a i≤n
 | 0,a,h=>h
 | i+1,a,h=>zX i _ (by rw [qZ h];split<;>omega)
theorem ES{n:Int} : ∀(i:Nat) (a:Int),1≤a∧a≤n→(i:Int)<n→itN n a i=if a+i≤n then a+i else a+i - n
 | 0,a,h,_=>by
   show a=_
   rw [if_pos (by simp;omega)];simp
 | i+1,a,h,hi=>by
   show itN n (cK n a) i=_
   rw [ES i _ (by rw [qZ h];split<;>omega) (by omega),qZ h]
   by_cases e:a<n
   ·simp only [if_pos e]
    split<;>split<;>omega
   ·simp only [if_neg e]
    split<;>split<;>omega
theorem RU{n a b:Int}(h:1≤a∧a≤n)(hb:1≤b∧b≤n): ∃i:Nat,(i:Int)<n∧itN n a i=b:=by
 by_cases e:a≤b
 ·refine⟨(b - a).toNat,by omega,?_⟩
  rw [ES _ _ h (by omega)]
  split<;>omega
 ·refine⟨(b+n - a).toNat,by omega,?_⟩
  rw [ES _ _ h (by omega)]
  split<;>omega
theorem GU{t n:Int}{e:ENS}{st:STS}{s:MS}{a left f:Int}(h:e.ph=1)(hx:e.x=⟨0,a,left,f,false⟩)(ho:dO n s.xs a=true)(hl:1<left):
 enF t n e st s=⟨false,{e with ph:=1,x:=⟨0,cK n a,left - 1,aB s.xs (n+4+a),false⟩ },st,s.loadd (n+4+a)⟩:=by
 have ho:oddB (aB s.xs (n+4+a))=true:=ho
 have hz:ile (left - 1) 0=false:=by rw [cE];exact decide_eq_false (by omega)
 unfold enF
 simp only [h,hx,jR,ho,zI,hz]
theorem UZ{t n:Int}{e:ENS}{st:STS}{s:MS}{a f:Int}(h:e.ph=1)(hx:e.x=⟨0,a,1,f,false⟩)(ho:dO n s.xs a=true):
 enF t n e st s=⟨e.dn||ieq (st.R.length:Int) 0,{e with ph:=2,sh:=e.dn||ieq (st.R.length:Int) 0,x:=⟨0,cK n a,0,aB s.xs (n+4+a),false⟩ },{st with sp:=0},s.loadd (n+4+a)⟩:=by
 have ho:oddB (aB s.xs (n+4+a))=true:=ho
 have hz:ile (1 - 1) 0=true:=by decide
 unfold enF
 simp only [h,hx,jR,ho,zI,hz]
 rfl
theorem QO{t n:Int}{e:ENS}{st:STS}{s:MS}{a left f:Int}(h:e.ph=1)(hx:e.x=⟨0,a,left,f,false⟩)(ho:dO n s.xs a=false):
 enF t n e st s=⟨false,{e with ph:=1,x:=⟨0,a,left,aB s.xs (n+4+a),true⟩ },st,s.loadd (n+4+a)⟩:=by
 have ho:oddB (aB s.xs (n+4+a))=false:=ho
 unfold enF
 simp only [h,hx,jR,ho]
theorem U0{t n:Int}{e:ENS}{st:STS}{s:MS}{a left f:Int}(h:e.ph=1)(hx:e.x=⟨0,a,left,f,true⟩)(hc:aS s.xs (n+4+a) f=true):
 enF t n e st s=⟨true,{e with ph:=1,x:=⟨a,a,left,f,true⟩ },{st with sp:=a},s.cased (n+4+a) f (WU (f+1))⟩:=by
 unfold enF
 simp only [h,hx,jR,hc]
theorem BO{t n:Int}{e:ENS}{st:STS}{s:MS}(h:e.ph=0)(hz:st.sp=0):enF t n e st s=enF t n {e with ph:=1,x:=⟨0,at0 t n st.me,n,0,false⟩ } st s:=by
 unfold enF
 have:ieq st.sp 0=true:=by rw [hz];exact bH 0
 simp only [h,this,jR,zI]
structure MC (t n:Int) (s:MS):Prop where
 ht:1≤t∧t≤1000
 hn:1≤n∧n≤500
 len:(s.xs.length:Int)=2*n+5*t+6
 okw:okW s.xs
theorem yS{t n:Int} : ∀(i:Nat) (a left f:Int) (e:ENS) (st:STS) (s:MS),e.ph=1→e.x=⟨0,a,left,f,false⟩→1≤a∧a≤n→(i:Int)<left→MC t n s→
 (∀k,k<i→dO n s.xs (itN n a k)=true)→dO n s.xs (itN n a i)=false→
 ∃z s',End (C9 t n) (i+2) (e,st,s) (z,{st with sp:=itN n a i},s')∧z.sh=e.sh∧z.dn=e.dn∧s'.xs=aJ s.xs (n+4+itN n a i) (aB s.xs (n+4+itN n a i)+1)∧s'.c=s.c+(i+2:Nat)∧s'.t=s.t∧s'.n=s.n
 | 0,a,left,f,e,st,s,h1,h2,ha,hl,mc,_,hf=>by
   have hin:0≤n+4+a∧n+4+a<s.xs.length:=by have:=mc.ht;have:=mc.len;omega
   have hcas:=eU (xs:=(s.loadd (n+4+a)).xs) (x:=aB s.xs (n+4+a)) hin rfl
   have hw:=nP mc.okw (n+4+a)
   have hev:aB s.xs (n+4+a)%2≠1:=by
    intro q
    have:dO n s.xs a=true:=(v7 hw.1).2 q
    rw [show itN n a 0=a from rfl,this]at hf;cases hf
   have e1:=u6 (QO (t:=t) (st:=st) h1 h2 hf)
   have e2:=u6 (U0 (t:=t) (n:=n) (e:= {e with ph:=1,x:=⟨0,a,left,aB s.xs (n+4+a),true⟩ }) (st:=st) (s:=s.loadd (n+4+a)) rfl rfl hcas)
   refine⟨_,_,End.cons e1 (End.one e2),rfl,rfl,?_,?_,rfl,rfl⟩
   ·have hwu:WU (aB s.xs (n+4+a)+1)=aB s.xs (n+4+a)+1:=lE (by omega)
    rw [iH hcas,hwu];rfl
   ·show s.c+1+1=s.c+((0+2:Nat):Int);omega
 | i+1,a,left,f,e,st,s,h1,h2,ha,hl,mc,ho,hf=>by
   have e1:=u6 (GU (t:=t) (st:=st) h1 h2 (ho 0 (by omega)) (by omega))
   have hn:=qZ ha
   obtain⟨z,s',g1,g2,g3,g4,g5,g6,g7⟩:=yS i (cK n a) (left - 1) (aB s.xs (n+4+a)) {e with ph:=1,x:=⟨0,cK n a,left - 1,aB s.xs (n+4+a),false⟩ } st (s.loadd (n+4+a)) rfl rfl (by rw [hn];split<;>omega) (by omega) ⟨mc.ht,mc.hn,mc.len,mc.okw⟩ (fun k hk=>ho (k+1) (by omega)) hf
   exact⟨z,s',End.cons e1 g1,g2,g3,g4,by rw [g5];show s.c+1+_=_;omega,g6,g7⟩
theorem yT{t n:Int} : ∀(m:Nat) (a f:Int) (e:ENS) (st:STS) (s:MS),e.ph=1→e.x=⟨0,a,((m+1:Nat):Int),f,false⟩→1≤a∧a≤n→
 (∀k,k≤m→dO n s.xs (itN n a k)=true)→
 ∃b x s',Go1 (C9 t n) m (e,st,s) b∧C9 t n b=(e.dn||ieq (st.R.length:Int) 0,({e with ph:=2,sh:=e.dn||ieq (st.R.length:Int) 0,x:=x},{st with sp:=0},s'))∧s'.xs=s.xs∧s'.c=s.c+(m+1:Nat)∧s'.t=s.t∧s'.n=s.n
 | 0,a,f,e,st,s,h1,h2,ha,ho=>⟨_,_,_,Go1.nil _,u6 (UZ (st:=st) h1 h2 (ho 0 (by omega))),rfl,rfl,rfl,rfl⟩
 | m+1,a,f,e,st,s,h1,h2,ha,ho=>by
   have hn:=qZ ha
   have e1:=u6 (GU (t:=t) (st:=st) h1 h2 (ho 0 (by omega)) (by omega))
   obtain⟨b,x,s',g1,g2,g3,g4,g5,g6⟩:=yT (t:=t) m (cK n a) (aB s.xs (n+4+a)) {e with ph:=1,x:=⟨0,cK n a,((m+1+1:Nat):Int) - 1,aB s.xs (n+4+a),false⟩ } st (s.loadd (n+4+a)) rfl (by have q:(((m+1+1:Nat):Int) - 1)=((m+1:Nat):Int):=(by omega);rw [q]) (by rw [hn];split<;>omega) (fun k hk=>ho (k+1) (by omega))
   exact⟨b,x,s',Go1.cons e1 g1,g2,g3,by rw [g4];show s.c+1+_=_;omega,g5,g6⟩
def aAN(n:Int)(R:List Int)(xs:List Int):List Int:=R.foldl (fun xs r=>aJ xs (n+4+r) (WU (aB xs (n+4+r)+1))) xs
def SZ(t n:Int)(xs:List Int):Prop:= ∀i:Int,0≤i→i<2*t→aB xs (2*n+5+i)=0
theorem LD{t n me:Int}(hn:1≤n):1≤at0 t n me∧at0 t n me≤n:=GI hn
theorem ZD{P:Nat→Prop} [DecidablePred P]: ∀k,P k→ ∃i,i≤k∧P i∧ ∀j,j<i→ ¬P j
 | 0,h=>⟨0,Nat.le_refl _,h,fun j hj=>absurd hj (by omega)⟩
 | k+1,h=>by
   by_cases q: ∃i,i≤k∧P i
   ·obtain⟨i,hi,hp⟩:=q
    have: ∀m i,i≤m→P i→ ∃j,j≤i∧P j∧ ∀l,l<j→ ¬P l:=by
     intro m
     induction m with
     | zero=>intro i hi hp;exact⟨i,Nat.le_refl _,hp,fun l hl=>absurd hl (by omega)⟩
     | succ m ih=>
       intro i hi hp
       by_cases r: ∃l,l<i∧P l
       ·obtain⟨l,hl,hp⟩:=r
        obtain⟨j,h1,h2,h3⟩:=ih l (by omega) hp
        exact⟨j,by omega,h2,h3⟩
       ·exact⟨i,Nat.le_refl _,hp,fun l hl hp=>r ⟨l,hl,hp⟩⟩
    obtain⟨j,h1,h2,h3⟩:=this i i (Nat.le_refl _) hp
    exact⟨j,by omega,h2,h3⟩
   ·exact⟨k+1,Nat.le_refl _,h,fun j hj hp=>q ⟨j,by omega,hp⟩⟩
theorem L9{t n:Int}{e:ENS}{st:STS}{s:MS}(h:e.ph=0)(hz:st.sp=0)(mc:MC t n s){b0:Int}(hb:1≤b0∧b0≤n)(hf:dO n s.xs b0=false):
 ∃j b z s',End (C9 t n) j (e,st,s) (z,{st with sp:=b},s')∧(1≤b∧b≤n)∧dO n s.xs b=false∧z.sh=e.sh∧s'.xs=aJ s.xs (n+4+b) (aB s.xs (n+4+b)+1)∧s'.c=s.c+j∧s'.t=s.t∧s'.n=s.n∧(j:Int)≤n+1:=by
 have ha:=LD (t:=t) (me:=st.me) mc.hn.1
 obtain⟨k,hk,hkb⟩:=RU ha hb
 obtain⟨i,hi,hfi,ho⟩:=ZD (P:=fun i=>dO n s.xs (itN n (at0 t n st.me) i)=false) k (by show _=_;rw [hkb];exact hf)
 obtain⟨z,s',g1,g2,g3,g4,g5,g6,g7⟩:=yS (t:=t) (n:=n) i (at0 t n st.me) n 0 {e with ph:=1,x:=⟨0,at0 t n st.me,n,0,false⟩ } st s rfl rfl ha (by omega) mc (fun j hj=>by
  have:=ho j hj
  cases q:dO n s.xs (itN n (at0 t n st.me) j)with
  | true=>rfl
  | false=>exact absurd q this) hfi
 refine⟨i+2,_,z,s',End.congr ?_ g1,zX _ _ ha,hfi,g2,g4,g5,g6,g7,by omega⟩
 unfold C9
 simp only [BO h hz]
theorem MA{t n:Int}{e:ENS}{st:STS}{s:MS}(h:e.ph=0)(hz:st.sp=0)(hn:1≤n)(ho: ∀b,1≤b∧b≤n→dO n s.xs b=true):
 ∃(j:Nat) (b:ENS×STS×MS) (x:AL) (s':MS),(j:Int)+1=n∧Go1 (C9 t n) j ({e with ph:=1,x:=⟨0,at0 t n st.me,n,0,false⟩ },st,s) b∧C9 t n b=(e.dn||ieq (st.R.length:Int) 0,({e with ph:=2,sh:=e.dn||ieq (st.R.length:Int) 0,x:=x},{st with sp:=0},s'))∧s'.xs=s.xs∧s'.c=s.c+(j+1:Nat)∧s'.t=s.t∧s'.n=s.n:=by
 have ha:=LD (t:=t) (me:=st.me) hn
 have hn2:(((n - 1).toNat +1:Nat):Int)=n:=by omega
 obtain⟨b,x,s',g1,g2,g3,g4,g5,g6⟩:=yT (t:=t) (n:=n) (n - 1).toNat (at0 t n st.me) 0 {e with ph:=1,x:=⟨0,at0 t n st.me,n,0,false⟩ } st s rfl (by rw [hn2]) ha (fun k _=>ho _ (zX k _ ha))
 exact⟨_,b,x,s',by omega,g1,g2,g3,g4,g5,g6⟩
theorem IK{t n:Int}{e:ENS}{st:STS}{s:MS}(h:e.ph=0)(hz:st.sp=0)(hn:1≤n)(ho: ∀b,1≤b∧b≤n→dO n s.xs b=true)(hR:st.R=[]):
 ∃j z s',End (C9 t n) j (e,st,s) (z,st,s')∧z.sh=true∧s'.xs=s.xs∧s'.c=s.c+j∧s'.t=s.t∧s'.n=s.n∧(j:Int)=n:=by
 obtain⟨j,b,x,s',hj,g1,g2,g3,g4,g5,g6⟩:=MA (t:=t) h hz hn ho
 have hd:(e.dn||ieq (st.R.length:Int) 0)=true:=by rw [hR];cases e.dn<;>rfl
 rw [hd,show({st with sp:=0} :STS)=st by rw [←hz]]at g2
 refine⟨j+1,_,s',End.congr (a':=({e with ph:=1,x:=⟨0,at0 t n st.me,n,0,false⟩ },st,s)) ?_ ⟨j,b,rfl,g1,g2⟩,rfl,g3,g4,g5,g6,by omega⟩
 unfold C9
 simp only [BO h hz]
abbrev aK(t n u:Int):Int:=2*n+5+2*t+3*u+2
def PZ(t n:Int)(xs:List Int):Prop:= ∀u:Int,0≤u→u<t→iO (aA (aB xs (aK t n u)) 49 3)=false
theorem D0{a b c d e f:Int}{m:Bool}(h:dOk a b c d e f=true):aA (aY a b c d m e f) 0 12=a:=by
 have h:=eS.1 h
 have hm:0≤bitI m∧bitI m≤1:=by cases m<;>decide
 unfold aA aY
 generalize bitI m=mm at hm⊢
 show _ / 1%4096=_
 omega
theorem D3{a b c d e f:Int}{m:Bool}(h:dOk a b c d e f=true):aA (aY a b c d m e f) 12 9=b:=by
 have h:=eS.1 h
 have hm:0≤bitI m∧bitI m≤1:=by cases m<;>decide
 unfold aA aY
 generalize bitI m=mm at hm⊢
 show _ / 4096%512=_
 omega
theorem D4{a b c d e f:Int}{m:Bool}(h:dOk a b c d e f=true):aA (aY a b c d m e f) 21 18=c:=by
 have h:=eS.1 h
 have hm:0≤bitI m∧bitI m≤1:=by cases m<;>decide
 unfold aA aY
 generalize bitI m=mm at hm⊢
 show _ / 2097152%262144=_
 omega
theorem LS{a b c d e f:Int}{m:Bool}(h:dOk a b c d e f=true):aA (aY a b c d m e f) 39 9=d:=by
 have h:=eS.1 h
 have hm:0≤bitI m∧bitI m≤1:=by cases m<;>decide
 unfold aA aY
 generalize bitI m=mm at hm⊢
 show _ / 549755813888%512=_
 omega
theorem pH{a b c d e f:Int}{m:Bool}(h:dOk a b c d e f=true):aA (aY a b c d m e f) 49 3=e:=by
 have h:=eS.1 h
 have hm:0≤bitI m∧bitI m≤1:=by cases m<;>decide
 unfold aA aY
 generalize bitI m=mm at hm⊢
 show _ / 562949953421312%8=_
 omega
theorem LT{a b c d e f:Int}{m:Bool}(h:dOk a b c d e f=true):aA (aY a b c d m e f) 52 10=f:=by
 have h:=eS.1 h
 have hm:0≤bitI m∧bitI m≤1:=by cases m<;>decide
 unfold aA aY
 generalize bitI m=mm at hm⊢
 show _ / 4503599627370496%1024=_
 omega
theorem LU{a b c d e f:Int}{m:Bool}(h:dOk a b c d e f=true):aA (aY a b c d m e f) 48 1=bitI m:=by
 have h:=eS.1 h
 have hm:0≤bitI m∧bitI m≤1:=by cases m<;>decide
 unfold aA aY
 generalize bitI m=mm at hm⊢
 show _ / 281474976710656%2=_
 omega
theorem m7{a b c d e f:Int}{m:Bool}(h:dOk a b c d e f=true):0≤aY a b c d m e f∧aY a b c d m e f≤18446744073709551615:=by
 have h:=eS.1 h
 have hm:0≤bitI m∧bitI m≤1:=by cases m<;>decide
 unfold aY
 generalize bitI m=mm at hm⊢
 omega
def hpG(t n:Int)(p:HPS×STS×MS):Bool×(HPS×STS×MS):=((hpF t n p.1 p.2.1 p.2.2).d,((hpF t n p.1 p.2.1 p.2.2).x,(hpF t n p.1 p.2.1 p.2.2).st,(hpF t n p.1 p.2.1 p.2.2).s))
theorem fZ{t n:Int}{x:HPS}{st:STS}{s:MS}{d:Bool}{x':HPS}{st':STS}{s':MS}(h:hpF t n x st s=⟨d,x',st',s'⟩):hpG t n (x,st,s)=(d,(x',st',s')):=by
 unfold hpG;rw [h]
def hpR(x:HPS):HPS:= {x with ex:=cN,en:=cF,fn:=cR,cl:=bU,pr:=gS}
abbrev bK(t n u:Int):Int:=2*n+5+2*t+3*u
abbrev bI(t n u:Int):Int:=2*n+5+2*t+3*u+1
theorem NF{t n:Int}{x:HPS}{st:STS}{s:MS}(h0:x.at'=0):hpF t n x st s=⟨!iO (aA (aB s.xs (aK t n x.u)) 49 3),{hpR x with rounds:=W (x.rounds+1),at':=1,found:=aB s.xs (aK t n x.u) },st,s.loadd (aK t n x.u)⟩:=by
 unfold hpF zV
 rw [h0]
 rfl
theorem RS{t n:Int}{x:HPS}{st:STS}{s:MS}(h0:x.at'=1)(h:aB s.xs (bK t n x.u)=x.no):hpF t n x st s=⟨false,{hpR x with at':=2},st,s.loadd (bK t n x.u)⟩:=by
 unfold hpF zV
 rw [h0]
 show(vM t n x st s).val =_
 unfold vM
 have h:aB s.3 (2*n+5+2*t+3*x.1)=x.2:=h
 simp only [Tr.val,h,bH,Bool.not_true]
 unfold MS.loadd MS.did
 rw [show aB s.xs (bK t n x.u)=x.2 from h]
 rfl
structure TW (sh kd ky w:Int):Prop where
 tg:gX w=true
 sh:aA w 0 3=sh
 kd:aA w 3 3=kd
 ky:aA w 6 10=ky
theorem aAs(x:Int):hasB [1] x=ieq x 1:=by
 unfold hasB
 rw [b9]
 by_cases h:x=1
 ·subst h;rfl
 ·rw [decide_eq_false (by simpa using h)]
  exact(beq_eq_false_iff_ne.2 h).symm
theorem HG{t n:Int}{x:HPS}{st:STS}{s:MS}{sh kd ky:Int}(h0:x.at'=2)(w:TW sh kd ky (aB s.xs (bI t n x.u))):hpF t n x st s=
 bif !ieq (aA x.found 49 3) 1 then⟨false,{hpR x with at':=3,sh:=sh,kd:=kd,ky:=ky,ex:=exNF t n x.u sh kd ky (aA x.found 0 12) },st,s.loadd (bI t n x.u)⟩
 else bif bM kd&&ieq st.sp 0 then⟨false,{hpR x with at':=4,sh:=sh,kd:=kd,ky:=ky},st,s.loadd (bI t n x.u)⟩
 else⟨false,{hpR x with at':=5,sh:=sh,kd:=kd,ky:=ky,fn:=qI t n st.me (cJ sh ky) (dG sh kd ky) x.limit},st,s.loadd (bI t n x.u)⟩:=by
 unfold hpF zV
 rw [h0]
 show(vN t n x st s).val =_
 unfold vN
 have h1:gX (aB s.3 (2*n+5+2*t+3*x.1+1))=true:=w.tg
 have h2:aA (aB s.3 (2*n+5+2*t+3*x.1+1)) 0 3=sh:=w.sh
 have h3:aA (aB s.3 (2*n+5+2*t+3*x.1+1)) 3 3=kd:=w.kd
 have h4:aA (aB s.3 (2*n+5+2*t+3*x.1+1)) 6 10=ky:=w.ky
 have e0:(!ieq (bif true then(0:Int)else 3) 0)=false:=by decide
 simp only [Tr.val,h1,h2,h3,h4,aAs,cond_true,e0,cond_false]
 show _=bif !ieq (aA x.6 49 3) 1 then _ else _
 cases hq:ieq (aA x.6 49 3) 1 with
 | false=>rfl
 | true=>
   simp only [hq,Bool.not_true,cond_false]
   cases hl:bM kd with
   | false=>simp only [hl,Bool.false_and,cond_false]<;>rfl
   | true=>
     simp only [hl,Bool.true_and,cond_true]
     cases hz:ieq st.2 0 with
     | true=>simp only [hz,show ieq st.sp 0=true from hz,cond_true]<;>rfl
     | false=>simp only [hz,show ieq st.sp 0=false from hz,cond_false]<;>rfl
theorem Y6{t n:Int}{x:HPS}{st:STS}{s:MS}{y:EXS}{s':MS}(h0:x.at'=3)(h:exF t n x.ex s=⟨false,y,s'⟩):hpF t n x st s=⟨false,{hpR x with at':=3,ex:=y},st,s'⟩:=by
 unfold hpF zV
 rw [h0]
 show(qM t n x st s).val =_
 unfold qM
 have h:exF t n x.11 s=⟨false,y,s'⟩:=h
 simp only [Tr.val,h,cond_false]
 rfl
theorem EM{t n:Int}{x:HPS}{st:STS}{s:MS}{y:EXS}{s':MS}(h0:x.at'=3)(h:exF t n x.ex s=⟨true,y,s'⟩):hpF t n x st s=⟨false,{hpR x with at':=0},⟨st.me,st.sp,bif ieq y.popped 0 then st.R else st.R++ [y.popped]⟩,s'⟩:=by
 unfold hpF zV
 rw [h0]
 show(qM t n x st s).val =_
 unfold qM
 have h:exF t n x.11 s=⟨true,y,s'⟩:=h
 simp only [Tr.val,h,cond_true]
 cases hq:ieq y.1 0 with
 | true=>simp only [hq,show ieq y.popped 0=true from hq,Bool.not_true,cond_true,cond_false]<;>rfl
 | false=>simp only [hq,show ieq y.popped 0=false from hq,Bool.not_false,cond_true,cond_false]<;>rfl
theorem TM{t n:Int}{x:HPS}{st:STS}{s:MS}{y:ENS}{st':STS}{s':MS}(h0:x.at'=4)(h:enF t n x.en st s=⟨false,y,st',s'⟩):hpF t n x st s=⟨false,{hpR x with at':=4,en:=y},st',s'⟩:=by
 unfold hpF zV
 rw [h0]
 show(qN t n x st s).val =_
 unfold qN
 have h:enF t n x.12 st s=⟨false,y,st',s'⟩:=h
 simp only [Tr.val,h,cond_false]
 rfl
theorem NH{t n:Int}{x:HPS}{st:STS}{s:MS}{y:ENS}{st':STS}{s':MS}(h0:x.at'=4)(h:enF t n x.en st s=⟨true,y,st',s'⟩):hpF t n x st s=
 bif y.sh then⟨false,{hpR x with at':=6,p:=⟨true,4,false,0,0,0,0,false,0⟩ },st',s'⟩
 else⟨false,{hpR x with at':=5,fn:=qI t n st'.me (cJ x.sh x.ky) (dG x.sh x.kd x.ky) x.limit},st',s'⟩:=by
 unfold hpF zV
 rw [h0]
 show(qN t n x st s).val =_
 unfold qN
 have h:enF t n x.12 st s=⟨true,y,st',s'⟩:=h
 simp only [Tr.val,h,cond_true]
 cases hq:y.2 with
 | true=>simp only [hq,show y.sh=true from hq,cond_true]<;>rfl
 | false=>simp only [hq,show y.sh=false from hq,cond_false]<;>rfl
theorem Y7{t n:Int}{x:HPS}{st:STS}{s:MS}{y:FNS}{s':MS}(h0:x.at'=5)(h:fnF t n x.fn s=⟨false,y,s'⟩):hpF t n x st s=⟨false,{hpR x with at':=5,fn:=y},st,s'⟩:=by
 unfold hpF zV
 rw [h0]
 show(qO t n x st s).val =_
 unfold qO
 have h:fnF t n x.13 s=⟨false,y,s'⟩:=h
 simp only [Tr.val,h,cond_false]
 rfl
theorem WI{t n:Int}{x:HPS}{st:STS}{s:MS}{y:FNS}{s':MS}{p:PLN}(h0:x.at'=5)(h:fnF t n x.fn s=⟨true,y,s'⟩)(ha:y.ab=false)
 (hp:bN x.sh x.kd x.ky y.pred y.pw y.curr y.cw st.sp=p) (hc:nR p.now p.code p.okk p.val p.addr p.old p.nxt p.mark p.pops=false):hpF t n x st s=
 bif p.now then⟨false,{hpR x with at':=6,p:=p},⟨st.me,st.sp,st.R++y.ul⟩,s'⟩
 else bif bM x.kd then⟨false,{hpR x with at':=8,p:=p,pr:=⟨x.ky,y.curr,0,false⟩ },⟨st.me,st.sp,st.R++y.ul⟩,s'⟩
 else⟨false,{hpR x with at':=9,p:=p},⟨st.me,st.sp,st.R++y.ul⟩,s'⟩:=by
 unfold hpF zV
 rw [h0]
 show(qO t n x st s).val =_
 unfold qO
 have h:fnF t n x.13 s=⟨true,y,s'⟩:=h
 have ha:y.7=false:=ha
 have hp:bN x.7 x.8 x.9 y.1 y.2 y.3 y.4 st.2=p:=hp
 have hc:nR p.1 p.2 p.3 p.4 p.5 p.6 p.7 p.8 p.9=false:=hc
 simp only [Tr.val,h,ha,hp,hc,cond_true,cond_false]
 cases hn:p.1 with
 | true=>simp only [hn,show p.now=true from hn,cond_true]<;>rfl
 | false=>
   simp only [hn,show p.now=false from hn,cond_false]
   cases hl:bM x.8 with
   | true=>simp only [hl,show bM x.kd=true from hl,cond_true]<;>rfl
   | false=>simp only [hl,show bM x.kd=false from hl,cond_false]<;>rfl
theorem Y9{t n:Int}{x:HPS}{st:STS}{s:MS}{y:PRS}{s':MS}(h0:x.at'=8)(h:prF t n x.pr st s=⟨false,y,st,s'⟩):hpF t n x st s=⟨false,{hpR x with at':=8,pr:=y},st,s'⟩:=by
 unfold hpF zV
 rw [h0]
 show(qP t n x st s).val =_
 unfold qP
 have h:prF t n x.15 st s=⟨false,y,st,s'⟩:=h
 simp only [Tr.val,h,cond_false]
 rfl
theorem WL{t n:Int}{x:HPS}{st:STS}{s:MS}{y:PRS}{s':MS}(h0:x.at'=8)(h:prF t n x.pr st s=⟨true,y,st,s'⟩):hpF t n x st s=⟨false,{hpR x with at':=9},st,s'⟩:=by
 unfold hpF zV
 rw [h0]
 show(qP t n x st s).val =_
 unfold qP
 have h:prF t n x.15 st s=⟨true,y,st,s'⟩:=h
 simp only [Tr.val,h,cond_true]
 rfl
theorem RR{t n:Int}{x:HPS}{st:STS}{s:MS}(h0:x.at'=6)(hd:dOk (aA x.found 0 12) 0 0 (bif ieq x.p.code 4 then 1 else 0) 5 x.p.val=true):hpF t n x st s=⟨false,{hpR x with at':=0},st,s.cased (aK t n x.u) x.found (aY (aA x.found 0 12) 0 0 (bif ieq x.p.code 4 then 1 else 0) x.p.okk 5 x.p.val)⟩:=by
 unfold hpF zV
 rw [h0]
 show(vO t n x st s).val =_
 unfold vO
 have hd:dOk (aA x.6 0 12) 0 0 (bif ieq (HPS.p x).2 4 then 1 else 0) 5 (HPS.p x).4=true:=hd
 simp only [Tr.val,hd,cond_true]
 rfl
theorem RP{t n:Int}{x:HPS}{st:STS}{s:MS}{w:Int}(h0:x.at'=9)(hc:aS s.xs (aK t n x.u) x.found=true)(hw:(fB x.p.now x.p.code x.p.okk x.p.val x.p.addr x.p.old x.p.nxt x.p.mark x.p.pops (aA x.found 0 12)).1=w):hpF t n x st s=⟨false,{hpR x with at':=0},⟨st.me,bif bM x.kd then 0 else st.sp,st.R⟩,s.cased (aK t n x.u) x.found w⟩:=by
 unfold hpF zV
 rw [h0]
 show(vP t n x st s).val =_
 unfold vP
 have hc':aS s.3 (2*n+5+2*t+3*x.1+2) x.6=true:=hc
 have hw:(fB (HPS.p x).1 (HPS.p x).2 (HPS.p x).3 (HPS.p x).4 (HPS.p x).5 (HPS.p x).6 (HPS.p x).7 (HPS.p x).8 (HPS.p x).9 (aA x.6 0 12)).1=w:=hw
 have hi:bL s.3 (2*n+5+2*t+3*x.1+2)=true:=by
  unfold aS at hc'
  exact(Bool.and_eq_true_iff.1 hc').1
 simp only [Tr.val,hc',hw,hi,cond_true]
 unfold MS.cased MS.did
 simp only [hc,show bL s.xs (aK t n x.u)=true from hi,cond_true]
 cases hl:bM x.8 with
 | true=>simp only [hl,show bM x.kd=true from hl,cond_true]<;>rfl
 | false=>simp only [hl,show bM x.kd=false from hl,cond_false]<;>rfl
theorem N9{code:Int}{okk:Bool}{val addr old nx:Int}{m:Bool}{pops att:Int}(h:dOk att addr (vrW old) nx 2 val=true):(fB false code okk val addr old nx m pops att).1=aY att addr (vrW old) nx m 2 val:=by
 unfold fB sQ
 have h:dOk att addr (aA old 25 18) nx 2 val=true:=h
 simp only [Tr.val,h,cond_true,cond_false]
theorem zP{t n:Int}{x:EXS}{s:MS}(h0:x.at'=0)(ho:x.only=true)(ha:aA (aB s.xs (aK t n x.u)) 0 12=x.att)(k:Int)(hk:aA (aB s.xs (aK t n x.u)) 49 3=k):exF t n x s=
 bif ieq k 2 then⟨false,{x with at':=1,found:=aB s.xs (aK t n x.u) },s.loadd (aK t n x.u)⟩
 else bif ieq k 3 then⟨false,{x with at':=5,found:=aB s.xs (aK t n x.u) },s.loadd (aK t n x.u)⟩
 else bif ieq k 4 then⟨false,{x with at':=8,found:=aB s.xs (aK t n x.u) },s.loadd (aK t n x.u)⟩
 else⟨true,{x with at':=0,found:=aB s.xs (aK t n x.u) },s.loadd (aK t n x.u)⟩:=by
 unfold exF IL
 rw [h0]
 show(u7 t n x s).val =_
 unfold u7
 have ho:x.7=true:=ho
 have ha:aA (aB s.3 (2*n+5+2*t+3*x.3+2)) 0 12=x.8:=ha
 have hk:aA (aB s.3 (2*n+5+2*t+3*x.3+2)) 49 3=k:=hk
 simp only [Tr.val,ho,ha,bH,Bool.not_true,hk,cond_true,cond_false]
 cases h2:ieq k 2 with
 | true=>simp only [h2,cond_true,ho];rw [show x.8=x.att from rfl]at*;rfl
 | false=>
   cases h3:ieq k 3 with
   | true=>simp only [h2,h3,cond_true,cond_false,ho]<;>rfl
   | false=>
     cases h4:ieq k 4 with
     | true=>simp only [h2,h3,h4,cond_true,cond_false,ho]<;>rfl
     | false=>simp only [h2,h3,h4,cond_true,cond_false,ho]<;>rfl
theorem BV{t n:Int}{x:EXS}{s:MS}(h0:x.at'=1)(hv:aA (aB s.xs (aA x.found 12 9)) 25 18=aA x.found 21 18):exF t n x s=
 bif ieq (aA (aB s.xs (aA x.found 12 9)) 20 5) 0 then⟨false,{x with at':=2,word:=aB s.xs (aA x.found 12 9) },s.loadd (aA x.found 12 9)⟩
 else bif ieq (aA (aB s.xs (aA x.found 12 9)) 20 5) (W (x.u+1))then⟨false,{x with at':=3,word:=aB s.xs (aA x.found 12 9) },s.loadd (aA x.found 12 9)⟩
 else⟨false,{x with at':=4,word:=aB s.xs (aA x.found 12 9) },s.loadd (aA x.found 12 9)⟩:=by
 unfold exF IL
 rw [h0]
 show(u9 t n x s).val =_
 unfold u9
 have hv:aA (aB s.3 (aA x.10 12 9)) 25 18=aA x.10 21 18:=hv
 simp only [Tr.val,hv,bH,cond_true]
 show _=bif ieq (aA (aB s.3 (aA x.10 12 9)) 20 5) 0 then _ else bif ieq (aA (aB s.3 (aA x.10 12 9)) 20 5) (W (x.3+1))then _ else _
 cases h2:ieq (aA (aB s.3 (aA x.10 12 9)) 20 5) 0 with
 | true=>rfl
 | false=>cases h3:ieq (aA (aB s.3 (aA x.10 12 9)) 20 5) (W (x.3+1))<;>rfl
theorem MF{t n:Int}{x:EXS}{s:MS}(h0:x.at'=5)(hv:aA (aB s.xs (aA x.found 12 9)) 25 18=aA x.found 21 18)(hc:ieq (aA (aB s.xs (aA x.found 12 9)) 20 5) 0=false)(hc2:ieq (aA (aB s.xs (aA x.found 12 9)) 20 5) (W (x.u+1))=true):exF t n x s=
 ⟨false,{x with at':=6,word:=aB s.xs (aA x.found 12 9) },s.loadd (aA x.found 12 9)⟩:=by
 unfold exF IL
 rw [h0]
 show(vC t n x s).val =_
 unfold vC
 have hv:aA (aB s.3 (aA x.10 12 9)) 25 18=aA x.10 21 18:=hv
 have hc:ieq (aA (aB s.3 (aA x.10 12 9)) 20 5) 0=false:=hc
 have hc2:ieq (aA (aB s.3 (aA x.10 12 9)) 20 5) (W (x.3+1))=true:=hc2
 simp only [Tr.val,hv,hc,hc2,bH,cond_true,cond_false]
 rfl
def clmW(old nx:Int)(m:Bool)(u:Int):Int:=aT (kyW old) nx m (u+1) (vrW old)
theorem DY(old:Int){nx u:Int}(hn:0≤nx∧nx<512)(hu:0≤u∧u<31):okF (kyW old) nx (u+1) (vrW old):=by
 refine⟨?_,hn,⟨by omega,by omega⟩,?_⟩
 ·have:=fS (x:=old) (a:=0) (w:=10);simpa using this
 ·have:=fS (x:=old) (a:=25) (w:=18);simpa using this
theorem ME{t n:Int}{x:EXS}{s:MS}(h0:x.at'=2)(hc:aS s.xs (aA x.found 12 9) x.word=true)(hu:0≤x.u∧x.u<31):exF t n x s=
 ⟨true,{x with popped:=bif dD x.sh x.kd then aA x.word 10 9 else x.popped,at':=2},s.cased (aA x.found 12 9) x.word (clmW x.word (aA x.found 39 9) (ieq (aA x.found 48 1) 1) x.u)⟩:=by
 unfold exF IL
 rw [h0]
 show(vA t n x s).val =_
 unfold vA
 have hc':aS s.3 (aA x.10 12 9) x.11=true:=hc
 have hi:bL s.3 (aA x.10 12 9)=true:=by
  unfold aS at hc'
  exact(Bool.and_eq_true_iff.1 hc').1
 have f1:aH (x.3+1) 5=true:=cL.2 (by have h:=hu;have e:x.3=x.u:=rfl;rw [e];exact⟨by omega,by show x.u+1<32;omega⟩)
 simp only [Tr.val,hc',hi,t8,f1,cond_true]
 unfold MS.cased MS.did
 simp only [hc,show bL s.xs (aA x.found 12 9)=true from hi,cond_true]
 cases hp:dD x.4 x.5 with
 | true=>simp only [hp,show dD x.sh x.kd=true from hp,cond_true]<;>rfl
 | false=>simp only [hp,show dD x.sh x.kd=false from hp,cond_false]<;>rfl
theorem VG{t n:Int}{x:EXS}{s:MS}(h0:x.at'=3)(hd:dOk (aA x.found 0 12) (aA x.found 12 9) (aA x.found 21 18) (aA x.found 39 9) 3 (aA x.found 52 10)=true):exF t n x s=
 ⟨true,{x with at':=3},s.cased (aK t n x.u) x.found (aY (aA x.found 0 12) (aA x.found 12 9) (aA x.found 21 18) (aA x.found 39 9) (ieq (aA x.found 48 1) 1) 3 (aA x.found 52 10))⟩:=by
 unfold exF IL
 rw [h0]
 show(vB t n x s).val =_
 unfold vB
 have hd:dOk (aA x.10 0 12) (aA x.10 12 9) (aA x.10 21 18) (aA x.10 39 9) 3 (aA x.10 52 10)=true:=hd
 simp only [Tr.val,hd,cond_true]
 rfl
theorem QV{t n:Int}{x:EXS}{s:MS}(h0:x.at'=6):exF t n x s=
 ⟨false,{x with at':=7},s.cased (aA x.found 12 9) x.word (chgW x.word (nxW x.word) (mkW x.word))⟩:=by
 unfold exF IL
 rw [h0]
 show(vD t n x s).val =_
 unfold vD
 have f1:aH 0 5=true:=by decide
 simp only [Tr.val,t8,sE,f1,cond_true]
 rfl
theorem VC{t n:Int}{x:EXS}{s:MS}(h0:x.at'=7)(hd:dOk (aA x.found 0 12) 0 0 0 5 (aA x.found 52 10)=true):exF t n x s=
 ⟨true,{x with at':=7},s.cased (aK t n x.u) x.found (aY (aA x.found 0 12) 0 0 0 true 5 (aA x.found 52 10))⟩:=by
 unfold exF IL
 rw [h0]
 show(vE t n x s).val =_
 unfold vE
 have hd:dOk (aA x.10 0 12) 0 0 0 5 (aA x.10 52 10)=true:=hd
 simp only [Tr.val,hd,cond_true]
 rfl
structure HlM (t n u no sh kd ky:Int) (xs:List Int):Prop where
 tick:aB xs (bK t n u)=no
 task:TW sh kd ky (aB xs (bI t n u))
 hu:0≤u∧u<t∧u<31
 hn:1≤n∧n≤500
 len:(xs.length:Int)=2*n+5*t+6
theorem HlM.put{t n u no sh kd ky:Int}{xs:List Int}(h:HlM t n u no sh kd ky xs){a v:Int}(h1:a≠bK t n u)(h2:a≠bI t n u):HlM t n u no sh kd ky (aJ xs a v):=by
 refine⟨?_,?_,h.hu,h.hn,by rw [bO];exact h.len⟩
 ·rw [bG (Ne.symm h1)];exact h.tick
 ·rw [bG (Ne.symm h2)];exact h.task
theorem HlM.congr{t n u no sh kd ky:Int}{xs ys:List Int}(h:HlM t n u no sh kd ky xs)(hl:ys.length=xs.length)(h1:aB ys (bK t n u)=aB xs (bK t n u))(h2:aB ys (bI t n u)=aB xs (bI t n u)):HlM t n u no sh kd ky ys:=
 ⟨h1.trans h.tick,by rw [h2];exact h.task,h.hu,h.hn,by rw [hl];exact h.len⟩
theorem HlM.din{t n u no sh kd ky:Int}{xs:List Int}(h:HlM t n u no sh kd ky xs):0≤aK t n u∧aK t n u<xs.length:=by
 have a:=h.hu;have b:=h.hn;have c:=h.len
 unfold aK;omega
theorem NI{t n:Int}{x:HPS}{st:STS}{s:MS}(h0:x.at'=0)(ht:aB s.xs (bK t n x.u)=x.no)(hp:iO (aA (aB s.xs (aK t n x.u)) 49 3)=true):
 Go1 (hpG t n) 2 (x,st,s) ({hpR x with rounds:=W (x.rounds+1),at':=2,found:=aB s.xs (aK t n x.u) },st,(s.loadd (aK t n x.u)).loadd (bK t n x.u)):=by
 have e1:hpF t n x st s=⟨false,{hpR x with rounds:=W (x.rounds+1),at':=1,found:=aB s.xs (aK t n x.u) },st,s.loadd (aK t n x.u)⟩:=by rw [NF h0,hp];rfl
 have e2:=RS (t:=t) (n:=n) (x:= {hpR x with rounds:=W (x.rounds+1),at':=1,found:=aB s.xs (aK t n x.u) }) (st:=st) (s:=s.loadd (aK t n x.u)) rfl ht
 exact Go1.cons (fZ e1) (Go1.one (fZ e2))
theorem vQ{t n:Int}{x:HPS}{st:STS}{s:MS}{sh kd ky:Int}(h0:x.at'=0)(hm:HlM t n x.u x.no sh kd ky s.xs)(hp:iO (aA (aB s.xs (aK t n x.u)) 49 3)=true)(h1:ieq (aA (aB s.xs (aK t n x.u)) 49 3) 1=false):
 Go1 (hpG t n) 3 (x,st,s) ({hpR x with rounds:=W (x.rounds+1),at':=3,found:=aB s.xs (aK t n x.u),sh:=sh,kd:=kd,ky:=ky,ex:=exNF t n x.u sh kd ky (aA (aB s.xs (aK t n x.u)) 0 12) },st,((s.loadd (aK t n x.u)).loadd (bK t n x.u)).loadd (bI t n x.u)):=by
 have e:=HG (t:=t) (n:=n) (x:= {hpR x with rounds:=W (x.rounds+1),at':=2,found:=aB s.xs (aK t n x.u) }) (st:=st) (s:=(s.loadd (aK t n x.u)).loadd (bK t n x.u)) (sh:=sh) (kd:=kd) (ky:=ky) rfl hm.task
 have e:hpF t n _ _ _=bif !ieq (aA (aB s.xs (aK t n x.u)) 49 3) 1 then _ else _:=e
 rw [h1]at e
 exact(NI h0 hm.tick hp).trans (Go1.one (fZ e))
theorem U6{t n:Int}{x:HPS}{st:STS}{s:MS}{y:EXS}{s':MS}(h0:x.at'=3)(h:exF t n x.ex s=⟨false,y,s'⟩):hpG t n (x,st,s)=(false,({hpR x with at':=3,ex:=y},st,s')):=fZ (Y6 h0 h)
structure DW (att addr ver nxt:Int) (m:Bool) (k val w:Int):Prop where
 eq:w=aY att addr ver nxt m k val
 ok:dOk att addr ver nxt k val=true
theorem W1{u:Int}(h:0≤u∧u<31):W (u+1)=u+1:=cU (by omega)
theorem EN{a b:Int}(h:a≠b):ieq a b=false:=by rw [b9,beq_eq_false_iff_ne];exact h
theorem NG{t n:Int}{x:HPS}{st:STS}{s:MS}{sh kd ky att addr ver nxt val:Int}{m:Bool}(h0:x.at'=0)(hm:HlM t n x.u x.no sh kd ky s.xs)(dw:DW att addr ver nxt m 2 val (aB s.xs (aK t n x.u)))
 (ha:1≤addr∧addr≤n+4) (hv:vrW (aB s.xs addr)=ver) (hc:clW' (aB s.xs addr)=0) (hpo:dD sh kd=true→nxW (aB s.xs addr)≠0):
 ∃x',Go1 (hpG t n) 6 (x,st,s) (x',⟨st.me,st.sp,st.R++(bif dD sh kd then [nxW (aB s.xs addr)]else [])⟩,(((((s.loadd (aK t n x.u)).loadd (bK t n x.u)).loadd (bI t n x.u)).loadd (aK t n x.u)).loadd addr).cased addr (aB s.xs addr) (clmW (aB s.xs addr) nxt m x.u))∧x'.at'=0∧x'.u=x.u∧x'.no=x.no:=by
 obtain⟨d1,d2⟩:=dw
 have hu:=hm.hu
 have k1:aA (aB s.xs (aK t n x.u)) 49 3=2:=by rw [d1];exact pH d2
 have k2:aA (aB s.xs (aK t n x.u)) 12 9=addr:=by rw [d1];exact D3 d2
 have k3:aA (aB s.xs (aK t n x.u)) 21 18=ver:=by rw [d1];exact D4 d2
 have k4:aA (aB s.xs (aK t n x.u)) 39 9=nxt:=by rw [d1];exact LS d2
 have k5:ieq (aA (aB s.xs (aK t n x.u)) 48 1) 1=m:=by rw [d1,LU d2];cases m<;>rfl
 have g1:=vQ (st:=st) h0 hm (by rw [k1];rfl) (by rw [k1];rfl)
 generalize hD:aK t n x.u=D at*
 generalize hW:aB s.xs D=w at*
 have hain:0≤addr∧addr<s.xs.length:=by have:=hm.len;have:=hm.hn;omega
 have e1:=zP (t:=t) (n:=n) (x:=exNF t n x.u sh kd ky (aA w 0 12)) (s:=((s.loadd D).loadd (bK t n x.u)).loadd (bI t n x.u)) rfl rfl (by show aA (aB s.xs (aK t n x.u)) 0 12=aA w 0 12;rw [hD,hW]) 2 (by show aA (aB s.xs (aK t n x.u)) 49 3=2;rw [hD,hW];exact k1)
 have e1:exF t n (exNF t n x.u sh kd ky (aA w 0 12)) (((s.loadd D).loadd (bK t n x.u)).loadd (bI t n x.u))=⟨false,{exNF t n x.u sh kd ky (aA w 0 12)with at':=1,found:=w},(((s.loadd D).loadd (bK t n x.u)).loadd (bI t n x.u)).loadd D⟩:=by
  rw [e1]
  show(⟨false,{exNF t n x.u sh kd ky (aA w 0 12)with at':=1,found:=aB s.xs (aK t n x.u) },(((s.loadd D).loadd (bK t n x.u)).loadd (bI t n x.u)).loadd (aK t n x.u)⟩:ExO)=_
  rw [hD,hW]
 have e2:=BV (t:=t) (n:=n) (x:= {exNF t n x.u sh kd ky (aA w 0 12)with at':=1,found:=w}) (s:=(((s.loadd D).loadd (bK t n x.u)).loadd (bI t n x.u)).loadd D) rfl (by show aA (aB s.xs (aA w 12 9)) 25 18=aA w 21 18;rw [k2,k3];exact hv)
 have e2:exF t n {exNF t n x.u sh kd ky (aA w 0 12)with at':=1,found:=w} ((((s.loadd D).loadd (bK t n x.u)).loadd (bI t n x.u)).loadd D)=⟨false,{exNF t n x.u sh kd ky (aA w 0 12)with at':=2,found:=w,word:=aB s.xs addr},((((s.loadd D).loadd (bK t n x.u)).loadd (bI t n x.u)).loadd D).loadd addr⟩:=by
  rw [e2]
  show(bif ieq (aA (aB s.xs (aA w 12 9)) 20 5) 0 then(⟨false,{exNF t n x.u sh kd ky (aA w 0 12)with at':=2,found:=w,word:=aB s.xs (aA w 12 9) },((((s.loadd D).loadd (bK t n x.u)).loadd (bI t n x.u)).loadd D).loadd (aA w 12 9)⟩:ExO)else _)=_
  rw [k2,show aA (aB s.xs addr) 20 5=0 from hc,bH];rfl
 have e3:=ME (t:=t) (n:=n) (x:= {exNF t n x.u sh kd ky (aA w 0 12)with at':=2,found:=w,word:=aB s.xs addr}) (s:=((((s.loadd D).loadd (bK t n x.u)).loadd (bI t n x.u)).loadd D).loadd addr) rfl (by show aS s.xs (aA w 12 9) (aB s.xs addr)=true;rw [k2];exact eU hain rfl) ⟨hu.1,hu.2.2⟩
 have e3:exF t n {exNF t n x.u sh kd ky (aA w 0 12)with at':=2,found:=w,word:=aB s.xs addr} (((((s.loadd D).loadd (bK t n x.u)).loadd (bI t n x.u)).loadd D).loadd addr)=⟨true,{exNF t n x.u sh kd ky (aA w 0 12)with at':=2,found:=w,word:=aB s.xs addr,popped:=bif dD sh kd then nxW (aB s.xs addr)else 0},(((((s.loadd D).loadd (bK t n x.u)).loadd (bI t n x.u)).loadd D).loadd addr).cased addr (aB s.xs addr) (clmW (aB s.xs addr) nxt m x.u)⟩:=by
  rw [e3]
  show(⟨true,{exNF t n x.u sh kd ky (aA w 0 12)with at':=2,found:=w,word:=aB s.xs addr,popped:=bif dD sh kd then nxW (aB s.xs addr)else 0},(((((s.loadd D).loadd (bK t n x.u)).loadd (bI t n x.u)).loadd D).loadd addr).cased (aA w 12 9) (aB s.xs addr) (clmW (aB s.xs addr) (aA w 39 9) (ieq (aA w 48 1) 1) x.u)⟩:ExO)=_
  rw [k2,k4,k5]
 let y:HPS:= {hpR x with rounds:=W (x.rounds+1),at':=3,found:=w,sh:=sh,kd:=kd,ky:=ky}
 have h1:hpG t n ({y with ex:=exNF t n x.u sh kd ky (aA w 0 12) },st,_)=_:=U6 (x:= {y with ex:=exNF t n x.u sh kd ky (aA w 0 12) }) (st:=st) rfl e1
 have h2:hpG t n ({y with ex:= {exNF t n x.u sh kd ky (aA w 0 12)with at':=1,found:=w} },st,_)=_:=U6 (x:= {y with ex:= {exNF t n x.u sh kd ky (aA w 0 12)with at':=1,found:=w} }) (st:=st) rfl e2
 have h3:=fZ (EM (t:=t) (n:=n) (x:= {y with ex:= {exNF t n x.u sh kd ky (aA w 0 12)with at':=2,found:=w,word:=aB s.xs addr} }) (st:=st) rfl e3)
 have hst:(⟨st.me,st.sp,bif ieq (bif dD sh kd then nxW (aB s.xs addr)else 0) 0 then st.R else st.R++ [bif dD sh kd then nxW (aB s.xs addr)else 0]⟩:STS)=⟨st.me,st.sp,st.R++(bif dD sh kd then [nxW (aB s.xs addr)]else [])⟩:=by
  cases hq:dD sh kd with
  | true=>simp only [cond_true,EN (hpo hq),cond_false]
  | false=>simp only [cond_false,bH,cond_true,List.append_nil]
 have h3:hpG t n _=(false,(_,(⟨st.me,st.sp,bif ieq (bif dD sh kd then nxW (aB s.xs addr)else 0) 0 then st.R else st.R++ [bif dD sh kd then nxW (aB s.xs addr)else 0]⟩:STS),_)):=h3
 rw [hst]at h3
 exact⟨_,g1.trans (Go1.cons h1 (Go1.cons h2 (Go1.one h3))),rfl,rfl,rfl⟩
theorem WN{t n:Int}{x:HPS}{st:STS}{s:MS}{sh kd ky att addr ver nxt val:Int}{m:Bool}(h0:x.at'=0)(hm:HlM t n x.u x.no sh kd ky s.xs)(dw:DW att addr ver nxt m 2 val (aB s.xs (aK t n x.u)))
 (hv:vrW (aB s.xs addr)=ver) (hc:clW' (aB s.xs addr)=x.u+1) (hd3:dOk att addr ver nxt 3 val=true):
 ∃x',Go1 (hpG t n) 6 (x,st,s) (x',st,(((((s.loadd (aK t n x.u)).loadd (bK t n x.u)).loadd (bI t n x.u)).loadd (aK t n x.u)).loadd addr).cased (aK t n x.u) (aB s.xs (aK t n x.u)) (aY att addr ver nxt m 3 val))∧x'.at'=0∧x'.u=x.u∧x'.no=x.no:=by
 obtain⟨d1,d2⟩:=dw
 have hu:=hm.hu
 have k0:aA (aB s.xs (aK t n x.u)) 0 12=att:=by rw [d1];exact D0 d2
 have k1:aA (aB s.xs (aK t n x.u)) 49 3=2:=by rw [d1];exact pH d2
 have k2:aA (aB s.xs (aK t n x.u)) 12 9=addr:=by rw [d1];exact D3 d2
 have k3:aA (aB s.xs (aK t n x.u)) 21 18=ver:=by rw [d1];exact D4 d2
 have k4:aA (aB s.xs (aK t n x.u)) 39 9=nxt:=by rw [d1];exact LS d2
 have k5:ieq (aA (aB s.xs (aK t n x.u)) 48 1) 1=m:=by rw [d1,LU d2];cases m<;>rfl
 have k6:aA (aB s.xs (aK t n x.u)) 52 10=val:=by rw [d1];exact LT d2
 have g1:=vQ (st:=st) h0 hm (by rw [k1];rfl) (by rw [k1];rfl)
 generalize hD:aK t n x.u=D at*
 generalize hW:aB s.xs D=w at*
 have e1:=zP (t:=t) (n:=n) (x:=exNF t n x.u sh kd ky (aA w 0 12)) (s:=((s.loadd D).loadd (bK t n x.u)).loadd (bI t n x.u)) rfl rfl (by show aA (aB s.xs (aK t n x.u)) 0 12=aA w 0 12;rw [hD,hW]) 2 (by show aA (aB s.xs (aK t n x.u)) 49 3=2;rw [hD,hW];exact k1)
 have e1:exF t n (exNF t n x.u sh kd ky (aA w 0 12)) (((s.loadd D).loadd (bK t n x.u)).loadd (bI t n x.u))=⟨false,{exNF t n x.u sh kd ky (aA w 0 12)with at':=1,found:=w},(((s.loadd D).loadd (bK t n x.u)).loadd (bI t n x.u)).loadd D⟩:=by
  rw [e1]
  show(⟨false,{exNF t n x.u sh kd ky (aA w 0 12)with at':=1,found:=aB s.xs (aK t n x.u) },(((s.loadd D).loadd (bK t n x.u)).loadd (bI t n x.u)).loadd (aK t n x.u)⟩:ExO)=_
  rw [hD,hW]
 have e2:=BV (t:=t) (n:=n) (x:= {exNF t n x.u sh kd ky (aA w 0 12)with at':=1,found:=w}) (s:=(((s.loadd D).loadd (bK t n x.u)).loadd (bI t n x.u)).loadd D) rfl (by show aA (aB s.xs (aA w 12 9)) 25 18=aA w 21 18;rw [k2,k3];exact hv)
 have e2:exF t n {exNF t n x.u sh kd ky (aA w 0 12)with at':=1,found:=w} ((((s.loadd D).loadd (bK t n x.u)).loadd (bI t n x.u)).loadd D)=⟨false,{exNF t n x.u sh kd ky (aA w 0 12)with at':=3,found:=w,word:=aB s.xs addr},((((s.loadd D).loadd (bK t n x.u)).loadd (bI t n x.u)).loadd D).loadd addr⟩:=by
  rw [e2]
  show(bif ieq (aA (aB s.xs (aA w 12 9)) 20 5) 0 then _ else bif ieq (aA (aB s.xs (aA w 12 9)) 20 5) (W (x.u+1))then(⟨false,{exNF t n x.u sh kd ky (aA w 0 12)with at':=3,found:=w,word:=aB s.xs (aA w 12 9) },((((s.loadd D).loadd (bK t n x.u)).loadd (bI t n x.u)).loadd D).loadd (aA w 12 9)⟩:ExO)else _)=_
  rw [k2,show aA (aB s.xs addr) 20 5=x.u+1 from hc,W1 ⟨hu.1,hu.2.2⟩,bH,EN (show x.u+1≠0 by omega)];rfl
 have e3:=VG (t:=t) (n:=n) (x:= {exNF t n x.u sh kd ky (aA w 0 12)with at':=3,found:=w,word:=aB s.xs addr}) (s:=((((s.loadd D).loadd (bK t n x.u)).loadd (bI t n x.u)).loadd D).loadd addr) rfl (by show dOk (aA w 0 12) (aA w 12 9) (aA w 21 18) (aA w 39 9) 3 (aA w 52 10)=true;rw [k0,k2,k3,k4,k6];exact hd3)
 have e3:exF t n {exNF t n x.u sh kd ky (aA w 0 12)with at':=3,found:=w,word:=aB s.xs addr} (((((s.loadd D).loadd (bK t n x.u)).loadd (bI t n x.u)).loadd D).loadd addr)=⟨true,{exNF t n x.u sh kd ky (aA w 0 12)with at':=3,found:=w,word:=aB s.xs addr},(((((s.loadd D).loadd (bK t n x.u)).loadd (bI t n x.u)).loadd D).loadd addr).cased D w (aY att addr ver nxt m 3 val)⟩:=by
  rw [e3]
  show(⟨true,{exNF t n x.u sh kd ky (aA w 0 12)with at':=3,found:=w,word:=aB s.xs addr},(((((s.loadd D).loadd (bK t n x.u)).loadd (bI t n x.u)).loadd D).loadd addr).cased (aK t n x.u) w (aY (aA w 0 12) (aA w 12 9) (aA w 21 18) (aA w 39 9) (ieq (aA w 48 1) 1) 3 (aA w 52 10))⟩:ExO)=_
  rw [k0,k2,k3,k4,k5,k6,hD]
 let y:HPS:= {hpR x with rounds:=W (x.rounds+1),at':=3,found:=w,sh:=sh,kd:=kd,ky:=ky}
 have h1:hpG t n ({y with ex:=exNF t n x.u sh kd ky (aA w 0 12) },st,_)=_:=U6 (x:= {y with ex:=exNF t n x.u sh kd ky (aA w 0 12) }) (st:=st) rfl e1
 have h2:hpG t n ({y with ex:= {exNF t n x.u sh kd ky (aA w 0 12)with at':=1,found:=w} },st,_)=_:=U6 (x:= {y with ex:= {exNF t n x.u sh kd ky (aA w 0 12)with at':=1,found:=w} }) (st:=st) rfl e2
 have h3:=fZ (EM (t:=t) (n:=n) (x:= {y with ex:= {exNF t n x.u sh kd ky (aA w 0 12)with at':=3,found:=w,word:=aB s.xs addr} }) (st:=st) rfl e3)
 have h3:hpG t n _=(false,(_,st,_)):=h3
 exact⟨_,g1.trans (Go1.cons h1 (Go1.cons h2 (Go1.one h3))),rfl,rfl,rfl⟩
theorem RO{t n:Int}{x:HPS}{st:STS}{s:MS}{sh kd ky att addr ver nxt val:Int}{m:Bool}(h0:x.at'=0)(hm:HlM t n x.u x.no sh kd ky s.xs)(dw:DW att addr ver nxt m 3 val (aB s.xs (aK t n x.u)))
 (hv:vrW (aB s.xs addr)=ver) (hc:clW' (aB s.xs addr)=x.u+1) (hd5:dOk att 0 0 0 5 val=true):
 ∃x',Go1 (hpG t n) 7 (x,st,s) (x',st,((((((s.loadd (aK t n x.u)).loadd (bK t n x.u)).loadd (bI t n x.u)).loadd (aK t n x.u)).loadd addr).cased addr (aB s.xs addr) (chgW (aB s.xs addr) (nxW (aB s.xs addr)) (mkW (aB s.xs addr)))).cased (aK t n x.u) (aB s.xs (aK t n x.u)) (aY att 0 0 0 true 5 val))∧x'.at'=0∧x'.u=x.u∧x'.no=x.no:=by
 obtain⟨d1,d2⟩:=dw
 have hu:=hm.hu
 have k0:aA (aB s.xs (aK t n x.u)) 0 12=att:=by rw [d1];exact D0 d2
 have k1:aA (aB s.xs (aK t n x.u)) 49 3=3:=by rw [d1];exact pH d2
 have k2:aA (aB s.xs (aK t n x.u)) 12 9=addr:=by rw [d1];exact D3 d2
 have k3:aA (aB s.xs (aK t n x.u)) 21 18=ver:=by rw [d1];exact D4 d2
 have k6:aA (aB s.xs (aK t n x.u)) 52 10=val:=by rw [d1];exact LT d2
 have g1:=vQ (st:=st) h0 hm (by rw [k1];rfl) (by rw [k1];rfl)
 generalize hD:aK t n x.u=D at*
 generalize hW:aB s.xs D=w at*
 have e1:=zP (t:=t) (n:=n) (x:=exNF t n x.u sh kd ky (aA w 0 12)) (s:=((s.loadd D).loadd (bK t n x.u)).loadd (bI t n x.u)) rfl rfl (by show aA (aB s.xs (aK t n x.u)) 0 12=aA w 0 12;rw [hD,hW]) 3 (by show aA (aB s.xs (aK t n x.u)) 49 3=3;rw [hD,hW];exact k1)
 have e1:exF t n (exNF t n x.u sh kd ky (aA w 0 12)) (((s.loadd D).loadd (bK t n x.u)).loadd (bI t n x.u))=⟨false,{exNF t n x.u sh kd ky (aA w 0 12)with at':=5,found:=w},(((s.loadd D).loadd (bK t n x.u)).loadd (bI t n x.u)).loadd D⟩:=by
  rw [e1]
  show(⟨false,{exNF t n x.u sh kd ky (aA w 0 12)with at':=5,found:=aB s.xs (aK t n x.u) },(((s.loadd D).loadd (bK t n x.u)).loadd (bI t n x.u)).loadd (aK t n x.u)⟩:ExO)=_
  rw [hD,hW]
 have e2:=MF (t:=t) (n:=n) (x:= {exNF t n x.u sh kd ky (aA w 0 12)with at':=5,found:=w}) (s:=(((s.loadd D).loadd (bK t n x.u)).loadd (bI t n x.u)).loadd D) rfl (by show aA (aB s.xs (aA w 12 9)) 25 18=aA w 21 18;rw [k2,k3];exact hv) (by show ieq (aA (aB s.xs (aA w 12 9)) 20 5) 0=false;rw [k2,show aA (aB s.xs addr) 20 5=x.u+1 from hc];exact EN (by omega)) (by show ieq (aA (aB s.xs (aA w 12 9)) 20 5) (W (x.u+1))=true;rw [k2,show aA (aB s.xs addr) 20 5=x.u+1 from hc,W1 ⟨hu.1,hu.2.2⟩,bH])
 have e2:exF t n {exNF t n x.u sh kd ky (aA w 0 12)with at':=5,found:=w} ((((s.loadd D).loadd (bK t n x.u)).loadd (bI t n x.u)).loadd D)=⟨false,{exNF t n x.u sh kd ky (aA w 0 12)with at':=6,found:=w,word:=aB s.xs addr},((((s.loadd D).loadd (bK t n x.u)).loadd (bI t n x.u)).loadd D).loadd addr⟩:=by
  rw [e2]
  show(⟨false,{exNF t n x.u sh kd ky (aA w 0 12)with at':=6,found:=w,word:=aB s.xs (aA w 12 9) },((((s.loadd D).loadd (bK t n x.u)).loadd (bI t n x.u)).loadd D).loadd (aA w 12 9)⟩:ExO)=_
  rw [k2]
 have e3:=QV (t:=t) (n:=n) (x:= {exNF t n x.u sh kd ky (aA w 0 12)with at':=6,found:=w,word:=aB s.xs addr}) (s:=((((s.loadd D).loadd (bK t n x.u)).loadd (bI t n x.u)).loadd D).loadd addr) rfl
 have e3:exF t n {exNF t n x.u sh kd ky (aA w 0 12)with at':=6,found:=w,word:=aB s.xs addr} (((((s.loadd D).loadd (bK t n x.u)).loadd (bI t n x.u)).loadd D).loadd addr)=⟨false,{exNF t n x.u sh kd ky (aA w 0 12)with at':=7,found:=w,word:=aB s.xs addr},(((((s.loadd D).loadd (bK t n x.u)).loadd (bI t n x.u)).loadd D).loadd addr).cased addr (aB s.xs addr) (chgW (aB s.xs addr) (nxW (aB s.xs addr)) (mkW (aB s.xs addr)))⟩:=by
  rw [e3]
  show(⟨false,{exNF t n x.u sh kd ky (aA w 0 12)with at':=7,found:=w,word:=aB s.xs addr},(((((s.loadd D).loadd (bK t n x.u)).loadd (bI t n x.u)).loadd D).loadd addr).cased (aA w 12 9) (aB s.xs addr) (chgW (aB s.xs addr) (nxW (aB s.xs addr)) (mkW (aB s.xs addr)))⟩:ExO)=_
  rw [k2]
 have e4:=VC (t:=t) (n:=n) (x:= {exNF t n x.u sh kd ky (aA w 0 12)with at':=7,found:=w,word:=aB s.xs addr}) (s:=(((((s.loadd D).loadd (bK t n x.u)).loadd (bI t n x.u)).loadd D).loadd addr).cased addr (aB s.xs addr) (chgW (aB s.xs addr) (nxW (aB s.xs addr)) (mkW (aB s.xs addr)))) rfl (by show dOk (aA w 0 12) 0 0 0 5 (aA w 52 10)=true;rw [k0,k6];exact hd5)
 have e4:exF t n {exNF t n x.u sh kd ky (aA w 0 12)with at':=7,found:=w,word:=aB s.xs addr} ((((((s.loadd D).loadd (bK t n x.u)).loadd (bI t n x.u)).loadd D).loadd addr).cased addr (aB s.xs addr) (chgW (aB s.xs addr) (nxW (aB s.xs addr)) (mkW (aB s.xs addr))))=⟨true,{exNF t n x.u sh kd ky (aA w 0 12)with at':=7,found:=w,word:=aB s.xs addr},((((((s.loadd D).loadd (bK t n x.u)).loadd (bI t n x.u)).loadd D).loadd addr).cased addr (aB s.xs addr) (chgW (aB s.xs addr) (nxW (aB s.xs addr)) (mkW (aB s.xs addr)))).cased D w (aY att 0 0 0 true 5 val)⟩:=by
  rw [e4]
  show(⟨true,{exNF t n x.u sh kd ky (aA w 0 12)with at':=7,found:=w,word:=aB s.xs addr},((((((s.loadd D).loadd (bK t n x.u)).loadd (bI t n x.u)).loadd D).loadd addr).cased addr (aB s.xs addr) (chgW (aB s.xs addr) (nxW (aB s.xs addr)) (mkW (aB s.xs addr)))).cased (aK t n x.u) w (aY (aA w 0 12) 0 0 0 true 5 (aA w 52 10))⟩:ExO)=_
  rw [k0,k6,hD]
 let y:HPS:= {hpR x with rounds:=W (x.rounds+1),at':=3,found:=w,sh:=sh,kd:=kd,ky:=ky}
 have h1:hpG t n ({y with ex:=exNF t n x.u sh kd ky (aA w 0 12) },st,_)=_:=U6 (x:= {y with ex:=exNF t n x.u sh kd ky (aA w 0 12) }) (st:=st) rfl e1
 have h2:hpG t n ({y with ex:= {exNF t n x.u sh kd ky (aA w 0 12)with at':=5,found:=w} },st,_)=_:=U6 (x:= {y with ex:= {exNF t n x.u sh kd ky (aA w 0 12)with at':=5,found:=w} }) (st:=st) rfl e2
 have h3:hpG t n ({y with ex:= {exNF t n x.u sh kd ky (aA w 0 12)with at':=6,found:=w,word:=aB s.xs addr} },st,_)=_:=U6 (x:= {y with ex:= {exNF t n x.u sh kd ky (aA w 0 12)with at':=6,found:=w,word:=aB s.xs addr} }) (st:=st) rfl e3
 have h4:=fZ (EM (t:=t) (n:=n) (x:= {y with ex:= {exNF t n x.u sh kd ky (aA w 0 12)with at':=7,found:=w,word:=aB s.xs addr} }) (st:=st) rfl e4)
 have h4:hpG t n _=(false,(_,st,_)):=h4
 exact⟨_,g1.trans (Go1.cons h1 (Go1.cons h2 (Go1.cons h3 (Go1.one h4)))),rfl,rfl,rfl⟩
theorem zW{t n:Int}{x:HPS}{st:STS}{s:MS}(h0:x.at'=0)(hp:iO (aA (aB s.xs (aK t n x.u)) 49 3)=false): ∃z,End (hpG t n) 1 (x,st,s) (z,st,s.loadd (aK t n x.u)):=by
 have e:hpF t n x st s=⟨true,{hpR x with rounds:=W (x.rounds+1),at':=1,found:=aB s.xs (aK t n x.u) },st,s.loadd (aK t n x.u)⟩:=by rw [NF h0,hp];rfl
 exact⟨_,End.one (fZ e)⟩
structure PQ (att addr old nxt:Int) (m:Bool) (val:Int):Prop where
 a:0≤att∧att<4096
 b:1≤addr∧addr<512
 n:0≤nxt∧nxt<512
 v:0≤val∧val<1024
 c:clW' old=0
theorem PQ.dk{att addr old nxt val:Int}{m:Bool}(h:PQ att addr old nxt m val)(k:Int)(hk:0≤k∧k<8):dOk att addr (vrW old) nxt k val=true:=by
 unfold dOk
 rw [cL.2 (show 0≤att∧att<2^(12:Int).toNat from h.a),cL.2 (show 0≤addr∧addr<2^(9:Int).toNat from⟨by have:=h.b;omega,h.b.2⟩),t8,cL.2 (show 0≤nxt∧nxt<2^(9:Int).toNat from h.n),cL.2 (show 0≤k∧k<2^(3:Int).toNat from hk),cL.2 (show 0≤val∧val<2^(10:Int).toNat from h.v)]
 rfl
theorem PQ.d5{att addr old nxt val:Int}{m:Bool}(h:PQ att addr old nxt m val):dOk att 0 0 0 5 val=true:=by
 unfold dOk
 rw [cL.2 (show 0≤att∧att<2^(12:Int).toNat from h.a),cL.2 (show 0≤val∧val<2^(10:Int).toNat from h.v)]
 rfl
structure C8 (D addr w v c0:Int) (s s':MS):Prop where
 d:aB s'.xs D=w
 a:aB s'.xs addr=v
 o: ∀x,x≠D→x≠addr→aB s'.xs x=aB s.xs x
 len:s'.xs.length=s.xs.length
 c:s'.c=s.c+c0
 t:s'.t=s.t
 n:s'.n=s.n
 okw:okW s.xs→okW s'.xs
theorem C8.trans{D addr w v w' v' c0 c1:Int}{a b c:MS}(h:C8 D addr w v c0 a b)(g:C8 D addr w' v' c1 b c):C8 D addr w' v' (c0+c1) a c:=
 ⟨g.d,g.a,fun x h1 h2=>(g.o x h1 h2).trans (h.o x h1 h2),g.len.trans h.len,by rw [g.c,h.c];omega,g.t.trans h.t,g.n.trans h.n,fun q=>g.okw (h.okw q)⟩
theorem C8.hm{t n u no sh kd ky addr w v c0:Int}{s s':MS}(h:C8 (aK t n u) addr w v c0 s s')(hm:HlM t n u no sh kd ky s.xs)(had:1≤addr∧addr≤n+4):HlM t n u no sh kd ky s'.xs:=by
 have hu:=hm.hu
 have hn:=hm.hn
 refine hm.congr h.len (h.o _ ?_ ?_) (h.o _ ?_ ?_)
 ·unfold aK bK;omega
 ·unfold bK;omega
 ·unfold aK bI;omega
 ·unfold bI;omega
theorem HY{D addr w w' v c0:Int}{s l:MS}(hl:l.xs=s.xs)(hc:l.c=s.c+c0)(ht:l.t=s.t)(hn:l.n=s.n)(hD:0≤D∧D<s.xs.length)(hda:D≠addr)(hd:aB s.xs D=w)(ha:aB s.xs addr=v)(hr:0≤w'∧w'≤18446744073709551615):C8 D addr w' v (c0+1) s (l.cased D w w'):=by
 have hcas:aS l.xs D w=true:=by rw [hl];exact eU hD hd
 have hx:(l.cased D w w').xs =aJ s.xs D w':=(iH hcas).trans (by rw [hl])
 refine⟨by rw [hx,dC hD],by rw [hx,bG (Ne.symm hda)];exact ha,fun x h1 _=>by rw [hx,bG h1],by rw [hx,bO],?_,ht,hn,fun q=>by rw [hx];exact dQ q hr⟩
 show l.c+1=_
 rw [hc];omega
theorem T4{D addr w v v' c0:Int}{s l:MS}(hl:l.xs=s.xs)(hc:l.c=s.c+c0)(ht:l.t=s.t)(hn:l.n=s.n)(hA:0≤addr∧addr<s.xs.length)(hda:D≠addr)(hd:aB s.xs D=w)(ha:aB s.xs addr=v)(hr:0≤v'∧v'≤18446744073709551615):C8 D addr w v' (c0+1) s (l.cased addr v v'):=by
 have hcas:aS l.xs addr v=true:=by rw [hl];exact eU hA ha
 have hx:(l.cased addr v v').xs =aJ s.xs addr v':=(iH hcas).trans (by rw [hl])
 refine⟨by rw [hx,bG hda];exact hd,by rw [hx,dC hA],fun x _ h2=>by rw [hx,bG h2],by rw [hx,bO],?_,ht,hn,fun q=>by rw [hx];exact dQ q hr⟩
 show l.c+1=_
 rw [hc];omega
theorem C8.ld{D addr w v c0:Int}{s s':MS}(h:C8 D addr w v c0 s s')(a:Int):C8 D addr w v (c0+1) s (s'.loadd a):=
 ⟨h.d,h.a,h.o,h.len,by show s'.c+1=_;rw [h.c];omega,h.t,h.n,h.okw⟩
theorem qD{t n u addr:Int}(hu:0≤u∧u<t)(hn:1≤n)(had:addr≤n+4):aK t n u≠addr:=by unfold aK;omega
def P1(kd sh old:Int)(st:STS):STS:=⟨st.me,st.sp,st.R++(bif dD sh kd then [nxW old]else [])⟩
theorem O1{t n u no sh kd ky att addr old nxt val:Int}{m:Bool}{s:MS}(hm:HlM t n u no sh kd ky s.xs)(pq:PQ att addr old nxt m val)(had:addr≤n+4)(hd:aB s.xs (aK t n u)=aY att addr (vrW old) nxt m 2 val)(ho:aB s.xs addr=old)(hpo:dD sh kd=true→nxW old≠0):
 ∃s',C8 (aK t n u) addr (aY att addr (vrW old) nxt m 2 val) (clmW old nxt m u) 6 s s'∧ ∀(x:HPS) (st:STS),x.at'=0→x.u=u→x.no=no→ ∃x':HPS,Go1 (hpG t n) 6 (x,st,s) (x',P1 kd sh old st,s')∧x'.at'=0∧x'.u=u∧x'.no=no:=by
 have hu:=hm.hu
 have hn:=hm.hn
 have hl:=hm.len
 have hb:=pq.b
 refine⟨_,T4 (s:=s) (l:=((((s.loadd (aK t n u)).loadd (bK t n u)).loadd (bI t n u)).loadd (aK t n u)).loadd addr) (c0:=5) (v:=old) (v':=clmW old nxt m u) rfl (by show s.c+1+1+1+1+1=s.c+5;omega) rfl rfl (by omega) (qD ⟨hu.1,hu.2.1⟩ hn.1 had) hd ho (iC (DY old pq.n ⟨hu.1,hu.2.2⟩)),fun x st h0 e1 e2=>?_⟩
 subst e1 e2 ho
 obtain⟨x1,g,q1,q2,q3⟩:=NG (st:=st) (sh:=sh) (kd:=kd) (ky:=ky) h0 hm ⟨hd,pq.dk 2 (by decide)⟩ ⟨hb.1,had⟩ rfl pq.c hpo
 exact⟨x1,g,q1,q2,q3⟩
theorem XU{t n u no sh kd ky att addr old nxt val:Int}{m:Bool}{s:MS}(hm:HlM t n u no sh kd ky s.xs)(pq:PQ att addr old nxt m val)(had:addr≤n+4)(hd:aB s.xs (aK t n u)=aY att addr (vrW old) nxt m 2 val)(ho:aB s.xs addr=clmW old nxt m u):
 ∃s',C8 (aK t n u) addr (aY att addr (vrW old) nxt m 3 val) (clmW old nxt m u) 6 s s'∧ ∀(x:HPS) (st:STS),x.at'=0→x.u=u→x.no=no→ ∃x':HPS,Go1 (hpG t n) 6 (x,st,s) (x',st,s')∧x'.at'=0∧x'.u=u∧x'.no=no:=by
 have hu:=hm.hu
 have hn:=hm.hn
 have cw:=DY old pq.n ⟨hu.1,hu.2.2⟩
 refine⟨_,HY (s:=s) (l:=((((s.loadd (aK t n u)).loadd (bK t n u)).loadd (bI t n u)).loadd (aK t n u)).loadd addr) (c0:=5) (w:=aY att addr (vrW old) nxt m 2 val) (w':=aY att addr (vrW old) nxt m 3 val) rfl (by show s.c+1+1+1+1+1=s.c+5;omega) rfl rfl hm.din (qD ⟨hu.1,hu.2.1⟩ hn.1 had) hd ho (m7 (pq.dk 3 (by decide))),fun x st h0 e1 e2=>?_⟩
 subst e1 e2
 obtain⟨x1,g,q1,q2,q3⟩:=WN (st:=st) (sh:=sh) (kd:=kd) (ky:=ky) (addr:=addr) (ver:=vrW old) h0 hm ⟨hd,pq.dk 2 (by decide)⟩ (by rw [ho];exact LQ cw) (by rw [ho];exact mY cw) (pq.dk 3 (by decide))
 rw [hd]at g
 exact⟨x1,g,q1,q2,q3⟩
theorem SR{t n u no sh kd ky att addr old nxt val:Int}{m:Bool}{s:MS}(hm:HlM t n u no sh kd ky s.xs)(pq:PQ att addr old nxt m val)(had:addr≤n+4)(hd:aB s.xs (aK t n u)=aY att addr (vrW old) nxt m 3 val)(ho:aB s.xs addr=clmW old nxt m u):
 ∃s',C8 (aK t n u) addr (aY att 0 0 0 true 5 val) (chgW old nxt m) 7 s s'∧ ∀(x:HPS) (st:STS),x.at'=0→x.u=u→x.no=no→ ∃x':HPS,Go1 (hpG t n) 7 (x,st,s) (x',st,s')∧x'.at'=0∧x'.u=u∧x'.no=no:=by
 have hu:=hm.hu
 have hn:=hm.hn
 have hl:=hm.len
 have hb:=pq.b
 have cw:=DY old pq.n ⟨hu.1,hu.2.2⟩
 have ef:chgW (clmW old nxt m u) (nxW (clmW old nxt m u)) (mkW (clmW old nxt m u))=chgW old nxt m:=by
  have e1:kyW (clmW old nxt m u)=kyW old:=s9 cw
  have e2:nxW (clmW old nxt m u)=nxt:=qA cw
  have e3:mkW (clmW old nxt m u)=m:=mZ cw
  have e4:vrW (clmW old nxt m u)=vrW old:=LQ cw
  unfold chgW
  rw [e1,e2,e3,e4]
 have S1:=T4 (D:=aK t n u) (s:=s) (l:=((((s.loadd (aK t n u)).loadd (bK t n u)).loadd (bI t n u)).loadd (aK t n u)).loadd addr) (c0:=5) (v:=clmW old nxt m u) (v':=chgW old nxt m) rfl (by show s.c+1+1+1+1+1=s.c+5;omega) rfl rfl (by omega) (qD ⟨hu.1,hu.2.1⟩ hn.1 had) hd ho (iC (zC old pq.n))
 have S2:=HY (D:=aK t n u) (addr:=addr) (s:=(((((s.loadd (aK t n u)).loadd (bK t n u)).loadd (bI t n u)).loadd (aK t n u)).loadd addr).cased addr (clmW old nxt m u) (chgW old nxt m)) (c0:=0) (w':=aY att 0 0 0 true 5 val) rfl (by omega) rfl rfl (by rw [S1.len];exact hm.din) (qD ⟨hu.1,hu.2.1⟩ hn.1 had) S1.d S1.a (m7 pq.d5)
 refine⟨_,S1.trans S2,fun x st h0 e1 e2=>?_⟩
 clear S1 S2
 subst e1 e2
 obtain⟨x1,g,q1,q2,q3⟩:=RO (st:=st) (sh:=sh) (kd:=kd) (ky:=ky) (addr:=addr) (ver:=vrW old) h0 hm ⟨hd,pq.dk 3 (by decide)⟩ (by rw [ho];exact LQ cw) (by rw [ho];exact mY cw) pq.d5
 rw [hd,ho,ef]at g
 exact⟨x1,g,q1,q2,q3⟩
theorem RQ{t n u no sh kd ky att addr old nxt val w1:Int}{m:Bool}{s:MS}(ha1:aA w1 0 12=att)(hm:HlM t n u no sh kd ky s.xs)(pq:PQ att addr old nxt m val)(had:addr≤n+4)(ho:aB s.xs addr=old)(hw1:aB s.xs (aK t n u)=w1)(hpo:dD sh kd=true→nxW old≠0):
 ∃s',C8 (aK t n u) addr (aY att 0 0 0 true 5 val) (chgW old nxt m) 21 s s'∧
  ∀(x:HPS) (st:STS),x.at'=9→x.u=u→x.no=no→x.found=w1→x.kd=kd→(x.p.now=false∧x.p.val=val∧x.p.addr=addr∧x.p.old=old∧x.p.nxt=nxt∧x.p.mark=m)→
   ∃z,End (hpG t n) 21 (x,st,s) (z,⟨st.me,bif bM kd then 0 else st.sp,st.R++(bif dD sh kd then [nxW old]else [])⟩,s'):=by
 have hu:=hm.hu
 have hn:=hm.hn
 have hb:=pq.b
 have hda:=qD (t:=t) (n:=n) (u:=u) (addr:=addr) ⟨hu.1,hu.2.1⟩ hn.1 had
 have S0:=HY (D:=aK t n u) (addr:=addr) (s:=s) (l:=s) (c0:=0) (w:=w1) (w':=aY att addr (vrW old) nxt m 2 val) rfl (by omega) rfl rfl hm.din hda hw1 ho (m7 (pq.dk 2 (by decide)))
 have cP:aS s.xs (aK t n u) w1=true:=eU hm.din hw1
 have prop: ∀(x:HPS) (st:STS),x.at'=9→x.u=u→x.no=no→x.found=w1→x.kd=kd→(x.p.now=false∧x.p.val=val∧x.p.addr=addr∧x.p.old=old∧x.p.nxt=nxt∧x.p.mark=m)→ ∃x':HPS,hpG t n (x,st,s)=(false,(x',(⟨st.me,bif bM kd then 0 else st.sp,st.R⟩:STS),s.cased (aK t n u) w1 (aY att addr (vrW old) nxt m 2 val)))∧x'.at'=0∧x'.u=u∧x'.no=no:=by
  intro x st h0 e1 e2 e3 e4 e5
  obtain⟨p1,p2,p3,p4,p5,p6⟩:=e5
  have g0:=RP (t:=t) (n:=n) (x:=x) (st:=st) (s:=s) (w:=aY att addr (vrW old) nxt m 2 val) h0 (by rw [e1,e3];exact cP) (by rw [p1,p2,p3,p4,p5,p6,e3,ha1];exact N9 (pq.dk 2 (by decide)))
  rw [e1,e3,e4]at g0
  exact⟨_,fZ g0,rfl,e1,e2⟩
 generalize s.cased (aK t n u) w1 (aY att addr (vrW old) nxt m 2 val)=s0 at S0 prop
 obtain⟨s1,S1,g1⟩:=O1 (S0.hm hm ⟨hb.1,had⟩) pq had S0.d S0.a hpo
 obtain⟨s2,S2,g2⟩:=XU (S1.hm (S0.hm hm ⟨hb.1,had⟩) ⟨hb.1,had⟩) pq had S1.d S1.a
 obtain⟨s3,S3,g3⟩:=SR (S2.hm (S1.hm (S0.hm hm ⟨hb.1,had⟩) ⟨hb.1,had⟩) ⟨hb.1,had⟩) pq had S2.d S2.a
 have ST:=(((S0.trans S1).trans S2).trans S3).ld (aK t n u)
 refine⟨_,ST,fun x st h0 e1 e2 e3 e4 e5=>?_⟩
 obtain⟨x0,k0,a1,a2,a3⟩:=prop x st h0 e1 e2 e3 e4 e5
 obtain⟨x1,k1,b1,b2,b3⟩:=g1 x0 ⟨st.me,bif bM kd then 0 else st.sp,st.R⟩ a1 a2 a3
 obtain⟨x2,k2,c1,c2,c3⟩:=g2 x1 (P1 kd sh old ⟨st.me,bif bM kd then 0 else st.sp,st.R⟩) b1 b2 b3
 obtain⟨x3,k3,d1,d2,d3⟩:=g3 x2 (P1 kd sh old ⟨st.me,bif bM kd then 0 else st.sp,st.R⟩) c1 c2 c3
 obtain⟨z,k4⟩:=zW (t:=t) (n:=n) (x:=x3) (st:=P1 kd sh old ⟨st.me,bif bM kd then 0 else st.sp,st.R⟩) (s:=s3) d1 (by rw [d2,S3.d,pH pq.d5];rfl)
 rw [d2]at k4
 exact⟨z,aB1 (((Go1.cons k0 k1).trans k2).trans k3) k4⟩
def allN(LL:List (List Nd))(S:List STS):List Int:=LL.flatMap (fun L=>L.map Nd.a)++S.flatMap (fun st=>dR st.sp st.R)
theorem kJ{α β:Type}(f:α→List β): ∀(l:List α) (i:Nat) (x:α),l[i]? =some x→(l.flatMap f).Perm (f x++(l.eraseIdx i).flatMap f)
 | [],i,x,h=>by simp at h
 | y::l,0,x,h=>by simp at h;subst h;exact List.Perm.refl _
 | y::l,i+1,x,h=>by
   have:=kJ f l i x (by simpa using h)
   simp only [List.flatMap_cons,List.eraseIdx_cons_succ]
   refine(List.Perm.append_left (f y) this).trans ?_
   rw [←List.append_assoc,←List.append_assoc]
   exact List.Perm.append_right _ List.perm_append_comm
theorem qG{α β:Type}(f:α→List β): ∀(l:List α) (i:Nat) (x:α),i<l.length→((l.set i x).flatMap f).Perm (f x++(l.eraseIdx i).flatMap f)
 | [],i,x,h=>by simp at h
 | y::l,0,x,h=>by simp
 | y::l,i+1,x,h=>by
   have:=qG f l i x (by simpa using h)
   simp only [List.flatMap_cons,List.eraseIdx_cons_succ,List.set_cons_succ]
   refine(List.Perm.append_left (f y) this).trans ?_
   rw [←List.append_assoc,←List.append_assoc]
   exact List.Perm.append_right _ List.perm_append_comm
structure QL (t n:Int) (xs:List Int) (LL:List (List Nd)) (S:List STS):Prop where
 ht:1≤t∧t≤1000
 hn:1≤n∧n≤500
 len:(xs.length:Int)=2*n+5*t+6
 okw:okW xs
 four:LL.length=4
 hd: ∀(h:Nat) (L:List Nd),LL[h]? =some L→ch n xs (n+1+h) L∧mkW (aB xs (n+1+h))=false∧clW' (aB xs (n+1+h))=0
 nd:(allN LL S).Nodup
 rng: ∀b∈allN LL S,1≤b∧b≤n
 tk: ∀b,1≤b∧b≤n→(dO n xs b=true↔b∈allN LL S)
 me: ∀(i:Nat) (st:STS),S[i]? =some st→st.me=i∧(i:Int)<t
theorem pM{α:Type}{l:List α}{i:Nat}{x:α}(h:l[i]? =some x):i<l.length:=by
 rw [List.getElem?_eq_some_iff]at h;exact h.1
theorem jB{t n:Int}{xs:List Int}{LL:List (List Nd)}{S:List STS}(q:QL t n xs LL S){h:Nat}{L:List Nd}(hL:LL[h]? =some L):(L.map Nd.a).Nodup ∧(∀b∈L.map Nd.a,1≤b∧b≤n)∧(∀b∈L.map Nd.a,b∈allN LL S):=by
 have p:=kJ (fun L:List Nd=>L.map Nd.a) LL h L hL
 have m: ∀b∈L.map Nd.a,b∈allN LL S:=fun b hb=>List.mem_append_left _ (p.symm.subset (List.mem_append_left _ hb))
 have nd:(LL.flatMap fun L:List Nd=>L.map Nd.a).Nodup :=(List.nodup_append.1 q.nd).1
 exact⟨(List.nodup_append.1 (p.nodup_iff.1 nd)).1,fun b hb=>q.rng b (m b hb),m⟩
theorem uD{t n:Int}{xs:List Int}{LL:List (List Nd)}{S:List STS}(q:QL t n xs LL S){i:Nat}{st:STS}(hS:S[i]? =some st):(dR st.sp st.R).Nodup ∧(∀b∈dR st.sp st.R,1≤b∧b≤n)∧(∀b∈dR st.sp st.R,b∈allN LL S):=by
 have p:=kJ (fun st:STS=>dR st.sp st.R) S i st hS
 have m: ∀b∈dR st.sp st.R,b∈allN LL S:=fun b hb=>List.mem_append_right _ (p.symm.subset (List.mem_append_left _ hb))
 have nd:(S.flatMap fun st:STS=>dR st.sp st.R).Nodup :=(List.nodup_append.1 q.nd).2.1
 exact⟨(List.nodup_append.1 (p.nodup_iff.1 nd)).1,fun b hb=>q.rng b (m b hb),m⟩
theorem sG{t n:Int}{xs:List Int}{LL:List (List Nd)}{S:List STS}(q:QL t n xs LL S){i h:Nat}{st:STS}{L:List Nd}(hS:S[i]? =some st)(hL:LL[h]? =some L): ∀b∈dR st.sp st.R,b∉L.map Nd.a:=by
 intro b hb hc
 have p:=kJ (fun st:STS=>dR st.sp st.R) S i st hS
 have p2:=kJ (fun L:List Nd=>L.map Nd.a) LL h L hL
 exact(List.nodup_append.1 q.nd).2.2 b (p2.symm.subset (List.mem_append_left _ hc)) b (p.symm.subset (List.mem_append_left _ hb)) rfl
theorem KW{sp:Int}{R:List Int}{r:Int}(h:r∈R):r∈dR sp R:=by
 unfold dR
 cases ieq sp 0 with
 | true=>exact h
 | false=>exact List.mem_cons_of_mem _ h
theorem PM{sp:Int}{R:List Int}(h:(dR sp R).Nodup):R.Nodup:=by
 unfold dR at h
 cases q:ieq sp 0 with
 | true=>rw [q]at h;exact h
 | false=>rw [q]at h;exact(List.nodup_cons.1 h).2
theorem NC(R:List Int):dR 0 R=R:=rfl
theorem pO{sp:Int}(h:sp≠0)(R:List Int):dR sp R=sp::R:=by
 unfold dR
 have:ieq sp 0=false:=by rw [b9,beq_eq_false_iff_ne];exact h
 rw [this];rfl
theorem QL.agree{t n:Int}{xs ys:List Int}{LL:List (List Nd)}{S S':List STS}(q:QL t n xs LL S)(len:ys.length=xs.length)(ok:okW ys)(e: ∀a,1≤a∧a≤n+4→aB ys a=aB xs a)
 (nd:(allN LL S').Nodup) (rng: ∀b∈allN LL S',1≤b∧b≤n) (tk: ∀b,1≤b∧b≤n→(dO n ys b=true↔b∈allN LL S')) (me: ∀(i:Nat) (st:STS),S'[i]? =some st→st.me=i∧(i:Int)<t):QL t n ys LL S' where
 ht:=q.ht
 hn:=q.hn
 len:=by rw [len];exact q.len
 okw:=ok
 four:=q.four
 hd:=by
  intro h L hL
  obtain⟨h1,h2,h3⟩:=q.hd h L hL
  have hh:h<4:=by have:=pM hL;rw [q.four]at this;exact this
  have hn:=q.hn
  have eh:=e (n+1+h) (by omega)
  refine⟨jQ h1 (fun b hb=>e b ?_),by rw [eh];exact h2,by rw [eh];exact h3⟩
  rcases List.mem_cons.1 hb with r | r
  ·omega
  ·have:=(jB q hL).2.1 b r;omega
 nd:=nd
 rng:=rng
 tk:=tk
 me:=me
theorem oR{α:Type}{l:List α}{i j:Nat}{x y:α}(h:(l.set i x)[j]? =some y):(i=j∧x=y)∨(l[j]? =some y∧i≠j):=by
 rw [List.getElem?_set]at h
 by_cases e:i=j
 ·rw [if_pos e]at h
  split at h
  ·exact .inl ⟨e,by simpa using h⟩
  ·cases h
 ·rw [if_neg e]at h
  exact .inr ⟨h,e⟩
theorem NX{t:Int}{S:List STS}{i:Nat}{st st':STS}(h: ∀(j:Nat) (x:STS),S[j]? =some x→x.me=j∧(j:Int)<t)(hS:S[i]? =some st)(e:st'.me=st.me): ∀(j:Nat) (x:STS),(S.set i st')[j]? =some x→x.me=j∧(j:Int)<t:=by
 intro j x hx
 rcases oR hx with⟨rfl,rfl⟩ | ⟨h1,_⟩
 ·rw [e];exact h i st hS
 ·exact h j x h1
theorem RX{n a b:Int}(hn:1≤n)(ha:1≤a∧a≤n+4)(hb:1≤b):a≠n+4+b:=by omega
theorem JQ{t n:Int}{xs:List Int}{b c v:Int}(hin:0≤n+4+b∧n+4+b<xs.length):dO n (aJ xs (n+4+b) v) c=if c=b then oddB v else dO n xs c:=by
 unfold dO
 rw [wD hin]
 by_cases e:c=b
 ·rw [if_pos e,if_pos (by omega)]
 ·rw [if_neg e,if_neg (by omega)]
theorem QL.take{t n:Int}{xs:List Int}{LL:List (List Nd)}{S:List STS}(q:QL t n xs LL S){i:Nat}{st:STS}(hS:S[i]? =some st)(hz:st.sp=0){b:Int}(hb:1≤b∧b≤n)(hf:dO n xs b=false):
 QL t n (aJ xs (n+4+b) (aB xs (n+4+b)+1)) LL (S.set i {st with sp:=b}):=by
 have hn:=q.hn
 have ht:=q.ht
 have hin:0≤n+4+b∧n+4+b<xs.length:=by have:=q.len;omega
 have hw:=nP q.okw (n+4+b)
 have hev: ¬aB xs (n+4+b)%2=1:=by
  intro h
  have:dO n xs b=true:=(v7 hw.1).2 h
  rw [this]at hf;cases hf
 have hb0:b∉allN LL S:=fun h=>by
  have:=(q.tk b hb).2 h
  rw [this]at hf;cases hf
 have p0:=kJ (fun st:STS=>dR st.sp st.R) S i st hS
 have p1:=qG (fun st:STS=>dR st.sp st.R) S i {st with sp:=b} (pM hS)
 have pp:(allN LL (S.set i {st with sp:=b})).Perm (b::allN LL S):=by
  refine(List.Perm.append_left _ p1).trans ?_
  have h1:dR b st.R=b::dR st.sp st.R:=by rw [hz,NC,pO (by omega)]
  show(_++(dR b st.R++_)).Perm _
  rw [h1]
  refine List.Perm.trans ?_ (List.Perm.cons b (List.Perm.append_left _ p0.symm))
  rw [List.cons_append]
  exact List.perm_middle
 refine q.agree (bO _ _ _) (dQ q.okw (by omega)) (fun a ha=>bG (RX hn.1 ha hb.1)) (pp.nodup_iff.2 (List.nodup_cons.2 ⟨hb0,q.nd⟩)) (fun c hc=>?_) (fun c hc=>?_) (NX q.me hS rfl)
 ·rcases List.mem_cons.1 (pp.subset hc)with e | e
  ·rw [e];exact hb
  ·exact q.rng c e
 ·rw [JQ (t:=t) hin]
  by_cases e:c=b
  ·rw [if_pos e,e]
   exact⟨fun _=>pp.symm.subset (List.mem_cons_self ..),fun _=>(v7 (by omega)).2 (by omega)⟩
  ·rw [if_neg e,q.tk c hc]
   exact⟨fun h=>pp.symm.subset (List.mem_cons_of_mem _ h),fun h=>(List.mem_cons.1 (pp.subset h)).resolve_left e⟩
theorem QL.out{t n:Int}{xs ys:List Int}{LL:List (List Nd)}{S:List STS}(q:QL t n xs LL S)(len:ys.length=xs.length)(ok:okW ys)(e: ∀a,a≤2*n+4→aB ys a=aB xs a):QL t n ys LL S:=by
 refine q.agree len ok (fun a ha=>e a (by have:=q.hn;omega)) q.nd q.rng (fun b hb=>?_) q.me
 rw [←q.tk b hb]
 unfold dO
 rw [e _ (by omega)]
theorem AF(k:Int): ∀L:List Nd,L.Perm ((sc k L).1++(sc k L).2.1++(sc k L).2.2)
 | []=>List.Perm.refl _
 | b::L=>by
   have ih:=AF k L
   cases hm:b.m with
   | true=>
     rw [oP hm]
     refine(List.Perm.cons b ih).trans ?_
     simp only [List.append_assoc,List.cons_append]
     exact List.perm_middle.symm
   | false=>
     by_cases hk:k≤b.k
     ·rw [oQ hm hk];exact List.Perm.refl _
     ·rw [oO hm (by omega)];exact List.Perm.cons b ih
theorem B6(sh ky:Int):(cJ sh ky).toNat <4:=by have:=gE sh ky;omega
theorem B5(sh ky:Int):(((cJ sh ky).toNat :Nat):Int)=cJ sh ky:=by have:=gE sh ky;omega
def dP(LL:List (List Nd))(sh ky:Int):List Nd:=LL.getD (cJ sh ky).toNat []
theorem QL.at{t n:Int}{xs:List Int}{LL:List (List Nd)}{S:List STS}(q:QL t n xs LL S)(sh ky:Int):LL[(cJ sh ky).toNat]? =some (dP LL sh ky):=by
 have h:(cJ sh ky).toNat <LL.length:=by rw [q.four];exact B6 _ _
 unfold dP
 rw [gD',gE' h];rfl
theorem vZ: ∀(l m:List Int),l.Nodup→(∀a∈l,a∈m)→l.length≤m.length
 | [],m,_,_=>Nat.zero_le _
 | a::l,m,h,hs=>by
   have h:=List.nodup_cons.1 h
   have ha:=hs a (List.mem_cons_self ..)
   have:=vZ l (m.erase a) h.2 (fun b hb=>(List.mem_erase_of_ne (by rintro rfl;exact h.1 hb)).2 (hs b (List.mem_cons_of_mem _ hb)))
   rw [List.length_erase_of_mem ha]at this
   have:0<m.length:=List.length_pos_of_mem ha
   simp only [List.length_cons]
   omega
theorem j9{l:List Int}{n:Int}(hn:0≤n)(h:l.Nodup)(hr: ∀b∈l,1≤b∧b≤n):(l.length:Int)≤n:=by
 have hs: ∀b∈l,b∈((List.range n.toNat).map fun i:Nat=>(i:Int)+1):=by
  intro b hb
  have:=hr b hb
  exact List.mem_map.2 ⟨(b - 1).toNat,List.mem_range.2 (by omega),by omega⟩
 have:=vZ _ _ h hs
 rw [List.length_map,List.length_range]at this
 omega
theorem QL.lc{t n:Int}{xs:List Int}{LL:List (List Nd)}{S:List STS}(q:QL t n xs LL S)(sh ky:Int){i:Nat}{st:STS}(hS:S[i]? =some st):LC t n st.me (n+1+cJ sh ky) (dP LL sh ky) xs:=by
 have hL:=q.at sh ky
 obtain⟨h1,h2,h3⟩:=q.hd _ _ hL
 obtain⟨d1,d2,d3⟩:=jB q hL
 have hh:=gE sh ky
 have hm:=q.me i st hS
 have hn:=q.hn
 rw [B5]at h1 h2 h3
 refine⟨q.ht,q.hn,q.len,by omega,by omega,h2,h3,h1,List.nodup_cons.2 ⟨fun h=>?_,d1⟩,?_⟩
 ·have:=d2 _ h;omega
 ·have:=j9 (by omega) d1 d2
  rw [List.length_map]at this
  exact this
theorem QL.move{t n:Int}{xs ys:List Int}{LL:List (List Nd)}{S:List STS}(q:QL t n xs LL S){h i:Nat}{L L':List Nd}{st st':STS}(hL:LL[h]? =some L)(hS:S[i]? =some st)(hme:st'.me=st.me)
 (len:ys.length=xs.length) (ok:okW ys)
 (pp:(L'.map Nd.a++dR st'.sp st'.R).Perm (L.map Nd.a++dR st.sp st.R))
 (hch:ch n ys (n+1+h) L'∧mkW (aB ys (n+1+h))=false∧clW' (aB ys (n+1+h))=0)
 (same: ∀a,1≤a∧a≤2*n+4→a≠n+1+h→a∉L.map Nd.a→a≠st.sp→aB ys a=aB xs a):QL t n ys (LL.set h L') (S.set i st'):=by
 have hn:=q.hn
 have hh:h<4:=by have:=pM hL;rw [q.four]at this;exact this
 have p0:=kJ (fun L:List Nd=>L.map Nd.a) LL h L hL
 have p1:=qG (fun L:List Nd=>L.map Nd.a) LL h L' (pM hL)
 have q0:=kJ (fun st:STS=>dR st.sp st.R) S i st hS
 have q1:=qG (fun st:STS=>dR st.sp st.R) S i st' (pM hS)
 have pall:(allN (LL.set h L') (S.set i st')).Perm (allN LL S):=by
  unfold allN
  refine(List.Perm.append p1 q1).trans (List.Perm.trans ?_ (List.Perm.append p0 q0).symm)
  have pc:=List.perm_iff_count.1 pp
  refine List.perm_iff_count.2 (fun a=>?_)
  have:=pc a
  simp only [List.count_append]at this⊢
  omega
 have hdj:=sG q hS hL
 have spd: ∀b,b∈allN LL S→b=st.sp→b∉L.map Nd.a:=by
  intro b _ e
  by_cases z:st.sp=0
  ·intro hb;have:=(jB q hL).2.1 b hb;omega
  ·exact hdj b (by rw [e,pO z];exact List.mem_cons_self ..)
 refine {ht:=q.ht,hn:=q.hn,len:=by rw [len];exact q.len,okw:=ok,four:=by rw [List.length_set];exact q.four,hd:=?_,nd:=pall.nodup_iff.2 q.nd,rng:=fun b hb=>q.rng b (pall.subset hb),tk:=fun b hb=>?_,me:=NX q.me hS hme}
 ·intro g M hM
  rcases oR hM with⟨rfl,rfl⟩ | ⟨hM,hne⟩
  ·exact hch
  ·obtain⟨k1,k2,k3⟩:=q.hd g M hM
   have hg:g<4:=by have:=pM hM;rw [q.four]at this;exact this
   have hsp: ∀b∈M.map Nd.a,b≠st.sp:=by
    intro b hb e
    by_cases z:st.sp=0
    ·have:=(jB q hM).2.1 b hb;omega
    ·exact sG q hS hM b (by rw [e,pO z];exact List.mem_cons_self ..) hb
   have hLM: ∀b∈M.map Nd.a,b∉L.map Nd.a:=by
    intro b hb hc
    have r0:=p0.nodup_iff.1 (List.nodup_append.1 q.nd).1
    refine(List.nodup_append.1 r0).2.2 b hc b ?_ rfl
    have hMe:M∈LL.eraseIdx h:=by
     refine List.mem_iff_getElem?.2 ?_
     rcases Nat.lt_or_ge g h with hl | hl
     ·exact⟨g,by rw [List.getElem?_eraseIdx_of_lt hl];exact hM⟩
     ·exact⟨g - 1,by rw [List.getElem?_eraseIdx_of_ge (by omega),show g - 1+1=g by omega];exact hM⟩
    exact List.mem_flatMap.2 ⟨M,hMe,hb⟩
   have sg: ∀a,a=n+1+g∨a∈M.map Nd.a→aB ys a=aB xs a:=by
    intro a ha
    rcases ha with e | e
    ·refine same a (by omega) (by omega) (fun hh=>?_) (fun e2=>?_)
     ·have:=(jB q hL).2.1 a hh;omega
     ·by_cases z:st.sp=0
      ·omega
      ·have:=(uD q hS).2.1 st.sp (by rw [pO z];exact List.mem_cons_self ..);omega
    ·have:=(jB q hM).2.1 a e
     exact same a (by omega) (by omega) (hLM a e) (hsp a e)
   refine⟨jQ k1 (fun b hb=>sg b (by rcases List.mem_cons.1 hb with r | r;exact .inl r;exact .inr r)),?_,?_⟩
   ·rw [sg _ (.inl rfl)];exact k2
   ·rw [sg _ (.inl rfl)];exact k3
 ·have e:aB ys (n+4+b)=aB xs (n+4+b):=by
   refine same _ (by omega) (by omega) (fun hh=>?_) (fun e2=>?_)
   ·have:=(jB q hL).2.1 _ hh;omega
   ·by_cases z:st.sp=0
    ·omega
    ·have:=(uD q hS).2.1 st.sp (by rw [pO z];exact List.mem_cons_self ..);omega
  have e2:dO n ys b=dO n xs b:=by unfold dO;rw [e]
  rw [e2,q.tk b hb]
  exact⟨fun h=>pall.symm.subset h,fun h=>pall.subset h⟩
theorem nE(sp:Int)(R X:List Int):dR sp (R++X)=dR sp R++X:=by
 unfold dR
 cases ieq sp 0<;>rfl
def xS(sh kd ky sp:Int)(L:List Nd):List Nd:=(sc (dG sh kd ky) L).1++(paOf sh kd ky (sc (dG sh kd ky) L).2.2).new ky sp (sc (dG sh kd ky) L).2.2
def oW(sh kd ky:Int)(L:List Nd)(st:STS):STS:=⟨st.me,(paOf sh kd ky (sc (dG sh kd ky) L).2.2).sp st.sp,st.R++(sc (dG sh kd ky) L).2.1.map Nd.a++(paOf sh kd ky (sc (dG sh kd ky) L).2.2).pops (sc (dG sh kd ky) L).2.2⟩
theorem IY{sh kd ky:Int}{L:List Nd}{st:STS}(hl:bM kd=true→st.sp≠0):((xS sh kd ky st.sp L).map Nd.a++dR (oW sh kd ky L st).sp (oW sh kd ky L st).R).Perm (L.map Nd.a++dR st.sp st.R):=by
 have pL:=(AF (dG sh kd ky) L).map Nd.a
 unfold xS oW
 generalize (sc (dG sh kd ky) L).1=A at*
 generalize (sc (dG sh kd ky) L).2.1=U at*
 generalize (sc (dG sh kd ky) L).2.2=B at*
 rw [List.map_append,List.map_append]at pL
 have pc:=List.perm_iff_count.1 pL
 refine List.perm_iff_count.2 (fun a=>?_)
 have pa:=pc a
 cases hact:paOf sh kd ky B with
 | now b=>
   simp only [Pa.new,Pa.sp,Pa.pops,List.append_nil,nE,List.map_append,List.count_append]at pa⊢
   omega
 | link=>
   have hz:=hl (HK hact)
   simp only [Pa.new,Pa.sp,Pa.pops,List.append_nil,nE,NC,pO hz,List.map_append,List.map_cons,List.count_append,List.count_cons]at pa⊢
   omega
 | mark v=>
   obtain⟨b,B',rfl⟩:=HL hact
   simp only [Pa.new,Pa.sp,Pa.pops,List.append_nil,nE,List.map_append,List.map_cons,List.count_append,List.count_cons]at pa⊢
   omega
 | pop v=>
   obtain⟨b,B',rfl⟩:=N1 hact
   simp only [Pa.new,Pa.sp,Pa.pops,List.tail_cons,hdN,nE,List.map_append,List.map_cons,List.count_append,List.count_cons,List.count_nil]at pa⊢
   omega
theorem QL.fast{t n:Int}{LL:List (List Nd)}{S:List STS}{s s':MS}{sh kd ky:Int}{i j:Nat}{st:STS}(q:QL t n s.xs LL S)(hS:S[i]? =some st)(hl:bM kd=true→st.sp≠0)
 (f:FtA n st.me (n+1+cJ sh ky) (dP LL sh ky) (dG sh kd ky) ky st.sp (paOf sh kd ky (sc (dG sh kd ky) (dP LL sh ky)).2.2) s s' j):
 QL t n s'.xs (LL.set (cJ sh ky).toNat (xS sh kd ky st.sp (dP LL sh ky))) (S.set i (oW sh kd ky (dP LL sh ky) st)):=by
 have hh:=B5 sh ky
 have hm:=q.me i st hS
 refine q.move (q.at sh ky) hS rfl f.len (f.okw q.okw) (IY hl) ⟨?_,?_,?_⟩ (fun a ha h1 h2 h3=>f.same a (by omega) (by omega) (fun h=>?_) h3)
 ·rw [hh];exact f.ch
 ·rw [hh];exact f.mp
 ·rw [hh];exact f.cp
 ·rcases List.mem_cons.1 h with e | e
  ·omega
  ·exact h2 e
theorem QL.find{t n:Int}{LL:List (List Nd)}{S:List STS}{s s':MS}{x z:FNS}{h i j:Nat}{L:List Nd}{st:STS}(q:QL t n s.xs LL S)(hL:LL[h]? =some L)(hS:S[i]? =some st)(hme:x.me=st.me)
 (f:KR n (n+1+h) L x s z s' j):
 QL t n s'.xs (LL.set h ((sc x.key L).1++(sc x.key L).2.2)) (S.set i ⟨st.me,st.sp,st.R++(sc x.key L).2.1.map Nd.a⟩):=by
 have hm:=q.me i st hS
 obtain⟨k1,k2,k3⟩:=q.hd h L hL
 refine q.move hL hS rfl f.len (f.okw q.okw) ?_ ⟨f.ch,f.p3.2.1.trans k2,f.p3.2.2.trans k3⟩ (fun a ha h1 h2 h3=>f.same a (by rw [hme];omega) (by rw [hme];omega) (fun h=>?_))
 ·have pL:=(AF x.key L).map Nd.a
  rw [List.map_append,List.map_append]at pL
  have pc:=List.perm_iff_count.1 pL
  refine List.perm_iff_count.2 (fun a=>?_)
  have pa:=pc a
  simp only [nE,List.map_append,List.count_append]at pa⊢
  omega
 ·rcases List.mem_cons.1 h with e | e
  ·exact h1 e
  ·exact h2 (mD (AE _ _) e)
def uk(L:List Nd):List Int:=(L.filter (fun b=>!b.m)).map Nd.k
theorem mH(A B:List Nd):uk (A++B)=uk A++uk B:=by unfold uk;rw [List.filter_append,List.map_append]
theorem T6: ∀ {A:List Nd},(∀b∈A,b.m=false)→uk A=A.map Nd.k
 | [],_=>rfl
 | b::A,h=>by
   have hb:=h b (List.mem_cons_self ..)
   have ih:=T6 (A:=A) (fun c hc=>h c (List.mem_cons_of_mem _ hc))
   unfold uk at ih⊢
   rw [List.filter_cons,hb]
   simp only [Bool.not_false,if_true,List.map_cons,ih]
theorem tT(b:Nd)(L:List Nd):uk (b::L)=if b.m then uk L else b.k::uk L:=by
 unfold uk
 cases hb:b.m<;>simp [List.filter_cons,hb]
def cZ(k:Int)(x:Int):Bool:=decide (x<k)
theorem T5(k:Int): ∀L:List Nd,(sc k L).1.map Nd.k=(uk L).takeWhile (cZ k)∧uk (sc k L).2.2=(uk L).dropWhile (cZ k)
 | []=>⟨rfl,rfl⟩
 | b::L=>by
   obtain⟨h1,h2⟩:=T5 k L
   cases hm:b.m with
   | true=>rw [oP hm,tT,hm];exact⟨h1,h2⟩
   | false=>
     rw [tT,hm]
     by_cases hk:k≤b.k
     ·have hb:cZ k b.k=false:=decide_eq_false (by omega)
      rw [oQ hm hk]
      simp only [Bool.false_eq_true,if_false,List.takeWhile_cons,List.dropWhile_cons,hb,tT,hm,List.map_nil]
      exact⟨trivial,trivial⟩
     ·have hb:cZ k b.k=true:=decide_eq_true (by omega)
      rw [oO hm (by omega)]
      simp only [Bool.false_eq_true,if_false,List.takeWhile_cons,List.dropWhile_cons,hb,if_true,List.map_cons,h1,h2]
      exact⟨trivial,trivial⟩
def GM(sh kd ky:Int)(u:List Int):(Bool×Int)×List Int:=
 if kd=4 then((true,0),u.takeWhile (cZ (dG sh kd ky))++ky::u.dropWhile (cZ (dG sh kd ky)))
 else if kd=1 then(if (u.dropWhile (cZ (dG sh kd ky))).head? =some ky then((false,0),u)else((true,0),u.takeWhile (cZ (dG sh kd ky))++ky::u.dropWhile (cZ (dG sh kd ky))))
 else if kd=2 then(if (u.dropWhile (cZ (dG sh kd ky))).head? =some ky then((true,0),u.takeWhile (cZ (dG sh kd ky))++(u.dropWhile (cZ (dG sh kd ky))).tail)else((false,0),u))
 else if kd=3 then((decide ((u.dropWhile (cZ (dG sh kd ky))).head? =some ky),0),u)
 else match u.dropWhile (cZ (dG sh kd ky))with
  | []=>((false,0),u)
  | x::v=>((true,x),u.takeWhile (cZ (dG sh kd ky))++v)
theorem xT(sh kd ky sp:Int)(L:List Nd):(paOf sh kd ky (sc (dG sh kd ky) L).2.2).ok =(GM sh kd ky (uk L)).1.1∧(paOf sh kd ky (sc (dG sh kd ky) L).2.2).val =(GM sh kd ky (uk L)).1.2∧uk (xS sh kd ky sp L)=(GM sh kd ky (uk L)).2:=by
 obtain⟨h1,h2⟩:=T5 (dG sh kd ky) L
 have hu:=HV (dG sh kd ky) L
 have hd:=HU (dG sh kd ky) L
 have hall:uk L=(sc (dG sh kd ky) L).1.map Nd.k++uk (sc (dG sh kd ky) L).2.2:=by rw [h1,h2,List.takeWhile_append_dropWhile]
 unfold GM xS
 rw [←h1,←h2]
 generalize (sc (dG sh kd ky) L).1=A at*
 generalize (sc (dG sh kd ky) L).2.2=B at*
 have hA:=T6 hu
 have hf:((uk B).head? =some ky)↔fndB ky B=true:=by
  cases B with
  | nil=>simp [uk,fndB]
  | cons b B'=>
    rw [tT,(hd b B' rfl).1]
    simp [fndB,b9]
 have hfd:decide ((uk B).head? =some ky)=fndB ky B:=by
  cases q:fndB ky B with
  | true=>exact decide_eq_true (hf.2 q)
  | false=>exact decide_eq_false (fun r=>by rw [hf.1 r]at q;cases q)
 have hhd:fndB ky B=true→ ∃b B',B=b::B'∧b.k=ky∧b.m=false:=by
  intro q
  cases B with
  | nil=>cases q
  | cons b B'=>exact⟨b,B',rfl,by simpa [fndB,b9]using q,(hd b B' rfl).1⟩
 unfold paOf
 by_cases e4:kd=4
 ·rw [if_pos e4,if_pos e4]
  refine⟨rfl,rfl,?_⟩
  rw [Pa.new,mH,hA,tT];rfl
 rw [if_neg e4,if_neg e4]
 by_cases e1:kd=1
 ·rw [if_pos e1,if_pos e1]
  cases q:fndB ky B with
  | true=>
    rw [if_pos (hf.2 q)]
    refine⟨rfl,rfl,?_⟩
    rw [cond_true,Pa.new,mH,hA,←hall]
  | false=>
    rw [if_neg (fun r=>by rw [hf.1 r]at q;cases q)]
    refine⟨rfl,rfl,?_⟩
    rw [cond_false,Pa.new,mH,hA,tT];rfl
 rw [if_neg e1,if_neg e1]
 by_cases e2:kd=2
 ·rw [if_pos e2,if_pos e2]
  cases q:fndB ky B with
  | true=>
    obtain⟨b,B',rfl,hk,hm⟩:=hhd q
    rw [if_pos (hf.2 q)]
    refine⟨rfl,rfl,?_⟩
    rw [cond_true,Pa.new,mH,hA,tT,tT,hm];rfl
  | false=>
    rw [if_neg (fun r=>by rw [hf.1 r]at q;cases q)]
    refine⟨rfl,rfl,?_⟩
    rw [cond_false,Pa.new,mH,hA,←hall]
 rw [if_neg e2,if_neg e2]
 by_cases e3:kd=3
 ·rw [if_pos e3,if_pos e3]
  refine⟨hfd.symm,rfl,?_⟩
  rw [Pa.new,mH,hA,←hall]
 rw [if_neg e3,if_neg e3]
 cases B with
 | nil=>
   refine⟨rfl,rfl,?_⟩
   show uk (A++ [])=uk L
   rw [mH,hA,←hall]
 | cons b B'=>
   have hm:=(hd b B' rfl).1
   have hu2:uk (b::B')=b.k::uk B':=by rw [tT,hm];rfl
   rw [hu2]
   by_cases e5:sh=4
   ·simp only [if_pos e5]
    refine⟨rfl,rfl,?_⟩
    rw [Pa.new,mH,hA];rfl
   ·simp only [if_neg e5]
    refine⟨rfl,rfl,?_⟩
    rw [Pa.new,mH,hA,tT];rfl
theorem qU{f:Nat→Int}{n:Nat}(h:f n=4):bE f (n+1)=bE f n+1:=by
 show(bif ieq (f n) 4 then _ else _)=_;rw [h,bH];rfl
theorem oM{f:Nat→Int}{n:Nat}(h:f n=5):bE f (n+1)=if 0<bE f n then bE f n - 1 else 0:=by
 show(bif ieq (f n) 4 then _ else bif ilt 0 (bE f n)then _ else _)=_
 rw [h,dW (show(5:Int)≠4 by decide),cond_false,bS]
 have:=jY f n
 by_cases e:0<bE f n
 ·rw [decide_eq_true e,if_pos e];rfl
 ·rw [decide_eq_false e,if_neg e,cond_false];omega
theorem CR{f g:Nat→Int}{n:Nat}(h:f n=4):cI f g (n+1)=cI f g n++ [g n]:=by
 show(bif ieq (f n) 4 then _ else _)=_;rw [h,bH];rfl
theorem yM{f g:Nat→Int}{n:Nat}(h:f n=5):cI f g (n+1)=cI f g n:=by
 show(bif ieq (f n) 4 then _ else _)=_;rw [h,dW (show(5:Int)≠4 by decide)];rfl
def vU(f:Nat→Int)(n:Nat):Prop:= ∀j,j<n→f j=4∨f j=5
theorem z6{f g:Nat→Int} : ∀n,vU f n→bE f n≤(cI f g n).length
 | 0,_=>Int.le_refl 0
 | n+1,h=>by
   have ih:=z6 (g:=g) n (fun j hj=>h j (by omega))
   rcases h n (by omega)with e | e
   ·rw [qU e,CR e,List.length_append];simp;omega
   ·rw [oM e,yM e];split<;>omega
theorem CG{f g:Nat→Int}{n:Nat}(h:vU f n)(e:f n=4):lO f g (n+1)=lO f g n++ [g n]:=by
 have hl:=z6 (g:=g) n h
 have h0:=jY f n
 unfold lO
 rw [qU e,CR e,List.length_append]
 have:((((cI f g n).length + [g n].length :Nat):Int) - (bE f n+1)).toNat =(((cI f g n).length :Int) - bE f n).toNat :=by simp;omega
 rw [this,List.drop_append_of_le_length (by omega)]
theorem x9{f g:Nat→Int}{n:Nat}(h:vU f n)(e:f n=5):lO f g (n+1)=(lO f g n).tail :=by
 have hl:=z6 (g:=g) n h
 have h0:=jY f n
 unfold lO
 rw [oM e,yM e,List.tail_drop]
 by_cases q:0<bE f n
 ·rw [if_pos q];congr 1;omega
 ·rw [if_neg q]
  have:bE f n=0:=by omega
  rw [this,List.drop_eq_nil_of_le (by omega),List.drop_eq_nil_of_le (by omega)]
theorem lA(f g:Nat→Int): ∀n,eK f g n 0=[]
 | 0=>rfl
 | n+1=>rfl
theorem sN(f g:Nat→Int)(i:Nat){need:Int}(h:0<need):eK f g (i+1) need=if f i=4∧bE f i=need - 1 then g i::eK f g i (need - 1)else eK f g i need:=by
 show(bif ilt 0 need then(bif ieq (f i) 4&&ieq (bE f i) (need - 1)then _ else _)else _)=_
 rw [bS,decide_eq_true h,cond_true]
 by_cases e:f i=4∧bE f i=need - 1
 ·rw [if_pos e,e.1,e.2,bH,bH];rfl
 ·rw [if_neg e]
  have:(ieq (f i) 4&&ieq (bE f i) (need - 1))=false:=by
   cases q:(ieq (f i) 4&&ieq (bE f i) (need - 1))with
   | false=>rfl
   | true=>
     simp only [Bool.and_eq_true,b9,beq_iff_eq]at q
     exact absurd q e
  rw [this];rfl
theorem sO{f g:Nat→Int} : ∀n,vU f n→ ∀need,0<need→need≤bE f n→ ∃x,eK f g n need=x::eK f g n (need - 1)
 | 0,_,need,h1,h2=>by
   have:bE f 0=0:=rfl
   omega
 | n+1,h,need,h1,h2=>by
   have hn:=fun j (hj:j<n)=>h j (by omega)
   have h0:=jY f n
   rw [sN f g n h1]
   rcases h n (by omega)with e | e
   ·rw [qU e]at h2
    by_cases q:bE f n=need - 1
    ·rw [if_pos ⟨e,q⟩]
     refine⟨g n,?_⟩
     by_cases z:need=1
     ·rw [z];rw [show(1:Int) - 1=0 by decide,lA,lA]
     ·rw [sN f g n (need:=need - 1) (by omega),if_neg (fun r=>by omega)]
    ·rw [if_neg (fun r=>q r.2)]
     obtain⟨x,hx⟩:=sO n hn need h1 (by omega)
     refine⟨x,?_⟩
     rw [hx]
     by_cases z:need=1
     ·rw [z];rw [show(1:Int) - 1=0 by decide,lA,lA]
     ·rw [sN f g n (need:=need - 1) (by omega),if_neg (fun r=>by omega)]
   ·rw [oM e]at h2
    have h3:need≤bE f n:=by split at h2<;>omega
    rw [if_neg (fun r=>by rw [e]at r;exact absurd r.1 (by decide))]
    obtain⟨x,hx⟩:=sO n hn need h1 h3
    refine⟨x,?_⟩
    rw [hx]
    by_cases z:need=1
    ·rw [z];rw [show(1:Int) - 1=0 by decide,lA,lA]
    ·rw [sN f g n (need:=need - 1) (by omega),if_neg (fun r=>by rw [e]at r;exact absurd r.1 (by decide))]
theorem CN{f g:Nat→Int}{n:Nat}(e:f n=4):kA f g (n+1)=g n::kA f g n:=by
 have h0:=jY f n
 unfold kA
 rw [qU e,sN f g n (by omega),if_pos ⟨e,by omega⟩]
 congr 2;omega
theorem yI{f g:Nat→Int}{n:Nat}(h:vU f n)(e:f n=5):kA f g (n+1)=(kA f g n).tail :=by
 have h0:=jY f n
 unfold kA
 rw [oM e]
 by_cases q:0<bE f n
 ·rw [if_pos q]
  obtain⟨x,hx⟩:=sO (g:=g) n h (bE f n) q (Int.le_refl _)
  rw [hx,List.tail_cons]
  by_cases z:bE f n=1
  ·rw [z];rw [show(1:Int) - 1=0 by decide,lA,lA]
  ·rw [sN f g n (need:=bE f n - 1) (by omega),if_neg (fun r=>by rw [e]at r;exact absurd r.1 (by decide))]
 ·rw [if_neg q,show bE f n=0 by omega,lA,lA];rfl
def Srt(u:List Int):Prop:=u.Pairwise (· < ·)
theorem rP{k:Int} : ∀ {u:List Int},Srt u→ ∀x∈u.dropWhile (cZ k),k≤x
 | [],_,x,h=>by cases h
 | y::u,hs,x,h=>by
   have hs':=List.pairwise_cons.1 hs
   rw [List.dropWhile_cons]at h
   by_cases q:y<k
   ·rw [show cZ k y=true from decide_eq_true q]at h
    exact rP hs'.2 x h
   ·rw [show cZ k y=false from decide_eq_false q]at h
    simp only [Bool.false_eq_true,if_false]at h
    rcases List.mem_cons.1 h with e | e
    ·omega
    ·have:=hs'.1 x e;omega
theorem rS{k:Int} : ∀ {u:List Int},∀x∈u.takeWhile (cZ k),x<k
 | [],x,h=>by cases h
 | y::u,x,h=>by
   rw [List.takeWhile_cons]at h
   cases q:cZ k y with
   | true=>
     rw [q]at h
     simp only [if_true]at h
     rcases List.mem_cons.1 h with e | e
     ·rw [e];exact of_decide_eq_true q
     ·exact rS x e
   | false=>rw [q]at h;cases h
theorem gV{k x:Int}(u:List Int):x∈u↔x∈u.takeWhile (cZ k)∨x∈u.dropWhile (cZ k):=by
 rw [←List.mem_append,List.takeWhile_append_dropWhile]
theorem C0{k:Int}{u:List Int}(h:Srt u):(u.dropWhile (cZ k)).head? =some k↔k∈u:=by
 constructor
 ·intro q
  rw [gV (k:=k)]
  right
  cases hd:u.dropWhile (cZ k)with
  | nil=>rw [hd]at q;cases q
  | cons y v=>
    rw [hd]at q
    simp only [List.head?_cons,sI']at q
    rw [q];exact List.mem_cons_self ..
 ·intro q
  rcases(gV (k:=k) u).1 q with e | e
  ·have:=rS k e;omega
  ·have hs:Srt (u.dropWhile (cZ k)):=h.sublist (List.dropWhile_sublist _)
   have hge:=rP (k:=k) h
   cases hd:u.dropWhile (cZ k)with
   | nil=>rw [hd]at e;cases e
   | cons y v=>
     rw [hd]at e hs hge
     have hy:=hge y (List.mem_cons_self ..)
     rcases List.mem_cons.1 e with r | r
     ·rw [r];rfl
     ·have:=(List.pairwise_cons.1 hs).1 k r;omega
theorem SP{k:Int}{u:List Int}(h:Srt u)(hk:k∉u):Srt (u.takeWhile (cZ k)++k::u.dropWhile (cZ k)):=by
 have hs:Srt (u.dropWhile (cZ k)):=h.sublist (List.dropWhile_sublist _)
 have ht:Srt (u.takeWhile (cZ k)):=h.sublist (List.takeWhile_sublist _)
 refine List.pairwise_append.2 ⟨ht,List.pairwise_cons.2 ⟨fun x hx=>?_,hs⟩,fun a ha b hb=>?_⟩
 ·have:=rP h x hx
  have:x≠k:=by rintro rfl;exact hk ((gV (k:=x) u).2 (.inr hx))
  omega
 ·have h1:=rS a ha
  rcases List.mem_cons.1 hb with e | e
  ·omega
  ·have:=rP h b e;omega
theorem SN{k:Int}{u:List Int}(h:Srt u)(hk:k∈u):Srt (u.takeWhile (cZ k)++(u.dropWhile (cZ k)).tail)∧ ∀x,x∈u.takeWhile (cZ k)++(u.dropWhile (cZ k)).tail ↔x∈u∧x≠k:=by
 have hh:=(C0 h).2 hk
 have hs:Srt (u.dropWhile (cZ k)):=h.sublist (List.dropWhile_sublist _)
 have ht:Srt (u.takeWhile (cZ k)):=h.sublist (List.takeWhile_sublist _)
 have hm:=fun x=>gV (k:=k) (x:=x) u
 cases hd:u.dropWhile (cZ k)with
 | nil=>rw [hd]at hh;cases hh
 | cons y v=>
   rw [hd]at hh hs
   simp only [List.head?_cons,sI']at hh
   subst hh
   obtain⟨hs1,hs2⟩:=List.pairwise_cons.1 hs
   rw [List.tail_cons]
   constructor
   ·refine List.pairwise_append.2 ⟨ht,hs2,fun a ha b hb=>?_⟩
    have:=rS a ha;have:=hs1 b hb;omega
   ·intro x
    rw [hm x,hd,List.mem_append,List.mem_cons]
    constructor
    ·rintro(q | q)
     ·exact⟨.inl q,by have:=rS x q;omega⟩
     ·exact⟨.inr (.inr q),by have:=hs1 x q;omega⟩
    ·rintro⟨q | q | q,hne⟩
     ·exact .inl q
     ·exact absurd q hne
     ·exact .inr q
structure YC (sh:Int) (LL:List (List Nd)) (f g:Nat→Int) (m:Nat):Prop where
 srt: ∀(h:Nat) (L:List Nd),LL[h]? =some L→Srt (uk L)
 rng: ∀(h:Nat) (L:List Nd),LL[h]? =some L→ ∀k∈uk L,(0≤k∧k≤999)∧(cJ sh k).toNat =h
 mem: ∀(h:Nat) (L:List Nd),LL[h]? =some L→ ∀k,0≤k→k≤999→(cJ sh k).toNat =h→(k∈uk L↔inF f g k m=true)
structure YB (sh:Int) (LL:List (List Nd)) (f g:Nat→Int) (m:Nat):Prop where
 eq:uk (LL.getD 0 [])=bB sh f g m
 rng: ∀k∈bB sh f g m,0≤k∧k≤999
 els: ∀(h:Nat) (L:List Nd),LL[h]? =some L→h≠0→L=[]
def Rp(sh:Int)(LL:List (List Nd))(f g:Nat→Int)(m:Nat):Prop:=((sh=1∨sh=2)∧YC sh LL f g m)∨((sh=3∨sh=4)∧YB sh LL f g m)
def rF(sh:Int)(f g:Nat→Int)(m:Nat):Prop:= ∀j,j<m→bX sh (f j) (g j)=true
theorem NL(f g:Nat→Int)(k:Int)(m:Nat):inF f g k (m+1)=bif ieq (g m) k&&ieq (f m) 1 then true else bif ieq (g m) k&&ieq (f m) 2 then false else inF f g k m:=rfl
theorem YJ{LL:List (List Nd)}(h4:LL.length=4)(sh ky:Int):LL[(cJ sh ky).toNat]? =some (dP LL sh ky):=by
 have h:(cJ sh ky).toNat <LL.length:=by rw [h4];exact B6 _ _
 unfold dP
 rw [gD',gE' h];rfl
theorem NP{sh kd ky:Int}(h:bX sh kd ky=true)(hs:sh=1∨sh=2):(kd=1∨kd=2∨kd=3)∧0≤ky∧ky≤999:=by
 have:=eN.1 h;omega
theorem oK{sh kd ky:Int}(h:bX sh kd ky=true)(hs:sh=3∨sh=4):(kd=4∨kd=5)∧0≤ky∧ky≤999:=by
 have:=eN.1 h;omega
theorem RV{sh kd ky:Int}(hs:sh=1∨sh=2):dG sh kd ky=ky:=by
 unfold dG
 rcases hs with e | e
 ·rw [e,dW (show(1:Int)≠2 by decide),bH];rfl
 ·rw [e,bH];rfl
theorem YC.step{sh:Int}{LL:List (List Nd)}{f g:Nat→Int}{m:Nat}(hs:sh=1∨sh=2)(h4:LL.length=4)(r:YC sh LL f g m)(hr:bX sh (f m) (g m)=true):
 (GM sh (f m) (g m) (uk (dP LL sh (g m)))).1=KF sh f g m (f m) (g m)∧ ∀L',uk L'=(GM sh (f m) (g m) (uk (dP LL sh (g m)))).2→YC sh (LL.set (cJ sh (g m)).toNat L') f g (m+1):=by
 obtain⟨hk,hy⟩:=NP hr hs
 have hat:=YJ h4 sh (g m)
 have hsrt:=r.srt _ _ hat
 have hmem:=r.mem _ _ hat (g m) hy.1 hy.2 rfl
 have hhd:=C0 (k:=g m) hsrt
 generalize hu:uk (dP LL sh (g m))=u at*
 have hin: ∀k,k≠g m→inF f g k (m+1)=inF f g k m:=by
  intro k hk
  rw [NL,dW (show g m≠k from fun e=>hk e.symm)];rfl
 have hrng:=r.rng _ _ hat
 rw [hu]at hrng
 have build: ∀u':List Int,Srt u'→(∀k∈u',k=g m∨k∈u)→(g m∈u'↔inF f g (g m) (m+1)=true)→(∀k,k≠g m→(k∈u'↔k∈u))→ ∀L',uk L'=u'→YC sh (LL.set (cJ sh (g m)).toNat L') f g (m+1):=by
  intro u' b1 b2 b3 b4 L' hL'
  refine⟨?_,?_,?_⟩
  ·intro h M hM
   rcases oR hM with⟨rfl,rfl⟩ | ⟨hM,hne⟩
   ·rw [hL'];exact b1
   ·exact r.srt h M hM
  ·intro h M hM k hk
   rcases oR hM with⟨rfl,rfl⟩ | ⟨hM,hne⟩
   ·rw [hL']at hk
    rcases b2 k hk with e | e
    ·rw [e];exact⟨hy,rfl⟩
    ·exact hrng k e
   ·exact r.rng h M hM k hk
  ·intro h M hM k k0 k9 hh
   rcases oR hM with⟨rfl,rfl⟩ | ⟨hM,hne⟩
   ·rw [hL']
    by_cases e:k=g m
    ·rw [e];exact b3
    ·rw [b4 k e,hin k e]
     have:=r.mem _ _ hat k k0 k9 hh
     rw [hu]at this;exact this
   ·have hne2:k≠g m:=by rintro rfl;exact hne hh
    rw [hin k hne2]
    exact r.mem h M hM k k0 k9 hh
 have e12:(2:Int)≠1:=by decide
 unfold GM KF
 rw [RV hs]
 rcases hk with e | e | e
 ·
  have i1:inF f g (g m) (m+1)=true:=by rw [NL,e,bH,bH];rfl
  simp only [e,if_neg (show¬(1:Int)=4 by decide),if_true,bH,cond_true]
  by_cases q:g m∈u
  ·rw [if_pos (hhd.2 q),hmem.1 q]
   exact⟨rfl,build u hsrt (fun k h=>.inr h) ⟨fun _=>i1,fun _=>q⟩ (fun k _=>Iff.rfl)⟩
  ·rw [if_neg (fun h=>q (hhd.1 h))]
   have q2:inF f g (g m) m=false:=by
    cases z:inF f g (g m) m with
    | false=>rfl
    | true=>exact absurd (hmem.2 z) q
   rw [q2]
   refine⟨rfl,build _ (SP hsrt q) (fun k h=>?_) ⟨fun _=>i1,fun _=>by simp⟩ (fun k hk=>?_)⟩
   ·rcases List.mem_append.1 h with z | z
    ·exact .inr ((gV u).2 (.inl z))
    ·rcases List.mem_cons.1 z with z | z
     ·exact .inl z
     ·exact .inr ((gV u).2 (.inr z))
   ·rw [List.mem_append,List.mem_cons,gV (k:=g m) u]
    constructor
    ·rintro(z | z | z)
     ·exact .inl z
     ·exact absurd z hk
     ·exact .inr z
    ·rintro(z | z)
     ·exact .inl z
     ·exact .inr (.inr z)
 ·
  have i1:inF f g (g m) (m+1)=false:=by rw [NL,e,bH,dW e12,bH];rfl
  simp only [e,if_neg (show¬(2:Int)=4 by decide),if_neg (show¬(2:Int)=1 by decide),if_true,dW e12,bH,cond_false,Bool.true_or,cond_true]
  by_cases q:g m∈u
  ·obtain⟨d1,d2⟩:=SN hsrt q
   rw [if_pos (hhd.2 q),hmem.1 q]
   refine⟨rfl,build _ d1 (fun k h=>.inr ((d2 k).1 h).1) ⟨fun h=>absurd rfl ((d2 _).1 h).2,fun h=>by rw [i1]at h;cases h⟩ (fun k hk=>⟨fun h=>((d2 k).1 h).1,fun h=>(d2 k).2 ⟨h,hk⟩⟩)⟩
  ·rw [if_neg (fun h=>q (hhd.1 h))]
   have q2:inF f g (g m) m=false:=by
    cases z:inF f g (g m) m with
    | false=>rfl
    | true=>exact absurd (hmem.2 z) q
   rw [q2]
   exact⟨rfl,build u hsrt (fun k h=>.inr h) ⟨fun h=>absurd h q,fun h=>by rw [i1]at h;cases h⟩ (fun k _=>Iff.rfl)⟩
 ·
  have i1:inF f g (g m) (m+1)=inF f g (g m) m:=by rw [NL,e,bH,dW (show(3:Int)≠1 by decide),dW (show(3:Int)≠2 by decide)];rfl
  simp only [e,if_neg (show¬(3:Int)=4 by decide),if_neg (show¬(3:Int)=1 by decide),if_neg (show¬(3:Int)=2 by decide),if_true,dW (show(3:Int)≠1 by decide),dW (show(3:Int)≠2 by decide),bH,cond_false,Bool.false_or,cond_true]
  refine⟨?_,build u hsrt (fun k h=>.inr h) (by rw [i1];exact hmem) (fun k _=>Iff.rfl)⟩
  by_cases q:g m∈u
  ·rw [decide_eq_true (hhd.2 q),hmem.1 q]
  ·rw [decide_eq_false (fun h=>q (hhd.1 h))]
   cases z:inF f g (g m) m with
   | false=>rfl
   | true=>exact absurd (hmem.2 z) q
theorem yG{p:Int→Bool} : ∀ {u:List Int},(∀x∈u,p x=true)→u.takeWhile p=u∧u.dropWhile p=[]
 | [],_=>⟨rfl,rfl⟩
 | x::u,h=>by
   have hx:=h x (List.mem_cons_self ..)
   obtain⟨h1,h2⟩:=yG (u:=u) (fun y hy=>h y (List.mem_cons_of_mem _ hy))
   rw [List.takeWhile_cons,List.dropWhile_cons,hx]
   exact⟨by simp only [if_true,h1],by simp only [if_true,h2]⟩
theorem YB.step{sh:Int}{LL:List (List Nd)}{f g:Nat→Int}{m:Nat}(hs:sh=3∨sh=4)(h4:LL.length=4)(r:YB sh LL f g m)(ho:rF sh f g m)(hr:bX sh (f m) (g m)=true):
 (GM sh (f m) (g m) (uk (dP LL sh (g m)))).1=KF sh f g m (f m) (g m)∧ ∀L',uk L'=(GM sh (f m) (g m) (uk (dP LL sh (g m)))).2→YB sh (LL.set (cJ sh (g m)).toNat L') f g (m+1):=by
 obtain⟨hk,hy⟩:=oK hr hs
 have hb:vU f m:=fun j hj=>(oK (ho j hj) hs).1
 have hh:(cJ sh (g m)).toNat =0:=by
  unfold cJ
  rw [dW (show sh≠2 by omega)];rfl
 have hl:dP LL sh (g m)=LL.getD 0 []:=by unfold dP;rw [hh]
 rw [hl,hh,r.eq]
 have hrng:=r.rng
 have h0:0<LL.length:=by omega
 have build: ∀L',uk L'=bB sh f g (m+1)→(∀k∈bB sh f g (m+1),0≤k∧k≤999)→YB sh (LL.set 0 L') f g (m+1):=by
  intro L' h1 h2
  refine⟨?_,h2,?_⟩
  ·rw [gD',List.getElem?_set_self h0];exact h1
  ·intro h M hM hne
   rcases oR hM with⟨rfl,rfl⟩ | ⟨hM,_⟩
   ·exact absurd rfl hne
   ·exact r.els h M hM hne
 have hall: ∀k∈bB sh f g m,cZ 1024 k=true:=fun k hk=>decide_eq_true (by have:=hrng k hk;omega)
 have hnone: ∀k∈bB sh f g m,cZ (-1) k=false:=fun k hk=>decide_eq_false (by have:=hrng k hk;omega)
 obtain⟨t1,t2⟩:=yG hall
 have t3:(bB sh f g m).takeWhile (cZ (-1))=[]∧(bB sh f g m).dropWhile (cZ (-1))=bB sh f g m:=by
  cases hq:bB sh f g m with
  | nil=>exact⟨rfl,rfl⟩
  | cons x v=>
    have:=hnone x (by rw [hq];exact List.mem_cons_self ..)
    rw [List.takeWhile_cons,List.dropWhile_cons,this];exact⟨rfl,rfl⟩
 unfold GM KF
 have n14: ∀(kd:Int),kd=4∨kd=5→ieq kd 1=false∧ieq kd 2=false∧ieq kd 3=false:=fun kd h=>⟨dW (by omega),dW (by omega),dW (by omega)⟩
 obtain⟨n1,n2,n3⟩:=n14 _ hk
 rw [n1,n2,n3]
 simp only [Bool.false_or,cond_false]
 rcases hk with e | e
 ·
  simp only [e,if_true,bH,cond_true]
  rcases hs with rfl | rfl
  ·have hkey:dG 3 4 (g m)=1024:=rfl
   rw [hkey,t1,t2]
   refine⟨by trivial,fun L' h=>?_⟩
   have hi:bB 3 f g (m+1)=bB 3 f g m++ [g m]:=CG hb e
   refine build L' (by rw [h,hi]) (fun k hk=>?_)
   rw [hi]at hk
   rcases List.mem_append.1 hk with z | z
   ·exact hrng k z
   ·rw [List.mem_singleton.1 z];exact hy
  ·have hkey:dG 4 4 (g m)= -1:=rfl
   rw [hkey,t3.1,t3.2]
   refine⟨by trivial,fun L' h=>?_⟩
   have hi:bB 4 f g (m+1)=g m::bB 4 f g m:=CN e
   refine build L' (by rw [h,hi];rfl) (fun k hk=>?_)
   rw [hi]at hk
   rcases List.mem_cons.1 hk with z | z
   ·rw [z];exact hy
   ·exact hrng k z
 ·
  have hkey:dG sh 5 (g m)= -1:=by rcases hs with rfl | rfl<;>rfl
  have hi:bB sh f g (m+1)=(bB sh f g m).tail :=by
   rcases hs with rfl | rfl
   ·exact x9 hb e
   ·exact yI hb e
  simp only [e,if_neg (show¬(5:Int)=4 by decide),if_neg (show¬(5:Int)=1 by decide),if_neg (show¬(5:Int)=2 by decide),if_neg (show¬(5:Int)=3 by decide),dW (show(5:Int)≠4 by decide),cond_false,hkey,t3.1,t3.2]
  have hr2: ∀k∈bB sh f g (m+1),0≤k∧k≤999:=fun k hk=>by rw [hi]at hk;exact hrng k (List.mem_of_mem_tail hk)
  cases hq:bB sh f g m with
  | nil=>
    refine⟨rfl,fun L' h=>build L' ?_ hr2⟩
    rw [hi,hq];exact h
  | cons x v=>
    refine⟨rfl,fun L' h=>build L' ?_ hr2⟩
    rw [hi,hq];exact h
theorem Rp.step{sh:Int}{LL:List (List Nd)}{f g:Nat→Int}{m:Nat}(h4:LL.length=4)(r:Rp sh LL f g m)(ho:rF sh f g m)(hr:bX sh (f m) (g m)=true):
 (GM sh (f m) (g m) (uk (dP LL sh (g m)))).1=KF sh f g m (f m) (g m)∧ ∀L',uk L'=(GM sh (f m) (g m) (uk (dP LL sh (g m)))).2→Rp sh (LL.set (cJ sh (g m)).toNat L') f g (m+1):=by
 rcases r with⟨hs,r⟩ | ⟨hs,r⟩
 ·obtain⟨h1,h2⟩:=r.step hs h4 hr
  exact⟨h1,fun L' h=>.inl ⟨hs,h2 L' h⟩⟩
 ·obtain⟨h1,h2⟩:=r.step hs h4 ho hr
  exact⟨h1,fun L' h=>.inr ⟨hs,h2 L' h⟩⟩
theorem QI{t n:Int}{a:ENS×STS×MS}{d:Bool}{b:ENS×STS×MS}(h:C9 t n a=(d,b)):(enF t n a.1 a.2.1 a.2.2).d =d∧((enF t n a.1 a.2.1 a.2.2).e,(enF t n a.1 a.2.1 a.2.2).st,(enF t n a.1 a.2.1 a.2.2).s)=b:=by
 unfold C9 at h
 rw [pI']at h
 exact h
theorem Act1.bnd{t n:Int}{s s':MS}(h:Act1 s s')(hb:tU t n s)(hc:s.c+1≤900000):tU t n s':=⟨hb.ht,hb.hn,by have:=hb.hc;rw [h.c];omega,h.w hb.hw⟩
theorem QL.stw{t n:Int}{xs:List Int}{LL:List (List Nd)}{S:List STS}(q:QL t n xs LL S){i:Nat}{st:STS}(hS:S[i]? =some st):stW 500 st:=by
 obtain⟨h1,h2,_⟩:=uD q hS
 have hm:=q.me i st hS
 have hn:=q.hn
 have ht:=q.ht
 refine⟨by omega,fun r hr=>by have:=h2 r (KW hr);omega,?_⟩
 have:=j9 (by omega) (PM h1) (fun r hr=>h2 r (KW hr))
 omega
theorem QL.bnd{t n:Int}{LL:List (List Nd)}{S:List STS}{s:MS}(q:QL t n s.xs LL S)(hc:0≤s.c∧s.c≤900000):tU t n s:=⟨q.ht,⟨q.hn.1,by have:=q.hn;omega⟩,hc,q.okw⟩
theorem CY{α:Type} : ∀ {l:List α} {i:Nat} {x:α},l[i]? =some x→l.set i x=l
 | [],i,x,h=>rfl
 | y::l,0,x,h=>by simp at h;rw [h];rfl
 | y::l,i+1,x,h=>by
   rw [List.set_cons_succ,CY (l:=l) (by simpa using h)]
end Go.Sh
