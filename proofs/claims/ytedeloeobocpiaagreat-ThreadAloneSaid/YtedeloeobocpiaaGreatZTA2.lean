import Derived.Test.YtedeloeobocpiaaGreatZSQ5toSR7
set_option linter.all false
set_option maxHeartbeats 8000000
namespace Go.Sh
open Go Go.Proofs
variable [Con]
theorem mM{b:Bool}{P Q:Prop}(h:b=true)(p:P):(bif b then P else Q):=by rw [h];exact p
theorem bG{b:Bool}{P Q:Prop}(h:b=false)(q:Q):(bif b then P else Q):=by rw [h];exact q
theorem aD7{sh:Int}(h:0≤sh∧sh≤255):kT sh=1∨kT sh=2∨kT sh=3∨kT sh=4:=by
 unfold kT
 have e:IntKind.wrap .i64 sh=sh:=cJ (by omega)
 have e2:Int.tmod sh 4=sh%4:=Int.tmod_eq_emod_of_nonneg h.1
 rw [e,e2]
 have e3:IntKind.wrap .i64 (1+sh%4)=1+sh%4:=cJ (by omega)
 rw [e3];omega
theorem WV{ws:List Int}(h: ∀x∈ws,0≤x∧x≤255)(i:Nat):0≤List.getD ws i 0∧List.getD ws i 0≤255:=by
 rw [gD']
 cases e:ws[i]? with
 | none=>exact⟨by decide,by decide⟩
 | some x=>exact h x (List.mem_of_getElem? e)
theorem YT{x:Int}(h:0≤x∧x≤255):0≤Int.tmod (W x) 3∧Int.tmod (W x) 3<3:=by
 have e:W x=x:=cJ (by omega)
 rw [e,Int.tmod_eq_emod_of_nonneg h.1];omega
theorem KK{t n:Int} : ∀(N:Nat) (x:DOS) (st:STS) (s:MS),v9 t n N x st s→mQ t n N x st s∧dL t n N x st s=((nD t n N x st s).1,true,(nD t n N x st s).2)
 | 0,x,st,s,h=>h.elim
 | f+1,x,st,s,h=>by
   have h:dqOk t n x st s∧((dqF t n x st s).d =false→v9 t n f (dqF t n x st s).x (dqF t n x st s).st (dqF t n x st s).s):=h
   rw [yS,JA,AQ]
   cases hd:(dqF t n x st s).d with
   | true=>exact⟨⟨h.1,fun e=>by cases e⟩,rfl⟩
   | false=>
     obtain⟨h1,h2⟩:=KK f _ _ _ (h.2 hd)
     refine⟨⟨h.1,fun _=>h1⟩,?_⟩
     rw [h2];rfl
structure RZ (sh:Int) (f g:Nat→Int) (x:TAX):Prop where
 c:0≤x.2.2.2.2.c∧x.2.2.2.2.c≤10+1500*(x.1:Int)
 inv: ∃LL,pN 3 70 (kT sh) f g x.1 LL [x.2.1,x.2.2.1,x.2.2.2.1] x.2.2.2.2
 ct:aB x.2.2.2.2.xs 160=0
structure aDc (sh:Int) (f g:Nat→Int) (S:List STS) (i j:Nat) (st:STS) (s:MS) (w:Nat) (z:DOS) (st':STS) (s':MS):Prop where
 okN:uF 3 70 (kT sh) (f j) (g j) (Int.tmod (j:Int) 3) st
 ok:yR 3 70 3000 (tN sh f g j st).1 (tN sh f g j st).2 s
 eq:tR sh f g j st s=(w,true,z,st',s')
 sl:z.slow=false
 cd:z.code=0
 ob:z.okk=resB (kT sh) f g j (f j) (g j)
 ov:z.val=tQ (kT sh) f g j (f j) (g j)
 inv: ∃LL,pN 3 70 (kT sh) f g (j+1) LL (S.set i st') s'
 c:0≤s'.c∧s'.c≤10+1500*((j+1:Nat):Int)
 ct:aB s'.xs 160=0
theorem BX{sh:Int}{f g:Nat→Int}{S:List STS}{i j:Nat}{st:STS}{s:MS}(inv: ∃LL,pN 3 70 (kT sh) f g j LL S s)(hS:S[i]? =some st)(ho:pV (kT sh) f g (j+1))(hj:j≤20)(hc:0≤s.c∧s.c≤10+1500*(j:Int))(ct:aB s.xs 160=0):
 ∃w z st' s',aDc sh f g S i j st s w z st' s':=by
 obtain⟨LL,h⟩:=inv
 obtain⟨LL',st',s',w,h',d⟩:=h.step hS ho (by omega)
 have q:=h.q
 have hl:0≤Int.tmod (j:Int) 3:=by rw [Int.tmod_eq_emod_of_nonneg (by omega)];omega
 obtain⟨z,⟨j',e,hj',g1,g2⟩,z1,z2,z3,z4⟩:=d.run _ hl
 have hlim:=d.lim
 have hw:dqW 3 70 500 st (dqNF 3 70 (kT sh) (f j) (g j) (Int.tmod (j:Int) 3) st).1:=(aF1 (P6 (t:=3) (n:=70) (b:=500) (kT sh) (f j) (g j) (Int.tmod (j:Int) 3) st)).1
 obtain⟨r1,r2⟩:=yQ j' ((dqNF 3 70 (kT sh) (f j) (g j) (Int.tmod (j:Int) 3) st).1,st,s) e 500 3000 g1 g2 (by omega) ⟨q.ht,⟨q.hn.1,by omega⟩,⟨hc.1,by show s.c≤900000;omega⟩,q.okw⟩ (by show s.c+(j':Int)+1≤900000;omega) hw (q.stw hS) (by omega)
 obtain⟨r3,r4⟩:=KK 3000 _ _ _ r1
 have hme:=q.me i st hS
 have hcc:=d.hc
 have hup:=d.up 160 (by omega) (by omega) (by omega)
 refine⟨w,z,st',s',{okN:=aF3 (P6 (t:=3) (n:=70) (b:=500) (kT sh) (f j) (g j) (Int.tmod (j:Int) 3) st),ok:=r3,eq:=?_,sl:=z4,cd:=z1,ob:=z2,ov:=z3,inv:=⟨LL',h'⟩,c:=by push_cast;omega,ct:=hup.trans ct}⟩
 have e:tR sh f g j st s=dL 3 70 3000 (dqNF 3 70 (kT sh) (f j) (g j) (Int.tmod (j:Int) 3) st).1 st s:=rfl
 rw [e]
 have r4:dL 3 70 3000 (dqNF 3 70 (kT sh) (f j) (g j) (Int.tmod (j:Int) 3) st).1 st s=_:=r4
 have r2:nD 3 70 3000 (dqNF 3 70 (kT sh) (f j) (g j) (Int.tmod (j:Int) 3) st).1 st s=(j'+1,z,st',s'):=r2
 rw [r4,r2,hj']
theorem xA{t n:Int}{xs:List Int}(hz:SZ t n xs)(hp:PZ t n xs):OI xs t n:=by
 refine⟨fun nd h1 h2=>?_,fun u h0 h1=>?_⟩
 ·cases hb:gdT xs n nd (2*t).toNat with
  | false=>rfl
  | true=>
    exfalso
    unfold gdT at hb
    rw [List.any_eq_true]at hb
    obtain⟨i,hi,e⟩:=hb
    have hi:=List.mem_range.1 hi
    have e0:=hz (i:Int) (by omega) (by omega)
    rw [show 2*n+5+2*0+(i:Int)=2*n+5+(i:Int) by omega,e0,bI]at e
    simp at e;omega
 ·unfold pndB
  have e:=hp u h0 h1
  rw [show 2*n+5+2*t+3*u+2=qX t n u from rfl,e]
  simp
theorem aDo(sh:Int):aB (eB sh 3 70 []).xs 160=0:=by
 have f:=n6 (sh:=sh) (t:=3) (n:=70) (xs:=[]) (by decide) (by decide) (by decide) (fun k hk=>by cases hk) (by omega) (n6 (by decide) (by decide) (by decide) (fun k hk=>by cases hk) (by omega) (n6 (by decide) (by decide) (by decide) (fun k hk=>by cases hk) (by omega) (n6 (by decide) (by decide) (by decide) (fun k hk=>by cases hk) (by omega) (QI (sh:=sh) (by decide) (by decide) []))))
 have f:FilH sh 3 70 [] 4 (eB sh 3 70 []):=f
 refine f.zero 160 fun h hh=>⟨by omega,fun b hb=>?_⟩
 have:=sM sh h [] 0 b hb
 simp at this;omega
theorem aCT(sh:Int)(m:Nat)(f g:Nat→Int)(ws:List Int)(K:AVal→aD Ob→Prop)(hsh:0≤sh∧sh≤255)(hws: ∀x∈ws,0≤x∧x≤255)(hK:K (.bool true) []):KV sh m f g ws (RZ sh f g) K:=by
 unfold KV
 refine⟨trivial,by decide,aL (fun _=>hK) (fun e1=>⟨⟨?_,⟨rfl⟩⟩,aL (fun _=>hK) (fun hr=>aL (fun _=>hK) (fun e2=>?_))⟩)⟩
 ·rw [bJ,dF']at e1;omega
 rw [bJ,dF']at e1
 have hs:=aD7 hsh
 have hr:lK (kT sh) m f g=true:=by simpa using hr
 have ho:pV (kT sh) f g m:=qL.1 hr
 have hwl:0<ws.length:=by
  rw [bI]at e2;simp at e2
  exact List.length_pos_iff.2 e2
 have i0:=aD5 (t:=3) (n:=70) (f:=f) (g:=g) hs (by decide) (by decide) [⟨0,0,[]⟩,⟨1,0,[]⟩,⟨2,0,[]⟩] (by
  intro st hst
  simp only [List.mem_cons,List.not_mem_nil,or_false]at hst
  rcases hst with rfl | rfl | rfl<;>exact⟨rfl,rfl⟩) (by
  intro i st h
  match i,h with
  | 0,h=>cases h;exact⟨rfl,by decide⟩
  | 1,h=>cases h;exact⟨rfl,by decide⟩
  | 2,h=>cases h;exact⟨rfl,by decide⟩
  | k+3,h=>simp at h)
 have hc0:=i0.2
 refine⟨⟨by decide,by decide,by decide,fun k hk=>by cases hk⟩,⟨trivial,trivial⟩,⟨trivial,trivial⟩,⟨trivial,trivial⟩,aK (H:=z8 sh m f g ws (RZ sh f g)) (0,⟨0,0,[]⟩,⟨1,0,[]⟩,⟨2,0,[]⟩,eB (kT sh) 3 70 []) rfl ⟨Nat.zero_le _,⟨⟨hc0.1,by show(eB (kT sh) 3 70 []).c ≤10+1500*((0:Nat):Int);omega⟩,⟨_,i0.1⟩,aDo _⟩⟩,?_⟩
 rintro⟨j,a,b,c,s⟩ ⟨hjm,hc,inv,ct⟩
 dsimp only at hjm hc inv ct⊢
 refine nE (fun hi=>?_) (fun hi=>?_)
 ·have hj:j<m:=by omega
  have e4:W ((j:Int)+1)=((j+1:Nat):Int):=(cJ (by omega)).trans rfl
  have ho1:pV (kT sh) f g (j+1):=fun i hi=>ho i (by omega)
  have hwm:0≤Int.tmod (j:Int) (ws.length:Int)∧Int.tmod (j:Int) (ws.length:Int)<(ws.length:Int):=by
   rw [Int.tmod_eq_emod_of_nonneg (by omega)]
   exact⟨Int.emod_nonneg _ (by omega),Int.emod_lt_of_pos _ (by omega)⟩
  have hwg:=YT (WV hws (Int.toNat (Int.tmod (j:Int) (ws.length:Int))))
  have hwi:wI ws j=Int.toNat (Int.tmod (W (List.getD ws (Int.toNat (Int.tmod (j:Int) (ws.length:Int))) 0)) 3):=by
   unfold wI
   rw [Nat.zero_add,Nat.mul_one]
  have hw3:wI ws j<3:=by rw [hwi];omega
  obtain⟨z1,z2⟩:=EJ (kT sh) f g (j+1)
  obtain⟨jl,jb⟩:=A9 (f:=f) (g:=g) (m:=j+1) hs ho1
  have w1:W (0+1)=1:=by decide
  have w2:W (1+1)=2:=by decide
  have w3:W (2+1)=3:=by decide
  rw [w1,w2,w3,e4]
  rw [show Int.toNat ((j:Nat):Int)=j from rfl,show Int.toNat ((j+1:Nat):Int)=j+1 from rfl]
  refine⟨⟨by omega,hi⟩,by omega,hwm,by decide,hwg,aL (fun q=>?_) (fun q0=>aL (fun q=>?_) (fun q1=>aL (fun q=>?_) (fun q2=>?_)))⟩
  ·obtain⟨w,z,st',s',F⟩:=BX (i:=0) (st:=a) inv rfl ho1 (by omega) hc ct
   have hinv: ∃LL,pN 3 70 (kT sh) f g (j+1) LL [st',b,c] s':=F.inv
   obtain⟨LL',inv'⟩:=hinv
   have qs:=inv'.q
   have hRa:(st').R.length ≤1000000:=by have:=(qs.stw (i:=0) rfl).ln;omega
   have hRb:(b).R.length ≤1000000:=by have:=(qs.stw (i:=1) rfl).ln;omega
   have hRc:(c).R.length ≤1000000:=by have:=(qs.stw (i:=2) rfl).ln;omega
   have eM:tM sh f g j a s=s':=by unfold tM;rw [F.eq]
   have eS:tS sh f g j a s=st':=by unfold tS;rw [F.eq]
   have it:=inv'.items
   have ln:=inv'.lens
   rw [F.eq,eM,eS]
   refine⟨by decide,⟨F.okN,trivial⟩,⟨⟨rfl,rfl,rfl⟩,⟨by decide,by decide⟩,F.ok⟩,mM rfl (bG F.sl ⟨⟨by omega,by omega⟩,⟨⟨by omega,⟨rfl⟩⟩,trivial⟩,bG ?_ ⟨⟨⟨⟨rfl,rfl,rfl,rfl,rfl,rfl,rfl⟩,⟨by decide,by decide⟩,⟨by decide,by decide⟩,hRa,hRb,hRc,xA inv'.sz inv'.pz⟩,trivial⟩,bG ?_ ⟨⟨⟨rfl,by decide,by decide⟩,trivial⟩,⟨by omega,by omega⟩,⟨⟨by omega,⟨rfl⟩⟩,trivial⟩,⟨⟨⟨rfl,z2⟩,by rw [it];omega⟩,trivial⟩,bG ?_ ⟨⟨⟨rfl,⟨by decide,by decide⟩,by decide,by decide⟩,trivial⟩,⟨⟨rfl,⟨by decide,by decide⟩,by decide,by decide⟩,trivial⟩,bG ?_ ⟨⟨⟨rfl,⟨by decide,by decide⟩,by decide,by decide⟩,trivial⟩,⟨⟨rfl,⟨by decide,by decide⟩,by decide,by decide⟩,trivial⟩,bG ?_ ⟨⟨⟨rfl,⟨by decide,by decide⟩,by decide,by decide⟩,trivial⟩,⟨⟨rfl,⟨by decide,by decide⟩,by decide,by decide⟩,trivial⟩,bG ?_ ⟨⟨⟨rfl,⟨by decide,by decide⟩,by decide,by decide⟩,trivial⟩,⟨⟨rfl,⟨by decide,by decide⟩,by decide,by decide⟩,trivial⟩,bG ?_ (aK (H:=z8 sh m f g ws (RZ sh f g)) (j+1,st',b,c,s') rfl ⟨⟨by show j+1≤m;omega,F.c,⟨LL',inv'⟩,F.ct⟩,by show m - (j+1)<m - j;omega⟩)⟩⟩⟩⟩⟩⟩⟩)⟩
   ·show(!bif ieq z.code 0 then bif bif z.okk then resB (kT sh) f g j (f j) (g j)else !resB (kT sh) f g j (f j) (g j)then bif ieq z.val (tQ (kT sh) f g j (f j) (g j))then true else false else false else false)=false
    rw [F.cd,F.ob,F.ov,bE (tQ (kT sh) f g j (f j) (g j))]
    cases resB (kT sh) f g j (f j) (g j)<;>rfl
   ·rw [inv'.held];rfl
   ·rw [qN.2 (it.trans z1.symm)];rfl
   ·rw [show ndF s'.xs 70 0=_ from rfl]
    have e:=ln 0 (by decide)
    rw [show((ndF s'.xs 70 0).length :Int)=((keyF s'.xs 70 0).length :Int)from congrArg _ e,bE];rfl
   ·have e:=ln 1 (by decide)
    rw [show((ndF s'.xs 70 1).length :Int)=((keyF s'.xs 70 1).length :Int)from congrArg _ e,bE];rfl
   ·have e:=ln 2 (by decide)
    rw [show((ndF s'.xs 70 2).length :Int)=((keyF s'.xs 70 2).length :Int)from congrArg _ e,bE];rfl
   ·have e:=ln 3 (by decide)
    rw [show((ndF s'.xs 70 3).length :Int)=((keyF s'.xs 70 3).length :Int)from congrArg _ e,bE];rfl
  ·obtain⟨w,z,st',s',F⟩:=BX (i:=1) (st:=b) inv rfl ho1 (by omega) hc ct
   have hinv: ∃LL,pN 3 70 (kT sh) f g (j+1) LL [a,st',c] s':=F.inv
   obtain⟨LL',inv'⟩:=hinv
   have qs:=inv'.q
   have hRa:(a).R.length ≤1000000:=by have:=(qs.stw (i:=0) rfl).ln;omega
   have hRb:(st').R.length ≤1000000:=by have:=(qs.stw (i:=1) rfl).ln;omega
   have hRc:(c).R.length ≤1000000:=by have:=(qs.stw (i:=2) rfl).ln;omega
   have eM:tM sh f g j b s=s':=by unfold tM;rw [F.eq]
   have eS:tS sh f g j b s=st':=by unfold tS;rw [F.eq]
   have it:=inv'.items
   have ln:=inv'.lens
   rw [F.eq,eM,eS]
   refine⟨by decide,⟨F.okN,trivial⟩,⟨⟨rfl,rfl,rfl⟩,⟨by decide,by decide⟩,F.ok⟩,mM rfl (bG F.sl ⟨⟨by omega,by omega⟩,⟨⟨by omega,⟨rfl⟩⟩,trivial⟩,bG ?_ ⟨⟨⟨⟨rfl,rfl,rfl,rfl,rfl,rfl,rfl⟩,⟨by decide,by decide⟩,⟨by decide,by decide⟩,hRa,hRb,hRc,xA inv'.sz inv'.pz⟩,trivial⟩,bG ?_ ⟨⟨⟨rfl,by decide,by decide⟩,trivial⟩,⟨by omega,by omega⟩,⟨⟨by omega,⟨rfl⟩⟩,trivial⟩,⟨⟨⟨rfl,z2⟩,by rw [it];omega⟩,trivial⟩,bG ?_ ⟨⟨⟨rfl,⟨by decide,by decide⟩,by decide,by decide⟩,trivial⟩,⟨⟨rfl,⟨by decide,by decide⟩,by decide,by decide⟩,trivial⟩,bG ?_ ⟨⟨⟨rfl,⟨by decide,by decide⟩,by decide,by decide⟩,trivial⟩,⟨⟨rfl,⟨by decide,by decide⟩,by decide,by decide⟩,trivial⟩,bG ?_ ⟨⟨⟨rfl,⟨by decide,by decide⟩,by decide,by decide⟩,trivial⟩,⟨⟨rfl,⟨by decide,by decide⟩,by decide,by decide⟩,trivial⟩,bG ?_ ⟨⟨⟨rfl,⟨by decide,by decide⟩,by decide,by decide⟩,trivial⟩,⟨⟨rfl,⟨by decide,by decide⟩,by decide,by decide⟩,trivial⟩,bG ?_ (aK (H:=z8 sh m f g ws (RZ sh f g)) (j+1,a,st',c,s') rfl ⟨⟨by show j+1≤m;omega,F.c,⟨LL',inv'⟩,F.ct⟩,by show m - (j+1)<m - j;omega⟩)⟩⟩⟩⟩⟩⟩⟩)⟩
   ·show(!bif ieq z.code 0 then bif bif z.okk then resB (kT sh) f g j (f j) (g j)else !resB (kT sh) f g j (f j) (g j)then bif ieq z.val (tQ (kT sh) f g j (f j) (g j))then true else false else false else false)=false
    rw [F.cd,F.ob,F.ov,bE (tQ (kT sh) f g j (f j) (g j))]
    cases resB (kT sh) f g j (f j) (g j)<;>rfl
   ·rw [inv'.held];rfl
   ·rw [qN.2 (it.trans z1.symm)];rfl
   ·rw [show ndF s'.xs 70 0=_ from rfl]
    have e:=ln 0 (by decide)
    rw [show((ndF s'.xs 70 0).length :Int)=((keyF s'.xs 70 0).length :Int)from congrArg _ e,bE];rfl
   ·have e:=ln 1 (by decide)
    rw [show((ndF s'.xs 70 1).length :Int)=((keyF s'.xs 70 1).length :Int)from congrArg _ e,bE];rfl
   ·have e:=ln 2 (by decide)
    rw [show((ndF s'.xs 70 2).length :Int)=((keyF s'.xs 70 2).length :Int)from congrArg _ e,bE];rfl
   ·have e:=ln 3 (by decide)
    rw [show((ndF s'.xs 70 3).length :Int)=((keyF s'.xs 70 3).length :Int)from congrArg _ e,bE];rfl
  ·obtain⟨w,z,st',s',F⟩:=BX (i:=2) (st:=c) inv rfl ho1 (by omega) hc ct
   have hinv: ∃LL,pN 3 70 (kT sh) f g (j+1) LL [a,b,st'] s':=F.inv
   obtain⟨LL',inv'⟩:=hinv
   have qs:=inv'.q
   have hRa:(a).R.length ≤1000000:=by have:=(qs.stw (i:=0) rfl).ln;omega
   have hRb:(b).R.length ≤1000000:=by have:=(qs.stw (i:=1) rfl).ln;omega
   have hRc:(st').R.length ≤1000000:=by have:=(qs.stw (i:=2) rfl).ln;omega
   have eM:tM sh f g j c s=s':=by unfold tM;rw [F.eq]
   have eS:tS sh f g j c s=st':=by unfold tS;rw [F.eq]
   have it:=inv'.items
   have ln:=inv'.lens
   rw [F.eq,eM,eS]
   refine⟨by decide,⟨F.okN,trivial⟩,⟨⟨rfl,rfl,rfl⟩,⟨by decide,by decide⟩,F.ok⟩,mM rfl (bG F.sl ⟨⟨by omega,by omega⟩,⟨⟨by omega,⟨rfl⟩⟩,trivial⟩,bG ?_ ⟨⟨⟨⟨rfl,rfl,rfl,rfl,rfl,rfl,rfl⟩,⟨by decide,by decide⟩,⟨by decide,by decide⟩,hRa,hRb,hRc,xA inv'.sz inv'.pz⟩,trivial⟩,bG ?_ ⟨⟨⟨rfl,by decide,by decide⟩,trivial⟩,⟨by omega,by omega⟩,⟨⟨by omega,⟨rfl⟩⟩,trivial⟩,⟨⟨⟨rfl,z2⟩,by rw [it];omega⟩,trivial⟩,bG ?_ ⟨⟨⟨rfl,⟨by decide,by decide⟩,by decide,by decide⟩,trivial⟩,⟨⟨rfl,⟨by decide,by decide⟩,by decide,by decide⟩,trivial⟩,bG ?_ ⟨⟨⟨rfl,⟨by decide,by decide⟩,by decide,by decide⟩,trivial⟩,⟨⟨rfl,⟨by decide,by decide⟩,by decide,by decide⟩,trivial⟩,bG ?_ ⟨⟨⟨rfl,⟨by decide,by decide⟩,by decide,by decide⟩,trivial⟩,⟨⟨rfl,⟨by decide,by decide⟩,by decide,by decide⟩,trivial⟩,bG ?_ ⟨⟨⟨rfl,⟨by decide,by decide⟩,by decide,by decide⟩,trivial⟩,⟨⟨rfl,⟨by decide,by decide⟩,by decide,by decide⟩,trivial⟩,bG ?_ (aK (H:=z8 sh m f g ws (RZ sh f g)) (j+1,a,b,st',s') rfl ⟨⟨by show j+1≤m;omega,F.c,⟨LL',inv'⟩,F.ct⟩,by show m - (j+1)<m - j;omega⟩)⟩⟩⟩⟩⟩⟩⟩)⟩
   ·show(!bif ieq z.code 0 then bif bif z.okk then resB (kT sh) f g j (f j) (g j)else !resB (kT sh) f g j (f j) (g j)then bif ieq z.val (tQ (kT sh) f g j (f j) (g j))then true else false else false else false)=false
    rw [F.cd,F.ob,F.ov,bE (tQ (kT sh) f g j (f j) (g j))]
    cases resB (kT sh) f g j (f j) (g j)<;>rfl
   ·rw [inv'.held];rfl
   ·rw [qN.2 (it.trans z1.symm)];rfl
   ·rw [show ndF s'.xs 70 0=_ from rfl]
    have e:=ln 0 (by decide)
    rw [show((ndF s'.xs 70 0).length :Int)=((keyF s'.xs 70 0).length :Int)from congrArg _ e,bE];rfl
   ·have e:=ln 1 (by decide)
    rw [show((ndF s'.xs 70 1).length :Int)=((keyF s'.xs 70 1).length :Int)from congrArg _ e,bE];rfl
   ·have e:=ln 2 (by decide)
    rw [show((ndF s'.xs 70 2).length :Int)=((keyF s'.xs 70 2).length :Int)from congrArg _ e,bE];rfl
   ·have e:=ln 3 (by decide)
    rw [show((ndF s'.xs 70 3).length :Int)=((keyF s'.xs 70 3).length :Int)from congrArg _ e,bE];rfl
  ·exfalso
   have b0: ¬wI ws j=0:=fun e=>by rw [e]at q0;cases q0
   have b1: ¬wI ws j=1:=fun e=>by rw [e]at q1;cases q1
   have b2: ¬wI ws j=2:=fun e=>by rw [e]at q2;cases q2
   omega
 ·refine⟨⟨⟨by decide,by decide⟩,by decide,by decide⟩,⟨rfl,trivial⟩,?_⟩
  have e:aB s.xs (2*70+5+2*3+3*3)=0:=ct
  show K (.bool (ieq (aB s.xs (2*70+5+2*3+3*3)) 0)) []
  rw [e];exact hK
end Go.Sh
